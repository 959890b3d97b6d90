/- The walk of the law WordBack. No statement of the seat is proved here. -/
import Derived.Test.YtcbmceaijinpbaaDoorGaps
set_option linter.unusedVariables false
namespace Go.Aq.Wd
theorem lineQ_snoc (g : Nat) (l : List (List Nat)) (x : List Nat) : lineQ g (l ++ [x]) = lineQ g l ++ (List.replicate g 32 ++ quoteR x) := by simp [lineQ]
theorem lineQ_ge (g : Nat) (hg : 1 ≤ g) (l : List (List Nat)) : l.length ≤ (lineQ g l).length := by
  induction l with
  | nil => simp
  | cons a t ih => simp only [lineQ, List.flatMap_cons, List.length_append, List.length_cons, List.length_replicate] at ih ⊢; omega
end Go.Aq.Wd
namespace Go.Proofs.YtcbmceaijinpbaaDoor
open Go.RowKit Go.Aq Go.Aq.Wd
set_option maxRecDepth 100000 in
theorem wback_big (v : Value) (l : List (List UInt8)) (g : Int) {w : World} (hT : Tabs w) (hv : Sees w 1 v l.length (Ss l)) (hl : l.length ≤ 9223372036854775807) (hg : -9223372036854775808 ≤ g ∧ g ≤ 9223372036854775807) (h : ¬ (l.length ≤ 60 ∧ 1 ≤ g ∧ g ≤ 20)) :
    Calls Tryd.prog 6 #[v, .int .i64 g] w fun e w' => e = .returned (.bool true) ∧ Chg [] w w' := by
  obtain ⟨ao, cap, rfl, hcap, -⟩ := hv.shape
  have hh : (decide (60 < (l.length : Int)) = true) ∨ (decide (60 < (l.length : Int)) = false ∧ decide (g < 1) = true) ∨ (decide (60 < (l.length : Int)) = false ∧ decide (g < 1) = false ∧ decide (20 < g) = true) := by
    simp; omega
  have e5 : decide (60 < (l.length : Int)) = decide (60 < l.length) := by simp; omega
  clear h hg hcap
  rcases hh with t1 | ⟨t1, t2⟩ | ⟨t1, t2, t3⟩
  all_goals
    have t1' := t1
    rw [e5] at t1'
    clear e5
    go_enter Tryd.func6, Tryd.ntmps6
    go_wp2_with fail
    refine (first_yes w hT).mono ?_
    rintro e w1 ⟨rfl, c1⟩
    go_wp2_with fail
    refine (first_yes w1 (hT.chg c1)).mono ?_
    rintro e w2 ⟨rfl, c2⟩
    go_wp2_with fail
    go_ret
    exact ⟨rfl, c1.nil c2⟩
set_option maxRecDepth 100000 in
set_option maxHeartbeats 4000000 in
theorem wback_main (v : Value) (l : List (List UInt8)) (g : Nat) {w : World} (hT : Tabs w) (hv : Sees w 1 v l.length (Ss l)) (hl : l.length ≤ 60) (hxs : ∀ x ∈ l, x.length ≤ 1048576) (hg1 : 1 ≤ g) (hg2 : g ≤ 20) :
    Calls Tryd.prog 6 #[v, .int .i64 g] w fun e w' => e = .returned (.bool true) ∧ Chg [] w w' := by
  obtain ⟨ao, cap, rfl, hcap, -⟩ := hv.shape
  have t1 : decide ((g : Int) < 1) = false := by simp; omega
  have t1' : decide (g < 1) = false := by simp; omega
  have t2 : decide (20 < (g : Int)) = false := by simp; omega
  have t2' : decide (20 < g) = false := by simp; omega
  have t3 : decide (60 < (l.length : Int)) = false := by simp; omega
  have t3' : decide (60 < l.length) = false := by simp; omega
  obtain ⟨nl, HL⟩ : ∃ n, Hid (l.length = n) := ⟨_, rfl⟩
  rw [HL.out] at hv hl hcap t3 t3' ⊢
  have HG := Lib.hid hg1
  clear hg1
  go_enter Tryd.func6, Tryd.ntmps6
  go_wp2_with fail
  refine (first_yes w hT).mono ?_
  rintro e w1 ⟨rfl, c1⟩
  have hv1 := hv.chg0 c1
  have hT1 := hT.chg c1
  clear hv hT
  go_wp2_with fail
  clear t1 t1' t2 t2' t3 t3'
  go_loopg [5, 7] g (fun k vb vi wr => ∃ (i : Nat), i + k = g ∧ vb = .string (str (List.replicate i 32)) ∧ vi = .int .i64 i ∧ wr = w1)
  case atStart => exact ⟨0, by omega, rfl, rfl, rfl⟩
  case round =>
    obtain ⟨i, hik, rfl, rfl, rfl⟩ := hrel
    by_cases hi : i < g
    · have r1 : decide ((i : Int) < (g : Int)) = true := by simp; omega
      have r1' : decide (i < g) = true := by simp; omega
      have e1 : str (List.replicate i 32) ++ ⟨#[32]⟩ = str (List.replicate (i + 1) 32) := by rw [List.replicate_succ']; exact str_appL _ [32]
      have e2 : (str (List.replicate i 32)).size = i := by rw [str_size]; simp
      have hib : i ≤ 20 := by omega
      have HP := Lib.hid (And.intro hik hi)
      clear hik hi
      go_wp2_with fail
      go_roundg (gk - 1)
      case measure => have := HP.out; omega
      case rel => exact ⟨i + 1, by have := HP.out; omega, rfl, by go_num, rfl⟩
    · have r1 : decide ((i : Int) < (g : Int)) = false := by simp; omega
      have r1' : decide (i < g) = false := by simp; omega
      obtain rfl : i = g := by omega
      clear hi hik
      obtain ⟨wo, hwo⟩ : ∃ wo : World, wo = wr := ⟨_, rfl⟩
      rw [← hwo] at c1 hv1 hT1
      subst hwo
      have e2 : (str (List.replicate i 32)).size = i := by rw [str_size]; simp
      go_wp2_with fail
      go_loopg [6, 8, 9] nl (fun k vl vn vi wr => ∃ (j nn : Nat) (sl : List (List Nat)), j + k = nl ∧ nn ≤ 5000 ∧ vl = .string (str (lineQ i sl)) ∧ vn = .int .i64 nn ∧ vi = .int .i64 j ∧ Hid (sl.length = j ∧ l.take j = sl.map encL ∧ (∀ rs ∈ sl, ∀ c ∈ rs, okR c) ∧ (lineQ i sl).length ≤ j * 6291480) ∧ Chg [] wo wr)
      case atStart => exact ⟨0, 0, [], by omega, by omega, rfl, rfl, rfl, ⟨rfl, by simp, by simp, by simp [lineQ]⟩, Chg.refl _ _⟩
      case round =>
        obtain ⟨j, nn, sl, hjk, hnn, rfl, rfl, rfl, HA, hc⟩ := hrel
        have hTr := hT1.chg hc
        have hvr := hv1.chg0 hc
        have cr := c1.nil hc
        by_cases hj : j < nl
        · have r3 : decide ((j : Int) < (nl : Int)) = true := by simp; omega
          have r3' : decide (j < nl) = true := by simp; omega
          obtain ⟨ga, offa, capa', hsa, -, hcella⟩ := hvr.at1 (by omega)
          simp only [Value.slice.injEq, true_and] at hsa
          obtain ⟨rfl, rfl⟩ := hsa
          have a0 := hcella j hj
          have hjl : j < l.length := by rw [HL.out]; exact hj
          rw [Ss_get l j hjl] at a0
          have htk := List.take_succ_eq_append_getElem hjl
          have hxb := hxs l[j] (List.getElem_mem hjl)
          clear hcella
          generalize l[j] = x at *
          obtain ⟨m, HX⟩ : ∃ m, Hid (x.length = m) := ⟨_, rfl⟩
          have hsx : (str x).size = m := by rw [str_size]; exact HX.out
          rw [HX.out] at hxb
          obtain ⟨n2, HN⟩ : ∃ n2, Hid (min (nn + min m 5000) 20000 = n2) := ⟨_, rfl⟩
          have en : min ((nn : Int) + min (m : Int) 5000) 20000 = (n2 : Int) := by have := HN.out; omega
          have em : min (m : Int) 5000 ≤ 5000 ∧ 0 ≤ min (m : Int) 5000 := by omega
          have HP := Lib.hid (And.intro hjk htk)
          have hjb : (j : Int) ≤ 60 := by omega
          have hnb : (nn : Int) ≤ 5000 := by omega
          clear hjk htk hjl
          by_cases hbig : 5000 < n2
          · have q1 : decide (5000 < (n2 : Int)) = true := by simp; omega
            have q1' : decide (5000 < n2) = true := by simp; omega
            clear hbig
            go_wp2_with fail
            refine (first_yes wr hTr).mono ?_
            rintro e w2 ⟨rfl, c2⟩
            go_wp2_with fail
            go_ret
            exact ⟨rfl, cr.nil c2⟩
          · have q1 : decide (5000 < (n2 : Int)) = false := by simp; omega
            have q1' : decide (5000 < n2) = false := by simp; omega
            have HBB := Lib.hid hbig
            clear hbig
            have aq := fun w' h' => quote_any x w' h' (by rw [HX.out]; omega)
            have ac := fun w' h' => count_any x w' h' (by rw [HX.out]; omega)
            cases hs : sigs x with
            | none =>
              rw [show quoteL x = ([], 4) by unfold quoteL; rw [hs]] at aq
              rw [show countL x = (0, 4) by unfold countL; rw [hs]] at ac
              have ee : (str []).toList.isEmpty = true := by rw [str_toList]; rfl
              clear hs
              go_wp2_with fail
              refine (aq wr hTr).mono ?_
              rintro e w2 ⟨rfl, c2⟩
              have a2 := c2.cell_some a0 (by simp)
              have hT2 := hTr.chg c2
              go_wp2_with fail
              refine (ac w2 hT2).mono ?_
              rintro e w3 ⟨rfl, c3⟩
              have c3' := c3
              have c3 := (cr.nil c2).nil c3
              go_wp2_with fail
              refine (first_yes w3 (hTr.chg (c2.nil c3'))).mono ?_
              rintro e w4 ⟨rfl, c4⟩
              go_wp2_with fail
              go_ret
              exact ⟨rfl, c3.nil c4⟩
            | some rs =>
              obtain ⟨he, ok⟩ := sigs_enc hs
              have hge := encL_ge rs
              rw [← he, HX.out] at hge
              have hq := quoteR_le rs
              rw [show quoteL x = (quoteR rs, 0) by unfold quoteL; rw [hs]] at aq
              rw [show countL x = (rs.length, 0) by unfold countL; rw [hs]] at ac
              have hlq := HA.out.2.2.2
              have hj60 : j * 6291480 ≤ 60 * 6291480 := Nat.mul_le_mul_right _ (by omega)
              have e3 : str (List.replicate i 32) ++ str (quoteR rs) = str (List.replicate i 32 ++ quoteR rs) := str_app _ _
              have e4 : str (lineQ i sl) ++ str (List.replicate i 32 ++ quoteR rs) = str (lineQ i (sl ++ [rs])) := by rw [lineQ_snoc]; exact str_app _ _
              have e5 : (str (List.replicate i 32 ++ quoteR rs)).size ≤ 7000000 := by rw [str_size, List.length_append, List.length_replicate]; omega
              have e6 : (str (lineQ i sl)).size ≤ 400000000 := by rw [str_size]; omega
              have e7 : (str (quoteR rs)).size ≤ 7000000 := by rw [str_size]; omega
              have HB : Hid ((sl ++ [rs]).length = j + 1 ∧ l.take (j + 1) = (sl ++ [rs]).map encL ∧ (∀ rs' ∈ sl ++ [rs], ∀ c ∈ rs', okR c) ∧ (lineQ i (sl ++ [rs])).length ≤ (j + 1) * 6291480) := by
                obtain ⟨b1, b2, b3, b4⟩ := HA.out
                refine ⟨by simp [b1], by rw [HP.out.2, b2]; simp [he], ?_, ?_⟩
                · intro rs' hr
                  rcases List.mem_append.1 hr with h | h
                  · exact b3 rs' h
                  · simp only [List.mem_cons, List.not_mem_nil, or_false] at h
                    subst h; exact ok
                · rw [lineQ_snoc, List.length_append, List.length_append, List.length_replicate, Nat.add_mul]; omega
              clear hs he ok hge hq hlq hj60 HA
              generalize quoteR rs = Q at *
              generalize sl ++ [rs] = sl2 at *
              generalize rs.length = rl at *
              go_wp2_with fail
              refine (aq wr hTr).mono ?_
              rintro e w2 ⟨rfl, c2⟩
              have a2 := c2.cell_some a0 (by simp)
              have hT2 := hTr.chg c2
              go_wp2_with fail
              refine (ac w2 hT2).mono ?_
              rintro e w3 ⟨rfl, c3⟩
              have c3 := (hc.nil c2).nil c3
              go_wp2_with fail
              go_roundg (gk - 1)
              case measure => have := HP.out; omega
              case rel => exact ⟨j + 1, n2, sl2, by have := HP.out; omega, by have := HBB.out; omega, rfl, rfl, by go_num, HB, c3⟩
        · have r3 : decide ((j : Int) < (nl : Int)) = false := by simp; omega
          have r3' : decide (j < nl) = false := by simp; omega
          obtain ⟨b1, b2, b3, b4⟩ := HA.out
          rw [List.take_of_length_le (by rw [HL.out]; omega)] at b2
          have hll : sl.length = l.length := by rw [b2]; simp
          have hj60 : j * 6291480 ≤ 60 * 6291480 := Nat.mul_le_mul_right _ (by omega)
          have e3 : str (lineQ i sl) ++ str (List.replicate i 32) = str (lineQ i sl ++ List.replicate i 32) := str_app _ _
          have e4 := str_size (lineQ i sl)
          have aw := fun w' h' => words_any (lineQ i sl ++ List.replicate i 32) w' h' (by rw [List.length_append, List.length_replicate]; omega)
          have e5 : (lineQ i sl).length ≤ 400000000 := by omega
          have hfu : sl.length < (lineQ i sl ++ List.replicate i 32).length + 1 := by have := lineQ_ge i HG.out sl; rw [List.length_append]; omega
          by_cases h50 : nl ≤ 50
          · have q1 : decide (50 < (nl : Int)) = false := by simp; omega
            have q1' : decide (50 < nl) = false := by simp; omega
            have hw := words_back (lineQ i sl ++ List.replicate i 32).length i HG.out sl ((lineQ i sl ++ List.replicate i 32).length + 1) [] b3 hfu (by have := HL.out; simp; omega)
            rw [List.nil_append, ← b2] at hw
            rw [show wordsL (lineQ i sl ++ List.replicate i 32) = (l, 0, 0) from hw] at aw
            clear hw hfu hj60 hll b1 b2 b3 b4 HA h50 hj hjk
            generalize lineQ i sl = line at *
            go_wp2_with fail
            refine (aw wr hTr).mono ?_
            rintro e w2 ⟨v2, rfl, hf2⟩
            have c2 := cr.nil hf2.chg
            have hT2 := hTr.chg hf2.chg
            have hv2 := hvr.chg0 hf2.chg
            clear aw
            go_wp2_with fail
            refine (first_yes w2 hT2).mono ?_
            rintro e w3 ⟨rfl, c3⟩
            have c4 := c2.nil c3
            have hf3 := hf2.to c3
            have hv3 := hv2.chg0 c3
            have htx := texts_yes w3 v2 _ l hf3.own.sees (by rw [HL.out]; exact hv3) (by rw [HL.out]; omega)
            go_wp2_with fail
            refine htx.mono ?_
            rintro e w7 ⟨rfl, q, rfl⟩
            go_wp2_with fail
            go_ret
            exact ⟨rfl, c4.drewN q⟩
          · have q1 : decide (50 < (nl : Int)) = true := by simp; omega
            have q1' : decide (50 < nl) = true := by simp; omega
            obtain ⟨t, hlen, k, hk, hw⟩ := words_many (lineQ i sl ++ List.replicate i 32).length i HG.out sl ((lineQ i sl ++ List.replicate i 32).length + 1) [] b3 hfu (by simp) (by have := HL.out; simp; omega)
            have hw : wordsL (lineQ i sl ++ List.replicate i 32) = _ := hw
            rw [hw] at aw
            have hlen2 : (lineQ i sl).length = t + 1 := by rw [List.length_append, List.length_replicate] at hlen; omega
            have hat : (lineQ i sl ++ List.replicate i 32).length - (i + 1 + k) = t - k := by rw [hlen]; omega
            rw [hat] at aw
            rw [hlen2] at e4 e5
            have z1 : decide (((t - k : Nat) : Int) < ((t + 1 : Nat) : Int)) = true := by simp; omega
            have z2 : decide (((t - k : Nat) : Int) < (t : Int) + 1) = true := by simp; omega
            have z3 : decide (t - k < t + 1) = true := by simp; omega
            clear hw hfu hj60 hll b1 b2 b3 b4 HA h50 hj hjk hlen hlen2 hat
            generalize lineQ i sl = line at *
            generalize t - k = tk at *
            go_wp2_with fail
            refine (aw wr hTr).mono ?_
            rintro e w2 ⟨v2, rfl, hf2⟩
            have c2 := cr.nil hf2.chg
            have hT2 := hTr.chg hf2.chg
            clear aw
            go_wp2_with fail
            refine (first_yes w2 hT2).mono ?_
            rintro e w3 ⟨rfl, c3⟩
            have c4 := c2.nil c3
            go_wp2_with fail
            go_ret
            exact ⟨rfl, c4⟩
theorem wback_walk (v : Value) (l : List (List UInt8)) {w : World} (h : Sees w 1 v l.length (Ss l) ∧ l.length ≤ 1048576 ∧ ∀ x ∈ l, x.length ≤ 1048576) (g : Int) (hg : -9223372036854775808 ≤ g ∧ g ≤ 9223372036854775807) (hT : Tabs w) :
    Calls Tryd.prog 6 #[v, .int .i64 g] w fun e w' => e = .returned (.bool true) ∧ Chg [] w w' := by
  by_cases hc : l.length ≤ 60 ∧ 1 ≤ g ∧ g ≤ 20
  · obtain ⟨m, rfl⟩ := Int.eq_ofNat_of_zero_le (show 0 ≤ g by omega)
    exact wback_main v l m hT h.1 hc.1 h.2.2 (by omega) (by omega)
  · exact wback_big v l g hT h.1 (by have := h.2.1; omega) hg hc
end Go.Proofs.YtcbmceaijinpbaaDoor
