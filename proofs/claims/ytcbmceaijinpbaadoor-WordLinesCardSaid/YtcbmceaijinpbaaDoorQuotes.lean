/- The walk of the law WordQuotes. No statement of the seat is proved here. -/
import Derived.Test.YtcbmceaijinpbaaDoorSigns
set_option linter.unusedVariables false
namespace Go.Proofs.YtcbmceaijinpbaaDoor
open Go.RowKit Go.Aq Go.Aq.Wd
theorem quotes_big (s : List UInt8) {w : World} (hT : Tabs w) (hb : s.length ≤ 9223372036854775807) (h : ¬ s.length ≤ 2000) :
    Calls Tryd.prog 7 #[.string (str s)] w fun e w' => e = .returned (.bool true) ∧ Chg [] w w' := by
  have hsz := str_size s
  have t1 : decide (2000 < (s.length : Int)) = true := by simp; omega
  have t1' : decide (2000 < s.length) = true := by simp; omega
  clear h
  go_enter Tryd.func7, Tryd.ntmps7
  go_wp2_with fail
  refine (first_yes w hT).mono ?_
  rintro e w1 ⟨rfl, c1⟩
  go_wp2_with fail
  refine (first_yes w1 (hT.chg c1)).mono ?_
  rintro e w2 ⟨rfl, c2⟩
  go_wp2_with fail
  go_ret
  exact ⟨rfl, c1.nil c2⟩
theorem quotes_bad (s : List UInt8) {w : World} (hT : Tabs w) (hb : s.length ≤ 2000) (hs : sigs s = none) :
    Calls Tryd.prog 7 #[.string (str s)] w fun e w' => e = .returned (.bool true) ∧ Chg [] w w' := by
  have hsz := str_size s
  have t1 : decide (2000 < (s.length : Int)) = false := by simp; omega
  have t1' : decide (2000 < s.length) = false := by simp; omega
  have a1 := fun w' h' => quote_any s w' h' (by omega)
  rw [show quoteL s = ([], 4) by unfold quoteL; rw [hs]] at a1
  have ee : (str []).toList.isEmpty = true := by rw [str_toList]; rfl
  clear hs
  go_enter Tryd.func7, Tryd.ntmps7
  go_wp2_with fail
  refine (first_yes w hT).mono ?_
  rintro e w1 ⟨rfl, c1⟩
  go_wp2_with fail
  refine (a1 w1 (hT.chg c1)).mono ?_
  rintro e w2 ⟨rfl, c2⟩
  have c2 := c1.nil c2
  go_wp2_with fail
  refine (first_yes w2 (hT.chg c2)).mono ?_
  rintro e w3 ⟨rfl, c3⟩
  go_wp2_with fail
  go_ret
  exact ⟨rfl, c2.nil c3⟩
theorem writ_le (c : Nat) : (writ c).length ≤ 6 := by
  have := enc1_len c
  unfold writ hexC
  repeat' split
  all_goals simp
  omega
theorem quoteR_le (rs : List Nat) : (quoteR rs).length ≤ 2 + 6 * rs.length := by
  have : (rs.flatMap writ).length ≤ 6 * rs.length := by
    induction rs with
    | nil => simp
    | cons c t ih => have := writ_le c; simp only [List.flatMap_cons, List.length_append, List.length_cons]; omega
  simp only [quoteR, List.length_append, List.length_cons, List.length_nil]; omega
theorem special_cases (c : Nat) : (special c = true ∧ (c < 32 ∨ (127 ≤ c ∧ c ≤ 159) ∨ c = 34 ∨ c = 92)) ∨ (special c = false ∧ 32 ≤ c ∧ (c < 127 ∨ 159 < c) ∧ c ≠ 34 ∧ c ≠ 92) := by
  cases h : special c with
  | true => left; simp only [special, low, Bool.or_eq_true, Bool.and_eq_true, beq_iff_eq, decide_eq_true_eq] at h; exact ⟨rfl, by omega⟩
  | false => right; simp only [special, low, Bool.or_eq_false_iff, Bool.and_eq_false_iff, beq_eq_false_iff_ne, decide_eq_false_iff_not] at h; exact ⟨rfl, by omega⟩
set_option maxHeartbeats 4000000 in
theorem quotes_good (s : List UInt8) (rs : List Nat) {w : World} (hT : Tabs w) (hb : s.length ≤ 2000) (hs : sigs s = some rs) :
    Calls Tryd.prog 7 #[.string (str s)] w fun e w' => e = .returned (.bool true) ∧ Chg [] w w' := by
  have hsz := str_size s
  have t1 : decide (2000 < (s.length : Int)) = false := by simp; omega
  have t1' : decide (2000 < s.length) = false := by simp; omega
  obtain ⟨he, ok⟩ := sigs_enc hs
  have hge := encL_ge rs
  rw [← he] at hge
  have hq := quoteR_le rs
  have a1 := fun w' h' => quote_any s w' h' (by omega)
  rw [show quoteL s = (quoteR rs, 0) by unfold quoteL; rw [hs]] at a1
  have a2 := fun w' h' => words_any (quoteR rs) w' h' (by omega)
  have a3 := fun w' h' => words_any ((quoteR rs).take ((quoteR rs).length - 1)) w' h' (by rw [List.length_take]; omega)
  rw [words_quote rs ok, ← he] at a2
  rw [words_open rs ok] at a3
  have hup := str_upto (quoteR rs) ((quoteR rs).length - 1)
  have hfine := Lib.hid (quoteR_fine rs ok)
  have hplain := quoteR_plain rs
  rw [← he] at hplain
  have HPL := Lib.hid hplain
  have hsq := str_size (quoteR rs)
  have hq2 : 2 ≤ (quoteR rs).length := by simp [quoteR]
  have HE := Lib.hid he
  have HOK := Lib.hid ok
  clear hs he ok hplain
  generalize quoteR rs = Q at *
  obtain ⟨M, hM⟩ : ∃ M, Q.length = M + 1 := ⟨Q.length - 1, by omega⟩
  simp only [hM, Nat.add_sub_cancel] at a3 hup
  simp only at a1
  go_enter Tryd.func7, Tryd.ntmps7
  go_wp2_with fail
  refine (first_yes w hT).mono ?_
  rintro e w1 ⟨rfl, c1⟩
  go_wp2_with fail
  refine (a1 w1 (hT.chg c1)).mono ?_
  rintro e w2 ⟨rfl, c2⟩
  have c2 := c1.nil c2
  obtain ⟨K, hK⟩ : ∃ K, w2.heap.size = K := ⟨_, rfl⟩
  have HM := Lib.hid (And.intro hM hq2)
  clear hM
  go_wp2_with fail
  go_loopg [5, 7] s.length (fun k vp vc wr => ∃ (pos j : Nat), vp = .bool ((rs.take j).all fun c => !special c) ∧ pos + k = s.length ∧ j ≤ rs.length ∧ pos = (encL (rs.take j)).length ∧ wr.heap[K]? = some (.stringIter (str s) pos) ∧ Chg [] w2 wr)
  case atStart =>
    refine ⟨0, 0, rfl, by omega, by omega, by simp [encL], ?_, (Chg.refl _ _).range _ _⟩
    rw [← hK]; exact World.iter_heap w2 (str s) 0
  case round =>
    obtain ⟨pos, j, rfl, hpk, hjl, hpos, hit, hc⟩ := hrel
    have hlt := place_lt rs j hjl
    rw [← hpos, ← HE.out] at hlt
    by_cases hp : pos < s.length
    · have hj := hlt.1 hp
      have hnx := fun ty => next_at s wr K pos hit hp ty
      obtain ⟨hd, hnp⟩ := place_step rs HOK.out j hj
      rw [← hpos, ← HE.out] at hd
      rw [← hpos] at hnp
      have hfit := dec_fits s pos hp
      have hdp := dec_pos (s.drop pos)
      have hd1 := dec_fst (s.drop pos)
      have hcn := hc.iterAt (k := K) (.inr (by omega)) (str s) (pos + (dec (s.drop pos)).2)
      have hitn := Lib.iterAt_heap wr K (str s) pos (pos + (dec (s.drop pos)).2) hit
      have hts := List.take_succ_eq_append_getElem hj
      have hal : (rs.take (j + 1)).all (fun c => !special c) = ((rs.take j).all (fun c => !special c) && !special rs[j]) := by rw [hts, List.all_append]; simp
      rw [hd] at hnx hcn hitn hfit hdp hd1
      generalize rs[j] = c at *
      generalize (enc1 c).length = nn at *
      simp only at hnx hcn hitn hfit hdp hd1
      generalize wr.iterAt K (str s) (pos + nn) = w3 at *
      have HP := Lib.hid (And.intro hpk hnp)
      have HA := Lib.hid hal
      have hjb : j ≤ 5000 := by omega
      clear hd hit hc hlt hpk hnp hpos hal hts
      generalize (rs.take j).all (fun c => !special c) = b at *
      cases b with
      | false =>
        go_wp2_with fail
        go_roundg (gk - nn)
        case measure => have := HP.out; omega
        case rel => exact ⟨pos + nn, j + 1, by rw [HA.out]; rfl, by have := HP.out; omega, by omega, HP.out.2.symm, hitn, hcn⟩
      | true =>
        have hsp := special_cases c
        have hcs : (special c = true ∧ decide (32 ≤ (c : Int)) = false ∧ decide (32 ≤ c) = false) ∨ (special c = true ∧ decide (32 ≤ (c : Int)) = true ∧ decide (32 ≤ c) = true ∧ decide ((c : Int) < 127) = false ∧ decide (c < 127) = false ∧ decide (159 < (c : Int)) = false ∧ decide (159 < c) = false) ∨
            (special c = true ∧ c = 34) ∨ (special c = true ∧ c = 92) ∨
            (special c = false ∧ decide (32 ≤ (c : Int)) = true ∧ decide (32 ≤ c) = true ∧ decide ((c : Int) < 127) = true ∧ decide (c < 127) = true ∧ ((c : Int) != 34) = true ∧ ((c : Int) != 92) = true) ∨
            (special c = false ∧ decide (32 ≤ (c : Int)) = true ∧ decide (32 ≤ c) = true ∧ decide ((c : Int) < 127) = false ∧ decide (c < 127) = false ∧ decide (159 < (c : Int)) = true ∧ decide (159 < c) = true ∧ ((c : Int) != 34) = true ∧ ((c : Int) != 92) = true) := by
          rcases hsp with ⟨h0, h1 | h1 | h1 | h1⟩ | ⟨h0, h1, h2, h3, h4⟩
          · left; simp [h0]; omega
          · right; left; simp [h0]; omega
          · right; right; left; exact ⟨h0, h1⟩
          · right; right; right; left; exact ⟨h0, h1⟩
          · by_cases h5 : c < 127
            · right; right; right; right; left; simp [h0]; omega
            · right; right; right; right; right; simp [h0]; omega
        clear hsp
        rcases hcs with ⟨h0, t2, t3⟩ | ⟨h0, t2, t3, t4, t5, t6, t7⟩ | ⟨h0, rfl⟩ | ⟨h0, rfl⟩ | ⟨h0, t2, t3, t4, t5, t8, t9⟩ | ⟨h0, t2, t3, t4, t5, t6, t7, t8, t9⟩
        all_goals
          have ha := HA.out
          rw [h0] at ha
          have HA2 := Lib.hid ha
          clear HA ha h0
          go_wp2_with fail
          go_roundg (gk - nn)
          case measure => have := HP.out; omega
          case rel => exact ⟨pos + nn, j + 1, by rw [HA2.out]; rfl, by have := HP.out; omega, by omega, HP.out.2.symm, hitn, hcn⟩
    · have hnx := fun ty => next_end s wr K pos hit hp ty
      have hj : rs.length ≤ j := by have := mt hlt.2 hp; omega
      obtain rfl : j = rs.length := by omega
      have c3 := c2.nil hc
      rw [List.take_of_length_le (Nat.le_refl _)]
      have hpl : (rs.all fun c => !special c) = true → Q = [34] ++ s ++ [34] := fun h => HPL.out (by simpa using h)
      generalize (rs.all fun c => !special c) = b at *
      have HPL2 := Lib.hid hpl
      clear hpos hlt hit hc HPL hpl
      obtain ⟨wo, hwo⟩ : ∃ wo : World, wo = wr := ⟨_, rfl⟩
      rw [← hwo] at c3
      subst hwo
      have hM1 : (Q.length : Int) - 1 = (M : Int) := by have := HM.out.1; omega
      have hM2 : Q.length ≤ 20000 := by omega
      have hM3 : (M : Int) ≤ 20000 := by omega
      clear hq hq2
      go_wp2_with fail

      go_loopg [8] Q.length (fun k vi wr => ∃ (i : Nat), vi = .int .i64 i ∧ i + k = Q.length ∧ wr = wo)
      case atStart => exact ⟨0, rfl, by omega, rfl⟩
      case round =>
        obtain ⟨i, rfl, hik, rfl⟩ := hrel
        by_cases hi : i < Q.length
        · have r1 : decide ((i : Int) < (Q.length : Int)) = true := by simp; omega
          have r1' : decide (i < Q.length) = true := by simp; omega
          have ix := fun w' => idxS w' Q i hi
          obtain ⟨f1, f2⟩ := hfine.out Q[i] (List.getElem_mem hi)
          have hx := (Q[i]).toNat_lt
          generalize (Q[i]).toNat = x at *
          have r2 : decide ((x : Int) < 32) = false := by simp; omega
          have r2' : decide (x < 32) = false := by simp; omega
          have r3 : ((x : Int) == 127) = false := by simp; omega
          have HP := Lib.hid (And.intro hik hi)
          have hi2 : (i : Int) ≤ 20000 := by omega
          clear hik hi f1 f2
          go_wp2_with fail
          go_roundg (gk - 1)
          case measure => have := HP.out; omega
          case rel => exact ⟨i + 1, by go_num, by have := HP.out; omega, rfl⟩
        · have r1 : decide ((i : Int) < (Q.length : Int)) = false := by simp; omega
          have r1' : decide (i < Q.length) = false := by simp; omega
          clear hik hi
          go_wp2_with fail
          refine (a2 wr (hT.chg c3)).mono ?_
          rintro e w4 ⟨v, rfl, hf4⟩
          have c4 := c3.nil hf4.chg
          have r2 : decide ((Q.length : Int) < 2) = false := by have := HM.out.2; simp; omega
          have r2' : decide (Q.length < 2) = false := by have := HM.out.2; simp; omega
          go_wp2_with fail
          refine (a3 w4 (hT.chg c4)).mono ?_
          rintro e w5 ⟨v5, rfl, hf5⟩
          have c5 := c4.nil hf5.chg
          have r4 : ((M : Int) == (Q.length : Int) - 1) = true := by have := HM.out.1; simp; omega
          have r5 : ((M : Int) == (M : Int)) = true := by simp
          go_wp2_with fail
          refine (first_yes w5 (hT.chg c5)).mono ?_
          rintro e w6 ⟨rfl, c6⟩
          have hf6 := (hf4.to hf5.chg).to c6
          have c6 := c5.nil c6
          have ct := fun q => (c6.alloc (.cells #[.string (str s)] 9)).drewN q
          have htx := texts_yes (w6.alloc (.cells #[.string (str s)] 9)) v (.slice (some ⟨w6.heap.size, 0, none⟩) 1 1) [s] (hf6.own.alloc _).sees (Sees.row (cs := #[.string (str s)]) (by exact Blk.new _ _ _) rfl) (by simp)
          have x1 : (⟨#[34]⟩ : ByteArray) ++ str s = str (34 :: s) := str_appR [34] s
          have x2 : str (34 :: s) ++ ⟨#[34]⟩ = str (34 :: (s ++ [34])) := str_appL (34 :: s) [34]
          have x3 : (str (34 :: s)).size = s.length + 1 := by rw [str_size]; simp
          have x4 : b = true → ((str Q).toList == (str (34 :: (s ++ [34]))).toList) = true := fun h => by rw [HPL2.out h]; simp
          clear hf4 hf5 hf6 a1 a2 a3 hfine hK hup
          cases b
          · clear x4 HPL2
            go_wp2_with fail
            refine htx.mono ?_
            rintro e w7 ⟨rfl, q, rfl⟩
            go_wp2_with fail
            go_ret
            exact ⟨rfl, ct q⟩
          · have x4 := x4 rfl
            clear HPL2
            go_wp2_with fail
            refine htx.mono ?_
            rintro e w7 ⟨rfl, q, rfl⟩
            go_wp2_with fail
            go_ret
            exact ⟨rfl, ct q⟩
theorem quotes_walk (s : List UInt8) (b : s.length ≤ 9223372036854775807) {w : World} (hT : Tabs w) :
    Calls Tryd.prog 7 #[.string (str s)] w fun e w' => e = .returned (.bool true) ∧ Chg [] w w' := by
  by_cases h : s.length ≤ 2000
  · cases hs : sigs s with
    | none => exact quotes_bad s hT h hs
    | some rs => exact quotes_good s rs hT h hs
  · exact quotes_big s hT b h
end Go.Proofs.YtcbmceaijinpbaaDoor
