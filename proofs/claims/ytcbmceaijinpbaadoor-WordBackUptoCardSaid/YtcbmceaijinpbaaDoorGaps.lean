/- The walk of the law WordGaps. No statement of the seat is proved here. -/
import Derived.Test.YtcbmceaijinpbaaDoorQuotes
import Derived.Test.YtcbmceaijinpbaaDoorOpenStrs
set_option linter.unusedVariables false
namespace Go.Aq.Wd
theorem lineP_snoc (g : Nat) (l : List (List UInt8)) (x : List UInt8) : lineP g (l ++ [x]) = lineP g l ++ (x ++ List.replicate g 32) := by simp [lineP]
theorem lineP_ge (g : Nat) (hg : 1 ≤ g) (l : List (List UInt8)) : l.length ≤ (lineP g l).length := by
  induction l with
  | nil => simp
  | cons a t ih => simp only [lineP, List.flatMap_cons, List.length_append, List.length_cons, List.length_replicate] at ih ⊢; omega
theorem lineP_le (g : Nat) (hg : g ≤ 20) (l : List (List UInt8)) (h : ∀ x ∈ l, x.length ≤ 50) : (lineP g l).length ≤ 70 * l.length := by
  induction l with
  | nil => simp [lineP]
  | cons a t ih =>
    have h1 := h a (by simp)
    have ih := ih (fun x hx => h x (by simp [hx]))
    simp only [lineP, List.flatMap_cons, List.length_append, List.length_cons, List.length_replicate] at ih ⊢; omega
end Go.Aq.Wd
namespace Go.Proofs.YtcbmceaijinpbaaDoor
open Go.RowKit Go.Aq Go.Aq.Wd
theorem gaps_big (v : Value) (l : List (List UInt8)) (g : Int) {w : World} (hT : Tabs w) (hv : Sees w 1 v l.length (Ss l)) (hl : l.length ≤ 9223372036854775807) (hg : -9223372036854775808 ≤ g ∧ g ≤ 9223372036854775807) (h : ¬ (l.length ≤ 40 ∧ 1 ≤ g ∧ g ≤ 20)) :
    Calls Tryd.prog 4 #[v, .int .i64 g] w fun e w' => e = .returned (.bool true) ∧ Chg [] w w' := by
  obtain ⟨ao, cap, rfl, hcap, -⟩ := hv.shape
  have hh : decide (g < 1) = true ∨ (decide (g < 1) = false ∧ decide (20 < g) = true) ∨ (decide (g < 1) = false ∧ decide (20 < g) = false ∧ decide (40 < (l.length : Int)) = true) := by
    simp; omega
  have e5 : decide (40 < (l.length : Int)) = decide (40 < l.length) := by simp; omega
  clear h hg hcap
  rcases hh with t1 | ⟨t1, t2⟩ | ⟨t1, t2, t3⟩
  all_goals
    try (have t3' := t3; rw [e5] at t3')
    clear e5
    go_enter Tryd.func4, Tryd.ntmps4
    go_wp2_with fail
    refine (first_yes w hT).mono ?_
    rintro e w1 ⟨rfl, c1⟩
    go_wp2_with fail
    refine (first_yes w1 (hT.chg c1)).mono ?_
    rintro e w2 ⟨rfl, c2⟩
    go_wp2_with fail
    go_ret
    exact ⟨rfl, c1.nil c2⟩
set_option maxRecDepth 100000 in
set_option maxHeartbeats 4000000 in
theorem gaps_main (v : Value) (l : List (List UInt8)) (g : Nat) {w : World} (hT : Tabs w) (hv : Sees w 1 v l.length (Ss l)) (hl : l.length ≤ 40) (hxs : ∀ x ∈ l, x.length ≤ 9223372036854775807) (hg1 : 1 ≤ g) (hg2 : g ≤ 20) :
    Calls Tryd.prog 4 #[v, .int .i64 g] w fun e w' => e = .returned (.bool true) ∧ Chg [] w w' := by
  obtain ⟨ao, cap, rfl, hcap, -⟩ := hv.shape
  have t1 : decide ((g : Int) < 1) = false := by simp; omega
  have t1' : decide (g < 1) = false := by simp; omega
  have t2 : decide (20 < (g : Int)) = false := by simp; omega
  have t2' : decide (20 < g) = false := by simp; omega
  have t3 : decide (40 < (l.length : Int)) = false := by simp; omega
  have t3' : decide (40 < l.length) = false := by simp; omega
  obtain ⟨nl, HL⟩ : ∃ n, Hid (l.length = n) := ⟨_, rfl⟩
  rw [HL.out] at hv hl hcap t3 t3' ⊢
  have HG := Lib.hid hg1
  clear hg1
  go_enter Tryd.func4, Tryd.ntmps4
  go_wp2_with fail
  refine (first_yes w hT).mono ?_
  rintro e w1 ⟨rfl, c1⟩
  have hv1 := hv.chg0 c1
  have hT1 := hT.chg c1
  clear hv hT
  go_wp2_with fail
  clear t1 t1' t2 t2' t3 t3'
  go_loopg [5, 7] g (fun k vb vi wr => ∃ (i : Nat), i + k = g ∧ vb = .string (str (List.replicate i 32)) ∧ vi = .int .i64 i ∧ wr = w1)
  case atStart => exact ⟨0, by omega, rfl, rfl, rfl⟩
  case round =>
    obtain ⟨i, hik, rfl, rfl, rfl⟩ := hrel
    by_cases hi : i < g
    · have r1 : decide ((i : Int) < (g : Int)) = true := by simp; omega
      have r1' : decide (i < g) = true := by simp; omega
      have e1 : str (List.replicate i 32) ++ ⟨#[32]⟩ = str (List.replicate (i + 1) 32) := by rw [List.replicate_succ']; exact str_appL _ [32]
      have e2 : (str (List.replicate i 32)).size = i := by rw [str_size]; simp
      have hib : i ≤ 20 := by omega
      have HP := Lib.hid (And.intro hik hi)
      clear hik hi
      go_wp2_with fail
      go_roundg (gk - 1)
      case measure => have := HP.out; omega
      case rel => exact ⟨i + 1, by have := HP.out; omega, rfl, by go_num, rfl⟩
    · have r1 : decide ((i : Int) < (g : Int)) = false := by simp; omega
      have r1' : decide (i < g) = false := by simp; omega
      obtain rfl : i = g := by omega
      clear hi hik
      obtain ⟨wo, hwo⟩ : ∃ wo : World, wo = wr := ⟨_, rfl⟩
      rw [← hwo] at c1 hv1 hT1
      subst hwo
      have e2 : (str (List.replicate i 32)).size = i := by rw [str_size]; simp
      go_wp2_with fail
      go_loopg [6, 8] nl (fun k vl vi wr => ∃ (j : Nat), j + k = nl ∧ vl = .string (str (lineP i (l.take j))) ∧ vi = .int .i64 j ∧ wr = wo ∧ (∀ x ∈ l.take j, plainB x ∧ x ≠ [] ∧ x.length ≤ 50))
      case atStart => exact ⟨0, by omega, rfl, rfl, rfl, by simp⟩
      case round =>
        obtain ⟨j, hjk, rfl, rfl, rfl, hall⟩ := hrel
        obtain ⟨GK, hGK⟩ : ∃ G, G = gk := ⟨_, rfl⟩
        rw [← hGK] at hjk
        by_cases hj : j < nl
        · have r3 : decide ((j : Int) < (nl : Int)) = true := by simp; omega
          have r3' : decide (j < nl) = true := by simp; omega
          obtain ⟨ga, offa, capa', hsa, -, hcella⟩ := hv1.at1 (by omega)
          simp only [Value.slice.injEq, true_and] at hsa
          obtain ⟨rfl, rfl⟩ := hsa
          have a0 := hcella j hj
          have hjl : j < l.length := by rw [HL.out]; exact hj
          rw [Ss_get l j hjl] at a0
          have htk := List.take_succ_eq_append_getElem hjl
          have hxb := hxs l[j] (List.getElem_mem hjl)
          clear hcella
          generalize l[j] = x at *
          obtain ⟨m, HX⟩ : ∃ m, Hid (x.length = m) := ⟨_, rfl⟩
          have hsx : (str x).size = m := by rw [str_size]; exact HX.out
          have HA := Lib.hid (And.intro hall htk)
          have HP := Lib.hid (And.intro hjk (And.intro hj hGK))
          have hjb : (j : Int) ≤ 40 := by omega
          clear hall htk hjk hGK hjl hxb
          by_cases hbad : m < 1 ∨ 50 < m
          · have hh : (decide ((m : Int) < 1) = true ∧ decide (m < 1) = true) ∨ (decide ((m : Int) < 1) = false ∧ decide (m < 1) = false ∧ decide (50 < (m : Int)) = true ∧ decide (50 < m) = true) := by simp only [decide_eq_true_eq, decide_eq_false_iff_not]; omega
            clear hbad
            rcases hh with ⟨q1, q2⟩ | ⟨q1, q2, q3, q4⟩
            all_goals
              go_wp2_with fail
              refine (first_yes wr hT1).mono ?_
              rintro e w2 ⟨rfl, c2⟩
              go_wp2_with fail
              go_ret
              exact ⟨rfl, c1.nil c2⟩
          · have q1 : decide ((m : Int) < 1) = false := by simp only [decide_eq_false_iff_not]; omega
            have q1' : decide (m < 1) = false := by simp only [decide_eq_false_iff_not]; omega
            have q2 : decide (50 < (m : Int)) = false := by simp only [decide_eq_false_iff_not]; omega
            have q2' : decide (50 < m) = false := by simp only [decide_eq_false_iff_not]; omega
            have hx60 : m ≤ 60 := by omega
            have HB := Lib.hid hbad
            clear hbad
            obtain ⟨wp, hwp⟩ : ∃ wp : World, wp = wr := ⟨_, rfl⟩
            rw [← hwp] at c1 hv1 hT1 a0
            subst hwp
            go_wp2_with fail
            go_loopg [9] m (fun k vi wr => ∃ (q : Nat), q + k = m ∧ vi = .int .i64 q ∧ wr = wp ∧ (∀ y ∈ x.take q, 33 ≤ y.toNat ∧ y.toNat ≤ 126 ∧ y ≠ 34))
            case atStart => exact ⟨0, by omega, rfl, rfl, by simp⟩
            case round =>
              obtain ⟨q, hqk, rfl, rfl, hby⟩ := hrel
              by_cases hq : q < m
              · have p1 : decide ((q : Int) < (m : Int)) = true := by simp; omega
                have p1' : decide (q < m) = true := by simp; omega
                have hql : q < x.length := by rw [HX.out]; exact hq
                have ix := fun w' => idxS w' x q hql
                have htq := List.take_succ_eq_append_getElem hql
                have hyl := (x[q]).toNat_lt
                have HY := Lib.hid (fun (n : Nat) (hn : n < 256) (h : (x[q]).toNat = n) => u8e _ _ h)
                have hh : (decide (((x[q]).toNat : Int) ≤ 32) = true ∧ decide ((x[q]).toNat ≤ 32) = true) ∨ (decide (((x[q]).toNat : Int) ≤ 32) = false ∧ decide ((x[q]).toNat ≤ 32) = false ∧ decide (126 < ((x[q]).toNat : Int)) = true ∧ decide (126 < (x[q]).toNat) = true) ∨
                    (decide (((x[q]).toNat : Int) ≤ 32) = false ∧ decide ((x[q]).toNat ≤ 32) = false ∧ decide (126 < ((x[q]).toNat : Int)) = false ∧ decide (126 < (x[q]).toNat) = false ∧ (((x[q]).toNat : Int) == 34) = true) ∨
                    (decide (((x[q]).toNat : Int) ≤ 32) = false ∧ decide ((x[q]).toNat ≤ 32) = false ∧ decide (126 < ((x[q]).toNat : Int)) = false ∧ decide (126 < (x[q]).toNat) = false ∧ (((x[q]).toNat : Int) == 34) = false ∧ Hid (33 ≤ (x[q]).toNat ∧ (x[q]).toNat ≤ 126 ∧ (x[q]) ≠ 34)) := by
                  have h34 : x[q] = 34 → (x[q]).toNat = 34 := fun h => by rw [h]; rfl
                  by_cases z1 : (x[q]).toNat ≤ 32
                  · left; simp only [decide_eq_true_eq]; omega
                  · by_cases z2 : 126 < (x[q]).toNat
                    · right; left; simp only [decide_eq_true_eq, decide_eq_false_iff_not]; omega
                    · by_cases z3 : (x[q]).toNat = 34
                      · right; right; left; rw [z3]; decide
                      · right; right; right
                        refine ⟨by simp only [decide_eq_false_iff_not]; omega, by simp only [decide_eq_false_iff_not]; omega, by simp only [decide_eq_false_iff_not]; omega, by simp only [decide_eq_false_iff_not]; omega, by simp; omega, by omega, by omega, fun h => z3 (h34 h)⟩
                clear HY
                generalize hxq : (x[q]).toNat = yn at *
                have HT := Lib.hid (And.intro htq hby)
                have HQ := Lib.hid (And.intro hqk hq)
                have hqb : (q : Int) ≤ 60 := by omega
                clear htq hby hqk
                rcases hh with ⟨z1, z2⟩ | ⟨z1, z2, z3, z4⟩ | ⟨z1, z2, z3, z4, z5⟩ | ⟨z1, z2, z3, z4, z5, HZ⟩
                case inr.inr.inr =>
                  have HXQ := Lib.hid hxq
                  clear hxq
                  go_wp2_with fail
                  go_roundg (gk - 1)
                  case measure => have := HQ.out; omega
                  case rel =>
                    refine ⟨q + 1, by have := HQ.out; omega, by go_num, rfl, ?_⟩
                    rw [HT.out.1]
                    intro y hy
                    rcases List.mem_append.1 hy with h | h
                    · exact HT.out.2 y h
                    · simp only [List.mem_cons, List.not_mem_nil, or_false] at h
                      subst h; rw [HXQ.out]; exact HZ.out
                all_goals
                  clear hxq
                  go_wp2_with fail
                  refine (first_yes wr hT1).mono ?_
                  rintro e w2 ⟨rfl, c2⟩
                  go_wp2_with fail
                  go_ret
                  exact ⟨rfl, c1.nil c2⟩
              · have p1 : decide ((q : Int) < (m : Int)) = false := by simp; omega
                have p1' : decide (q < m) = false := by simp; omega
                rw [List.take_of_length_le (by rw [HX.out]; omega)] at hby
                have hle := lineP_le i hg2 (l.take j) (fun y hy => (HA.out.1 y hy).2.2)
                have hlt : (l.take j).length ≤ 40 := by rw [List.length_take]; omega
                have e3 : str x ++ str (List.replicate i 32) = str (x ++ List.replicate i 32) := str_app _ _
                have e4 : str (lineP i (l.take j)) ++ str (x ++ List.replicate i 32) = str (lineP i (l.take (j + 1))) := by rw [HA.out.2, lineP_snoc]; exact str_app _ _
                have e5 : (str (x ++ List.replicate i 32)).size = m + i := by rw [str_size, List.length_append, HX.out]; simp
                have e6 : (str (lineP i (l.take j))).size ≤ 2800 := by rw [str_size]; omega
                have HY := Lib.hid (And.intro hby (And.intro (show x ≠ [] by rintro rfl; have := HX.out; simp at this; have := HB.out; omega) (show x.length ≤ 50 by rw [HX.out]; have := HB.out; omega)))
                clear hby hq hqk hle hlt
                go_wp2_with fail
                go_roundg (GK - 1)
                case measure => have := HP.out; omega
                case rel =>
                  refine ⟨j + 1, by have := HP.out; omega, rfl, by go_num, rfl, ?_⟩
                  rw [HA.out.2]
                  intro y hy
                  rcases List.mem_append.1 hy with h | h
                  · exact HA.out.1 y h
                  · simp only [List.mem_cons, List.not_mem_nil, or_false] at h
                    subst h; exact HY.out
        · have r3 : decide ((j : Int) < (nl : Int)) = false := by simp; omega
          have r3' : decide (j < nl) = false := by simp; omega
          have ej : l.take j = l := List.take_of_length_le (by rw [HL.out]; omega)
          rw [ej] at hall
          rw [ej]
          have hlen := lineP_ge i HG.out l
          have hle := lineP_le i hg2 l (fun y hy => (hall y hy).2.2)
          obtain ⟨g1, g2⟩ := gaps_law i HG.out l (fun y hy => ⟨(hall y hy).1, (hall y hy).2.1⟩) (by rw [HL.out]; exact hl) hlen
          have a1 := fun w' h' => words_any (lineP i l) w' h' (by have := HL.out; omega)
          have a2 := fun w' h' => words_any (lineP i l ++ [97, 34, 98, 34]) w' h' (by have := HL.out; rw [List.length_append]; simp; omega)
          rw [g1] at a1
          rw [g2] at a2
          have e3 := str_appL (lineP i l) [97, 34, 98, 34]
          have e4 := str_size (lineP i l)
          have e5 : (lineP i l).length ≤ 3000 := by have := HL.out; omega
          clear g1 g2 hlen hall ej hle hj hjk
          generalize lineP i l = line at *
          go_wp2_with fail
          refine (a1 wr hT1).mono ?_
          rintro e w4 ⟨v4, rfl, hf4⟩
          have c4 := c1.nil hf4.chg
          have hT4 := hT1.chg hf4.chg
          have hv4 := hv1.chg0 hf4.chg
          go_wp2_with fail
          refine (a2 w4 hT4).mono ?_
          rintro e w5 ⟨v5, rfl, hf5⟩
          have c5 := c4.nil hf5.chg
          have hT5 := hT4.chg hf5.chg
          have hv5 := hv4.chg0 hf5.chg
          have hf4 := hf4.to hf5.chg
          clear a1 a2 hv1 hv4
          go_wp2_with fail
          refine (first_yes w5 hT5).mono ?_
          rintro e w6 ⟨rfl, c6⟩
          have c7 := c5.nil c6
          have hf4 := hf4.to c6
          have hv6 := hv5.chg0 c6
          clear hv5
          have htx := texts_yes w6 v4 _ l hf4.own.sees (by rw [HL.out]; exact hv6) (by rw [HL.out]; omega)
          go_wp2_with fail
          refine htx.mono ?_
          rintro e w7 ⟨rfl, q, rfl⟩
          go_wp2_with fail
          go_ret
          exact ⟨rfl, c7.drewN q⟩
theorem gaps_walk (v : Value) (l : List (List UInt8)) {w : World} (h : Sees w 1 v l.length (Ss l) ∧ l.length ≤ 9223372036854775807 ∧ ∀ x ∈ l, x.length ≤ 9223372036854775807) (g : Int) (hg : -9223372036854775808 ≤ g ∧ g ≤ 9223372036854775807) (hT : Tabs w) :
    Calls Tryd.prog 4 #[v, .int .i64 g] w fun e w' => e = .returned (.bool true) ∧ Chg [] w w' := by
  by_cases hc : l.length ≤ 40 ∧ 1 ≤ g ∧ g ≤ 20
  · obtain ⟨m, rfl⟩ := Int.eq_ofNat_of_zero_le (show 0 ≤ g by omega)
    exact gaps_main v l m hT h.1 hc.1 h.2.2 (by omega) (by omega)
  · exact gaps_big v l g hT h.1 h.2.1 hg hc
end Go.Proofs.YtcbmceaijinpbaaDoor
