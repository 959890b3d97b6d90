/- The law DagLogs walked. No statement of the seat is proved here. -/
import Derived.Test.YtphmplbcegibjaaDgQ
import Derived.Test.YtphmplbcegibjaaDlPlain
import Derived.Test.YtphmplbcegibjaaSoG
import Derived.Deep.RegionHeld3
set_option linter.unusedVariables false
set_option linter.unusedSimpArgs false
namespace Go.Proofs.Ytphmplbcegibjaa
open Go.RowKit Go.Aq Go.Aq.Dg Go.Maps Go.Aq.So

theorem sl_N : SliceTy Try.prog 22 35 zN 3 48 := ⟨Try.underlying22, by kernel_rfl, rfl, by decide⟩
/-- A part of a row. -/
theorem Sees.dropS {w : World} {g off n cap k size : Nat} {xs : List Value} (h : Sees w size (.slice (some ⟨g, off, none⟩) n cap) n xs) (hk : k ≤ n) :
    Sees w size (.slice (some ⟨g, off + k * size, none⟩) (n - k) (cap - k)) (n - k) (xs.drop (k * size)) := by
  obtain ⟨h1, ao', cap', h2, h3, h4, h5⟩ := h
  simp only [Value.slice.injEq, true_and] at h2
  obtain ⟨rfl, rfl⟩ := h2
  refine ⟨by rw [List.length_drop, h1, Nat.sub_mul], _, _, rfl, by omega, by simp, fun ad' had' j u hu => ?_⟩
  simp only [Option.some.injEq] at had'
  subst had'
  rw [List.getElem?_drop] at hu
  have := h5 _ rfl (k * size + j) u hu
  rw [Addr.add_lit] at this ⊢
  rw [Nat.add_assoc]
  exact this
theorem Sees.takeS {w : World} {g off n cap k size : Nat} {xs : List Value} (h : Sees w size (.slice (some ⟨g, off, none⟩) n cap) n xs) (hk : k ≤ n) :
    Sees w size (.slice (some ⟨g, off, none⟩) k cap) k (xs.take (k * size)) := by
  obtain ⟨h1, ao', cap', h2, h3, h4, h5⟩ := h
  simp only [Value.slice.injEq, true_and] at h2
  obtain ⟨rfl, rfl⟩ := h2
  refine ⟨by rw [List.length_take, h1]; exact Nat.min_eq_left (Nat.mul_le_mul_right _ hk), _, _, rfl, by omega, by simp, fun ad' had' j u hu => ?_⟩
  simp only [Option.some.injEq] at had'
  subst had'
  rw [List.getElem?_take] at hu
  split at hu
  · exact h5 _ rfl j u hu
  · cases hu

theorem flat_drop : ∀ (L : List (NodeD × Value)) (k : Nat), (L.flatMap ndC).drop (k * 3) = (L.drop k).flatMap ndC
  | [], k => by simp
  | q :: t, 0 => by simp
  | q :: t, k + 1 => by
    rw [List.flatMap_cons, List.drop_succ_cons, ← flat_drop t k, show (k + 1) * 3 = 3 + k * 3 by omega, ← List.drop_drop]
    rfl
theorem flat_take : ∀ (L : List (NodeD × Value)) (k : Nat), (L.flatMap ndC).take (k * 3) = (L.take k).flatMap ndC
  | [], k => by simp
  | q :: t, 0 => by simp
  | q :: t, k + 1 => by
    rw [List.flatMap_cons, List.take_succ_cons, List.flatMap_cons, ← flat_take t k, show (k + 1) * 3 = (ndC q).length + k * 3 by simp [ndC]; omega, List.take_length_add_append]
theorem Sees.empty (w : World) (size : Nat) (ao : Option Addr) (cap : Nat) (h : ao = none → cap = 0) : Sees w size (.slice ao 0 cap) 0 [] := ⟨by simp, ao, cap, rfl, Nat.zero_le _, fun e => ⟨rfl, h e⟩, fun _ _ j u hu => by simp at hu⟩
theorem len_pos_iff {α : Type} (l : List α) : decide (0 < l.length) = !decide (l.length = 0) := by cases l <;> simp
set_option maxRecDepth 100000 in
/-- A log, its slice and its ancestors. -/
theorem log_at {w : World} {p : Nat} {g : List NodeD} (nd : (g.map (·.key)).Nodup) (S : SmallG g) (h : GraphR w p g) (a : List UInt8) (ha : a.length ≤ 1048576) :
    Calls Try.prog 10 #[.pointer (some ⟨p, 0, none⟩), .string (str a)] w fun e w' => ∃ (ao : Option Addr) (n cp : Nat) (ss : List (List UInt8)), e = .returned (.slice ao n cp) ∧ Anc g a ss ∧ ss.length = n ∧ n ≤ 2097152 ∧ Sees w' 1 (.slice ao n cp) n (Sk (sortT (stampK g) ss)) ∧ Chg [] w w' := by
  refine (log_any nd S h a ha).mono ?_
  rintro e w' ⟨v, ss, rfl, h1, h2, h3, h4⟩
  obtain ⟨ao, cp, rfl, -, -⟩ := h3.shape
  exact ⟨ao, ss.length, cp, ss, rfl, h1, rfl, h2, h3, h4⟩
theorem uniq_at {w : World} {g : List NodeD} {a : List UInt8} {ao : Option Addr} {n cp : Nat} {ss : List (List UInt8)} (hA : Anc g a ss) (hn : ss.length = n) (hl : n ≤ 2097152) (hs : Sees w 1 (.slice ao n cp) n (Sk (sortT (stampK g) ss))) :
    Calls Try.prog 11 #[.slice ao n cp] w fun e w' => ∃ (ao' : Option Addr) (cp' : Nat), e = .returned (.slice ao' n cp') ∧ Sees w' 1 (.slice ao' n cp') n (Sk ss) ∧ Chg [] w w' := by
  have hln : (sortT (stampK g) ss).length = n := by rw [sortT_len]; exact hn
  refine (unique_any w (.slice ao n cp) (sortT (stampK g) ss) (by rw [hln]; exact hs) (by rw [hln]; omega)).mono ?_
  rintro e w' ⟨v', U, rfl, hF, hU, hm⟩
  obtain rfl : U = ss := unique_log hA hU.up hU.nd hm
  obtain ⟨ao', cp', rfl, -⟩ := hF.shape
  subst hn
  exact ⟨ao', cp', rfl, hF.own.sees, hF.chg⟩
theorem anc_at {w : World} {p : Nat} {g : List NodeD} (nd : (g.map (·.key)).Nodup) (S : SmallG g) (h : GraphR w p g) (a : List UInt8) (ha : a.length ≤ 1048576) {ss : List (List UInt8)} (hA : Anc g a ss) :
    Calls Try.prog 12 #[.pointer (some ⟨p, 0, none⟩), .string (str a)] w fun e w' => ∃ v, e = .returned v ∧ Sees w' 1 v ss.length (Sk ss) ∧ Chg [] w w' := by
  refine (ancestors_own nd S h a ha).mono ?_
  rintro e w' ⟨s2, h1, h2, h3, ⟨rfl, rfl⟩ | ⟨K, cap, rfl, hK, hr⟩⟩
  · have := hA.one h1
    subst this
    exact ⟨_, rfl, Sees.nil _ _, h3⟩
  · have := hA.one h1
    subst this
    exact ⟨_, rfl, Own.sees hr, h3⟩
/-- What Is answers. -/
def IsP (g : List NodeD) (x y : List UInt8) (b : Bool) : Prop := (b = true ↔ Rch g y x) ∧ x.length ≤ 1048576 ∧ y.length ≤ 1048576
theorem is_at {w : World} {p : Nat} {g : List NodeD} (nd : (g.map (·.key)).Nodup) (S : SmallG g) (h : GraphR w p g) (x y : List UInt8) (b : Bool) (hb : IsP g x y b) :
    Calls Try.prog 14 #[.pointer (some ⟨p, 0, none⟩), .string (str x), .string (str y)] w fun e w' => e = .returned (.bool b) ∧ Chg [] w w' := by
  refine (is_any nd S h x y hb.2.1 hb.2.2).mono ?_
  rintro e w' ⟨r, rfl, h1, h2⟩
  have : r = b := by rw [Bool.eq_iff_iff, h1, hb.1]
  rw [this]
  exact ⟨rfl, h2⟩
set_option maxHeartbeats 2000000 in
set_option maxRecDepth 100000 in
theorem logs_any (w : World) (v : Value) (L : List (NodeD × Value)) (h : NodesR w v L) (hl : L.length ≤ 2097152) (hk : ∀ q ∈ L, q.1.key.length ≤ 1048576 ∧ q.1.parents.length ≤ 2097152 ∧ ∀ p ∈ q.1.parents, p.length ≤ 1048576)
    (S : SmallG (L.map (·.1))) (key : List UInt8) (hkey : key.length ≤ 1048576) (t : Int) (ht : -9223372036854775808 ≤ t ∧ t ≤ 9223372036854775807) :
    Calls Try.prog 3 #[v, .string (str key), .int .i64 t] w fun e w' => e = .returned (.bool true) ∧ Chg [] w w' := by
  obtain ⟨A, HA⟩ : ∃ A, Hid (key.length = A) := ⟨_, rfl⟩
  have sa : (str key).size = A := by rw [str_size]; exact HA.out
  have kf := fun w1 (c : Chg [] w w1) => few_any w1 v L (h.chg c) hl hk
  have kn := fun w1 (c : Chg [] w w1) => new_any w1 v L (h.chg c) hl hk
  have HH := Lib.hid (And.intro h (And.intro hl (And.intro hk (And.intro S hkey))))
  obtain ⟨ao, cap, rfl, hcap, hno⟩ := h.sees.shape
  obtain ⟨n, HN⟩ : ∃ n, Hid (L.length = n) := ⟨_, rfl⟩
  clear h hl hk S hkey ht
  have k1 := first_any
  go_enter Try.func3, Try.ntmps3
  go_wp2_with (go_at_call 6; refine (k1 _).mono ?_; rintro e w1 ⟨rfl, c1⟩)
  refine (kf w1 c1).mono ?_
  rintro e w2 ⟨r, rfl, c2⟩
  have c2 := c1.nil c2
  clear kf
  cases r with
  | false =>
    clear kn
    go_wp2_with (go_at_call 6; refine (k1 _).mono ?_; rintro e w3 ⟨rfl, c3⟩)
    go_ret
    exact ⟨rfl, c2.nil c3⟩
  | true =>
    by_cases h1 : 1000 < A
    · have t1 : decide ((1000 : Int) < (A : Int)) = true := decide_eq_true (by omega)
      have t1' : decide (1000 < A) = true := decide_eq_true h1
      clear kn h1
      go_wp2_with (go_at_call 6; refine (k1 _).mono ?_; rintro e w3 ⟨rfl, c3⟩)
      go_ret
      exact ⟨rfl, c2.nil c3⟩
    · have t1 : decide ((1000 : Int) < (A : Int)) = false := decide_eq_false (by omega)
      have t1' : decide (1000 < A) = false := decide_eq_false h1
      by_cases h2 : t < 0
      · have t2 : decide (t < 0) = true := decide_eq_true h2
        clear kn h1
        go_wp2_with (go_at_call 6; refine (k1 _).mono ?_; rintro e w3 ⟨rfl, c3⟩)
        go_ret
        exact ⟨rfl, c2.nil c3⟩
      · have t2 : decide (t < 0) = false := decide_eq_false h2
        obtain ⟨tn, rfl⟩ : ∃ tn : Nat, t = (tn : Int) := ⟨t.toNat, by omega⟩
        clear h1 h2
        go_wp2_with fail
        refine (kn w2 c2).mono ?_
        clear kn t1 t1' t2
        rintro e w3 ⟨c3, ⟨hE, p, rfl, hG⟩ | ⟨hE, rfl⟩⟩
        case inr =>
          have c3 := c2.nil c3
          go_wp2_with (go_at_call 6; refine (k1 _).mono ?_; rintro e w4 ⟨rfl, c4⟩)
          go_ret
          exact ⟨rfl, c3.nil c4⟩
        have c3 := c2.nil c3
        have hn500 : n ≤ 500 := by have := newE_len hE; rw [List.length_map, HN.out] at this; exact this
        rw [show L.length = n from HN.out] at hcap hno ⊢
        go_upto_if 48 with (fail)
        go_cut [9] from 49 to 52 (fun s9 wx => ∃ k : Nat, s9 = .int .i64 (k : Int) ∧ (0 < n → k < n) ∧ (n = 0 → k = 0) ∧ wx = w3)
        case first =>
          by_cases hn0 : n = 0
          · have t3 : decide ((0 : Int) < (n : Int)) = false := decide_eq_false (by omega)
            have t3' : decide (0 < n) = false := decide_eq_false (by omega)
            have hz : ¬ 0 < n := by omega
            clear hn0 hn500
            go_wp2_with fail
            go_meet
            exact ⟨0, rfl, fun h => absurd h (by omega), fun _ => rfl, rfl⟩
          · have t3 : decide ((0 : Int) < (n : Int)) = true := decide_eq_true (by omega)
            have t3' : decide (0 < n) = true := decide_eq_true (by omega)
            obtain ⟨k, hk⟩ : ∃ k, k = tn % n := ⟨_, rfl⟩
            have e1 : (tn : Int) % (n : Int) = (k : Int) := by rw [hk]; push_cast; rfl
            have hkn : k < n := by rw [hk]; exact Nat.mod_lt _ (by omega)
            have z0 : ((n : Int) == 0) = false := by simp; omega
            have z1 : (n : Int) ≠ 0 := by omega
            have hz : 0 < n := by omega
            clear hk hn500
            go_wp2_with fail
            go_meet
            exact ⟨k, by first | rfl | (rw [e1]), fun _ => hkn, fun h => absurd h (by omega), rfl⟩
        case rest =>
        obtain ⟨k, rfl, hk1, hk2, hwx⟩ := hcut
        have hwx' := hwx.symm
        clear hwx
        subst hwx'
        go_upto_region 11 with (fail)
        go_cut [10, 11] from 53 to 65 (fun s10 s11 wx => ∃ p2, s10 = .pointer (some ⟨p2, 0, none⟩) ∧ s11 = .int .i64 0 ∧ GraphR wx p2 ((L.drop k ++ L.take k).map (·.1)) ∧ Chg [] w3 wx)
        case first =>
          by_cases hn0 : n = 0
          · have hk0 := hk2 hn0
            subst hk0
            subst hn0
            have hL0 : L = [] := List.length_eq_zero_iff.1 HN.out
            subst hL0
            have hf0 : Fresh w3 (w3.alloc (.cells #[] 35)).drew 35 3 (.slice (some ⟨w3.heap.size, 0, none⟩) 0 0) 0 [] :=
              ⟨Own.made _ _ _, ((Chg.refl [] w3).alloc _).drew, fun b hb => by simp [Value.ownBlock] at hb; omega⟩
            have kn2 : ∀ (v' : Value) (w' : World), Own w' 35 3 v' (0 + 0 + 0) ([] ++ [] ++ []) → Chg [] w3 w' → Calls Try.prog 8 #[v'] w' fun e w'' => Chg [] w' w'' ∧ ∃ p2, e = .returned (.tuple #[.pointer (some ⟨p2, 0, none⟩), .int .i64 0]) ∧ GraphR w'' p2 ((List.drop 0 [] ++ List.take 0 [] : List (NodeD × Value)).map (·.1)) := fun v' w' hO hc => by
              have hN2 : NodesR w' v' ([] : List (NodeD × Value)) := ⟨Own.sees hO, fun q hq => by cases hq⟩
              refine (new_any w' v' [] hN2 (by simp) (fun q hq => by cases hq)).mono ?_
              rintro e w'' ⟨c6, ⟨-, p2, h1, h2⟩ | ⟨h1, -⟩⟩
              · exact ⟨c6, p2, h1, h2⟩
              · exact absurd hE h1
            clear hn500 hk1 hk2
            rcases ao with _ | ad
            · obtain ⟨-, rfl⟩ := hno rfl
              clear hno hcap
              go_region_held3 (fun w' => True) (trivial) (first
                | (go_at_call 8; refine (kn2 v5 w5 (by exact hf5.own) (by exact hf5.chg)).mono ?_; rintro e w6 ⟨c6, p2, rfl, hG2⟩)
                | (refine step_app (by rfl) _ _ 22 (by rfl) sl_N (v := v4) (n := 0 + 0) (xs := [] ++ []) (by exact hf4.own) (by rfl) (vx := .slice none 0 0) (m := 0) (news := []) (by exact Sees.nil _ _) (by rfl) (by simp) (by omega) (by omega) ?_; intro v5 w5 hO5 c5 n5; have hf5 := hf4.app hO5 c5 n5)
                | (refine step_app (by rfl) _ _ 22 (by rfl) sl_N (v := .slice (some ⟨w3.heap.size, 0, none⟩) 0 0) (n := 0) (xs := []) (by exact hf0.own) (by rfl) (vx := .slice none 0 0) (m := 0) (news := []) (by exact Sees.nil _ _) (by rfl) (by simp) (by omega) (by omega) ?_; intro v4 w4 hO4 c4 n4; have hf4 := hf0.app hO4 c4 n4))
              go_wp2_with fail
              go_meet
              exact ⟨p2, rfl, rfl, hG2, hf5.chg.nil c6⟩
            · clear hno
              by_cases hc0 : cap = 0
              · subst hc0
                go_region_held3 (fun w' => True) (trivial) (first
                  | (go_at_call 8; refine (kn2 v5 w5 (by exact hf5.own) (by exact hf5.chg)).mono ?_; rintro e w6 ⟨c6, p2, rfl, hG2⟩)
                  | (refine step_app (by rfl) _ _ 22 (by rfl) sl_N (v := v4) (n := 0 + 0) (xs := [] ++ []) (by exact hf4.own) (by rfl) (vx := .slice (some ad) 0 0) (m := 0) (news := []) (by exact Sees.empty _ _ _ _ (fun h => by cases h)) (by rfl) (by simp) (by omega) (by omega) ?_; intro v5 w5 hO5 c5 n5; have hf5 := hf4.app hO5 c5 n5)
                  | (refine step_app (by rfl) _ _ 22 (by rfl) sl_N (v := .slice (some ⟨w3.heap.size, 0, none⟩) 0 0) (n := 0) (xs := []) (by exact hf0.own) (by rfl) (vx := .slice (some ad) 0 0) (m := 0) (news := []) (by exact Sees.empty _ _ _ _ (fun h => by cases h)) (by rfl) (by simp) (by omega) (by omega) ?_; intro v4 w4 hO4 c4 n4; have hf4 := hf0.app hO4 c4 n4))
                go_wp2_with fail
                go_meet
                exact ⟨p2, rfl, rfl, hG2, hf5.chg.nil c6⟩
              · have hc1 : (cap = 0) = False := by simp; exact hc0
                have hc2 : (0 : Int) ≤ cap := by omega
                go_region_held3 (fun w' => True) (trivial) (first
                  | (go_at_call 8; refine (kn2 v5 w5 (by exact hf5.own) (by exact hf5.chg)).mono ?_; rintro e w6 ⟨c6, p2, rfl, hG2⟩)
                  | (refine step_app (by rfl) _ _ 22 (by rfl) sl_N (v := v4) (n := 0 + 0) (xs := [] ++ []) (by exact hf4.own) (by rfl) (vx := .slice (some ad) 0 cap) (m := 0) (news := []) (by exact Sees.empty _ _ _ _ (fun h => by cases h)) (by rfl) (by simp) (by omega) (by omega) ?_; intro v5 w5 hO5 c5 n5; have hf5 := hf4.app hO5 c5 n5)
                  | (refine step_app (by rfl) _ _ 22 (by rfl) sl_N (v := .slice (some ⟨w3.heap.size, 0, none⟩) 0 0) (n := 0) (xs := []) (by exact hf0.own) (by rfl) (vx := .slice (some (ad.add 0)) 0 cap) (m := 0) (news := []) (by exact Sees.empty _ _ _ _ (fun h => by cases h)) (by rfl) (by simp) (by omega) (by omega) ?_; intro v4 w4 hO4 c4 n4; have hf4 := hf0.app hO4 c4 n4))
                go_wp2_with fail
                go_meet
                exact ⟨p2, rfl, rfl, hG2, hf5.chg.nil c6⟩
          · have hkn := hk1 (by omega)
            have hNR := HH.out.1.chg c3
            rw [show L.length = n from HN.out] at hNR
            obtain ⟨g0, off, cp, hsv, -, -⟩ := hNR.sees.cells (by rw [HN.out]; omega)
            injection hsv with e2 e4 e3
            clear e4
            subst e2 e3
            have hsees : Sees w3 3 (.slice (some ⟨g0, off, none⟩) n cap) n (L.flatMap ndC) := by have := hNR.sees; rw [HN.out] at this; exact this
            have hs1 := Sees.dropS hsees (Nat.le_of_lt hkn)
            have hs2 := Sees.takeS hsees (Nat.le_of_lt hkn)
            have ed : (L.flatMap ndC).drop (k * 3) = (L.drop k).flatMap ndC := flat_drop L k
            have et : (L.flatMap ndC).take (k * 3) = (L.take k).flatMap ndC := flat_take L k
            rw [ed] at hs1
            rw [et] at hs2
            have hlN : L.length = n := HN.out
            have h2l : (L.drop k ++ L.take k).length = n := by rw [List.length_append, List.length_drop, List.length_take]; omega
            have hpm : (L.map (·.1)).Perm ((L.drop k ++ L.take k).map (·.1)) := (rot_perm L k).map _
            have hf0 : Fresh w3 (w3.alloc (.cells #[] 35)).drew 35 3 (.slice (some ⟨w3.heap.size, 0, none⟩) 0 0) 0 [] :=
              ⟨Own.made _ _ _, ((Chg.refl [] w3).alloc _).drew, fun b hb => by simp [Value.ownBlock] at hb; omega⟩
            have hkc : (cap = k) = False := by simp; omega
            have hoc : ∀ l : List (NodeD × Value), (∀ q ∈ l, q ∈ L) → ∀ u ∈ l.flatMap ndC, u.oneCell' = true := fun l hl u hu => by
              obtain ⟨q, hq, hu⟩ := List.mem_flatMap.1 hu
              obtain ⟨ao', c', e5, -, -⟩ := (hNR.pars q (hl q hq)).shape
              simp only [ndC, List.mem_cons, List.not_mem_nil, or_false] at hu
              rcases hu with rfl | rfl | rfl
              · rfl
              · rw [e5]; rfl
              · rfl
            have ho1 := hoc (L.drop k) fun q hq => List.mem_of_mem_drop hq
            have ho2 := hoc (L.take k) fun q hq => List.mem_of_mem_take hq
            have kn2 : ∀ (v' : Value) (w' : World), Own w' 35 3 v' (0 + (n - k) + k) ([] ++ (L.drop k).flatMap ndC ++ (L.take k).flatMap ndC) → Chg [] w3 w' → Calls Try.prog 8 #[v'] w' fun e w'' => Chg [] w' w'' ∧ ∃ p2, e = .returned (.tuple #[.pointer (some ⟨p2, 0, none⟩), .int .i64 0]) ∧ GraphR w'' p2 ((L.drop k ++ L.take k).map (·.1)) := fun v' w' hO hc => by
              have hmem : ∀ q ∈ L.drop k ++ L.take k, q ∈ L := fun q hq => by
                rcases List.mem_append.1 hq with h | h
                · exact List.mem_of_mem_drop h
                · exact List.mem_of_mem_take h
              have hN2 : NodesR w' v' (L.drop k ++ L.take k) := by
                refine ⟨?_, fun q hq => (hNR.pars q (hmem q hq)).chg0 hc⟩
                rw [h2l, List.flatMap_append]
                have := Own.sees hO
                rw [show 0 + (n - k) + k = n by omega, List.nil_append] at this
                exact this
              have hE2 := newE_perm hpm hE
              refine (new_any w' v' (L.drop k ++ L.take k) hN2 (by rw [h2l]; omega) (fun q hq => HH.out.2.2.1 q (hmem q hq))).mono ?_
              rintro e w'' ⟨c6, ⟨-, p2, h1, h2⟩ | ⟨h1, -⟩⟩
              · exact ⟨c6, p2, h1, h2⟩
              · exact absurd hE2 h1
            clear hoc
            have HB := Lib.hid (And.intro hn500 (And.intro hlN h2l))
            have i1 : (k : Int) < n := by omega
            have i2 : (k : Int) ≤ n := by omega
            have i3 : (n : Int) ≤ cap := by omega
            have i4 : (k : Int) ≤ cap := by omega
            have j4 : k ≤ cap := by omega
            have hkn' : k ≤ n := Nat.le_of_lt hkn
            clear hn500 hlN h2l hsees hNR hn0 hk1 hk2
            go_region_held3 (fun w' => True) (trivial) (first
              | (go_at_call 8; refine (kn2 v5 w5 (by exact hf5.own) (by exact hf5.chg)).mono ?_; rintro e w6 ⟨c6, p2, rfl, hG2⟩)
              | (refine step_app (by rfl) _ _ 22 (by rfl) sl_N (v := v4) (n := 0 + (n - k)) (xs := [] ++ (L.drop k).flatMap ndC) (by exact hf4.own) (by rfl) (vx := .slice (some ⟨g0, off, none⟩) k cap) (m := k) (news := (L.take k).flatMap ndC) (by exact hs2.chg0 hf4.chg) (by rfl) (by exact ho2) (by have := HB.out.1; omega) (by have := HB.out.1; omega) ?_; intro v5 w5 hO5 c5 n5; have hf5 := hf4.app hO5 c5 n5)
              | (refine step_app (by rfl) _ _ 22 (by rfl) sl_N (v := .slice (some ⟨w3.heap.size, 0, none⟩) 0 0) (n := 0) (xs := []) (by exact hf0.own) (by rfl) (vx := .slice (some ⟨g0, off + k * 3, none⟩) (n - k) (cap - k)) (m := n - k) (news := (L.drop k).flatMap ndC) (by exact hs1.chg0 hf0.chg) (by rfl) (by exact ho1) (by have := HB.out.1; omega) (by have := HB.out.1; omega) ?_; intro v4 w4 hO4 c4 n4; have hf4 := hf0.app hO4 c4 n4))
            go_wp2_with fail
            go_meet
            exact ⟨p2, rfl, rfl, hG2, hf5.chg.nil c6⟩
        case rest =>
        obtain ⟨p2, rfl, rfl, hG2, c6⟩ := hcut
        have hgood := Lib.hid (newE_good hE)
        have hpm : (L.map (·.1)).Perm ((L.drop k ++ L.take k).map (·.1)) := (rot_perm L k).map _
        have hgood2 := Lib.hid (newE_good (newE_perm hpm hE))
        have HP := Lib.hid hpm
        have hGc := hG.chg c6
        have kl1 := fun w' (c : Chg [] wc w') => log_at hgood.out.1 HH.out.2.2.2.1 (hGc.chg c) key HH.out.2.2.2.2
        have kl2 := fun w' (c : Chg [] wc w') => log_at hgood2.out.1 (HH.out.2.2.2.1.perm hpm) (hG2.chg c) key HH.out.2.2.2.2
        have HE := Lib.hid (And.intro hE (And.intro hk1 (And.intro hk2 (And.intro hn500 (And.intro hcap hno)))))
        clear hpm hE hk1 hk2 hn500 hno
        go_upto_region 14 with (first
          | (go_at_call 9; refine (hT8).mono ?_; rintro e w9 ⟨rfl, c9⟩)
          | (go_at_call 10; refine (kl1 w7 c7).mono ?_; rintro e w8 ⟨ao8, n8, cp8, s8, rfl, hA8, hn8, hl8, hs8, c8⟩; have hT8 : Calls Try.prog 9 #[.slice ao7 n7 cp7, .slice ao8 n8 cp8] w8 fun e w' => e = .returned (.bool true) ∧ Chg [] w8 w' := by
              have e1 := hA8.one (hA7.perm HP.out.symm)
              have e2 := log_perm HP.out hgood.out.1 hA8 hA7
              have e3 : n7 = n8 := by rw [← hn7, ← hn8, e1]
              have e4 : (sortT (stampK (L.map (·.1))) s8).length = n8 := by rw [sortT_len]; exact hn8
              subst e3
              rw [e2] at hs7
              exact (texts_same w8 _ _ (sortT (stampK (L.map (·.1))) s8) (by rw [e4]; exact hs7.chg0 c8) (by rw [e4]; exact hs8) (by rw [e4]; omega)).mono fun e w'' ⟨h3, q, h4⟩ => ⟨h3, by rw [h4]; exact (Chg.refl [] w8).drewN q⟩)
          | (go_at_call 10; refine (kl2 wc (Chg.refl _ _)).mono ?_; rintro e w7 ⟨ao7, n7, cp7, s7, rfl, hA7, hn7, hl7, hs7, c7⟩))
        have cA : Chg [] wc w9 := (c7.nil c8).nil c9
        clear c9 hT8 hs7 hs8 hA7 hA8 hn7 hn8 hl7 hl8 kl2 c7 c8
        go_wp2_with fail
        refine (kl1 w9 cA).mono ?_
        rintro e w10 ⟨aoL, nL, cpL, ss, rfl, hA, hnL, hlL, hsL, c10⟩
        clear kl1
        have cB := cA.nil c10
        have cW := (c3.nil c6).nil cB
        have hG10 := hGc.chg cB
        have kU := fun w' (c : Chg [] w10 w') => uniq_at hA hnL hlL (hsL.chg0 c)
        have kA := fun w' (c : Chg [] w10 w') => anc_at hgood.out.1 HH.out.2.2.2.1 (hG10.chg c) key HH.out.2.2.2.2 hA
        have kH := fun w' (c : Chg [] w10 w') => has_any (hG10.chg c) key HH.out.2.2.2.2
        have kT : ∀ (w' : World) (aoU : Option Addr) (cpU : Nat) (vA : Value), Sees w' 1 (.slice aoU nL cpU) nL (Sk ss) → Sees w' 1 vA ss.length (Sk ss) → Calls Try.prog 9 #[.slice aoU nL cpU, vA] w' fun e w'' => e = .returned (.bool true) ∧ Chg [] w' w'' := fun w' aoU cpU vA h1 h2 =>
          (texts_same w' _ _ ss (by rw [hnL]; exact h1) h2 (by rw [hnL]; omega)).mono fun e w'' ⟨h3, q, h4⟩ => ⟨h3, by rw [h4]; exact (Chg.refl [] w').drewN q⟩
        rw [has_log hA, hnL] at kH
        have y0 : ∀ W, Chg [] w10 W → 0 < nL → ∃ gL offL, aoL = some ⟨gL, offL, none⟩ ∧ W.cell? ⟨gL, offL, none⟩ = some (.string (str key)) := fun W c h0 => by
          obtain ⟨gL, offL, cpL', e, -, hc⟩ := (hsL.chg0 c).at1 h0
          injection e with e1
          refine ⟨gL, offL, e1, ?_⟩
          have := hc 0 h0
          have hpos : 0 < (sortT (stampK (L.map (·.1))) ss).length := by rw [sortT_len, hnL]; exact h0
          have hf := first_log hgood.out hA hpos
          have hg : (Sk (sortT (stampK (L.map (·.1))) ss))[0]? = some (.string (str key)) := by rw [Sk, List.getElem?_map, List.getElem?_eq_getElem hpos, hf]; rfl
          rw [hg] at this
          exact this
        have HC := Lib.hid (And.intro cW (And.intro hG10 HE))
        clear hA hnL hlL hsL cA c10 cB cW c3 c6 hG10 HE hGc hG2 hG
        go_upto_region 15 with (fail)
        go_cut [120] from 85 to 120 (fun s120 wx => s120 = .bool false ∧ Chg [] w10 wx)
        case first =>
          rcases Nat.eq_zero_or_pos nL with h0 | h0
          · subst h0
            have kH : ∀ w', Chg [] w10 w' → Calls Try.prog 13 #[.pointer (some ⟨p, 0, none⟩), .string (str key)] w' fun e w'' => e = .returned (.bool false) ∧ Chg [] w' w'' := kH
            clear y0
            go_wp2_with (first
              | (go_at_call 13; refine (kH w14 (((c11.nil c12).nil c13).nil c14)).mono ?_; rintro e w15 ⟨rfl, c15⟩)
              | (go_at_call 11; refine (kU w13 ((c11.nil c12).nil c13)).mono ?_; rintro e w14 ⟨aoV, cpV, rfl, hsV, c14⟩)
              | (go_at_call 9; refine (kT w12 _ _ _ (by exact hsU.chg0 c12) (by exact hsA)).mono ?_; rintro e w13 ⟨rfl, c13⟩)
              | (go_at_call 12; refine (kA w11 c11).mono ?_; rintro e w12 ⟨vA, rfl, hsA, c12⟩)
              | (go_at_call 11; refine (kU w10 (Chg.refl _ _)).mono ?_; rintro e w11 ⟨aoU, cpU, rfl, hsU, c11⟩))
            go_meet
            exact ⟨rfl, (((c11.nil c12).nil c13).nil c14).nil c15⟩
          · have kH : ∀ w', Chg [] w10 w' → Calls Try.prog 13 #[.pointer (some ⟨p, 0, none⟩), .string (str key)] w' fun e w'' => e = .returned (.bool true) ∧ Chg [] w' w'' := by rw [decide_eq_true h0] at kH; exact kH
            obtain ⟨gL, offL, rfl, -⟩ := y0 w10 (Chg.refl _ _) h0
            have y1 : ∀ W, Chg [] w10 W → W.cell? ⟨gL, offL, none⟩ = some (.string (str key)) := fun W c => by
              obtain ⟨g', o', e, h⟩ := y0 W c h0
              injection e with e
              rw [e]; exact h
            have t4 : decide ((0 : Int) < (nL : Int)) = true := decide_eq_true (by omega)
            have t4' : decide (0 < nL) = true := decide_eq_true h0
            clear y0
            go_wp2_with (first
              | (go_at_call 13; refine (kH w14 (((c11.nil c12).nil c13).nil c14)).mono ?_; rintro e w15 ⟨rfl, c15⟩; have y15 := y1 w15 ((((c11.nil c12).nil c13).nil c14).nil c15))
              | (go_at_call 11; refine (kU w13 ((c11.nil c12).nil c13)).mono ?_; rintro e w14 ⟨aoV, cpV, rfl, hsV, c14⟩)
              | (go_at_call 9; refine (kT w12 _ _ _ (by exact hsU.chg0 c12) (by exact hsA)).mono ?_; rintro e w13 ⟨rfl, c13⟩)
              | (go_at_call 12; refine (kA w11 c11).mono ?_; rintro e w12 ⟨vA, rfl, hsA, c12⟩)
              | (go_at_call 11; refine (kU w10 (Chg.refl _ _)).mono ?_; rintro e w11 ⟨aoU, cpU, rfl, hsU, c11⟩))
            go_meet
            exact ⟨rfl, (((c11.nil c12).nil c13).nil c14).nil c15⟩
        case rest =>
        obtain ⟨rfl, cC⟩ := hcut
        clear kU kA kH kT y0
        have cD : Hid (Chg [] w wc) := Lib.hid (HC.out.1.nil cC)
        have kI : ∀ w', Chg [] wc w' → ∀ (x y : List UInt8) (b : Bool), IsP (L.map (·.1)) x y b → Calls Try.prog 14 #[.pointer (some ⟨p, 0, none⟩), .string (str x), .string (str y)] w' fun e w'' => e = .returned (.bool b) ∧ Chg [] w' w'' := fun w' c x y b hb =>
          is_at hgood.out.1 HH.out.2.2.2.1 ((HC.out.2.1.chg cC).chg c) x y b hb
        clear cC
        obtain ⟨W0, hW0⟩ : ∃ W, W = wc := ⟨_, rfl⟩
        rw [← hW0]
        rw [← hW0] at cD kI
        clear hW0
        go_wp2_with fail
        go_loopg [13, 14] n (fun gk (v13 v14 : Value) wr => ∃ i : Nat, v13 = .int .i64 (i : Int) ∧ i + gk = n ∧ Chg [] W0 wr)
        case atStart => exact ⟨0, rfl, by omega, Chg.refl _ _⟩
        case round =>
          obtain ⟨i, rfl, hik, ci⟩ := hrel
          by_cases hin : i < n
          · have t1 : decide ((i : Int) < (n : Int)) = true := decide_eq_true (by omega)
            have t1' : decide (i < n) = true := decide_eq_true hin
            have hil : i < L.length := by rw [HN.out]; exact hin
            have hx : L[i].1 ∈ L.map (·.1) := List.mem_map.2 ⟨_, List.getElem_mem hil, rfl⟩
            have hbd := HH.out.2.2.1 _ (List.getElem_mem hil)
            have hcell : ∀ W, Chg [] W0 W → ∃ g1 off1 aq cq, ao = some ⟨g1, off1, none⟩ ∧ L[i].2 = .slice aq L[i].1.parents.length cq ∧ W.cell? ⟨g1, off1 + i * 3, none⟩ = some (.string (str L[i].1.key)) ∧ W.cell? ⟨g1, off1 + i * 3 + 1, none⟩ = some (.slice aq L[i].1.parents.length cq) := fun W c => by
              obtain ⟨g1, off1, cap1, aq, cq, hs, -, e2, x0, x1, -, -⟩ := (HH.out.1.chg (cD.out.nil c)).cells hil
              injection hs with hs1
              exact ⟨g1, off1, aq, cq, hs1, e2, x0, x1⟩
            have hpar := fun W (c : Chg [] W0 W) => (HH.out.1.pars _ (List.getElem_mem hil)).chg0 (cD.out.nil c)
            obtain ⟨g1, off1, aq, cq, rfl, e2, -, -⟩ := hcell W0 (Chg.refl _ _)
            rw [e2] at hpar
            have hcell : ∀ W, Chg [] W0 W → W.cell? ⟨g1, off1 + i * 3, none⟩ = some (.string (str L[i].1.key)) ∧ W.cell? ⟨g1, off1 + i * 3 + 1, none⟩ = some (.slice aq L[i].1.parents.length cq) := fun W c => by
              obtain ⟨g', o', aq', cq', h1, h2, h3, h4⟩ := hcell W c
              injection h1 with h1
              injection h1 with h5 h6
              subst h5 h6
              rw [e2] at h2
              injection h2 with h7 _ h8
              subst h7 h8
              exact ⟨h3, h4⟩
            clear e2
            generalize L[i].1 = nd at *
            obtain ⟨ky, ps, st⟩ := nd
            simp only at hcell hpar hbd
            obtain ⟨B, hBl⟩ : ∃ B, B = ps.length := ⟨_, rfl⟩
            rw [← hBl] at hcell hpar
            have hi1 : (i : Int) < n := by omega
            have HI := Lib.hid (And.intro hik (And.intro hx (And.intro hbd hBl)))
            have HPR := Lib.hid hpar
            clear hik hx hbd hBl hpar
            have y1 := (hcell wr ci).2
            go_wp2_with fail
            obtain ⟨G, rfl⟩ : ∃ G, G = gk := ⟨_, rfl⟩
            obtain ⟨W1, hW1⟩ : ∃ W, W = wr := ⟨_, rfl⟩
            rw [← hW1]
            rw [← hW1] at ci
            clear y1 hW1
            go_loopg [14] B (fun gk (v14 : Value) wr => ∃ j : Nat, v14 = .int .i64 (j : Int) ∧ j + gk = B ∧ Chg [] W0 wr)
            case atStart => exact ⟨0, rfl, by omega, ci⟩
            case round =>
              clear ci
              obtain ⟨j, rfl, hjk, cj⟩ := hrel
              have y1 := (hcell wr cj).2
              by_cases hjB : j < B
              · have r1 : decide ((j : Int) < (B : Int)) = true := decide_eq_true (by omega)
                have r1' : decide (j < B) = true := decide_eq_true hjB
                have hjl : j < ps.length := by rw [← HI.out.2.2.2]; exact hjB
                have hpc := HPR.out wr cj
                rw [HI.out.2.2.2] at hpc
                obtain ⟨g2, o2, hao2, hc2⟩ := Sk_cells hpc hjl
                clear hpc
                subst hao2
                have hpm : ps[j] ∈ ps := List.getElem_mem hjl
                have hI1 : IsP (L.map (·.1)) ky ps[j] false := ⟨⟨fun h => (by cases h), fun h => absurd h (not_back hgood.out HI.out.2.1 hpm)⟩, HI.out.2.2.1.1, HI.out.2.2.1.2.2 _ hpm⟩
                have hI2 : IsP (L.map (·.1)) ps[j] ky true := ⟨⟨fun _ => up_rch hgood.out HI.out.2.1 hpm, fun _ => rfl⟩, HI.out.2.2.1.2.2 _ hpm, HI.out.2.2.1.1⟩
                generalize ps[j] = pj at *
                have hj1 : (j : Int) < B := by omega
                have HJ := Lib.hid hjk
                clear hjk hpm hjl hin
                go_upto_region 23 with (fail)
                obtain ⟨X, hnX, F, x0, hF0, hF, hX⟩ := fam0 wr
                have z0 := fun u => (hcell (F u) (cj.nil (hF u))).1
                have z1 := fun u => (hcell (F u) (cj.nil (hF u))).2
                have z2 := fun u => (hF u).cell_some hc2 (by simp)
                refine wp_fam F (by kernel_rfl) (by kernel_rfl) x0 hF0 ?_
                repeat (go_big_quiet_step (exact fam_call hF hX (kI _ (cj.nil (hF _)) _ _ _ (by assumption))))
                refine wpQuiet_nil ?_
                rintro w' ⟨x1, rfl⟩
                have cF := hF x1
                clear hF hX hF0 z0 z1 z2 hI1 hI2 hc2
                generalize F x1 = w2 at *
                go_wp2_with fail
                go_roundg (gk - 1)
                case measure => have := HJ.out; omega
                case rel => exact ⟨j + 1, congrArg (Value.int .i64) (wN (by push_cast; rfl) (by have := HI.out.2.2.2; have := HI.out.2.2.1.2.1; omega)), by have := HJ.out; omega, cj.nil cF⟩
              · have r1 : decide ((j : Int) < (B : Int)) = false := decide_eq_false (by omega)
                have r1' : decide (j < B) = false := decide_eq_false hjB
                clear hjk hjB
                go_wp2_with fail
                obtain ⟨hik, -⟩ := HI.out
                go_roundg (G - 1)
                case measure => omega
                case rel => exact ⟨i + 1, congrArg (Value.int .i64) (wN (by push_cast; rfl) (by have := HC.out.2.2.out.2.2.2.1; omega)), by omega, cj⟩
          · have t1 : decide ((i : Int) < (n : Int)) = false := decide_eq_false (by omega)
            have t1' : decide (i < n) = false := decide_eq_false hin
            clear hik
            go_wp2_with (go_at_call 6; refine (k1 _).mono ?_; rintro e w9 ⟨rfl, c9⟩)
            go_ret
            exact ⟨rfl, (cD.out.nil ci).nil c9⟩
end Go.Proofs.Ytphmplbcegibjaa
