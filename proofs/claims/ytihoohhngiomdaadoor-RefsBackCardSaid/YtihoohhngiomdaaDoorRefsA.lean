/- Contracts of package refs: Compare, kind; aqulaw21.few. No statement of the seat is proved here. -/
import Derived.Test.YtihoohhngiomdaaDoorWordK
import Derived.Test.YtihoohhngiomdaaDoorValid
import Derived.Sort.Walk0
import Derived.Laws.Cover1
set_option linter.unusedVariables false
namespace Go.Aq
open Go.RowKit
/-- The order of texts, as a number. -/
def cmpB (a b : List UInt8) : Int := if a < b then -1 else if b < a then 1 else 0
theorem cmpB_self (a : List UInt8) : cmpB a a = 0 := by unfold cmpB; rw [if_neg (List.lt_irrefl a), if_neg (List.lt_irrefl a)]
theorem cmpB_zero (a b : List UInt8) : cmpB a b = 0 ↔ a = b := by
  constructor
  · intro h
    unfold cmpB at h
    split at h
    · omega
    · split at h
      · omega
      · rename_i h1 h2
        exact List.le_antisymm (List.not_lt.1 h2) (List.not_lt.1 h1)
  · rintro rfl; exact cmpB_self a
theorem cmpB_anti (a b : List UInt8) : cmpB a b = - cmpB b a := by
  unfold cmpB
  by_cases h1 : a < b
  · rw [if_pos h1, if_neg (List.lt_asymm h1), if_pos h1]
  · by_cases h2 : b < a
    · rw [if_neg h1, if_pos h2, if_pos h2]; rfl
    · rw [if_neg h1, if_neg h2, if_neg h2, if_neg h1]; rfl
theorem cmpB_range (a b : List UInt8) : cmpB a b = -1 ∨ cmpB a b = 0 ∨ cmpB a b = 1 := by
  unfold cmpB; split
  · left; rfl
  · split
    · right; right; rfl
    · right; left; rfl
theorem cmpB_le (a b : List UInt8) : cmpB a b ≤ 0 ↔ a ≤ b := by
  unfold cmpB
  by_cases h1 : a < b
  · rw [if_pos h1]; exact ⟨fun _ => List.le_of_lt h1, fun _ => by decide⟩
  · by_cases h2 : b < a
    · rw [if_neg h1, if_pos h2]; exact ⟨fun h => by omega, fun h => absurd h2 (List.not_lt.2 h)⟩
    · rw [if_neg h1, if_neg h2]; exact ⟨fun _ => List.not_lt.1 h2, fun _ => by decide⟩
theorem cmpB_trans (a b c : List UInt8) (h1 : cmpB a b ≤ 0) (h2 : cmpB b c ≤ 0) : cmpB a c ≤ 0 := (cmpB_le a c).2 (List.le_trans ((cmpB_le a b).1 h1) ((cmpB_le b c).1 h2))
/-- A name for a commit. -/
structure RefD where
  tag : Bool
  name : List UInt8
  key : List UInt8
instance : Inhabited RefD := ⟨⟨false, [], []⟩⟩
def rfCells (r : RefD) : List Value := [.bool r.tag, .string (str r.name), .string (str r.key)]
def rfV (r : RefD) : Value := .agg #[.bool r.tag, .string (str r.name), .string (str r.key)]
def Rfs (l : List RefD) : List Value := l.flatMap rfCells
theorem Rfs_len (l : List RefD) : (Rfs l).length = l.length * 3 := by
  induction l with
  | nil => rfl
  | cons a t ih => simp only [Rfs, List.flatMap_cons, List.length_append, rfCells, List.length_cons, List.length_nil, Nat.add_mul] at ih ⊢; omega
theorem Rfs_at : ∀ (l : List RefD) (j : Nat) (h : j < l.length), (Rfs l)[j * 3]? = some (.bool (l[j]'h).tag) ∧ (Rfs l)[j * 3 + 1]? = some (.string (str (l[j]'h).name)) ∧ (Rfs l)[j * 3 + 2]? = some (.string (str (l[j]'h).key))
  | [], j, h => by simp at h
  | a :: t, 0, h => by simp [Rfs, rfCells]
  | a :: t, j + 1, h => by
    have ih := Rfs_at t j (by simpa using h)
    have e : Rfs (a :: t) = rfCells a ++ Rfs t := rfl
    have e3 : (rfCells a).length = 3 := rfl
    simp only [e, List.getElem_cons_succ]
    rw [List.getElem?_append_right (by rw [e3]; omega), List.getElem?_append_right (by rw [e3]; omega), List.getElem?_append_right (by rw [e3]; omega), e3]
    rw [show (j + 1) * 3 - 3 = j * 3 by omega, show (j + 1) * 3 + 1 - 3 = j * 3 + 1 by omega, show (j + 1) * 3 + 2 - 3 = j * 3 + 2 by omega]
    exact ih
def cmpR (a b : RefD) : Int := if a.tag = b.tag then cmpB a.name b.name else if a.tag then 1 else -1
end Go.Aq
namespace Go.Proofs.YtihoohhngiomdaaDoor
open Go.RowKit Go.Aq Go.Aq.Wd
theorem isNaN_any (a : List UInt8) (w : World) : Calls Tryd.prog 31 #[.string (str a)] w fun e w' => e = .returned (.bool false) ∧ w' = w := by
  have e1 : ((str a).toList != (str a).toList) = false := by simp
  go_enter Tryd.func31, Tryd.ntmps31
  go_wp2_with fail
  go_ret
  exact ⟨rfl, rfl⟩
set_option maxHeartbeats 400000 in
theorem cmpS_any (a b : List UInt8) (w : World) : Calls Tryd.prog 17 #[.string (str a), .string (str b)] w fun e w' => e = .returned (.int .i64 (cmpB a b)) ∧ w' = w := by
  have hl : Op.bytesLess (str a).toList (str b).toList = decide (a < b) := by rw [Proofs.bytesLess_eq, str_toList, str_toList]
  have he : ((str a).toList == (str b).toList) = decide (a = b) := str_eq a b
  have n1 := isNaN_any a
  have n2 := isNaN_any b
  have hz := cmpB_zero a b
  have hc : cmpB a b = if a < b then -1 else if b < a then 1 else 0 := rfl
  by_cases h1 : a < b
  · rw [if_pos h1] at hc
    rw [decide_eq_true h1] at hl
    rw [hc]
    clear h1 he hz hc
    go_enter Tryd.func17, Tryd.ntmps17
    go_wp2_with fail
    refine (n1 _).mono ?_
    rintro e w1 ⟨rfl, rfl⟩
    go_wp2_with fail
    refine (n2 _).mono ?_
    rintro e w2 ⟨rfl, rfl⟩
    go_wp2_with fail
    go_ret
    exact ⟨rfl, rfl⟩
  · rw [if_neg h1] at hc
    rw [decide_eq_false h1] at hl
    by_cases h2 : a = b
    · rw [hz.2 h2]
      rw [decide_eq_true h2] at he
      clear h1 h2 hz hc
      go_enter Tryd.func17, Tryd.ntmps17
      go_wp2_with fail
      refine (n1 _).mono ?_
      rintro e w1 ⟨rfl, rfl⟩
      go_wp2_with fail
      refine (n2 _).mono ?_
      rintro e w2 ⟨rfl, rfl⟩
      go_wp2_with fail
      go_ret
      exact ⟨rfl, rfl⟩
    · rw [decide_eq_false h2] at he
      have h3 : b < a := by
        by_cases h3 : b < a
        · exact h3
        · exact absurd (List.le_antisymm (List.not_lt.1 h3) (List.not_lt.1 h1)) h2
      rw [if_pos h3] at hc
      rw [hc]
      clear h1 h2 h3 hz hc
      go_enter Tryd.func17, Tryd.ntmps17
      go_wp2_with fail
      refine (n1 _).mono ?_
      rintro e w1 ⟨rfl, rfl⟩
      go_wp2_with fail
      refine (n2 _).mono ?_
      rintro e w2 ⟨rfl, rfl⟩
      go_wp2_with fail
      go_ret
      exact ⟨rfl, rfl⟩
set_option maxHeartbeats 1000000 in
theorem compare_any (a b : RefD) (w : World) : Calls Tryd.prog 7 #[rfV a, rfV b] w fun e w' => e = .returned (.int .i64 (cmpR a b)) ∧ Chg [] w w' := by
  obtain ⟨ta, na, ka⟩ := a
  obtain ⟨tb, nb, kb⟩ := b
  unfold rfV
  have hc := cmpS_any na nb
  have hz := cmpB_range na nb
  have hR : cmpR ⟨ta, na, ka⟩ ⟨tb, nb, kb⟩ = if ta = tb then cmpB na nb else if ta then 1 else -1 := rfl
  have HR := Lib.hid hR
  clear hR
  generalize cmpB na nb = c at *
  have hw := fun (w : World) => ((Chg.refl [] w).alloc (.cells #[.bool ta, .string (str na), .string (str ka)] 24)).alloc (.cells #[.bool tb, .string (str nb), .string (str kb)] 24)
  cases ta <;> cases tb
  · go_enter Tryd.func7, Tryd.ntmps7
    go_wp2_with fail
    refine (hc _).mono ?_
    rintro e w1 ⟨rfl, rfl⟩
    go_wp2_with fail
    go_ret
    exact ⟨by rw [HR.out]; rfl, hw _⟩
  · go_enter Tryd.func7, Tryd.ntmps7
    go_wp2_with fail
    go_ret
    exact ⟨by rw [HR.out]; rfl, hw _⟩
  · go_enter Tryd.func7, Tryd.ntmps7
    go_wp2_with fail
    go_ret
    exact ⟨by rw [HR.out]; rfl, hw _⟩
  · go_enter Tryd.func7, Tryd.ntmps7
    go_wp2_with fail
    refine (hc _).mono ?_
    rintro e w1 ⟨rfl, rfl⟩
    go_wp2_with fail
    go_ret
    exact ⟨by rw [HR.out]; rfl, hw _⟩
theorem kind_any (a : RefD) (w : World) : Calls Tryd.prog 22 #[rfV a] w fun e w' => e = .returned (.string (str (if a.tag then [116, 97, 103] else [98, 114, 97, 110, 99, 104]))) ∧ Chg [] w w' := by
  obtain ⟨ta, na, ka⟩ := a
  unfold rfV
  have hw := fun (w : World) => (Chg.refl [] w).alloc (.cells #[.bool ta, .string (str na), .string (str ka)] 24)
  cases ta
  all_goals
    go_enter Tryd.func22, Tryd.ntmps22
    go_wp2_with fail
    go_ret
    exact ⟨rfl, hw _⟩
/-- How long names and keys are together. -/
def bulkR (l : List RefD) : Nat := (l.map fun r => r.name.length + r.key.length).sum
/-- What few answers. -/
def fewN : Nat → List RefD → Nat
  | n, [] => n
  | n, r :: t => fewN (min (n + min r.name.length 20001 + min r.key.length 20001) 80000) t
def fewL (l : List RefD) : Bool := decide (l.length ≤ 120) && decide (fewN 0 (l.take 120) ≤ 20000)
theorem fewN_snoc (l : List RefD) (n : Nat) (r : RefD) : fewN n (l ++ [r]) = min (fewN n l + min r.name.length 20001 + min r.key.length 20001) 80000 := by
  induction l generalizing n with
  | nil => rfl
  | cons a t ih => rw [List.cons_append, fewN, fewN, ih]
theorem fewN_le (l : List RefD) (n : Nat) (h : n ≤ 80000) : fewN n l ≤ 80000 := by
  induction l generalizing n with
  | nil => exact h
  | cons a t ih => rw [fewN]; exact ih _ (by omega)
theorem fewN_ge (l : List RefD) (n : Nat) (h : fewN n l ≤ 20000) : n ≤ 20000 ∧ ∀ r ∈ l, r.name.length ≤ 20000 ∧ r.key.length ≤ 20000 := by
  induction l generalizing n with
  | nil => exact ⟨h, by simp⟩
  | cons a t ih =>
    rw [fewN] at h
    obtain ⟨h1, h2⟩ := ih _ h
    refine ⟨by omega, fun r hr => ?_⟩
    rcases List.mem_cons.1 hr with rfl | hr
    · omega
    · exact h2 r hr
theorem fewL_parts {l : List RefD} (h : fewL l = true) : l.length ≤ 120 ∧ ∀ r ∈ l, r.name.length ≤ 20000 ∧ r.key.length ≤ 20000 := by
  simp only [fewL, Bool.and_eq_true, decide_eq_true_eq] at h
  have h2 := (fewN_ge _ _ h.2).2
  rw [List.take_of_length_le h.1] at h2
  exact ⟨h.1, h2⟩
theorem Rfs_cells {w : World} {g off n : Nat} {l : List RefD} (hl : l.length = n) (hc : ∀ j, j < n * 3 → w.cell? ⟨g, off + j, none⟩ = (Rfs l)[j]?) (j : Nat) (h : j < l.length) :
    w.cell? ⟨g, off + j * 3, none⟩ = some (.bool (l[j]'h).tag) ∧ w.cell? ⟨g, off + j * 3 + 1, none⟩ = some (.string (str (l[j]'h).name)) ∧ w.cell? ⟨g, off + j * 3 + 2, none⟩ = some (.string (str (l[j]'h).key)) := by
  obtain ⟨h0, h1, h2⟩ := Rfs_at l j h
  have e0 := hc (j * 3) (by omega)
  have e1 := hc (j * 3 + 1) (by omega)
  have e2 := hc (j * 3 + 2) (by omega)
  rw [h0] at e0; rw [h1] at e1; rw [h2] at e2
  exact ⟨e0, e1, e2⟩
set_option maxHeartbeats 2000000 in
theorem few_any (w : World) (v : Value) (l : List RefD) (hv : Sees w 3 v l.length (Rfs l)) (hl : l.length ≤ 9223372036854775807) (hx : ∀ r ∈ l, r.name.length ≤ 9223372036854775807 ∧ r.key.length ≤ 9223372036854775807) :
    Calls Tryd.prog 6 #[v] w fun e w' => e = .returned (.bool (fewL l)) ∧ ∃ q, w' = w.drewN q := by
  obtain ⟨nl, HL⟩ : ∃ n, Hid (l.length = n) := ⟨_, rfl⟩
  rw [HL.out] at hv hl
  obtain ⟨ao, cap, rfl, hcap, hno⟩ := hv.shape
  have HNO := Lib.hid hno; clear hno
  go_enter Tryd.func6, Tryd.ntmps6
  go_wp2_with fail
  go_loopg [3, 4] 120 (fun k vn vi wr => ∃ (i m : Nat), vn = .int .i64 m ∧ vi = .int .i64 i ∧ i + k = 120 ∧ i ≤ nl ∧ m ≤ 80000 ∧ Hid (m = fewN 0 (l.take i)) ∧ ∃ q, wr = w.drewN q)
  case atStart => exact ⟨0, 0, rfl, rfl, rfl, by omega, by omega, rfl, 0, rfl⟩
  case round =>
    obtain ⟨i, m, rfl, rfl, hik, hin, hm, HM, q, rfl⟩ := hrel
    have hmb : (m : Int) ≤ 80000 := by omega
    by_cases hi : i < nl ∧ i < 120
    · obtain ⟨h1, h2⟩ := hi
      have t1 : decide ((i : Int) < (nl : Int)) = true := by simp; omega
      have t1' : decide (i < nl) = true := by simp; omega
      have t2 : decide ((i : Int) < 120) = true := by simp; omega
      have t2' : decide (i < 120) = true := by simp; omega
      have hil : i < l.length := by rw [HL.out]; exact h1
      obtain ⟨g, off, cap', hs, -, -, hcell⟩ := hv.cells (by omega)
      simp only [Value.slice.injEq, true_and] at hs
      obtain ⟨rfl, rfl⟩ := hs
      obtain ⟨x0, x1, x2⟩ := Rfs_cells HL.out hcell i hil
      have hts := List.take_succ_eq_append_getElem hil
      have hb := hx _ (List.getElem_mem hil)
      clear x0 hcell
      generalize l[i] = r at *
      obtain ⟨ta, na, ka⟩ := r
      simp only at x1 x2 hb
      obtain ⟨A, HA⟩ : ∃ A, Hid (na.length = A) := ⟨_, rfl⟩
      obtain ⟨B, HB⟩ : ∃ B, Hid (ka.length = B) := ⟨_, rfl⟩
      have s1 : (str na).size = A := by rw [str_size]; exact HA.out
      have s2 : (str ka).size = B := by rw [str_size]; exact HB.out
      have hAb : A ≤ 9223372036854775807 := by rw [← HA.out]; exact hb.1
      have hBb : B ≤ 9223372036854775807 := by rw [← HB.out]; exact hb.2
      obtain ⟨m2, HM2⟩ : ∃ m2, Hid (min (m + min A 20001 + min B 20001) 80000 = m2) := ⟨_, rfl⟩
      have em : min ((m : Int) + min (A : Int) 20001 + min (B : Int) 20001) 80000 = (m2 : Int) := by have := HM2.out; omega
      have eA : 0 ≤ min (A : Int) 20001 ∧ min (A : Int) 20001 ≤ 20001 := by omega
      have eB : 0 ≤ min (B : Int) 20001 ∧ min (B : Int) 20001 ≤ 20001 := by omega
      have HN : Hid (m2 = fewN 0 (l.take (i + 1))) := by
        show m2 = _
        rw [hts, fewN_snoc, ← HM.out, ← HM2.out, HA.out, HB.out]
      have HP := Lib.hid (And.intro hik hin)
      have hib : (i : Int) ≤ 120 := by omega
      clear hb hts hik hil
      go_wp2_with fail
      go_quiet (fail)
      go_wp2_with fail
      go_roundg (gk - 1)
      case measure => have := HP.out; omega
      case rel => exact ⟨i + 1, m2, rfl, by go_num, by have := HP.out; omega, by omega, by have := HM2.out; omega, HN, q + nq, rfl⟩
    · have hh : (decide ((i : Int) < (nl : Int)) = false ∧ decide (i < nl) = false) ∨ (decide ((i : Int) < (nl : Int)) = true ∧ decide (i < nl) = true ∧ decide ((i : Int) < 120) = false ∧ decide (i < 120) = false) := by
        simp only [decide_eq_true_eq, decide_eq_false_iff_not]; omega
      have ht : l.take i = l.take 120 := by
        by_cases h : i < nl
        · rw [show i = 120 by omega]
        · rw [List.take_of_length_le (by rw [HL.out]; omega), List.take_of_length_le (by rw [HL.out]; omega)]
      have HF : Hid (fewL l = (decide (nl ≤ 120) && decide (m ≤ 20000))) := by
        show fewL l = _
        unfold fewL
        rw [HL.out, ← ht, ← HM.out]
      have e1 : decide ((nl : Int) ≤ 120) = decide (nl ≤ 120) := by simp; omega
      have e2 : decide ((m : Int) ≤ 20000) = decide (m ≤ 20000) := by simp; omega
      clear hi ht hik
      generalize decide (nl ≤ 120) = b1 at *
      generalize decide (m ≤ 20000) = b2 at *
      rcases hh with ⟨t1, t1'⟩ | ⟨t1, t1', t2, t2'⟩
      all_goals
        cases b1
        all_goals
          go_wp2_with fail
          go_ret
          exact ⟨by rw [HF.out]; rfl, q, rfl⟩
end Go.Proofs.YtihoohhngiomdaaDoor
