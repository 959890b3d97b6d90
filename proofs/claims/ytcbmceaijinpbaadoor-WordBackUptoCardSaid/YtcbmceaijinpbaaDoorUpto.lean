/- The bound of the second form: what it says of each argument, and the openers that hand it on. No statement of the seat is proved here. -/
import Derived.Test.YtcbmceaijinpbaaDoorRows
import Derived.Test.YtcbmceaijinpbaaDoorOpenStrs
set_option linter.unusedVariables false
namespace Go.Proofs.YtcbmceaijinpbaaDoor
open Go.RowKit Go.Aq Go.Aq.Wd
theorem bulk_part {H : Type} {d : DataW H} {l : List (DataW H)} (h : d ∈ l) : Rows.uptoBulk d ≤ Rows.uptoBulkAll l := by
  induction l with
  | nil => cases h
  | cons x r ih =>
    simp only [Rows.uptoBulkAll]
    rcases List.mem_cons.1 h with e | e
    · subst e; omega
    · have := ih e; omega
theorem bulk_pos {H : Type} (d : DataW H) : 1 ≤ Rows.uptoBulk d := by
  cases d with
  | lit l => cases l <;> simp [Rows.uptoBulk]
  | _ => simp [Rows.uptoBulk]
theorem bulk_len {H : Type} (l : List (DataW H)) : l.length ≤ Rows.uptoBulkAll l := by
  induction l with
  | nil => simp
  | cons x r ih => have := bulk_pos x; simp only [Rows.uptoBulkAll, List.length_cons]; omega
theorem bulk_elem {H : Type} {d : DataW H} {elems spare : List (DataW H)} (h : d ∈ elems) : Rows.uptoBulk d ≤ Rows.uptoBulk (.slice elems spare) := by
  have := bulk_part h
  simp only [Rows.uptoBulk]; omega
theorem bulk_all {H : Type} {l : List (DataW H)} (hk : Rows.uptoSmall H l = true) : Rows.uptoBulkAll l ≤ 1048576 := of_decide_eq_true hk
section
open Go.ChangeShapes Go.WideShapes Go.ChangeAt
open Go.ChangeMaps (open_string shut_string)
variable {H : Type} {enc : TypeId × Value → H} {P : Program} {W : World} {base : Nat} {t e : TypeId} {v : Value} {d : DataW H} {ps : List MemPlace}
/-- A slice whose elements each read as f of something that R relates to its datum. -/
theorem open_list_d {α : Type} [Inhabited α] (f : α → List Value) (C : Nat) (R : α → DataW H → Prop) (ht : P.underlying t = some (.slice e)) (hC : P.cellsOf e = C) (hf : ∀ a, (f a).length = C) (hC0 : 0 < C)
    (hel : ∀ (n : Nat) (cs : List Value) (y : DataW H × List MemPlace), cs.length = C → DataW.trod enc P W 0 (fun _ => true) true n e cs = some y → ∃ a, f a = cs ∧ R a y.1)
    (hv : Value.okWide P W .any base t v) (h : DataW.Trod enc P W 0 (fun _ => true) true t v d ps) :
    ∃ xs : List α, Sees W C v xs.length (xs.flatMap f) ∧ xs.length ≤ 9223372036854775807 ∧ ((d = .nil ∧ xs = []) ∨ ∃ (D : Nat → DataW H) (sp : List (DataW H)), d = .slice ((List.range xs.length).map D) sp ∧ ∀ i (hi : i < xs.length), R xs[i] (D i)) := by
  obtain ⟨a0, len0, cap0, rfl⟩ := okWide_slice ht hv
  obtain ⟨fuel, hfu⟩ := h
  rcases Go.Deep.open_slice ht hfu with ⟨hcs, hx⟩ | ⟨x, l, c, m, n, D, Pl, hcs, _, hl, hm, hmm, hx, hi⟩
  · simp [Value.cells] at hcs
    obtain ⟨rfl, rfl, rfl⟩ := hcs
    simp only [Prod.mk.injEq] at hx
    exact ⟨[], Sees.nil _ _, Nat.zero_le _, .inl ⟨hx.1, rfl⟩⟩
  · simp [Value.cells] at hcs
    obtain ⟨rfl, rfl, rfl⟩ := hcs
    simp only [if_true] at hmm
    subst hmm
    simp only [Prod.mk.injEq] at hx
    have hch : ∀ i, i < len0 → ∃ b : α, (∀ j, j < C → W.cell? (x.add (i * C + j)) = (f b)[j]?) ∧ R b (D i) := fun i hil => by
      obtain ⟨cs', h1, h2⟩ := hi i (by omega)
      rw [hC] at h1
      obtain ⟨_, hlen, hcell⟩ := World.cells?_some h1
      obtain ⟨b, rfl, hR⟩ := hel n cs' _ hlen h2
      exact ⟨b, fun j hj => by rw [← Go.Deep.add_add]; exact hcell j hj, hR⟩
    obtain ⟨g, hg⟩ := Go.Deep.choose_lt hch
    have hlg : ((List.range len0).map g).length = len0 := by simp
    refine ⟨(List.range len0).map g, ⟨?_, some x, m, by rw [hlg], by rw [hlg]; simpa using hl, by simp, ?_⟩, by simp only [maxLen] at hm; simp; omega, .inr ⟨D, _, by rw [hlg]; exact hx.1, fun i hi => ?_⟩⟩
    · exact flatMap_len f C hf _
    · intro ad had j u hu
      cases had
      have hlenf : ((List.map g (List.range len0)).flatMap f).length = len0 * C := by rw [flatMap_len f C hf]; simp
      have hj : j < len0 * C := by
        have := (List.getElem?_eq_some_iff.1 hu).1
        omega
      have hq : j / C < len0 := (Nat.div_lt_iff_lt_mul hC0).2 hj
      have hjm : j % C < C := Nat.mod_lt _ hC0
      have hgc := (hg (j / C) hq).1 (j % C) hjm
      rw [Nat.mul_comm, Nat.div_add_mod] at hgc
      rw [hgc, ← hu]
      have := flatMap_get f C hf hC0 ((List.range len0).map g) j (by simpa using hj)
      rw [this]
      simp [hq]
    · have := (hg i (by rw [hlg] at hi; exact hi)).2
      simpa using this
theorem open_str_u (ht : P.underlying t = some .string) (hv : Value.okWide P W .any base t v) (h : DataW.Trod enc P W 0 (fun _ => true) true t v d ps) (hb : Rows.uptoBulk d ≤ 1048576) :
    ∃ l : List UInt8, v = .string (str l) ∧ l.length ≤ 1048576 := by
  obtain ⟨s, rfl, rfl, rfl, hs⟩ := open_string ht hv h
  exact ⟨s.data.toList, rfl, by simp only [Rows.uptoBulk] at hb; omega⟩
end
section
open Go.ChangeShapes Go.WideShapes Go.ChangeAt
theorem open_strs_u {H : Type} {enc : TypeId × Value → H} {W : World} {base : Nat} {v : Value} {d : DataW H} {ps : List MemPlace}
    (hv : Value.okWide Tryd.prog W .any base 23 v) (h : DataW.Trod enc Tryd.prog W 0 (fun _ => true) true 23 v d ps) (hb : Rows.uptoBulk d ≤ 1048576) :
    ∃ xs : List (List UInt8), Sees W 1 v xs.length (Ss xs) ∧ xs.length ≤ 1048576 ∧ ∀ x ∈ xs, x.length ≤ 1048576 := by
  obtain ⟨xs, h1, h2, h3⟩ := open_list_d (fun (a : List UInt8) => [Value.string (str a)]) 1 (fun a y => y = .lit (.string a)) Tryd.underlying23 (by kernel_rfl) (fun _ => rfl) (by decide) (by
    intro n cs y hlen ht
    obtain ⟨s, rfl, hy, hs⟩ := DataW.trod_string Tryd.underlying9 ht
    exact ⟨s.data.toList, rfl, by rw [hy]⟩) hv h
  have e : Ss xs = xs.flatMap fun a => [Value.string (str a)] := by
    clear h1 h2 h3
    unfold Ss
    rw [List.flatMap_def]
    induction xs with
    | nil => rfl
    | cons a t ih => rw [List.map_cons, List.map_cons, List.flatten_cons, ih]; rfl
  refine ⟨xs, by rw [e]; exact h1, ?_, ?_⟩
  · rcases h3 with ⟨-, rfl⟩ | ⟨D, sp, rfl, -⟩
    · simp
    · have := bulk_len ((List.range xs.length).map D)
      simp only [Rows.uptoBulk] at hb
      simp at this; omega
  · intro x hx
    rcases h3 with ⟨-, rfl⟩ | ⟨D, sp, rfl, hD⟩
    · cases hx
    · obtain ⟨i, hi, rfl⟩ := List.getElem_of_mem hx
      have h4 := hD i hi
      have := bulk_elem (spare := sp) (List.mem_map_of_mem (f := D) (List.mem_range.2 hi))
      rw [h4] at this
      simp only [Rows.uptoBulk] at this hb
      omega
end
end Go.Proofs.YtcbmceaijinpbaaDoor
