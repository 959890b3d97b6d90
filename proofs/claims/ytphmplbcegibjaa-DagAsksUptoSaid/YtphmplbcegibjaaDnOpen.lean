/- How a list of nodes that was read is opened, with what the second form's bound says of it (apart from any law). No statement of the seat is proved here. -/
import Derived.Test.YtphmplbcegibjaaRows
import Derived.Test.YtphmplbcegibjaaDgN
import Derived.Test.YtphmplbcegibjaaOpenS
set_option linter.unusedVariables false
namespace Go.Proofs.Ytphmplbcegibjaa
open Go.RowKit Go.Aq Go.Aq.Dg
theorem bulk_part {H : Type} {d : DataW H} {l : List (DataW H)} (h : d ∈ l) : Rows.uptoBulk d ≤ Rows.uptoBulkAll l := by
  induction l with
  | nil => cases h
  | cons x r ih =>
    simp only [Rows.uptoBulkAll]
    rcases List.mem_cons.1 h with e | e
    · subst e; omega
    · have := ih e; omega
theorem bulk_pos {H : Type} (d : DataW H) : 1 ≤ Rows.uptoBulk d := by
  cases d with
  | lit l => cases l <;> simp [Rows.uptoBulk]
  | _ => simp [Rows.uptoBulk]
theorem bulk_len {H : Type} (l : List (DataW H)) : l.length ≤ Rows.uptoBulkAll l := by
  induction l with
  | nil => simp
  | cons x r ih => have := bulk_pos x; simp only [Rows.uptoBulkAll, List.length_cons]; omega
theorem bulk_elem {H : Type} {d : DataW H} {elems spare : List (DataW H)} (h : d ∈ elems) : Rows.uptoBulk d ≤ Rows.uptoBulk (.slice elems spare) := by
  have := bulk_part h
  simp only [Rows.uptoBulk]; omega
theorem bulk_all {H : Type} {l : List (DataW H)} (hk : Rows.uptoSmall H l = true) : Rows.uptoBulkAll l ≤ 1048576 := of_decide_eq_true hk
theorem bulk_app {H : Type} (a b : List (DataW H)) : Rows.uptoBulkAll (a ++ b) = Rows.uptoBulkAll a + Rows.uptoBulkAll b := by
  induction a with
  | nil => simp [Rows.uptoBulkAll]
  | cons x r ih => simp only [List.cons_append, Rows.uptoBulkAll, ih]; omega
/-- What weighs at most as its datum does, weighs so in all. -/
theorem bulk_sum {H α : Type} (f : α → Nat) : ∀ (xs : List α) (D : Nat → DataW H), (∀ i (hi : i < xs.length), f xs[i] ≤ Rows.uptoBulk (D i)) → (xs.map f).sum ≤ Rows.uptoBulkAll ((List.range xs.length).map D) := by
  intro xs
  induction xs with
  | nil => simp [Rows.uptoBulkAll]
  | cons a t ih =>
    intro D h
    have h0 := h 0 (by simp)
    have h1 := ih (fun i => D (i + 1)) (fun i hi => h (i + 1) (by simp; omega))
    rw [List.length_cons, List.range_succ_eq_map, List.map_cons, List.map_cons, List.map_map, List.sum_cons]
    simp only [Rows.uptoBulkAll]
    simp only [List.getElem_cons_zero] at h0
    have e : ((List.range t.length).map (D ∘ Nat.succ)) = (List.range t.length).map fun i => D (i + 1) := rfl
    rw [e]
    omega
section
open Go.ChangeShapes Go.WideShapes Go.ChangeAt
open Go.ChangeMaps (open_string shut_string)
variable {H : Type} {enc : TypeId × Value → H} {P : Program} {W : World} {base : Nat} {t e : TypeId} {v : Value} {d : DataW H} {ps : List MemPlace}
/-- A slice (one cell) whose elements each read as f of something that R relates to its datum. -/
theorem open_list_c {α : Type} [Inhabited α] {n0 : Nat} (f : α → List Value) (C : Nat) (R : α → DataW H → Prop) (ht : P.underlying t = some (.slice e)) (hC : P.cellsOf e = C) (hf : ∀ a, (f a).length = C) (hC0 : 0 < C)
    (hel : ∀ (n : Nat) (cs : List Value) (y : DataW H × List MemPlace), cs.length = C → DataW.trod enc P W 0 (fun _ => true) true n e cs = some y → ∃ a, f a = cs ∧ R a y.1)
    (h : DataW.trod enc P W 0 (fun _ => true) true n0 t [v] = some (d, ps)) :
    ∃ xs : List α, Sees W C v xs.length (xs.flatMap f) ∧ xs.length ≤ 9223372036854775807 ∧ ((d = .nil ∧ xs = []) ∨ ∃ (D : Nat → DataW H) (sp : List (DataW H)), d = .slice ((List.range xs.length).map D) sp ∧ ∀ i (hi : i < xs.length), R xs[i] (D i)) := by
  rcases Go.Deep.open_slice ht h with ⟨hcs, hx⟩ | ⟨x, len0, cap0, m, n, D, Pl, hcs, _, hl, hm, hmm, hx, hi⟩
  · simp at hcs
    subst hcs
    simp only [Prod.mk.injEq] at hx
    exact ⟨[], Sees.nil _ _, Nat.zero_le _, .inl ⟨hx.1, rfl⟩⟩
  · simp at hcs
    subst hcs
    simp only [if_true] at hmm
    subst hmm
    simp only [Prod.mk.injEq] at hx
    have hch : ∀ i, i < len0 → ∃ b : α, (∀ j, j < C → W.cell? (x.add (i * C + j)) = (f b)[j]?) ∧ R b (D i) := fun i hil => by
      obtain ⟨cs', h1, h2⟩ := hi i (by omega)
      rw [hC] at h1
      obtain ⟨_, hlen, hcell⟩ := World.cells?_some h1
      obtain ⟨b, rfl, hR⟩ := hel n cs' _ hlen h2
      exact ⟨b, fun j hj => by rw [← Go.Deep.add_add]; exact hcell j hj, hR⟩
    obtain ⟨g, hg⟩ := Go.Deep.choose_lt hch
    have hlg : ((List.range len0).map g).length = len0 := by simp
    refine ⟨(List.range len0).map g, ⟨?_, some x, m, by rw [hlg], by rw [hlg]; simpa using hl, by simp, ?_⟩, by simp only [maxLen] at hm; simp; omega, .inr ⟨D, _, by rw [hlg]; exact hx.1, fun i hi => ?_⟩⟩
    · exact flatMap_len f C hf _
    · intro ad had j u hu
      cases had
      have hlenf : ((List.map g (List.range len0)).flatMap f).length = len0 * C := by rw [flatMap_len f C hf]; simp
      have hj : j < len0 * C := by
        have := (List.getElem?_eq_some_iff.1 hu).1
        omega
      have hq : j / C < len0 := (Nat.div_lt_iff_lt_mul hC0).2 hj
      have hjm : j % C < C := Nat.mod_lt _ hC0
      have hgc := (hg (j / C) hq).1 (j % C) hjm
      rw [Nat.mul_comm, Nat.div_add_mod] at hgc
      rw [hgc, ← hu]
      have := flatMap_get f C hf hC0 ((List.range len0).map g) j (by simpa using hj)
      rw [this]
      simp [hq]
    · have := (hg i (by rw [hlg] at hi; exact hi)).2
      simpa using this
theorem open_str_u (ht : P.underlying t = some .string) (hv : Value.okWide P W .any base t v) (h : DataW.Trod enc P W 0 (fun _ => true) true t v d ps) (hb : Rows.uptoBulk d ≤ 1048576) :
    ∃ l : List UInt8, v = .string (str l) ∧ l.length ≤ 1048576 := by
  obtain ⟨s, rfl, rfl, rfl, hs⟩ := open_string ht hv h
  exact ⟨s.data.toList, rfl, by simp only [Rows.uptoBulk] at hb; omega⟩
end
section
open Go.ChangeShapes Go.WideShapes Go.ChangeAt
variable {H : Type} {enc : TypeId × Value → H} {W : World} {base : Nat} {v : Value} {d : DataW H} {ps : List MemPlace}
set_option maxRecDepth 100000 in
theorem strs_c {n : Nat} (h : DataW.trod enc Try.prog W 0 (fun _ => true) true n 30 [v] = some (d, ps)) :
    ∃ xs : List (List UInt8), Sees W 1 v xs.length (Sk xs) ∧ xs.length + 1 ≤ Rows.uptoBulk d ∧ ∀ x ∈ xs, x.length ≤ Rows.uptoBulk d := by
  obtain ⟨xs, h1, h2, h3⟩ := open_list_c (fun (a : List UInt8) => [Value.string (str a)]) 1 (fun a y => y = .lit (.string a)) Try.underlying30 (by kernel_rfl) (fun _ => rfl) (by decide) (by
    intro n cs y hlen ht
    obtain ⟨s, rfl, hy, hs⟩ := DataW.trod_string Try.underlying9 ht
    exact ⟨s.data.toList, rfl, by rw [hy]⟩) h
  have e : Sk xs = xs.flatMap fun a => [Value.string (str a)] := by
    clear h1 h2 h3
    unfold Sk
    induction xs with
    | nil => rfl
    | cons a t ih => rw [List.map_cons, List.flatMap_cons, ih]; rfl
  refine ⟨xs, by rw [e]; exact h1, ?_, ?_⟩
  · rcases h3 with ⟨rfl, rfl⟩ | ⟨D, sp, rfl, -⟩
    · simp [Rows.uptoBulk]
    · have := bulk_len ((List.range xs.length).map D)
      simp only [Rows.uptoBulk]
      simp at this; omega
  · intro x hx
    rcases h3 with ⟨-, rfl⟩ | ⟨D, sp, rfl, hD⟩
    · cases hx
    · obtain ⟨i, hi, rfl⟩ := List.getElem_of_mem hx
      have h4 := hD i hi
      have := bulk_elem (spare := sp) (List.mem_map_of_mem (f := D) (List.mem_range.2 hi))
      rw [h4] at this
      have h5 : Rows.uptoBulk (DataW.lit (.string xs[i]) : DataW H) = xs[i].length + 1 := by simp [Rows.uptoBulk]
      omega
instance : Inhabited (NodeD × Value) := ⟨(⟨[], [], 0⟩, .bool false)⟩
/-- What a node that was read weighs. -/
def NodeU (W : World) (a : NodeD × Value) (y : DataW H) : Prop :=
  Sees W 1 a.2 a.1.parents.length (Sk a.1.parents) ∧ a.1.key.length ≤ Rows.uptoBulk y ∧ a.1.parents.length + 1 ≤ Rows.uptoBulk y ∧ ∀ p ∈ a.1.parents, p.length ≤ Rows.uptoBulk y
set_option maxRecDepth 100000 in
theorem node_cells {n : Nat} {cs : List Value} {y : DataW H × List MemPlace} (hlen : cs.length = 3) (ht : DataW.trod enc Try.prog W 0 (fun _ => true) true n 35 cs = some y) : ∃ a : NodeD × Value, ndC a = cs ∧ NodeU W a y.1 := by
  obtain ⟨xs, n', _, rfl, _, hxl, hf⟩ := DataW.trod_struct Try.underlying35 ht
  match cs, hlen with
  | [c0, c1, c2], _ =>
    match xs, hxl with
    | [x0, x1, x2], _ =>
    have f0 := hf 0 _ rfl
    have f1 := hf 1 _ rfl
    have f2 := hf 2 _ rfl
    have k1 : Try.prog.cellsOf 9 = 1 := by kernel_rfl
    have k2 : Try.prog.cellsOf 3 = 1 := by kernel_rfl
    have k3 : Try.prog.cellsOf 30 = 1 := by kernel_rfl
    simp only [List.getElem?_cons_zero, List.getElem?_cons_succ] at f0 f1 f2
    obtain ⟨b, e0, g0, hb⟩ := DataW.trod_string Try.underlying9 f0
    obtain ⟨i, e2, g2, _⟩ := DataW.trod_int Try.underlying3 f2
    simp [k1, k2] at e0 e2
    simp [k3] at f1
    subst e0 e2 g0 g2
    obtain ⟨d1, p1⟩ := x1
    obtain ⟨ss, h1, h2, h3⟩ := strs_c f1
    refine ⟨(⟨b.data.toList, ss, i⟩, c1), rfl, h1, ?_, ?_, fun p hp => ?_⟩
    · simp only [List.map_cons, List.map_nil, Rows.uptoBulk, Rows.uptoBulkAll]; omega
    · simp only [List.map_cons, List.map_nil, Rows.uptoBulk, Rows.uptoBulkAll]; omega
    · have := h3 p hp
      simp only [List.map_cons, List.map_nil, Rows.uptoBulk, Rows.uptoBulkAll]; omega
set_option maxRecDepth 100000 in
theorem open_nodes_u (hv : Value.okWide Try.prog W .any base 22 v) (h : DataW.Trod enc Try.prog W 0 (fun _ => true) true 22 v d ps) (hb : Rows.uptoBulk d ≤ 1048576) :
    ∃ L : List (NodeD × Value), NodesR W v L ∧ L.length ≤ 2097152 ∧ (∀ q ∈ L, q.1.key.length ≤ 1048576 ∧ q.1.parents.length ≤ 2097152 ∧ ∀ p ∈ q.1.parents, p.length ≤ 1048576) ∧ SmallG (L.map (·.1)) := by
  obtain ⟨a0, len0, cap0, rfl⟩ := okWide_slice Try.underlying22 hv
  obtain ⟨fuel, hfu⟩ := h
  obtain ⟨L, h1, h2, h3⟩ := open_list_c ndC 3 (NodeU W) Try.underlying22 (by kernel_rfl) (fun _ => rfl) (by decide) (fun n cs y hlen ht => node_cells hlen ht) (by simpa [Value.cells] using hfu)
  rcases h3 with ⟨-, rfl⟩ | ⟨D, sp, rfl, hD⟩
  · exact ⟨[], ⟨h1, by simp⟩, by simp, by simp, by simp, by simp, by simp [wt]⟩
  · have hall : ∀ q ∈ L, ∃ i, ∃ hi : i < L.length, L[i] = q ∧ NodeU W q (D i) ∧ Rows.uptoBulk (D i) ≤ 1048576 := by
      intro q hq
      obtain ⟨i, hi, rfl⟩ := List.getElem_of_mem hq
      have := bulk_elem (spare := sp) (List.mem_map_of_mem (f := D) (List.mem_range.2 hi))
      exact ⟨i, hi, rfl, hD i hi, by omega⟩
    have hlen := bulk_len ((List.range L.length).map D)
    have hsum := bulk_sum (fun a : NodeD × Value => a.1.parents.length + 1) L D fun i hi => (hD i hi).2.2.1
    simp only [Rows.uptoBulk] at hb
    simp only [List.length_map, List.length_range] at hlen
    refine ⟨L, ⟨h1, fun q hq => ?_⟩, by omega, fun q hq => ?_, ⟨fun x hx => ?_, fun x hx => ?_, ?_⟩⟩
    · obtain ⟨i, hi, -, hu, -⟩ := hall q hq
      exact hu.1
    · obtain ⟨i, hi, -, hu, hw⟩ := hall q hq
      exact ⟨by have := hu.2.1; omega, by have := hu.2.2.1; omega, fun p hp => by have := hu.2.2.2 p hp; omega⟩
    · obtain ⟨q, hq, rfl⟩ := List.mem_map.1 hx
      obtain ⟨i, hi, -, hu, hw⟩ := hall q hq
      have := hu.2.1; omega
    · obtain ⟨q, hq, rfl⟩ := List.mem_map.1 hx
      obtain ⟨i, hi, -, hu, hw⟩ := hall q hq
      exact fun p hp => by have := hu.2.2.2 p hp; omega
    · unfold wt
      rw [List.map_map]
      have e : ((fun x : NodeD => if x.key ∈ ([] : List (List UInt8)) then 0 else x.parents.length + 1) ∘ fun x : NodeD × Value => x.1) = fun a : NodeD × Value => a.1.parents.length + 1 := by funext x; simp
      rw [e]
      omega
end
end Go.Proofs.Ytphmplbcegibjaa
