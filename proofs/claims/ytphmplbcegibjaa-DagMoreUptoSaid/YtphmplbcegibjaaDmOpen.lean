/- The law DagMore at what was opened. No statement of the seat is proved here. -/
import Derived.Test.YtphmplbcegibjaaDnOpen
import Derived.Test.YtphmplbcegibjaaDmB
set_option linter.unusedVariables false
namespace Go.Proofs.Ytphmplbcegibjaa
open Go.RowKit Go.Aq Go.Aq.Dg
section
open Go.ChangeShapes Go.WideShapes Go.ChangeAt
variable {H : Type} {enc : TypeId × Value → H} {W : World} {base : Nat} {v : Value} {d : DataW H} {ps : List MemPlace}
set_option maxRecDepth 100000 in
/-- As open_nodes_u, with the sum's own bound. -/
theorem open_nodes_w (hv : Value.okWide Try.prog W .any base 22 v) (h : DataW.Trod enc Try.prog W 0 (fun _ => true) true 22 v d ps) (hb : Rows.uptoBulk d ≤ 1048576) :
    ∃ L : List (NodeD × Value), NodesR W v L ∧ L.length ≤ 2097152 ∧ (∀ q ∈ L, q.1.key.length ≤ 1048576 ∧ q.1.parents.length ≤ 2097152 ∧ ∀ p ∈ q.1.parents, p.length ≤ 1048576) ∧ SmallG (L.map (·.1)) ∧ wt (L.map (·.1)) [] ≤ 1048576 := by
  obtain ⟨a0, len0, cap0, rfl⟩ := okWide_slice Try.underlying22 hv
  obtain ⟨fuel, hfu⟩ := h
  obtain ⟨L, h1, h2, h3⟩ := open_list_c ndC 3 (NodeU W) Try.underlying22 (by kernel_rfl) (fun _ => rfl) (by decide) (fun n cs y hlen ht => node_cells hlen ht) (by simpa [Value.cells] using hfu)
  rcases h3 with ⟨-, rfl⟩ | ⟨D, sp, rfl, hD⟩
  · exact ⟨[], ⟨h1, by simp⟩, by simp, by simp, ⟨by simp, by simp, by simp [wt]⟩, by simp [wt]⟩
  · have hall : ∀ q ∈ L, ∃ i, ∃ hi : i < L.length, L[i] = q ∧ NodeU W q (D i) ∧ Rows.uptoBulk (D i) ≤ 1048576 := by
      intro q hq
      obtain ⟨i, hi, rfl⟩ := List.getElem_of_mem hq
      have := bulk_elem (spare := sp) (List.mem_map_of_mem (f := D) (List.mem_range.2 hi))
      exact ⟨i, hi, rfl, hD i hi, by omega⟩
    have hlen := bulk_len ((List.range L.length).map D)
    have hsum := bulk_sum (fun a : NodeD × Value => a.1.parents.length + 1) L D fun i hi => (hD i hi).2.2.1
    simp only [Rows.uptoBulk] at hb
    simp only [List.length_map, List.length_range] at hlen
    have hwt : wt (L.map (·.1)) [] ≤ 1048576 := by
      unfold wt
      rw [List.map_map]
      have e : ((fun x : NodeD => if x.key ∈ ([] : List (List UInt8)) then 0 else x.parents.length + 1) ∘ fun x : NodeD × Value => x.1) = fun a : NodeD × Value => a.1.parents.length + 1 := by funext x; simp
      rw [e]
      omega
    refine ⟨L, ⟨h1, fun q hq => ?_⟩, by omega, fun q hq => ?_, ⟨fun x hx => ?_, fun x hx => ?_, by omega⟩, hwt⟩
    · obtain ⟨i, hi, -, hu, -⟩ := hall q hq
      exact hu.1
    · obtain ⟨i, hi, -, hu, hw⟩ := hall q hq
      exact ⟨by have := hu.2.1; omega, by have := hu.2.2.1; omega, fun p hp => by have := hu.2.2.2 p hp; omega⟩
    · obtain ⟨q, hq, rfl⟩ := List.mem_map.1 hx
      obtain ⟨i, hi, -, hu, hw⟩ := hall q hq
      have := hu.2.1; omega
    · obtain ⟨q, hq, rfl⟩ := List.mem_map.1 hx
      obtain ⟨i, hi, -, hu, hw⟩ := hall q hq
      exact fun p hp => by have := hu.2.2.2 p hp; omega
end
theorem more_walk (v : Value) (L : List (NodeD × Value)) {w : World} (h : NodesR w v L ∧ L.length ≤ 2097152 ∧ (∀ q ∈ L, q.1.key.length ≤ 1048576 ∧ q.1.parents.length ≤ 2097152 ∧ ∀ p ∈ q.1.parents, p.length ≤ 1048576) ∧ SmallG (L.map (·.1)) ∧ wt (L.map (·.1)) [] ≤ 1048576)
    (a : List UInt8) (ha : a.length ≤ 1048576) (b : List UInt8) (hb : b.length ≤ 1048576) (key : List UInt8) (hk : key.length ≤ 1048576) :
    Calls Try.prog 4 #[v, .string (str a), .string (str b), .string (str key)] w fun e w' => e = .returned (.bool true) ∧ Chg [] w w' :=
  more_any w v L h.1 h.2.1 h.2.2.1 h.2.2.2.1 (by have := h.2.2.2.2; omega) a b key ha hb hk
end Go.Proofs.Ytphmplbcegibjaa
