/- How an argument that was read is opened: an integer with its bounds, a text, a slice of bytes. No statement of the seat is proved here. -/
import Derived.Test.YtoacegccpajkoaaSame
import Derived.ProofKit
import Derived.OpenShut
import Derived.ShutString
namespace Go.Aq
open Go.ChangeShapes Go.WideShapes Go.ChangeAt Go.RowKit
open Go.ChangeMaps (open_string shut_string)

section
variable {H : Type} {enc : TypeId × Value → H} {P : Program} {W : World} {base : Nat} {t e : TypeId} {v : Value} {d : DataW H} {ps : List MemPlace}

theorem open_i64_in (ht : P.underlying t = some (.int .i64)) (hv : Value.okWide P W .any base t v) (h : DataW.Trod enc P W 0 (fun _ => true) true t v d ps) :
    ∃ a : Int, v = .int .i64 a ∧ (-9223372036854775808 ≤ a ∧ a ≤ 9223372036854775807) := by
  obtain ⟨a, rfl, rfl, rfl, wf⟩ := open_int ht hv h
  exact ⟨a, rfl, bounds_i64 wf⟩
theorem open_u32_in (ht : P.underlying t = some (.int .u32)) (hv : Value.okWide P W .any base t v) (h : DataW.Trod enc P W 0 (fun _ => true) true t v d ps) :
    ∃ a : Int, v = .int .u32 a ∧ (0 ≤ a ∧ a ≤ 4294967295) := by
  obtain ⟨a, rfl, rfl, rfl, wf⟩ := open_int ht hv h
  exact ⟨a, rfl, bounds_u32 wf⟩
theorem open_u8_in (ht : P.underlying t = some (.int .u8)) (hv : Value.okWide P W .any base t v) (h : DataW.Trod enc P W 0 (fun _ => true) true t v d ps) :
    ∃ a : Int, v = .int .u8 a ∧ (0 ≤ a ∧ a ≤ 255) := by
  obtain ⟨a, rfl, rfl, rfl, wf⟩ := open_int ht hv h
  exact ⟨a, rfl, bounds_u8 wf⟩
theorem open_bool_in (ht : P.underlying t = some .bool) (hv : Value.okWide P W .any base t v) (h : DataW.Trod enc P W 0 (fun _ => true) true t v d ps) :
    ∃ a : Bool, v = .bool a := by
  obtain ⟨a, rfl, rfl, rfl⟩ := open_bool ht hv h
  exact ⟨a, rfl⟩
theorem open_str_in (ht : P.underlying t = some .string) (hv : Value.okWide P W .any base t v) (h : DataW.Trod enc P W 0 (fun _ => true) true t v d ps) :
    ∃ l : List UInt8, v = .string (str l) ∧ l.length ≤ 9223372036854775807 := by
  obtain ⟨s, rfl, rfl, rfl, hs⟩ := open_string ht hv h
  exact ⟨s.data.toList, rfl, by simp only [maxLen, ByteArray.size] at hs; rw [Array.length_toList]; omega⟩
theorem open_bytes_in (ht : P.underlying t = some (.slice e)) (he : P.underlying e = some (.int .u8)) (hc : P.cellsOf e = 1) (hv : Value.okWide P W .any base t v) (h : DataW.Trod enc P W 0 (fun _ => true) true t v d ps) :
    ∃ (n : Nat) (l : List UInt8), Sees W 1 v n (Bs l) ∧ n ≤ 9223372036854775807 := by
  obtain ⟨a0, len0, cap0, rfl⟩ := okWide_slice ht hv
  obtain ⟨fuel, hf⟩ := h
  rcases open_ints ht he hc hf with ⟨hcs, _⟩ | ⟨x, l, c, zs, hcs, _, hl, hm, hz, _, hcell, hwz⟩
  · simp [Value.cells] at hcs
    obtain ⟨rfl, rfl, rfl⟩ := hcs
    exact ⟨0, [], Sees.nil _ _, Nat.zero_le _⟩
  · simp [Value.cells] at hcs
    obtain ⟨rfl, rfl, rfl⟩ := hcs
    simp only [if_true] at hz
    refine ⟨len0, (zs.take len0).map fun z => UInt8.ofNat z.toNat, ⟨?_, some x, cap0, rfl, hl, by simp, ?_⟩, by simp only [maxLen] at hm; omega⟩
    · simp [Bs]; omega
    · intro ad had j u hu
      cases had
      have hj : j < len0 := by
        have := (List.getElem?_eq_some_iff.1 hu).1
        simp [Bs] at this; omega
      rw [hcell j (by omega)]
      have hjz : j < zs.length := by omega
      have hb := bounds_u8 (hwz (zs[j]'hjz) (List.getElem_mem _))
      simp [Bs, Bc, hj, hjz] at hu
      rw [← hu]
      simp [List.getD, hjz]
      omega
end
end Go.Aq
