/- How an argument that was read is opened: an integer with its bounds, a text, a slice of bytes. No statement of the seat is proved here. -/
import Derived.Test.YtgcmgcffndbpoaaGreatDoorNumA
import Derived.ProofKit
import Derived.OpenShut
import Derived.ShutString
import Derived.Deep.Slices
import Derived.Deep.Fields
namespace Go.Aq
open Go.ChangeShapes Go.WideShapes Go.ChangeAt Go.RowKit
open Go.ChangeMaps (open_string shut_string)

theorem flatMap_len {α : Type} (f : α → List Value) (C : Nat) (hf : ∀ a, (f a).length = C) : ∀ xs : List α, (xs.flatMap f).length = xs.length * C
  | [] => by simp
  | a :: xs => by rw [List.flatMap_cons, List.length_append, hf, flatMap_len f C hf xs, List.length_cons, Nat.add_mul]; omega
theorem flatMap_get {α : Type} (f : α → List Value) (C : Nat) (hf : ∀ a, (f a).length = C) (hC : 0 < C) : ∀ (xs : List α) (j : Nat), j < xs.length * C → (xs.flatMap f)[j]? = (xs[j / C]?).bind fun a => (f a)[j % C]?
  | [], j, h => by simp at h
  | a :: xs, j, h => by
    rw [List.flatMap_cons, List.getElem?_append]
    split
    · rename_i hlt
      rw [hf] at hlt
      rw [Nat.div_eq_of_lt hlt, Nat.mod_eq_of_lt hlt]
      rfl
    · rename_i hge
      rw [hf] at hge ⊢
      have hge' : C ≤ j := by omega
      have hlt : j - C < xs.length * C := by simp only [List.length_cons, Nat.add_mul] at h; omega
      rw [flatMap_get f C hf hC xs (j - C) hlt]
      have e1 : j / C = (j - C) / C + 1 := by
        conv => lhs; rw [show j = (j - C) + C by omega]
        rw [Nat.add_div_right _ hC]
      have e2 : j % C = (j - C) % C := by
        conv => lhs; rw [show j = (j - C) + C by omega]
        rw [Nat.add_mod_right]
      rw [e1, e2]
      rfl

section
variable {H : Type} {enc : TypeId × Value → H} {P : Program} {W : World} {base : Nat} {t e : TypeId} {v : Value} {d : DataW H} {ps : List MemPlace}

theorem open_i64_in (ht : P.underlying t = some (.int .i64)) (hv : Value.okWide P W .any base t v) (h : DataW.Trod enc P W 0 (fun _ => true) true t v d ps) :
    ∃ a : Int, v = .int .i64 a ∧ (-9223372036854775808 ≤ a ∧ a ≤ 9223372036854775807) := by
  obtain ⟨a, rfl, rfl, rfl, wf⟩ := open_int ht hv h
  exact ⟨a, rfl, bounds_i64 wf⟩
theorem open_u32_in (ht : P.underlying t = some (.int .u32)) (hv : Value.okWide P W .any base t v) (h : DataW.Trod enc P W 0 (fun _ => true) true t v d ps) :
    ∃ a : Int, v = .int .u32 a ∧ (0 ≤ a ∧ a ≤ 4294967295) := by
  obtain ⟨a, rfl, rfl, rfl, wf⟩ := open_int ht hv h
  exact ⟨a, rfl, bounds_u32 wf⟩
theorem open_u8_in (ht : P.underlying t = some (.int .u8)) (hv : Value.okWide P W .any base t v) (h : DataW.Trod enc P W 0 (fun _ => true) true t v d ps) :
    ∃ a : Int, v = .int .u8 a ∧ (0 ≤ a ∧ a ≤ 255) := by
  obtain ⟨a, rfl, rfl, rfl, wf⟩ := open_int ht hv h
  exact ⟨a, rfl, bounds_u8 wf⟩
theorem open_bool_in (ht : P.underlying t = some .bool) (hv : Value.okWide P W .any base t v) (h : DataW.Trod enc P W 0 (fun _ => true) true t v d ps) :
    ∃ a : Bool, v = .bool a := by
  obtain ⟨a, rfl, rfl, rfl⟩ := open_bool ht hv h
  exact ⟨a, rfl⟩
theorem open_str_in (ht : P.underlying t = some .string) (hv : Value.okWide P W .any base t v) (h : DataW.Trod enc P W 0 (fun _ => true) true t v d ps) :
    ∃ l : List UInt8, v = .string (str l) ∧ l.length ≤ 9223372036854775807 := by
  obtain ⟨s, rfl, rfl, rfl, hs⟩ := open_string ht hv h
  exact ⟨s.data.toList, rfl, by simp only [maxLen, ByteArray.size] at hs; rw [Array.length_toList]; omega⟩
theorem open_bytes_in (ht : P.underlying t = some (.slice e)) (he : P.underlying e = some (.int .u8)) (hc : P.cellsOf e = 1) (hv : Value.okWide P W .any base t v) (h : DataW.Trod enc P W 0 (fun _ => true) true t v d ps) :
    ∃ (n : Nat) (l : List UInt8), Sees W 1 v n (Bs l) ∧ n ≤ 9223372036854775807 := by
  obtain ⟨a0, len0, cap0, rfl⟩ := okWide_slice ht hv
  obtain ⟨fuel, hf⟩ := h
  rcases open_ints ht he hc hf with ⟨hcs, _⟩ | ⟨x, l, c, zs, hcs, _, hl, hm, hz, _, hcell, hwz⟩
  · simp [Value.cells] at hcs
    obtain ⟨rfl, rfl, rfl⟩ := hcs
    exact ⟨0, [], Sees.nil _ _, Nat.zero_le _⟩
  · simp [Value.cells] at hcs
    obtain ⟨rfl, rfl, rfl⟩ := hcs
    simp only [if_true] at hz
    refine ⟨len0, (zs.take len0).map fun z => UInt8.ofNat z.toNat, ⟨?_, some x, cap0, rfl, hl, by simp, ?_⟩, by simp only [maxLen] at hm; omega⟩
    · simp [Bs]; omega
    · intro ad had j u hu
      cases had
      have hj : j < len0 := by
        have := (List.getElem?_eq_some_iff.1 hu).1
        simp [Bs] at this; omega
      rw [hcell j (by omega)]
      have hjz : j < zs.length := by omega
      have hb := bounds_u8 (hwz (zs[j]'hjz) (List.getElem_mem _))
      simp [Bs, Bc, hj, hjz] at hu
      rw [← hu]
      simp [List.getD, hjz]
      omega

/-- A slice whose elements each read as f of something. -/
theorem open_list {α : Type} [Inhabited α] (f : α → List Value) (C : Nat) (ht : P.underlying t = some (.slice e)) (hC : P.cellsOf e = C) (hf : ∀ a, (f a).length = C) (hC0 : 0 < C)
    (hel : ∀ (n : Nat) (cs : List Value) (y : DataW H × List MemPlace), cs.length = C → DataW.trod enc P W 0 (fun _ => true) true n e cs = some y → ∃ a, f a = cs)
    (hv : Value.okWide P W .any base t v) (h : DataW.Trod enc P W 0 (fun _ => true) true t v d ps) :
    ∃ xs : List α, Sees W C v xs.length (xs.flatMap f) ∧ xs.length ≤ 9223372036854775807 := by
  obtain ⟨a0, len0, cap0, rfl⟩ := okWide_slice ht hv
  obtain ⟨fuel, hfu⟩ := h
  rcases Go.Deep.open_slice ht hfu with ⟨hcs, _⟩ | ⟨x, l, c, m, n, D, Pl, hcs, _, hl, hm, hmm, _, hi⟩
  · simp [Value.cells] at hcs
    obtain ⟨rfl, rfl, rfl⟩ := hcs
    exact ⟨[], Sees.nil _ _, Nat.zero_le _⟩
  · simp [Value.cells] at hcs
    obtain ⟨rfl, rfl, rfl⟩ := hcs
    simp only [if_true] at hmm
    subst hmm
    have hch : ∀ i, i < len0 → ∃ b : α, ∀ j, j < C → W.cell? (x.add (i * C + j)) = (f b)[j]? := fun i hil => by
      obtain ⟨cs', h1, h2⟩ := hi i (by omega)
      rw [hC] at h1
      obtain ⟨_, hlen, hcell⟩ := World.cells?_some h1
      obtain ⟨b, rfl⟩ := hel n cs' _ hlen h2
      exact ⟨b, fun j hj => by rw [← Go.Deep.add_add]; exact hcell j hj⟩
    obtain ⟨g, hg⟩ := Go.Deep.choose_lt hch
    refine ⟨(List.range len0).map g, ⟨?_, some x, m, by simp, by simpa using hl, by simp, ?_⟩, by simp only [maxLen] at hm; simp; omega⟩
    · exact flatMap_len f C hf _
    · intro ad had j u hu
      cases had
      have hlenf : ((List.map g (List.range len0)).flatMap f).length = len0 * C := by rw [flatMap_len f C hf]; simp
      have hj : j < len0 * C := by
        have := (List.getElem?_eq_some_iff.1 hu).1
        omega
      have hq : j / C < len0 := (Nat.div_lt_iff_lt_mul hC0).2 hj
      have hjm : j % C < C := Nat.mod_lt _ hC0
      have hgc := hg (j / C) hq (j % C) hjm
      rw [Nat.mul_comm, Nat.div_add_mod] at hgc
      rw [hgc, ← hu]
      have := flatMap_get f C hf hC0 ((List.range len0).map g) j (by simpa using hj)
      rw [this]
      simp [hq]
end
end Go.Aq
