/- How lists of changes, of lists of changes, of numbers and of bytes that came in are opened; the walks as the rows want them. No statement of the seat is proved here. -/
import Derived.Test.YtgcmgcffndbpoaaGreatDoorFgAF
import Derived.Test.YtgcmgcffndbpoaaGreatDoorOpenS
set_option linter.unusedVariables false
namespace Go.Aq
open Go.ChangeShapes Go.WideShapes Go.ChangeAt Go.RowKit
section
variable {H : Type} {enc : TypeId × Value → H} {P : Program} {W : World}
theorem bytes_of_trod {t e : TypeId} {n : Nat} {c : Value} {cs : List Value} {y : DataW H × List MemPlace} (hc1 : cs = [c]) (ht : P.underlying t = some (.slice e)) (he : P.underlying e = some (.int .u8)) (hc : P.cellsOf e = 1) (h : DataW.trod enc P W 0 (fun _ => true) true n t cs = some y) :
    ∃ l : List UInt8, Sees W 1 c l.length (Bs l) ∧ l.length ≤ 9223372036854775807 := by
  subst hc1
  rcases open_ints ht he hc h with ⟨hcs, _⟩ | ⟨x, len0, cap0, zs, hcs, _, hl, hm, hz, _, hcell, hwz⟩
  · simp only [List.cons.injEq, and_true] at hcs
    subst hcs
    exact ⟨[], Sees.nil _ _, Nat.zero_le _⟩
  · simp only [List.cons.injEq, and_true] at hcs
    subst hcs
    simp only [if_true] at hz
    have hlen : ((zs.take len0).map fun z => UInt8.ofNat z.toNat).length = len0 := by simp; omega
    refine ⟨(zs.take len0).map fun z => UInt8.ofNat z.toNat, ?_, by rw [hlen]; simp only [maxLen] at hm; omega⟩
    rw [hlen]
    refine ⟨by simp [Bs]; omega, some x, cap0, rfl, hl, by simp, ?_⟩
    intro ad had j u hu
    cases had
    have hj : j < len0 := by
      have := (List.getElem?_eq_some_iff.1 hu).1
      simp [Bs] at this; omega
    rw [hcell j (by omega)]
    have hjz : j < zs.length := by omega
    have hb := bounds_u8 (hwz (zs[j]'hjz) (List.getElem_mem _))
    simp [Bs, Bc, hj, hjz] at hu
    rw [← hu]
    simp [List.getD, hjz]
    omega
theorem ints_of_trod {t e : TypeId} {n : Nat} {c : Value} {cs : List Value} {y : DataW H × List MemPlace} (hc1 : cs = [c]) (ht : P.underlying t = some (.slice e)) (he : P.underlying e = some (.int .i64)) (hc : P.cellsOf e = 1) (h : DataW.trod enc P W 0 (fun _ => true) true n t cs = some y) :
    ∃ l : List Int, Sees W 1 c l.length (l.map fun z => Value.int .i64 z) ∧ l.length ≤ 9223372036854775807 ∧ ∀ z ∈ l, -9223372036854775808 ≤ z ∧ z ≤ 9223372036854775807 := by
  subst hc1
  rcases open_ints ht he hc h with ⟨hcs, _⟩ | ⟨x, len0, cap0, zs, hcs, _, hl, hm, hz, _, hcell, hwz⟩
  · simp only [List.cons.injEq, and_true] at hcs
    subst hcs
    exact ⟨[], Sees.nil _ _, Nat.zero_le _, by simp⟩
  · simp only [List.cons.injEq, and_true] at hcs
    subst hcs
    simp only [if_true] at hz
    have hlen : (zs.take len0).length = len0 := by simp; omega
    refine ⟨zs.take len0, ?_, by rw [hlen]; simp only [maxLen] at hm; omega, fun z hz' => bounds_i64 (hwz z (List.mem_of_mem_take hz'))⟩
    rw [hlen]
    refine ⟨by simp; omega, some x, cap0, rfl, hl, by simp, ?_⟩
    intro ad had j u hu
    cases had
    have hj : j < len0 := by
      have := (List.getElem?_eq_some_iff.1 hu).1
      simp at this; omega
    rw [hcell j (by omega)]
    have hjz : j < zs.length := by omega
    simp [hj, hjz] at hu
    rw [← hu]
    simp [List.getD, hjz]
/-- A slice (one cell) whose elements each read as f of something that R says of. -/
theorem open_list_r {t e : TypeId} {v : Value} {d : DataW H} {ps : List MemPlace} {α : Type} [Inhabited α] {n0 : Nat} (f : α → List Value) (C : Nat) (R : α → Prop) (ht : P.underlying t = some (.slice e)) (hC : P.cellsOf e = C) (hf : ∀ a, (f a).length = C) (hC0 : 0 < C)
    (hel : ∀ (n : Nat) (cs : List Value) (y : DataW H × List MemPlace), cs.length = C → DataW.trod enc P W 0 (fun _ => true) true n e cs = some y → ∃ a, f a = cs ∧ R a)
    (h : DataW.trod enc P W 0 (fun _ => true) true n0 t [v] = some (d, ps)) :
    ∃ xs : List α, Sees W C v xs.length (xs.flatMap f) ∧ xs.length ≤ 9223372036854775807 ∧ ∀ x ∈ xs, R x := by
  rcases Go.Deep.open_slice ht h with ⟨hcs, hx⟩ | ⟨x, len0, cap0, m, n, D, Pl, hcs, _, hl, hm, hmm, hx, hi⟩
  · simp at hcs
    subst hcs
    exact ⟨[], Sees.nil _ _, Nat.zero_le _, by simp⟩
  · simp at hcs
    subst hcs
    simp only [if_true] at hmm
    subst hmm
    have hch : ∀ i, i < len0 → ∃ b : α, (∀ j, j < C → W.cell? (x.add (i * C + j)) = (f b)[j]?) ∧ R b := fun i hil => by
      obtain ⟨cs', h1, h2⟩ := hi i (by omega)
      rw [hC] at h1
      obtain ⟨_, hlen, hcell⟩ := World.cells?_some h1
      obtain ⟨b, rfl, hR⟩ := hel n cs' _ hlen h2
      exact ⟨b, fun j hj => by rw [← Go.Deep.add_add]; exact hcell j hj, hR⟩
    obtain ⟨g, hg⟩ := Go.Deep.choose_lt hch
    have hlg : ((List.range len0).map g).length = len0 := by simp
    refine ⟨(List.range len0).map g, ⟨?_, some x, m, by rw [hlg], by rw [hlg]; simpa using hl, by simp, ?_⟩, by simp only [maxLen] at hm; simp; omega, fun y hy => ?_⟩
    · exact flatMap_len f C hf _
    · intro ad had j u hu
      cases had
      have hlenf : ((List.map g (List.range len0)).flatMap f).length = len0 * C := by rw [flatMap_len f C hf]; simp
      have hj : j < len0 * C := by
        have := (List.getElem?_eq_some_iff.1 hu).1
        omega
      have hq : j / C < len0 := (Nat.div_lt_iff_lt_mul hC0).2 hj
      have hjm : j % C < C := Nat.mod_lt _ hC0
      have hgc := (hg (j / C) hq).1 (j % C) hjm
      rw [Nat.mul_comm, Nat.div_add_mod] at hgc
      rw [hgc, ← hu]
      have := flatMap_get f C hf hC0 ((List.range len0).map g) j (by simpa using hj)
      rw [this]
      simp [hq]
    · obtain ⟨i, hi', rfl⟩ := List.mem_map.1 hy
      exact (hg i (List.mem_range.1 hi')).2
end
end Go.Aq
namespace Go.Proofs.YtgcmgcffndbpoaaGreatDoor
open Go.RowKit Go.Aq Go.Aq.Fy
open Go.ChangeShapes Go.WideShapes Go.ChangeAt
def chL (x : ChangeD × Value) : List Value := [.int .i64 x.1.kind, .string (str x.1.name), .string (str x.1.tonm), x.2]
instance : Inhabited ChangeD := ⟨⟨0, [], [], []⟩⟩
section
variable {H : Type} {enc : TypeId × Value → H} {W : World} {base : Nat} {v : Value} {d : DataW H} {ps : List MemPlace}
set_option maxRecDepth 100000 in
theorem change_cells {n : Nat} {cs : List Value} {y : DataW H × List MemPlace} (hlen : cs.length = 4) (ht : DataW.trod enc Tryz.prog W 0 (fun _ => true) true n 43 cs = some y) :
    ∃ x : ChangeD × Value, chL x = cs ∧ Sees W 1 x.2 x.1.data.length (Bs x.1.data) := by
  obtain ⟨xs, n', _, _, _, hxl, hf⟩ := DataW.trod_struct Tryz.underlying43 ht
  have k1 : Tryz.prog.cellsOf 9 = 1 := by kernel_rfl
  have k2 : Tryz.prog.cellsOf 3 = 1 := by kernel_rfl
  have k3 : Tryz.prog.cellsOf 38 = 1 := by kernel_rfl
  match cs, hlen with
  | [c0, c1, c2, c3], _ =>
    have f0 := hf 0 _ rfl
    have f1 := hf 1 _ rfl
    have f2 := hf 2 _ rfl
    have f3 := hf 3 _ rfl
    rw [List.getElem?_eq_getElem (by rw [hxl]; decide)] at f0 f1 f2 f3
    obtain ⟨i0, e0, _, w0⟩ := DataW.trod_int Tryz.underlying3 f0
    obtain ⟨s1, e1, _, b1⟩ := DataW.trod_string Tryz.underlying9 f1
    obtain ⟨s2, e2, _, b2⟩ := DataW.trod_string Tryz.underlying9 f2
    simp [k1, k2] at e0 e1 e2
    obtain ⟨lp, hp, bp⟩ := bytes_of_trod (c := c3) (by simp [k3]) Tryz.underlying38 Tryz.underlying5 (by kernel_rfl) f3
    subst e0 e1 e2
    exact ⟨(⟨i0, s1.data.toList, s2.data.toList, lp⟩, c3), rfl, hp⟩
theorem cells_of : ∀ xs : List (ChangeD × Value), (∀ x ∈ xs, Sees W 1 x.2 x.1.data.length (Bs x.1.data)) → CellsC W (xs.map (·.1)) (xs.flatMap chL)
  | [], _ => .nil
  | x :: l, h => .cons (h x (.head _)) (cells_of l fun y hy => h y (.tail _ hy))
set_option maxRecDepth 100000 in
theorem changes_c {n : Nat} (h : DataW.trod enc Tryz.prog W 0 (fun _ => true) true n 23 [v] = some (d, ps)) : ∃ (cs : List ChangeD) (xs : List Value), Sees W 4 v cs.length xs ∧ CellsC W cs xs := by
  obtain ⟨xs, h1, -, h3⟩ := open_list_r chL 4 (fun x => Sees W 1 x.2 x.1.data.length (Bs x.1.data)) Tryz.underlying23 (by kernel_rfl) (fun _ => rfl) (by decide) (fun n cs y hlen ht => change_cells hlen ht) h
  exact ⟨xs.map (·.1), xs.flatMap chL, by rw [List.length_map]; exact h1, cells_of xs h3⟩
def SeesC (W : World) (v : Value) (cs : List ChangeD) : Prop := ∃ xs, Sees W 4 v cs.length xs ∧ CellsC W cs xs
set_option maxRecDepth 100000 in
theorem open_changes (hv : Value.okWide Tryz.prog W .any base 23 v) (h : DataW.Trod enc Tryz.prog W 0 (fun _ => true) true 23 v d ps) : ∃ cs, SeesC W v cs := by
  obtain ⟨ao, len, cap, rfl⟩ := okWide_slice Tryz.underlying23 hv
  obtain ⟨fuel, hf⟩ := h
  obtain ⟨cs, xs, h1, h2⟩ := changes_c hf
  exact ⟨cs, xs, h1, h2⟩
set_option maxRecDepth 100000 in
theorem open_lists (hv : Value.okWide Tryz.prog W .any base 22 v) (h : DataW.Trod enc Tryz.prog W 0 (fun _ => true) true 22 v d ps) : ∃ css, ListsC W v css := by
  obtain ⟨ao, len, cap, rfl⟩ := okWide_slice Tryz.underlying22 hv
  obtain ⟨fuel, hf⟩ := h
  obtain ⟨xs, h1, -, h3⟩ := open_list_r (fun (a : Value × List ChangeD) => [a.1]) 1 (fun a => SeesC W a.1 a.2) Tryz.underlying22 (by kernel_rfl) (fun _ => rfl) (by decide) (fun n cs y hlen ht => by
    match cs, hlen with
    | [c], _ =>
      obtain ⟨y1, y2⟩ := y
      obtain ⟨cs, xs, h1, h2⟩ := changes_c ht
      exact ⟨(c, cs), rfl, xs, h1, h2⟩) hf
  refine ⟨xs.map (·.2), xs.flatMap fun a => [a.1], by rw [List.length_map]; exact h1, fun i cs hi => ?_⟩
  rw [List.getElem?_map] at hi
  obtain ⟨x, hx, rfl⟩ := Option.map_eq_some_iff.1 hi
  obtain ⟨zs, h4, h5⟩ := h3 x (List.mem_of_getElem? hx)
  refine ⟨x.1, zs, ?_, h4, h5⟩
  have e : (xs.flatMap fun a => [a.1]) = xs.map (·.1) := by rw [List.map_eq_flatMap]
  rw [e, List.getElem?_map, hx]
  rfl
end
end Go.Proofs.YtgcmgcffndbpoaaGreatDoor
