/- Contracts of script.Acts and aquref24.Acts. No statement of the seat is proved here. -/
import Derived.Test.YtfammoidikdbpaaGreatDoorRAct26
import Derived.Deep.DeepCutAuto
set_option linter.unusedVariables false
namespace Go.Aq
open Go.RowKit
/-- An act with the slices of its picture and its mask. -/
abbrev ActT := ActD × Value × Value
def rowsT (l : List ActT) : List Value := l.flatMap fun t => actL t.1 t.2.1 t.2.2
theorem actL_len (a : ActD) (pv mv : Value) : (actL a pv mv).length = 13 := rfl
theorem rowsT_len (l : List ActT) : (rowsT l).length = l.length * 13 := by
  induction l with
  | nil => rfl
  | cons t r ih => simp only [rowsT, List.flatMap_cons, List.length_append, List.length_cons] at ih ⊢; rw [ih, actL_len]; omega
theorem rowsT_app (l m : List ActT) : rowsT (l ++ m) = rowsT l ++ rowsT m := by simp [rowsT]
theorem rowsT_one (t : ActT) : rowsT [t] = actL t.1 t.2.1 t.2.2 := by simp [rowsT]
theorem rowsT_get (l : List ActT) (i : Nat) (hi : i < l.length) (j : Nat) (hj : j < 13) : (rowsT l)[i * 13 + j]? = (actL l[i].1 l[i].2.1 l[i].2.2)[j]? := by
  induction l generalizing i with
  | nil => simp at hi
  | cons t r ih =>
    have e : rowsT (t :: r) = actL t.1 t.2.1 t.2.2 ++ rowsT r := by simp [rowsT]
    rw [e]
    cases i with
    | zero => rw [List.getElem?_append_left (by rw [actL_len]; omega)]; simp
    | succ i =>
      rw [List.getElem?_append_right (by rw [actL_len]; omega), actL_len, show (i + 1) * 13 + j - 13 = i * 13 + j by omega]
      exact ih i (by simpa using hi)
/-- A list of acts made since w0, their pictures and masks seen, in blocks apart from the list's. -/
structure ActsR (w0 w : World) (e : TypeId) (v : Value) (l : List ActT) : Prop where
  own : Own w e 13 v l.length (rowsT l)
  chg : Chg [] w0 w
  new : ∀ k ∈ v.ownBlock.toList, w0.heap.size ≤ k
  each : ∀ t ∈ l, ActR w0 w t.1 t.2.1 t.2.2 ∧ (∀ k ∈ eyes t.2.1, k ∉ v.ownBlock.toList) ∧ ∀ k ∈ eyes t.2.2, k ∉ v.ownBlock.toList
theorem ActsR.nil (w : World) (e : TypeId) : ActsR w w e (.slice none 0 0) [] := ⟨Own.nil w e 13, Chg.refl _ _, by simp [Value.ownBlock], by simp⟩
theorem ActR.to {w0 w w' : World} {a : ActD} {pv mv : Value} {S : List Nat} (h : ActR w0 w a pv mv) (c : Chg S w w') (hp : ∀ k ∈ eyes pv, k ∉ S) (hm : ∀ k ∈ eyes mv, k ∉ S) : ActR w0 w' a pv mv :=
  ⟨h.pix.chg c hp, h.mask.chg c hm, h.newP, h.newM⟩
theorem ActR.wid {w0 w1 w : World} {a : ActD} {pv mv : Value} (h : ActR w1 w a pv mv) (c : Chg [] w0 w1) : ActR w0 w a pv mv :=
  ⟨h.pix, h.mask, fun k hk => Nat.le_trans c.size (h.newP k hk), fun k hk => Nat.le_trans c.size (h.newM k hk)⟩
theorem ActsR.to {w0 w w' : World} {e : TypeId} {v : Value} {l : List ActT} (h : ActsR w0 w e v l) (c : Chg [] w w') : ActsR w0 w' e v l :=
  ⟨h.own.chg c (fun _ _ => by simp), h.chg.trans c (by simp), h.new, fun t ht => ⟨(h.each t ht).1.to c (by simp) (by simp), (h.each t ht).2⟩⟩
/-- An act is appended. -/
theorem ActsR.app {w0 w w1 w2 w3 : World} {e : TypeId} {v v' : Value} {l : List ActT} {a : ActD} {pv mv : Value} (h : ActsR w0 w e v l) (ha : ActR w w1 a pv mv) (c1 : Chg [] w w1) (c2 : Chg [] w1 w2)
    (ho : Own w3 e 13 v' (l.length + 1) (rowsT l ++ actL a pv mv)) (c3 : Chg v.ownBlock.toList w2 w3) (hn : ∀ k ∈ v'.ownBlock.toList, k ∈ v.ownBlock.toList ∨ w2.heap.size ≤ k) : ActsR w0 w3 e v' (l ++ [(a, pv, mv)]) := by
  have c12 := c1.nil c2
  have cv : Chg v.ownBlock.toList w w3 := c12.toS.trans c3 fun k hk => .inl hk
  have cw : Chg v.ownBlock.toList w1 w3 := c2.toS.trans c3 fun k hk => .inl hk
  have hlt := h.own.lt
  have apart : ∀ x : Value, (∀ k ∈ eyes x, w.heap.size ≤ k) → (∀ k ∈ eyes x, k < w1.heap.size) → (∀ k ∈ eyes x, k ∉ v.ownBlock.toList) ∧ ∀ k ∈ eyes x, k ∉ v'.ownBlock.toList := by
    intro x h1 h2
    have h3 : ∀ k ∈ eyes x, k ∉ v.ownBlock.toList := fun k hk hv => by
      have := hlt k hv
      have := h1 k hk
      omega
    refine ⟨h3, fun k hk hv => ?_⟩
    rcases hn k hv with h4 | h4
    · exact h3 k hk h4
    · have := h2 k hk
      have := c2.size
      omega
  have ap := apart pv ha.newP (ha.pix.lt (by decide))
  have am := apart mv ha.newM (ha.mask.lt (by decide))
  refine ⟨?_, h.chg.trans cv (fun k hk => .inr (h.new k hk)), fun k hk => ?_, fun t ht => ?_⟩
  · rw [rowsT_app, rowsT_one, List.length_append]; exact ho
  · rcases hn k hk with h1 | h1
    · exact h.new k h1
    · have := h.chg.size
      have := c12.size
      omega
  · rcases List.mem_append.1 ht with ht | ht
    · obtain ⟨h1, h2, h3⟩ := h.each t ht
      refine ⟨h1.to cv h2 h3, fun k hk hv => ?_, fun k hk hv => ?_⟩
      · rcases hn k hv with h4 | h4
        · exact h2 k hk h4
        · have := h1.pix.lt (by decide) k hk
          have := c12.size
          omega
      · rcases hn k hv with h4 | h4
        · exact h3 k hk h4
        · have := h1.mask.lt (by decide) k hk
          have := c12.size
          omega
    · simp only [List.mem_singleton] at ht
      subst ht
      exact ⟨(ha.to cw ap.1 am.1).wid h.chg, ap.2, am.2⟩
end Go.Aq
namespace Go.Aq
theorem cell_al {w : World} {a : Addr} {u : Value} (h : w.cell? a = some u) (o : Obj) : (w.alloc o).cell? a = some u := ((Chg.refl [] w).alloc o).cell_some h (by simp)
theorem Sees.bytes {w : World} {v : Value} {n : Nat} {b : List UInt8} (h : Sees w 1 v n (Bs b)) (hn : 0 < n) :
    ∃ g off cap, v = .slice (some ⟨g, off, none⟩) n cap ∧ n ≤ cap ∧ g < w.heap.size ∧ ∀ j, j < n → w.cell? ⟨g, off + j, none⟩ = some (.int .u8 ((b.getD j 0).toNat : Int)) := by
  have hbl : b.length = n := by have := h.len; simpa [Bs] using this
  obtain ⟨g, off, cap, h1, h2, h3, h4⟩ := h.cells (by omega)
  refine ⟨g, off, cap, h1, h2, h3, fun j hj => ?_⟩
  rw [h4 j (by omega)]
  simp [Bs, Bc, List.getElem?_eq_getElem (show j < b.length by omega)]
end Go.Aq
namespace Go.Proofs.YtfammoidikdbpaaGreatDoor
open Go.RowKit Go.Aq Go.Aq.Wd
end Go.Proofs.YtfammoidikdbpaaGreatDoor
