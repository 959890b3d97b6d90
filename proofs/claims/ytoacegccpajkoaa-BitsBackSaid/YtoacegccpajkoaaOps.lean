/- The calls of a writer or reader as data (Op of aqulaw4), and the writers' calls at whatever arguments. No statement of the seat is proved here. -/
import Derived.Test.YtoacegccpajkoaaRefBits
import Derived.Test.YtoacegccpajkoaaOpen
namespace Go.Proofs.Ytoacegccpajkoaa
open Go.RowKit Go.Aq

structure OpD where
  kind : Int
  count : Int
  n : Nat
  h : n < 4294967296
instance : Inhabited OpD := ⟨⟨0, 0, 0, by decide⟩⟩
def opCells (o : OpD) : List Value := [.int .i64 o.kind, .int .i64 o.count, .int .u32 o.n]

section
open Go.ChangeShapes Go.WideShapes Go.ChangeAt
theorem open_ops {H : Type} {enc : TypeId × Value → H} {W : World} {base : Nat} {v : Value} {d : DataW H} {ps : List MemPlace}
    (hv : Value.okWide Try.prog W .any base 34 v) (h : DataW.Trod enc Try.prog W 0 (fun _ => true) true 34 v d ps) :
    ∃ xs : List OpD, Sees W 3 v xs.length (xs.flatMap opCells) ∧ xs.length ≤ 9223372036854775807 := by
  refine open_list opCells 3 Try.underlying34 (by kernel_rfl) (fun _ => rfl) (by decide) ?_ hv h
  intro n cs y hlen ht
  obtain ⟨xs, n', _, _, _, hxl, hf⟩ := DataW.trod_struct Try.underlying39 ht
  match cs, hlen with
  | [c0, c1, c2], _ =>
    have f0 := hf 0 _ rfl
    have f1 := hf 1 _ rfl
    have f2 := hf 2 _ rfl
    rw [List.getElem?_eq_getElem (by rw [hxl]; decide)] at f0 f1 f2
    obtain ⟨a, e0, _, _⟩ := DataW.trod_int Try.underlying3 f0
    obtain ⟨b, e1, _, _⟩ := DataW.trod_int Try.underlying3 f1
    obtain ⟨c, e2, _, w2⟩ := DataW.trod_int Try.underlying22 f2
    have k1 : Try.prog.cellsOf 3 = 1 := by kernel_rfl
    have k2 : Try.prog.cellsOf 22 = 1 := by kernel_rfl
    simp [k1, k2] at e0 e1 e2
    subst e0 e1 e2
    have hb := bounds_u32 w2
    obtain ⟨m, rfl⟩ := Int.eq_ofNat_of_zero_le hb.1
    exact ⟨⟨a, b, m, by omega⟩, rfl⟩
end

def putErr (n : Nat) (c : Int) : Int := if wrongB n c then 1 else 0
def putL (l : List Bool) (n : Nat) (c : Int) : List Bool := if wrongB n c then l else l ++ lowBits n c.toNat
def codeL (l : List Bool) (n : Nat) (c : Int) : List Bool := if wrongB n c then l else l ++ highBits n c.toNat
theorem wrongB_range {n : Nat} {c : Int} (h : wrongB n c = false) : 0 ≤ c ∧ c ≤ 24 := by
  simp only [wrongB, decide_eq_false_iff_not] at h; omega
theorem putL_length (l : List Bool) (n : Nat) (c : Int) : (putL l n c).length ≤ l.length + 24 := by
  unfold putL
  split
  · omega
  · rename_i h
    have := wrongB_range (by simpa using h)
    simp [lowBits_length]; omega
theorem codeL_length (l : List Bool) (n : Nat) (c : Int) : (codeL l n c).length ≤ l.length + 24 := by
  unfold codeL
  split
  · omega
  · rename_i h
    have := wrongB_range (by simpa using h)
    simp [highBits, lowBits_length]; omega

theorem put_any (w : World) (S : List Nat) (p : Nat) (l : List Bool) (n : Nat) (c : Int) (hn : n < 4294967296) (hl : l.length ≤ 100000000000) (hw : Wr w S p l) :
    Calls Try.prog 16 #[.pointer (some ⟨p, 0, none⟩), .int .u32 n, .int .i64 c] w fun e w' => e = .returned (.int .i64 (putErr n c)) ∧ ∃ S', Wr w' S' p (putL l n c) ∧ Upd S S' w w' := by
  unfold putErr putL
  cases h : wrongB n c
  · obtain ⟨h0, _⟩ := wrongB_range h
    obtain ⟨k, rfl⟩ := Int.eq_ofNat_of_zero_le h0
    simpa using put_right w S p l n k hn h hl hw
  · refine (put_wrong w p n c hn h).mono ?_
    rintro e w' ⟨rfl, rfl⟩
    exact ⟨rfl, S, hw, Upd.refl _ _⟩
theorem code_any (w : World) (S : List Nat) (p : Nat) (l : List Bool) (n : Nat) (c : Int) (hn : n < 4294967296) (hl : l.length ≤ 100000000000) (hw : Wr w S p l) :
    Calls Try.prog 17 #[.pointer (some ⟨p, 0, none⟩), .int .u32 n, .int .i64 c] w fun e w' => e = .returned (.int .i64 (putErr n c)) ∧ ∃ S', Wr w' S' p (codeL l n c) ∧ Upd S S' w w' := by
  unfold putErr codeL
  cases h : wrongB n c
  · obtain ⟨h0, _⟩ := wrongB_range h
    obtain ⟨k, rfl⟩ := Int.eq_ofNat_of_zero_le h0
    simpa using code_right w S p l n k hn h hl hw
  · refine (code_wrong w p n c hn h).mono ?_
    rintro e w' ⟨rfl, rfl⟩
    exact ⟨rfl, S, hw, Upd.refl _ _⟩
theorem rPut_any (w : World) (S : List Nat) (p : Nat) (l : List Bool) (n : Nat) (c : Int) (hn : n < 4294967296) (hl : l.length ≤ 100000000000) (hw : RWr w S p l) :
    Calls Try.prog 21 #[.pointer (some ⟨p, 0, none⟩), .int .u32 n, .int .i64 c] w fun e w' => e = .returned (.int .i64 (putErr n c)) ∧ ∃ S', RWr w' S' p (putL l n c) ∧ Upd S S' w w' := by
  unfold putErr putL
  cases h : wrongB n c
  · obtain ⟨h0, _⟩ := wrongB_range h
    obtain ⟨k, rfl⟩ := Int.eq_ofNat_of_zero_le h0
    simpa using rPut_right w S p l n k hn h hl hw
  · refine (rPut_wrong w p n c hn h).mono ?_
    rintro e w' ⟨rfl, rfl⟩
    exact ⟨rfl, S, hw, Upd.refl _ _⟩
theorem rCode_any (w : World) (S : List Nat) (p : Nat) (l : List Bool) (n : Nat) (c : Int) (hn : n < 4294967296) (hl : l.length ≤ 100000000000) (hw : RWr w S p l) :
    Calls Try.prog 22 #[.pointer (some ⟨p, 0, none⟩), .int .u32 n, .int .i64 c] w fun e w' => e = .returned (.int .i64 (putErr n c)) ∧ ∃ S', RWr w' S' p (codeL l n c) ∧ Upd S S' w w' := by
  unfold putErr codeL
  cases h : wrongB n c
  · obtain ⟨h0, _⟩ := wrongB_range h
    obtain ⟨k, rfl⟩ := Int.eq_ofNat_of_zero_le h0
    simpa using rCode_right w S p l n k hn h hl hw
  · refine (rCode_wrong w p n c hn h).mono ?_
    rintro e w' ⟨rfl, rfl⟩
    exact ⟨rfl, S, hw, Upd.refl _ _⟩
end Go.Proofs.Ytoacegccpajkoaa
