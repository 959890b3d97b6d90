/- Contracts of package aquref (bytes held against each other, copied). No statement of the seat is proved here. -/
import Derived.Test.YtgjmcpmdhilkeaaChecked
import Derived.Test.YtgjmcpmdhilkeaaNum
import Derived.Outline
import Derived.WalkSpells
import Derived.Laws.BytesArg
namespace Go.Aq
open Go.RowKit
/-- Bytes as a text. -/
def str (l : List UInt8) : ByteArray := ⟨l.toArray⟩
theorem str_inj {l m : List UInt8} (h : str l = str m) : l = m := by
  have := congrArg (fun b : ByteArray => b.data.toList) h
  simpa [str] using this
theorem str_toList (l : List UInt8) : (str l).toList = l := ByteArray.toList_mk l
theorem str_size (l : List UInt8) : (str l).size = l.length := by simp [str, ByteArray.size]
theorem str_eq (a b : List UInt8) : ((str a).toList == (str b).toList) = decide (a = b) := by rw [str_toList, str_toList]; exact (Bool.eq_iff_iff.2 (by simp))
theorem run_str {P : Program} {w : World} {v : Value} {n : Nat} {bs : List UInt8} (h : Sees w 1 v n (Bs bs)) (src dst e : TypeId) (hs : P.underlying src = some (.slice e)) (he : P.underlying e = some (.int .u8)) (hd : P.underlying dst = some .string) :
    (convert src dst v).run P w = .ok (.string (str bs)) w := by
  obtain ⟨hl, ao, cap, rfl, hc, hno, hcells⟩ := h
  rw [run_convert_bytes_string w src dst e ao n cap hs he hd]
  cases ao with
  | none =>
    obtain ⟨rfl, rfl⟩ := hno rfl
    have : bs = [] := List.eq_nil_of_length_eq_zero (by simpa [Bs] using hl)
    subst this
    rfl
  | some ad =>
    have h1 := run_loadCells_list (P := P) (w := w) ad (Bs bs) (hcells ad rfl)
    have h2 : (Bs bs) = (bs.map fun c => (c.toNat : Int)).map (Value.int .u8) := by simp [Bs, Bc]
    rw [hl, Nat.mul_one, h2] at h1
    rw [run_bytesToString w ad n cap _ h1, foldl_push_bytes]
    simp [str, Function.comp_def]
end Go.Aq
namespace Go.Proofs.Ytgjmcpmdhilkeaa
open Go.RowKit Go.Aq

theorem run_str8 {w : World} {v : Value} {n : Nat} {bs : List UInt8} (h : Sees w 1 v n (Bs bs)) : (convert 22 9 v).run Try.prog w = .ok (.string (str bs)) w :=
  run_str h _ _ _ Try.underlying22 Try.underlying5 Try.underlying9

set_option maxHeartbeats 400000 in
theorem same_any (w : World) (v v' : Value) (n n' : Nat) (a b : List UInt8) (h1 : Sees w 1 v n (Bs a)) (h2 : Sees w 1 v' n' (Bs b)) :
    Calls Try.prog 8 #[v, v'] w fun e w' => e = .returned (.bool (decide (a = b))) ∧ w = w' := by
  have r1 := run_str8 h1
  have r2 := run_str8 h2
  obtain ⟨ao, cap, rfl, -⟩ := h1.shape
  obtain ⟨ao', cap', rfl, -⟩ := h2.shape
  go_enter Try.func8, Try.ntmps8
  go_wp2
  go_ret
  refine ⟨?_, rfl⟩
  rw [← str_eq]
  rfl
theorem same_yes (w : World) (v v' : Value) (n n' : Nat) (a b : List UInt8) (h1 : Sees w 1 v n (Bs a)) (h2 : Sees w 1 v' n' (Bs b)) (h : a = b) :
    Calls Try.prog 8 #[v, v'] w fun e w' => e = .returned (.bool true) ∧ w = w' := by
  have := same_any w v v' n n' a b h1 h2
  simpa [h] using this

set_option maxHeartbeats 400000 in
theorem copy_any (w : World) (v : Value) (n : Nat) (bs : List UInt8) (hv : Sees w 1 v n (Bs bs)) (hb : n ≤ 140737488355328) (sl_u8 : SliceTy Try.prog 22 5 (.int .u8 0) 1 1) :
    Calls Try.prog 6 #[v] w fun e w' => ∃ v', e = .returned v' ∧ Own w' 5 1 v' n (Bs bs) ∧ Chg [] w w' ∧ ∀ k ∈ v'.ownBlock.toList, w.heap.size ≤ k := by
  obtain ⟨ao, cap, rfl, -⟩ := hv.shape
  go_enter Try.func6, Try.ntmps6
  go_wp2_with (at_builtin; refine wpList_app rfl _ _ 22 rfl sl_u8 (n := 0) (xs := []) (Own.made w 5 1) rfl (hv.chg0 (Chg.alloc (Chg.refl _ _) _)) rfl (Bs_one bs) (by omega) (by omega) ?_; intro v' w' ho hc hn)
  go_ret
  refine ⟨v', rfl, by simpa using ho, Chg.trans (Chg.alloc (Chg.refl _ _) _) hc (by simp [Value.ownBlock]), fun k hk => ?_⟩
  rcases hn k hk with h | h
  · simp [Value.ownBlock] at h; omega
  · simp at h; omega
end Go.Proofs.Ytgjmcpmdhilkeaa
