/- Bytes as a text. No statement of the seat is proved here. -/
import Derived.Test.YtihoohhngiomdaaGreatDoorChecked
import Derived.Test.YtihoohhngiomdaaGreatDoorNum
import Derived.Outline
import Derived.WalkSpells
import Derived.Laws.BytesArg
namespace Go.Aq
open Go.RowKit
/-- Bytes as a text. -/
def str (l : List UInt8) : ByteArray := ⟨l.toArray⟩
theorem str_inj {l m : List UInt8} (h : str l = str m) : l = m := by
  have := congrArg (fun b : ByteArray => b.data.toList) h
  simpa [str] using this
theorem str_toList (l : List UInt8) : (str l).toList = l := ByteArray.toList_mk l
theorem str_size (l : List UInt8) : (str l).size = l.length := by simp [str, ByteArray.size]
theorem str_eq (a b : List UInt8) : ((str a).toList == (str b).toList) = decide (a = b) := by rw [str_toList, str_toList]; exact (Bool.eq_iff_iff.2 (by simp))
theorem run_str {P : Program} {w : World} {v : Value} {n : Nat} {bs : List UInt8} (h : Sees w 1 v n (Bs bs)) (src dst e : TypeId) (hs : P.underlying src = some (.slice e)) (he : P.underlying e = some (.int .u8)) (hd : P.underlying dst = some .string) :
    (convert src dst v).run P w = .ok (.string (str bs)) w := by
  obtain ⟨hl, ao, cap, rfl, hc, hno, hcells⟩ := h
  rw [run_convert_bytes_string w src dst e ao n cap hs he hd]
  cases ao with
  | none =>
    obtain ⟨rfl, rfl⟩ := hno rfl
    have : bs = [] := List.eq_nil_of_length_eq_zero (by simpa [Bs] using hl)
    subst this
    rfl
  | some ad =>
    have h1 := run_loadCells_list (P := P) (w := w) ad (Bs bs) (hcells ad rfl)
    have h2 : (Bs bs) = (bs.map fun c => (c.toNat : Int)).map (Value.int .u8) := by simp [Bs, Bc]
    rw [hl, Nat.mul_one, h2] at h1
    rw [run_bytesToString w ad n cap _ h1, foldl_push_bytes]
    simp [str, Function.comp_def]
end Go.Aq
namespace Go.Proofs.YtihoohhngiomdaaGreatDoor
open Go.RowKit Go.Aq

theorem run_str8 {w : World} {v : Value} {n : Nat} {bs : List UInt8} (h : Sees w 1 v n (Bs bs)) : (convert 25 9 v).run Tryz.prog w = .ok (.string (str bs)) w :=
  run_str h _ _ _ Tryz.underlying25 Tryz.underlying5 Tryz.underlying9

end Go.Proofs.YtihoohhngiomdaaGreatDoor
