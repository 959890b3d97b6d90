/- Contract of script.Pic. No statement of the seat is proved here. -/
import Derived.Test.YtfammoidikdbpaaGreatDoorPix
import Derived.Test.YtfammoidikdbpaaGreatDoorArr
import Derived.Deep.OwnRows
import Derived.Deep.LoopGhost
set_option linter.unusedVariables false
namespace Go.Aq
open Go.RowKit
theorem own_mk (w : World) (e : TypeId) (n : Nat) (z : Value) (h63 : n ≤ 9223372036854775807) : Own (w.alloc (.cells (madeCells #[z] n) e)) e 1 (.slice (some ⟨w.heap.size, 0, none⟩) n n) n (List.replicate n z) := by
  refine ⟨by simp, .inr ⟨w.heap.size, n, _, rfl, Nat.zero_le _, heap_alloc_new w _, Nat.le_refl _, by simpa [maxLen] using h63, ?_, ?_⟩⟩
  · have := toList_madeCells_one z n
    rw [← Array.length_toList, this]; simp
  · rw [toList_madeCells_one]; simp
/-- A picture's bytes up to a place, zeros behind. -/
def picRow (x y z i : Nat) : List UInt8 := (List.range (picN x y z)).map fun j => if j < i then picB x y z j else 0
theorem picRow_len (x y z i : Nat) : (picRow x y z i).length = picN x y z := by simp [picRow]
theorem picRow_zero (x y z : Nat) : Bs (picRow x y z 0) = List.replicate (picN x y z) (.int .u8 0) := by
  simp only [picRow, Bs, Nat.not_lt_zero, if_false, List.map_map]
  apply List.ext_getElem
  · simp
  · intro i h1 h2; simp [Bc]
theorem picRow_all (x y z : Nat) : picRow x y z (picN x y z) = picP x y z := by
  unfold picRow picP
  apply List.map_congr_left
  intro j hj
  rw [if_pos (List.mem_range.1 hj)]
theorem picRow_set (x y z i : Nat) (h : i < picN x y z) : (Bs (picRow x y z i)).set i (.int .u8 (picB x y z i).toNat) = Bs (picRow x y z (i + 1)) := by
  apply List.ext_getElem
  · simp [Bs, picRow_len]
  · intro j h1 h2
    rw [List.getElem_set]
    simp only [Bs, List.getElem_map, picRow, List.getElem_range, Bc]
    by_cases hij : i = j
    · subst hij
      rw [if_pos rfl, if_pos (by omega)]
    · rw [if_neg hij]
      by_cases hj : j < i
      · rw [if_pos hj, if_pos (by omega)]
      · rw [if_neg hj, if_neg (by omega)]
theorem pic_byte (x y z i : Nat) : ((x : Int) % 256 * ((i : Int) % 256) + (y : Int) % 256 * ((i : Int) / 7) + (z : Int)) % 256 = ((picB x y z i).toNat : Int) := by
  have h1 : (picB x y z i).toNat = (x % 256 * i + y % 256 * (i / 7) + z % 256) % 256 := UInt8.toNat_ofNat'
  have hA : ((x % 256 * (i % 256) : Nat) : Int) = (x : Int) % 256 * ((i : Int) % 256) := by rw [Int.natCast_mul]; rfl
  have hB : ((y % 256 * (i / 7) : Nat) : Int) = (y : Int) % 256 * ((i : Int) / 7) := by rw [Int.natCast_mul]; rfl
  rw [h1, ← hA, ← hB]
  have e1 : (x % 256) * (i % 256) % 256 = (x % 256 * i) % 256 := by rw [Nat.mul_mod (x % 256) i, Nat.mod_mod]
  generalize x % 256 * (i % 256) = a at *
  generalize y % 256 * (i / 7) = b at *
  generalize x % 256 * i = c at *
  omega
end Go.Aq
namespace Go.Proofs.YtfammoidikdbpaaGreatDoor
open Go.RowKit Go.Aq Go.Aq.Wd
theorem ras_ty : ArrTy Tryz.prog 26 5 := ⟨⟨_, Tryz.underlying26, rfl⟩, by kernel_rfl⟩
theorem info_u8 : (Tryz.prog.info? 5).map (fun i => (i.zero, i.size, i.bytes)) = some (some (.int .u8 0), 1, 1) := by kernel_rfl
end Go.Proofs.YtfammoidikdbpaaGreatDoor
