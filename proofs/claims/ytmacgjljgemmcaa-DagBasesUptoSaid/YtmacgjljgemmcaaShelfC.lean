/-
  DERIVED: THE SHELF's CONTRACTS AT THIS DUMP, IN PLAIN WORDS (tools/lay-plain.mjs out of 'TryShelfC.lean', which tools/lay-shelf.mjs wrote): THE SAME DECLARATIONS UNDER THE SAME NAMES: 'import', 'namespace', 'open', 'def', 'theorem' AND NOTHING ELSE: no command of the shelf's: FOR A HAND-IN. Each laying: the table of numbers ('.._ren') and one theorem, a field a fact of the dump's own or the kernel's comparison; each contract: ONE APPLICATION.
-/
import Derived.Shelf.SlIter.Nil
import Derived.Shelf.SortM.Plain
import Derived.Shelf.SortM.SortNone
import Derived.Ground.GgzProg
import Derived.Ground.SlgmProg
import Derived.Shelf.SlMaps.DeleteFunc
import Derived.Ground.SlmdProg
import Derived.Test.YtmacgjljgemmcaaProg
namespace Go.Proofs
open Go.Shelf
def Try.l14_ren : Go.Shelf.Ren := ⟨fun | 5 => 14 | n => n, fun | 23 => 43 | 26 => 9 | 24 => 4 | 27 => 46 | 0 => 0 | 4 => 4 | n => n, fun | n => n⟩
theorem Try.l14 : Go.Proofs.SlLaysDf.n5 Try.prog Try.l14_ren := {
  mixed := by kernel_rfl
  f5 := ⟨Try.f14.name, by decide, Try.func14.trans (congrArg some (by kernel_rfl))⟩
  t0 := Try.underlying0
  a0 := Try.isAgg0
  z0 := Try.sizeOf0
  v0 := Try.zeroValue0
  t4 := Try.underlying4
  a4 := Try.isAgg4
  z4 := Try.sizeOf4
  v4 := Try.zeroValue4
  t23 := Try.underlying43
  a23 := Try.isAgg43
  z23 := Try.sizeOf43
  v23 := Try.zeroValue43
  a24 := Try.isAgg4
  z24 := Try.sizeOf4
  a26 := Try.isAgg9
  z26 := Try.sizeOf9
  t27 := Try.underlying46
  a27 := Try.isAgg46
  z27 := Try.sizeOf46
  v27 := Try.zeroValue46 }
def Try.keys18_ren : Go.Shelf.Ren := ⟨fun | 7 => 18 | 10 => 22 | n => n, fun | 23 => 43 | 26 => 9 | 3 => 4 | 28 => 51 | 0 => 0 | 27 => 50 | 33 => 31 | 4 => 4 | n => n, fun | n => n⟩
theorem Try.keys18 : Go.Proofs.SlLaysZ.n7 Try.prog Try.keys18_ren := {
  mixed := by kernel_rfl
  f7 := ⟨Try.f18.name, by decide, Try.func18.trans (congrArg some (by kernel_rfl))⟩
  f10 := ⟨Try.f22.name, by decide, Try.func22.trans (congrArg some (by kernel_rfl))⟩
  t0 := Try.underlying0
  a0 := Try.isAgg0
  z0 := Try.sizeOf0
  v0 := Try.zeroValue0
  t4 := Try.underlying4
  a4 := Try.isAgg4
  z4 := Try.sizeOf4
  v4 := Try.zeroValue4
  t23 := Try.underlying43
  a23 := Try.isAgg43
  z23 := Try.sizeOf43
  v23 := Try.zeroValue43
  t26 := Try.underlying9
  a26 := Try.isAgg9
  z26 := Try.sizeOf9
  v26 := Try.zeroValue9
  t27 := Try.underlying50
  a27 := Try.isAgg50
  z27 := Try.sizeOf50
  v27 := Try.zeroValue50
  t28 := Try.underlying51
  a28 := Try.isAgg51
  z28 := Try.sizeOf51
  v28 := Try.zeroValue51
  t33 := Try.underlying31
  a33 := Try.isAgg31
  z33 := Try.sizeOf31
  v33 := Try.zeroValue31 }
def Try.sorted17_ren : Go.Shelf.Ren := ⟨fun | 6 => 17 | 8 => 20 | 9 => 21 | 11 => 24 | 13 => 26 | 12 => 25 | 23 => 36 | 24 => 37 | 14 => 27 | 15 => 28 | 16 => 29 | 17 => 30 | 18 => 31 | 19 => 32 | 20 => 33 | 21 => 34 | 22 => 35 | 25 => 38 | 26 => 39 | 27 => 40 | 28 => 41 | 29 => 42 | 30 => 43 | 31 => 44 | n => n, fun | 26 => 9 | 28 => 51 | 24 => 32 | 0 => 0 | 3 => 3 | 37 => 59 | 48 => 69 | 50 => 71 | 4 => 4 | 40 => 62 | 39 => 61 | 45 => 66 | 5 => 5 | 9 => 9 | 51 => 72 | 55 => 76 | 57 => 78 | 58 => 79 | 33 => 31 | n => n, fun | n => n⟩
theorem Try.sorted17 : Go.Proofs.SlLaysZ.n6 Try.prog Try.sorted17_ren := {
  mixed := by kernel_rfl
  f6 := ⟨Try.f17.name, by decide, Try.func17.trans (congrArg some (by kernel_rfl))⟩
  f8 := ⟨Try.f20.name, by decide, Try.func20.trans (congrArg some (by kernel_rfl))⟩
  f11 := ⟨Try.f24.name, by decide, Try.func24.trans (congrArg some (by kernel_rfl))⟩
  t0 := Try.underlying0
  a0 := Try.isAgg0
  z0 := Try.sizeOf0
  v0 := Try.zeroValue0
  t24 := Try.underlying32
  a24 := Try.isAgg32
  z24 := Try.sizeOf32
  v24 := Try.zeroValue32
  t26 := Try.underlying9
  a26 := Try.isAgg9
  z26 := Try.sizeOf9
  v26 := Try.zeroValue9
  t28 := Try.underlying51
  a28 := Try.isAgg51
  z28 := Try.sizeOf51
  v28 := Try.zeroValue51
  i26 := by kernel_rfl }
def Try.sort21_ren : Go.Shelf.Ren := ⟨fun | 6 => 21 | 8 => 26 | 9 => 25 | 19 => 36 | 20 => 37 | 21 => 27 | 22 => 28 | 23 => 29 | 24 => 30 | 25 => 31 | 26 => 32 | 27 => 33 | 28 => 34 | 29 => 35 | 36 => 38 | 31 => 39 | 32 => 40 | 37 => 41 | 38 => 42 | 39 => 43 | 41 => 44 | n => n, fun | 27 => 32 | 29 => 9 | 3 => 3 | 32 => 59 | 26 => 32 | 0 => 0 | 44 => 69 | 46 => 71 | 4 => 4 | 36 => 62 | 35 => 61 | 41 => 66 | 5 => 5 | 9 => 9 | 53 => 72 | 57 => 76 | 63 => 78 | 64 => 79 | n => n, fun | n => n⟩
theorem Try.sort21 : Go.Proofs.SlLaysM.n6 Try.prog Try.sort21_ren := {
  mixed := by kernel_rfl
  f6 := ⟨Try.f21.name, by decide, Try.func21.trans (congrArg some (by kernel_rfl))⟩
  f8 := Try.func26.trans (congrArg some (by kernel_rfl))
  f9 := ⟨Try.f25.name, by decide, Try.func25.trans (congrArg some (by kernel_rfl))⟩
  f19 := Try.func36.trans (congrArg some (by kernel_rfl))
  f20 := Try.func37.trans (congrArg some (by kernel_rfl))
  f21 := ⟨Try.f27.name, by decide, Try.func27.trans (congrArg some (by kernel_rfl))⟩
  f22 := ⟨Try.f28.name, by decide, Try.func28.trans (congrArg some (by kernel_rfl))⟩
  f23 := ⟨Try.f29.name, by decide, Try.func29.trans (congrArg some (by kernel_rfl))⟩
  f24 := ⟨Try.f30.name, by decide, Try.func30.trans (congrArg some (by kernel_rfl))⟩
  f25 := ⟨Try.f31.name, by decide, Try.func31.trans (congrArg some (by kernel_rfl))⟩
  f26 := ⟨Try.f32.name, by decide, Try.func32.trans (congrArg some (by kernel_rfl))⟩
  f27 := ⟨Try.f33.name, by decide, Try.func33.trans (congrArg some (by kernel_rfl))⟩
  f28 := ⟨Try.f34.name, by decide, Try.func34.trans (congrArg some (by kernel_rfl))⟩
  f29 := ⟨Try.f35.name, by decide, Try.func35.trans (congrArg some (by kernel_rfl))⟩
  f31 := Try.func39.trans (congrArg some (by kernel_rfl))
  f32 := Try.func40.trans (congrArg some (by kernel_rfl))
  f36 := ⟨Try.f38.name, by decide, Try.func38.trans (congrArg some (by kernel_rfl))⟩
  f37 := ⟨Try.f41.name, by decide, Try.func41.trans (congrArg some (by kernel_rfl))⟩
  f38 := ⟨Try.f42.name, by decide, Try.func42.trans (congrArg some (by kernel_rfl))⟩
  f39 := ⟨Try.f43.name, by decide, Try.func43.trans (congrArg some (by kernel_rfl))⟩
  f41 := ⟨Try.f44.name, by decide, Try.func44.trans (congrArg some (by kernel_rfl))⟩
  t0 := Try.underlying0
  a0 := Try.isAgg0
  z0 := Try.sizeOf0
  v0 := Try.zeroValue0
  t3 := Try.underlying3
  a3 := Try.isAgg3
  z3 := Try.sizeOf3
  v3 := Try.zeroValue3
  t4 := Try.underlying4
  a4 := Try.isAgg4
  z4 := Try.sizeOf4
  v4 := Try.zeroValue4
  t5 := Try.underlying5
  a5 := Try.isAgg5
  z5 := Try.sizeOf5
  v5 := Try.zeroValue5
  t9 := Try.underlying9
  a9 := Try.isAgg9
  z9 := Try.sizeOf9
  v9 := Try.zeroValue9
  t26 := Try.underlying32
  a26 := Try.isAgg32
  z26 := Try.sizeOf32
  v26 := Try.zeroValue32
  t27 := Try.underlying32
  a27 := Try.isAgg32
  z27 := Try.sizeOf32
  v27 := Try.zeroValue32
  t29 := Try.underlying9
  a29 := Try.isAgg9
  z29 := Try.sizeOf9
  v29 := Try.zeroValue9
  t32 := Try.underlying59
  a32 := Try.isAgg59
  z32 := Try.sizeOf59
  v32 := Try.zeroValue59
  t35 := Try.underlying61
  a35 := Try.isAgg61
  z35 := Try.sizeOf61
  v35 := Try.zeroValue61
  t36 := Try.underlying62
  a36 := Try.isAgg62
  z36 := Try.sizeOf62
  v36 := Try.zeroValue62
  t41 := Try.underlying66
  a41 := Try.isAgg66
  z41 := Try.sizeOf66
  v41 := Try.zeroValue66
  t44 := Try.underlying69
  a44 := Try.isAgg69
  z44 := Try.sizeOf69
  v44 := Try.zeroValue69
  t46 := Try.underlying71
  a46 := Try.isAgg71
  z46 := Try.sizeOf71
  v46 := Try.zeroValue71
  t53 := Try.underlying72
  a53 := Try.isAgg72
  z53 := Try.sizeOf72
  v53 := Try.zeroValue72
  t57 := Try.underlying76
  a57 := Try.isAgg76
  z57 := Try.sizeOf76
  v57 := Try.zeroValue76
  t63 := Try.underlying78
  a63 := Try.isAgg78
  z63 := Try.sizeOf78
  v63 := Try.zeroValue78
  t64 := Try.underlying79
  a64 := Try.isAgg79
  z64 := Try.sizeOf79
  v64 := Try.zeroValue79 }
open Go.RowKit Go.Maps Go.Sort
/-- slices.Sort's two contracts at this dump, at the fence that asks nothing. -/
theorem Try.sorts17 (m : Nat) : AnyZ.SortsIn Try.prog Try.sorted17_ren Fence.wide m :=
  ⟨fun blk off cap ss W hH hblk hsz => callsIn_wide.2 (AnyM.slices_Sort_string Try.sort21 blk off cap ss W hH hblk hsz),
   fun p cap W => callsIn_wide.2 (AnyM.slices_Sort_string_none Try.sort21 p cap W)⟩
/-- **maps.Keys[map[string]bool,string,bool], at whatever map, the nil one too:** a function value over ONE NEW BLOCK, which holds the map. -/
theorem Try.maps_Keys_18 (mb : Option Nat) (W : World) : CallsIn Fence.wide 5 Try.prog 18 #[.map mb] W fun e w' => e = .returned (.func (.func 22) #[] #[.pointer (some ⟨W.heap.size, 0, none⟩)]) ∧ w' = W.alloc (.cells #[.map mb] 43) :=
  AnyZ.keys_in Try.keys18 Fence.wide 5 trivial rfl mb W
set_option maxHeartbeats 1000000 in
/-- **slices.Sorted[string] AT WHAT maps.Keys[map[string]bool,string,bool] HANDED BACK FOR A MAP THAT IS NOT nil** ('w': the world AHEAD of maps.Keys' call): A NEW SLICE THAT HOLDS THE MAP's KEYS, SORTED; nil just where it has none; nothing that lay before has turned. -/
theorem Try.slices_Sorted_keys_17_18 {H : Type} (b nn : Nat) (D0 : DataW H) (R : Value → Option (DataW H × List MemPlace)) (w : World) (hown : w.ownsMap Try.prog 9 R b nn D0) (hmax : Maps.size D0 ≤ maxLen) (hbytes : Maps.size D0 * 16 ≤ 140737488355328) :
    CallsIn Fence.wide 5 Try.prog 17 #[.func (.func 22) #[] #[.pointer (some ⟨w.heap.size, 0, none⟩)]] (w.alloc (.cells #[.map (some b)] 43)) fun e w' => ∃ (v : Value) (ss : List (List UInt8)), e = .returned v ∧ ss.Perm (strKeys D0) ∧
      w'.ownsRow (w.alloc (.cells #[.map (some b)] 43)).heap.size 9 1 v ss.length ((ss.mergeSort (fun x y => decide (x ≤ y))).map encStr) ∧ (v = .slice none 0 0 ↔ ss = []) ∧ Below (w.alloc (.cells #[.map (some b)] 43)).heap.size (w.alloc (.cells #[.map (some b)] 43)) w' := by
  have hbl := hown.lt
  have hseq : SeqGives Fence.wide 2 Try.prog 22 #[.pointer (some ⟨w.heap.size, 0, none⟩)] encStr (fun ss => ss.Perm (strKeys D0)) (Maps.size D0) (w.alloc (.cells #[.map (some b)] 43)) :=
    AnyZ.keys_gives (ρ := Try.keys18_ren) { Try.keys18 with } Fence.wide _ trivial rfl (by omega) w.heap.size b nn D0 _ (by simp) (by simp) (by
      obtain ⟨es, clock, hb, Ft, hs, hD⟩ := hown
      exact ⟨es, clock, (Below.heap_alloc _ _ b hbl).trans hb, Ft, hs, hD⟩)
  exact AnyZ.sorted_in Try.sorted17 Fence.wide 5 trivial trivial trivial trivial rfl (by omega) (Try.sorts17 _) (enters_of Try.func21 (by kernel_rfl) rfl) 22 #[.pointer (some ⟨w.heap.size, 0, none⟩)] trivial (enters_of Try.func22 (by kernel_rfl) rfl) _ _ hmax hbytes _ hseq
set_option maxHeartbeats 1000000 in
/-- **.. AND FOR THE nil MAP: nil.** -/
theorem Try.slices_Sorted_keys_nil_17_18 (w : World) :
    CallsIn Fence.wide 5 Try.prog 17 #[.func (.func 22) #[] #[.pointer (some ⟨w.heap.size, 0, none⟩)]] (w.alloc (.cells #[.map none] 43)) fun e w' => ∃ (v : Value) (ss : List (List UInt8)), e = .returned v ∧ ss = [] ∧
      w'.ownsRow (w.alloc (.cells #[.map none] 43)).heap.size 9 1 v ss.length ((ss.mergeSort (fun x y => decide (x ≤ y))).map encStr) ∧ (v = .slice none 0 0 ↔ ss = []) ∧ Below (w.alloc (.cells #[.map none] 43)).heap.size (w.alloc (.cells #[.map none] 43)) w' := by
  have hseq : SeqGives Fence.wide 2 Try.prog 22 #[.pointer (some ⟨w.heap.size, 0, none⟩)] encStr (fun ss : List (List UInt8) => ss = []) 0 (w.alloc (.cells #[.map none] 43)) :=
    AnyZ.keys_gives_nil (ρ := Try.keys18_ren) { Try.keys18 with } Fence.wide _ trivial rfl w.heap.size _ (by simp) (by simp)
  exact AnyZ.sorted_in Try.sorted17 Fence.wide 5 trivial trivial trivial trivial rfl (by omega) (Try.sorts17 _) (enters_of Try.func21 (by kernel_rfl) rfl) 22 #[.pointer (some ⟨w.heap.size, 0, none⟩)] trivial (enters_of Try.func22 (by kernel_rfl) rfl) _ 0 (Nat.zero_le _) (by omega) _ hseq
end Go.Proofs
