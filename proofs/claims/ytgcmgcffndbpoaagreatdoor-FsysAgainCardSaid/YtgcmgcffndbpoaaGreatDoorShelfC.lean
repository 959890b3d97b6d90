/-
  DERIVED: THE SHELF's CONTRACTS AT THIS DUMP, IN PLAIN WORDS (tools/lay-plain.mjs out of 'TryzShelfC.lean', which tools/lay-shelf.mjs wrote): THE SAME DECLARATIONS UNDER THE SAME NAMES: 'import', 'namespace', 'open', 'def', 'theorem' AND NOTHING ELSE: no command of the shelf's: FOR A HAND-IN. Each laying: the table of numbers ('.._ren') and one theorem, a field a fact of the dump's own or the kernel's comparison; each contract: ONE APPLICATION.
-/
import Derived.Shelf.SlIter.Nil
import Derived.Shelf.SortM.Plain
import Derived.Shelf.SortM.SortNone
import Derived.Ground.GgzProg
import Derived.Ground.SlgmProg
import Derived.Shelf.SlMaps.Clone
import Derived.Ground.SlmcProg
import Derived.Test.YtgcmgcffndbpoaaGreatDoorProg
namespace Go.Proofs
open Go.Shelf
def Tryz.mc32_ren : Go.Shelf.Ren := ⟨fun | 5 => 32 | 7 => 59 | n => n, fun | 23 => 69 | 25 => 9 | 3 => 72 | 4 => 4 | 20 => 20 | n => n, fun | n => n⟩
theorem Tryz.mc32 : Go.Proofs.SlLaysW.n5 Tryz.prog Tryz.mc32_ren := {
  mixed := by kernel_rfl
  f5 := ⟨Tryz.f32.name, by decide, Tryz.func32.trans (congrArg some (by kernel_rfl))⟩
  f7 := Tryz.func59.trans (congrArg some (by kernel_rfl))
  t4 := Tryz.underlying4
  a4 := Tryz.isAgg4
  z4 := Tryz.sizeOf4
  v4 := Tryz.zeroValue4
  t20 := Tryz.underlying20
  a20 := Tryz.isAgg20
  z20 := Tryz.sizeOf20
  v20 := Tryz.zeroValue20
  t23 := Tryz.underlying69
  a23 := Tryz.isAgg69
  z23 := Tryz.sizeOf69
  v23 := Tryz.zeroValue69 }
def Tryz.mc46_ren : Go.Shelf.Ren := ⟨fun | 5 => 46 | 7 => 59 | n => n, fun | 23 => 93 | 25 => 3 | 3 => 38 | 4 => 4 | 20 => 20 | n => n, fun | n => n⟩
theorem Tryz.mc46 : Go.Proofs.SlLaysW.n5 Tryz.prog Tryz.mc46_ren := {
  mixed := by kernel_rfl
  f5 := ⟨Tryz.f46.name, by decide, Tryz.func46.trans (congrArg some (by kernel_rfl))⟩
  f7 := Tryz.func59.trans (congrArg some (by kernel_rfl))
  t4 := Tryz.underlying4
  a4 := Tryz.isAgg4
  z4 := Tryz.sizeOf4
  v4 := Tryz.zeroValue4
  t20 := Tryz.underlying20
  a20 := Tryz.isAgg20
  z20 := Tryz.sizeOf20
  v20 := Tryz.zeroValue20
  t23 := Tryz.underlying93
  a23 := Tryz.isAgg93
  z23 := Tryz.sizeOf93
  v23 := Tryz.zeroValue93 }
def Tryz.keys66_ren : Go.Shelf.Ren := ⟨fun | 7 => 66 | 10 => 88 | n => n, fun | 23 => 76 | 26 => 9 | 3 => 38 | 28 => 116 | 0 => 0 | 27 => 115 | 33 => 44 | 4 => 4 | n => n, fun | n => n⟩
theorem Tryz.keys66 : Go.Proofs.SlLaysZ.n7 Tryz.prog Tryz.keys66_ren := {
  mixed := by kernel_rfl
  f7 := ⟨Tryz.f66.name, by decide, Tryz.func66.trans (congrArg some (by kernel_rfl))⟩
  f10 := ⟨Tryz.f88.name, by decide, Tryz.func88.trans (congrArg some (by kernel_rfl))⟩
  t0 := Tryz.underlying0
  a0 := Tryz.isAgg0
  z0 := Tryz.sizeOf0
  v0 := Tryz.zeroValue0
  t4 := Tryz.underlying4
  a4 := Tryz.isAgg4
  z4 := Tryz.sizeOf4
  v4 := Tryz.zeroValue4
  t23 := Tryz.underlying76
  a23 := Tryz.isAgg76
  z23 := Tryz.sizeOf76
  v23 := Tryz.zeroValue76
  t26 := Tryz.underlying9
  a26 := Tryz.isAgg9
  z26 := Tryz.sizeOf9
  v26 := Tryz.zeroValue9
  t27 := Tryz.underlying115
  a27 := Tryz.isAgg115
  z27 := Tryz.sizeOf115
  v27 := Tryz.zeroValue115
  t28 := Tryz.underlying116
  a28 := Tryz.isAgg116
  z28 := Tryz.sizeOf116
  v28 := Tryz.zeroValue116
  t33 := Tryz.underlying44
  a33 := Tryz.isAgg44
  z33 := Tryz.sizeOf44
  v33 := Tryz.zeroValue44 }
def Tryz.sorted65_ren : Go.Shelf.Ren := ⟨fun | 6 => 65 | 8 => 86 | 9 => 87 | 11 => 109 | 13 => 111 | 12 => 110 | 23 => 132 | 24 => 133 | 14 => 123 | 15 => 124 | 16 => 125 | 17 => 126 | 18 => 127 | 19 => 128 | 20 => 129 | 21 => 130 | 22 => 131 | 25 => 138 | 26 => 139 | 27 => 140 | 28 => 141 | 29 => 142 | 30 => 143 | 31 => 144 | n => n, fun | 26 => 9 | 28 => 116 | 24 => 30 | 0 => 0 | 3 => 3 | 37 => 135 | 48 => 183 | 50 => 185 | 4 => 4 | 40 => 175 | 39 => 174 | 45 => 180 | 5 => 5 | 9 => 9 | 51 => 187 | 55 => 191 | 57 => 197 | 58 => 198 | 33 => 44 | n => n, fun | n => n⟩
theorem Tryz.sorted65 : Go.Proofs.SlLaysZ.n6 Tryz.prog Tryz.sorted65_ren := {
  mixed := by kernel_rfl
  f6 := ⟨Tryz.f65.name, by decide, Tryz.func65.trans (congrArg some (by kernel_rfl))⟩
  f8 := ⟨Tryz.f86.name, by decide, Tryz.func86.trans (congrArg some (by kernel_rfl))⟩
  f11 := ⟨Tryz.f109.name, by decide, Tryz.func109.trans (congrArg some (by kernel_rfl))⟩
  t0 := Tryz.underlying0
  a0 := Tryz.isAgg0
  z0 := Tryz.sizeOf0
  v0 := Tryz.zeroValue0
  t24 := Tryz.underlying30
  a24 := Tryz.isAgg30
  z24 := Tryz.sizeOf30
  v24 := Tryz.zeroValue30
  t26 := Tryz.underlying9
  a26 := Tryz.isAgg9
  z26 := Tryz.sizeOf9
  v26 := Tryz.zeroValue9
  t28 := Tryz.underlying116
  a28 := Tryz.isAgg116
  z28 := Tryz.sizeOf116
  v28 := Tryz.zeroValue116
  i26 := by kernel_rfl }
def Tryz.sort87_ren : Go.Shelf.Ren := ⟨fun | 6 => 87 | 8 => 111 | 9 => 110 | 19 => 132 | 20 => 133 | 21 => 123 | 22 => 124 | 23 => 125 | 24 => 126 | 25 => 127 | 26 => 128 | 27 => 129 | 28 => 130 | 29 => 131 | 36 => 138 | 31 => 139 | 32 => 140 | 37 => 141 | 38 => 142 | 39 => 143 | 41 => 144 | n => n, fun | 27 => 30 | 29 => 9 | 3 => 3 | 32 => 135 | 26 => 30 | 0 => 0 | 44 => 183 | 46 => 185 | 4 => 4 | 36 => 175 | 35 => 174 | 41 => 180 | 5 => 5 | 9 => 9 | 53 => 187 | 57 => 191 | 63 => 197 | 64 => 198 | n => n, fun | n => n⟩
theorem Tryz.sort87 : Go.Proofs.SlLaysM.n6 Tryz.prog Tryz.sort87_ren := {
  mixed := by kernel_rfl
  f6 := ⟨Tryz.f87.name, by decide, Tryz.func87.trans (congrArg some (by kernel_rfl))⟩
  f8 := Tryz.func111.trans (congrArg some (by kernel_rfl))
  f9 := ⟨Tryz.f110.name, by decide, Tryz.func110.trans (congrArg some (by kernel_rfl))⟩
  f19 := Tryz.func132.trans (congrArg some (by kernel_rfl))
  f20 := Tryz.func133.trans (congrArg some (by kernel_rfl))
  f21 := ⟨Tryz.f123.name, by decide, Tryz.func123.trans (congrArg some (by kernel_rfl))⟩
  f22 := ⟨Tryz.f124.name, by decide, Tryz.func124.trans (congrArg some (by kernel_rfl))⟩
  f23 := ⟨Tryz.f125.name, by decide, Tryz.func125.trans (congrArg some (by kernel_rfl))⟩
  f24 := ⟨Tryz.f126.name, by decide, Tryz.func126.trans (congrArg some (by kernel_rfl))⟩
  f25 := ⟨Tryz.f127.name, by decide, Tryz.func127.trans (congrArg some (by kernel_rfl))⟩
  f26 := ⟨Tryz.f128.name, by decide, Tryz.func128.trans (congrArg some (by kernel_rfl))⟩
  f27 := ⟨Tryz.f129.name, by decide, Tryz.func129.trans (congrArg some (by kernel_rfl))⟩
  f28 := ⟨Tryz.f130.name, by decide, Tryz.func130.trans (congrArg some (by kernel_rfl))⟩
  f29 := ⟨Tryz.f131.name, by decide, Tryz.func131.trans (congrArg some (by kernel_rfl))⟩
  f31 := Tryz.func139.trans (congrArg some (by kernel_rfl))
  f32 := Tryz.func140.trans (congrArg some (by kernel_rfl))
  f36 := ⟨Tryz.f138.name, by decide, Tryz.func138.trans (congrArg some (by kernel_rfl))⟩
  f37 := ⟨Tryz.f141.name, by decide, Tryz.func141.trans (congrArg some (by kernel_rfl))⟩
  f38 := ⟨Tryz.f142.name, by decide, Tryz.func142.trans (congrArg some (by kernel_rfl))⟩
  f39 := ⟨Tryz.f143.name, by decide, Tryz.func143.trans (congrArg some (by kernel_rfl))⟩
  f41 := ⟨Tryz.f144.name, by decide, Tryz.func144.trans (congrArg some (by kernel_rfl))⟩
  t0 := Tryz.underlying0
  a0 := Tryz.isAgg0
  z0 := Tryz.sizeOf0
  v0 := Tryz.zeroValue0
  t3 := Tryz.underlying3
  a3 := Tryz.isAgg3
  z3 := Tryz.sizeOf3
  v3 := Tryz.zeroValue3
  t4 := Tryz.underlying4
  a4 := Tryz.isAgg4
  z4 := Tryz.sizeOf4
  v4 := Tryz.zeroValue4
  t5 := Tryz.underlying5
  a5 := Tryz.isAgg5
  z5 := Tryz.sizeOf5
  v5 := Tryz.zeroValue5
  t9 := Tryz.underlying9
  a9 := Tryz.isAgg9
  z9 := Tryz.sizeOf9
  v9 := Tryz.zeroValue9
  t26 := Tryz.underlying30
  a26 := Tryz.isAgg30
  z26 := Tryz.sizeOf30
  v26 := Tryz.zeroValue30
  t27 := Tryz.underlying30
  a27 := Tryz.isAgg30
  z27 := Tryz.sizeOf30
  v27 := Tryz.zeroValue30
  t29 := Tryz.underlying9
  a29 := Tryz.isAgg9
  z29 := Tryz.sizeOf9
  v29 := Tryz.zeroValue9
  t32 := Tryz.underlying135
  a32 := Tryz.isAgg135
  z32 := Tryz.sizeOf135
  v32 := Tryz.zeroValue135
  t35 := Tryz.underlying174
  a35 := Tryz.isAgg174
  z35 := Tryz.sizeOf174
  v35 := Tryz.zeroValue174
  t36 := Tryz.underlying175
  a36 := Tryz.isAgg175
  z36 := Tryz.sizeOf175
  v36 := Tryz.zeroValue175
  t41 := Tryz.underlying180
  a41 := Tryz.isAgg180
  z41 := Tryz.sizeOf180
  v41 := Tryz.zeroValue180
  t44 := Tryz.underlying183
  a44 := Tryz.isAgg183
  z44 := Tryz.sizeOf183
  v44 := Tryz.zeroValue183
  t46 := Tryz.underlying185
  a46 := Tryz.isAgg185
  z46 := Tryz.sizeOf185
  v46 := Tryz.zeroValue185
  t53 := Tryz.underlying187
  a53 := Tryz.isAgg187
  z53 := Tryz.sizeOf187
  v53 := Tryz.zeroValue187
  t57 := Tryz.underlying191
  a57 := Tryz.isAgg191
  z57 := Tryz.sizeOf191
  v57 := Tryz.zeroValue191
  t63 := Tryz.underlying197
  a63 := Tryz.isAgg197
  z63 := Tryz.sizeOf197
  v63 := Tryz.zeroValue197
  t64 := Tryz.underlying198
  a64 := Tryz.isAgg198
  z64 := Tryz.sizeOf198
  v64 := Tryz.zeroValue198 }
def Tryz.keys83_ren : Go.Shelf.Ren := ⟨fun | 7 => 83 | 10 => 108 | n => n, fun | 23 => 69 | 26 => 9 | 3 => 72 | 28 => 116 | 0 => 0 | 27 => 115 | 33 => 44 | 4 => 4 | n => n, fun | n => n⟩
theorem Tryz.keys83 : Go.Proofs.SlLaysZ.n7 Tryz.prog Tryz.keys83_ren := {
  mixed := by kernel_rfl
  f7 := ⟨Tryz.f83.name, by decide, Tryz.func83.trans (congrArg some (by kernel_rfl))⟩
  f10 := ⟨Tryz.f108.name, by decide, Tryz.func108.trans (congrArg some (by kernel_rfl))⟩
  t0 := Tryz.underlying0
  a0 := Tryz.isAgg0
  z0 := Tryz.sizeOf0
  v0 := Tryz.zeroValue0
  t4 := Tryz.underlying4
  a4 := Tryz.isAgg4
  z4 := Tryz.sizeOf4
  v4 := Tryz.zeroValue4
  t23 := Tryz.underlying69
  a23 := Tryz.isAgg69
  z23 := Tryz.sizeOf69
  v23 := Tryz.zeroValue69
  t26 := Tryz.underlying9
  a26 := Tryz.isAgg9
  z26 := Tryz.sizeOf9
  v26 := Tryz.zeroValue9
  t27 := Tryz.underlying115
  a27 := Tryz.isAgg115
  z27 := Tryz.sizeOf115
  v27 := Tryz.zeroValue115
  t28 := Tryz.underlying116
  a28 := Tryz.isAgg116
  z28 := Tryz.sizeOf116
  v28 := Tryz.zeroValue116
  t33 := Tryz.underlying44
  a33 := Tryz.isAgg44
  z33 := Tryz.sizeOf44
  v33 := Tryz.zeroValue44 }
open Go.RowKit Go.Maps Go.Sort
/-- slices.Sort's two contracts at this dump, at the fence that asks nothing. -/
theorem Tryz.sorts65 (m : Nat) : AnyZ.SortsIn Tryz.prog Tryz.sorted65_ren Fence.wide m :=
  ⟨fun blk off cap ss W hH hblk hsz => callsIn_wide.2 (AnyM.slices_Sort_string Tryz.sort87 blk off cap ss W hH hblk hsz),
   fun p cap W => callsIn_wide.2 (AnyM.slices_Sort_string_none Tryz.sort87 p cap W)⟩
/-- **maps.Keys[map[string][]byte,string,[]byte], at whatever map, the nil one too:** a function value over ONE NEW BLOCK, which holds the map. -/
theorem Tryz.maps_Keys_66 (mb : Option Nat) (W : World) : CallsIn Fence.wide 5 Tryz.prog 66 #[.map mb] W fun e w' => e = .returned (.func (.func 88) #[] #[.pointer (some ⟨W.heap.size, 0, none⟩)]) ∧ w' = W.alloc (.cells #[.map mb] 76) :=
  AnyZ.keys_in Tryz.keys66 Fence.wide 5 trivial rfl mb W
set_option maxHeartbeats 1000000 in
/-- **slices.Sorted[string] AT WHAT maps.Keys[map[string][]byte,string,[]byte] HANDED BACK FOR A MAP THAT IS NOT nil** ('w': the world AHEAD of maps.Keys' call): A NEW SLICE THAT HOLDS THE MAP's KEYS, SORTED; nil just where it has none; nothing that lay before has turned. -/
theorem Tryz.slices_Sorted_keys_65_66 {H : Type} (b nn : Nat) (D0 : DataW H) (R : Value → Option (DataW H × List MemPlace)) (w : World) (hown : w.ownsMap Tryz.prog 9 R b nn D0) (hmax : Maps.size D0 ≤ maxLen) (hbytes : Maps.size D0 * 16 ≤ 140737488355328) :
    CallsIn Fence.wide 5 Tryz.prog 65 #[.func (.func 88) #[] #[.pointer (some ⟨w.heap.size, 0, none⟩)]] (w.alloc (.cells #[.map (some b)] 76)) fun e w' => ∃ (v : Value) (ss : List (List UInt8)), e = .returned v ∧ ss.Perm (strKeys D0) ∧
      w'.ownsRow (w.alloc (.cells #[.map (some b)] 76)).heap.size 9 1 v ss.length ((ss.mergeSort (fun x y => decide (x ≤ y))).map encStr) ∧ (v = .slice none 0 0 ↔ ss = []) ∧ Below (w.alloc (.cells #[.map (some b)] 76)).heap.size (w.alloc (.cells #[.map (some b)] 76)) w' := by
  have hbl := hown.lt
  have hseq : SeqGives Fence.wide 2 Tryz.prog 88 #[.pointer (some ⟨w.heap.size, 0, none⟩)] encStr (fun ss => ss.Perm (strKeys D0)) (Maps.size D0) (w.alloc (.cells #[.map (some b)] 76)) :=
    AnyZ.keys_gives (ρ := Tryz.keys66_ren) { Tryz.keys66 with } Fence.wide _ trivial rfl (by omega) w.heap.size b nn D0 _ (by simp) (by simp) (by
      obtain ⟨es, clock, hb, Ft, hs, hD⟩ := hown
      exact ⟨es, clock, (Below.heap_alloc _ _ b hbl).trans hb, Ft, hs, hD⟩)
  exact AnyZ.sorted_in Tryz.sorted65 Fence.wide 5 trivial trivial trivial trivial rfl (by omega) (Tryz.sorts65 _) (enters_of Tryz.func87 (by kernel_rfl) rfl) 88 #[.pointer (some ⟨w.heap.size, 0, none⟩)] trivial (enters_of Tryz.func88 (by kernel_rfl) rfl) _ _ hmax hbytes _ hseq
set_option maxHeartbeats 1000000 in
/-- **.. AND FOR THE nil MAP: nil.** -/
theorem Tryz.slices_Sorted_keys_nil_65_66 (w : World) :
    CallsIn Fence.wide 5 Tryz.prog 65 #[.func (.func 88) #[] #[.pointer (some ⟨w.heap.size, 0, none⟩)]] (w.alloc (.cells #[.map none] 76)) fun e w' => ∃ (v : Value) (ss : List (List UInt8)), e = .returned v ∧ ss = [] ∧
      w'.ownsRow (w.alloc (.cells #[.map none] 76)).heap.size 9 1 v ss.length ((ss.mergeSort (fun x y => decide (x ≤ y))).map encStr) ∧ (v = .slice none 0 0 ↔ ss = []) ∧ Below (w.alloc (.cells #[.map none] 76)).heap.size (w.alloc (.cells #[.map none] 76)) w' := by
  have hseq : SeqGives Fence.wide 2 Tryz.prog 88 #[.pointer (some ⟨w.heap.size, 0, none⟩)] encStr (fun ss : List (List UInt8) => ss = []) 0 (w.alloc (.cells #[.map none] 76)) :=
    AnyZ.keys_gives_nil (ρ := Tryz.keys66_ren) { Tryz.keys66 with } Fence.wide _ trivial rfl w.heap.size _ (by simp) (by simp)
  exact AnyZ.sorted_in Tryz.sorted65 Fence.wide 5 trivial trivial trivial trivial rfl (by omega) (Tryz.sorts65 _) (enters_of Tryz.func87 (by kernel_rfl) rfl) 88 #[.pointer (some ⟨w.heap.size, 0, none⟩)] trivial (enters_of Tryz.func88 (by kernel_rfl) rfl) _ 0 (Nat.zero_le _) (by omega) _ hseq
/-- **maps.Keys[aquatint/fsys.files,string,aquatint/fsys.file], at whatever map, the nil one too:** a function value over ONE NEW BLOCK, which holds the map. -/
theorem Tryz.maps_Keys_83 (mb : Option Nat) (W : World) : CallsIn Fence.wide 5 Tryz.prog 83 #[.map mb] W fun e w' => e = .returned (.func (.func 108) #[] #[.pointer (some ⟨W.heap.size, 0, none⟩)]) ∧ w' = W.alloc (.cells #[.map mb] 69) :=
  AnyZ.keys_in Tryz.keys83 Fence.wide 5 trivial rfl mb W
set_option maxHeartbeats 1000000 in
/-- **slices.Sorted[string] AT WHAT maps.Keys[aquatint/fsys.files,string,aquatint/fsys.file] HANDED BACK FOR A MAP THAT IS NOT nil** ('w': the world AHEAD of maps.Keys' call): A NEW SLICE THAT HOLDS THE MAP's KEYS, SORTED; nil just where it has none; nothing that lay before has turned. -/
theorem Tryz.slices_Sorted_keys_65_83 {H : Type} (b nn : Nat) (D0 : DataW H) (R : Value → Option (DataW H × List MemPlace)) (w : World) (hown : w.ownsMap Tryz.prog 9 R b nn D0) (hmax : Maps.size D0 ≤ maxLen) (hbytes : Maps.size D0 * 16 ≤ 140737488355328) :
    CallsIn Fence.wide 5 Tryz.prog 65 #[.func (.func 108) #[] #[.pointer (some ⟨w.heap.size, 0, none⟩)]] (w.alloc (.cells #[.map (some b)] 69)) fun e w' => ∃ (v : Value) (ss : List (List UInt8)), e = .returned v ∧ ss.Perm (strKeys D0) ∧
      w'.ownsRow (w.alloc (.cells #[.map (some b)] 69)).heap.size 9 1 v ss.length ((ss.mergeSort (fun x y => decide (x ≤ y))).map encStr) ∧ (v = .slice none 0 0 ↔ ss = []) ∧ Below (w.alloc (.cells #[.map (some b)] 69)).heap.size (w.alloc (.cells #[.map (some b)] 69)) w' := by
  have hbl := hown.lt
  have hseq : SeqGives Fence.wide 2 Tryz.prog 108 #[.pointer (some ⟨w.heap.size, 0, none⟩)] encStr (fun ss => ss.Perm (strKeys D0)) (Maps.size D0) (w.alloc (.cells #[.map (some b)] 69)) :=
    AnyZ.keys_gives (ρ := Tryz.keys83_ren) { Tryz.keys83 with } Fence.wide _ trivial rfl (by omega) w.heap.size b nn D0 _ (by simp) (by simp) (by
      obtain ⟨es, clock, hb, Ft, hs, hD⟩ := hown
      exact ⟨es, clock, (Below.heap_alloc _ _ b hbl).trans hb, Ft, hs, hD⟩)
  exact AnyZ.sorted_in Tryz.sorted65 Fence.wide 5 trivial trivial trivial trivial rfl (by omega) (Tryz.sorts65 _) (enters_of Tryz.func87 (by kernel_rfl) rfl) 108 #[.pointer (some ⟨w.heap.size, 0, none⟩)] trivial (enters_of Tryz.func108 (by kernel_rfl) rfl) _ _ hmax hbytes _ hseq
set_option maxHeartbeats 1000000 in
/-- **.. AND FOR THE nil MAP: nil.** -/
theorem Tryz.slices_Sorted_keys_nil_65_83 (w : World) :
    CallsIn Fence.wide 5 Tryz.prog 65 #[.func (.func 108) #[] #[.pointer (some ⟨w.heap.size, 0, none⟩)]] (w.alloc (.cells #[.map none] 69)) fun e w' => ∃ (v : Value) (ss : List (List UInt8)), e = .returned v ∧ ss = [] ∧
      w'.ownsRow (w.alloc (.cells #[.map none] 69)).heap.size 9 1 v ss.length ((ss.mergeSort (fun x y => decide (x ≤ y))).map encStr) ∧ (v = .slice none 0 0 ↔ ss = []) ∧ Below (w.alloc (.cells #[.map none] 69)).heap.size (w.alloc (.cells #[.map none] 69)) w' := by
  have hseq : SeqGives Fence.wide 2 Tryz.prog 108 #[.pointer (some ⟨w.heap.size, 0, none⟩)] encStr (fun ss : List (List UInt8) => ss = []) 0 (w.alloc (.cells #[.map none] 69)) :=
    AnyZ.keys_gives_nil (ρ := Tryz.keys83_ren) { Tryz.keys83 with } Fence.wide _ trivial rfl w.heap.size _ (by simp) (by simp)
  exact AnyZ.sorted_in Tryz.sorted65 Fence.wide 5 trivial trivial trivial trivial rfl (by omega) (Tryz.sorts65 _) (enters_of Tryz.func87 (by kernel_rfl) rfl) 108 #[.pointer (some ⟨w.heap.size, 0, none⟩)] trivial (enters_of Tryz.func108 (by kernel_rfl) rfl) _ 0 (Nat.zero_le _) (by omega) _ hseq
end Go.Proofs
