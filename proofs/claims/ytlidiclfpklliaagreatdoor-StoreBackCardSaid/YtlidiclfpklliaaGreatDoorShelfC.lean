/- A part. -/
import Derived.Shelf.SlIter.Nil
import Derived.Shelf.SortM.Plain
import Derived.Shelf.SortM.SortNone
import Derived.Ground.GgzProg
import Derived.Ground.SlgmProg
import Derived.Shelf.SlMaps.Clone
import Derived.Ground.SlmcProg
import Derived.Test.YtlidiclfpklliaaGreatDoorProg
set_option maxHeartbeats 1000000
namespace Go.Proofs
open Go.Shelf
def Tryz.mc231_ren:Go.Shelf.Ren:=⟨fun | 5=>231 | 7=>120 | n=>n,fun | 23=>165 | 25=>3 | 3=>36 | 4=>4 | 20=>20 | n=>n,fun | n=>n⟩
theorem Tryz.mc231:Go.Proofs.SlLaysW.n5 Tryz.prog Tryz.mc231_ren:={
 mixed:=by kernel_rfl
 f5:=⟨Tryz.f231.name,by decide,Tryz.func231.trans (congrArg some (by kernel_rfl))⟩
 f7:=Tryz.func120.trans (congrArg some (by kernel_rfl))
 t4:=Tryz.underlying4
 a4:=Tryz.isAgg4
 z4:=Tryz.sizeOf4
 v4:=Tryz.zeroValue4
 t20:=Tryz.underlying20
 a20:=Tryz.isAgg20
 z20:=Tryz.sizeOf20
 v20:=Tryz.zeroValue20
 t23:=Tryz.underlying165
 a23:=Tryz.isAgg165
 z23:=Tryz.sizeOf165
 v23:=Tryz.zeroValue165 }
def Tryz.mc59_ren:Go.Shelf.Ren:=⟨fun | 5=>59 | 7=>120 | n=>n,fun | 23=>106 | 25=>9 | 3=>110 | 4=>4 | 20=>20 | n=>n,fun | n=>n⟩
theorem Tryz.mc59:Go.Proofs.SlLaysW.n5 Tryz.prog Tryz.mc59_ren:={
 mixed:=by kernel_rfl
 f5:=⟨Tryz.f59.name,by decide,Tryz.func59.trans (congrArg some (by kernel_rfl))⟩
 f7:=Tryz.func120.trans (congrArg some (by kernel_rfl))
 t4:=Tryz.underlying4
 a4:=Tryz.isAgg4
 z4:=Tryz.sizeOf4
 v4:=Tryz.zeroValue4
 t20:=Tryz.underlying20
 a20:=Tryz.isAgg20
 z20:=Tryz.sizeOf20
 v20:=Tryz.zeroValue20
 t23:=Tryz.underlying106
 a23:=Tryz.isAgg106
 z23:=Tryz.sizeOf106
 v23:=Tryz.zeroValue106 }
def Tryz.keys58_ren:Go.Shelf.Ren:=⟨fun | 7=>58 | 10=>119 | n=>n,fun | 23=>87 | 26=>9 | 3=>36 | 28=>102 | 0=>0 | 27=>101 | 33=>44 | 4=>4 | n=>n,fun | n=>n⟩
theorem Tryz.keys58:Go.Proofs.SlLaysZ.n7 Tryz.prog Tryz.keys58_ren:={
 mixed:=by kernel_rfl
 f7:=⟨Tryz.f58.name,by decide,Tryz.func58.trans (congrArg some (by kernel_rfl))⟩
 f10:=⟨Tryz.f119.name,by decide,Tryz.func119.trans (congrArg some (by kernel_rfl))⟩
 t0:=Tryz.underlying0
 a0:=Tryz.isAgg0
 z0:=Tryz.sizeOf0
 v0:=Tryz.zeroValue0
 t4:=Tryz.underlying4
 a4:=Tryz.isAgg4
 z4:=Tryz.sizeOf4
 v4:=Tryz.zeroValue4
 t23:=Tryz.underlying87
 a23:=Tryz.isAgg87
 z23:=Tryz.sizeOf87
 v23:=Tryz.zeroValue87
 t26:=Tryz.underlying9
 a26:=Tryz.isAgg9
 z26:=Tryz.sizeOf9
 v26:=Tryz.zeroValue9
 t27:=Tryz.underlying101
 a27:=Tryz.isAgg101
 z27:=Tryz.sizeOf101
 v27:=Tryz.zeroValue101
 t28:=Tryz.underlying102
 a28:=Tryz.isAgg102
 z28:=Tryz.sizeOf102
 v28:=Tryz.zeroValue102
 t33:=Tryz.underlying44
 a33:=Tryz.isAgg44
 z33:=Tryz.sizeOf44
 v33:=Tryz.zeroValue44 }
def Tryz.sorted57_ren:Go.Shelf.Ren:=⟨fun | 6=>57 | 8=>117 | 9=>118 | 11=>192 | 13=>194 | 12=>193 | 23=>262 | 24=>263 | 14=>253 | 15=>254 | 16=>255 | 17=>256 | 18=>257 | 19=>258 | 20=>259 | 21=>260 | 22=>261 | 25=>297 | 26=>298 | 27=>299 | 28=>300 | 29=>301 | 30=>302 | 31=>317 | n=>n,fun | 26=>9 | 28=>102 | 24=>33 | 0=>0 | 3=>3 | 37=>220 | 48=>223 | 50=>224 | 4=>4 | 40=>327 | 39=>326 | 45=>94 | 5=>5 | 9=>9 | 51=>358 | 55=>362 | 57=>370 | 58=>297 | 33=>44 | n=>n,fun | n=>n⟩
theorem Tryz.sorted57:Go.Proofs.SlLaysZ.n6 Tryz.prog Tryz.sorted57_ren:={
 mixed:=by kernel_rfl
 f6:=⟨Tryz.f57.name,by decide,Tryz.func57.trans (congrArg some (by kernel_rfl))⟩
 f8:=⟨Tryz.f117.name,by decide,Tryz.func117.trans (congrArg some (by kernel_rfl))⟩
 f11:=⟨Tryz.f192.name,by decide,Tryz.func192.trans (congrArg some (by kernel_rfl))⟩
 t0:=Tryz.underlying0
 a0:=Tryz.isAgg0
 z0:=Tryz.sizeOf0
 v0:=Tryz.zeroValue0
 t24:=Tryz.underlying33
 a24:=Tryz.isAgg33
 z24:=Tryz.sizeOf33
 v24:=Tryz.zeroValue33
 t26:=Tryz.underlying9
 a26:=Tryz.isAgg9
 z26:=Tryz.sizeOf9
 v26:=Tryz.zeroValue9
 t28:=Tryz.underlying102
 a28:=Tryz.isAgg102
 z28:=Tryz.sizeOf102
 v28:=Tryz.zeroValue102
 i26:=by kernel_rfl }
def Tryz.sort118_ren:Go.Shelf.Ren:=⟨fun | 6=>118 | 8=>194 | 9=>193 | 19=>262 | 20=>263 | 21=>253 | 22=>254 | 23=>255 | 24=>256 | 25=>257 | 26=>258 | 27=>259 | 28=>260 | 29=>261 | 36=>297 | 31=>298 | 32=>299 | 37=>300 | 38=>301 | 39=>302 | 41=>317 | n=>n,fun | 27=>33 | 29=>9 | 3=>3 | 32=>220 | 26=>33 | 0=>0 | 44=>223 | 46=>224 | 4=>4 | 36=>327 | 35=>326 | 41=>94 | 5=>5 | 9=>9 | 53=>358 | 57=>362 | 63=>370 | 64=>297 | n=>n,fun | n=>n⟩
theorem Tryz.sort118:Go.Proofs.SlLaysM.n6 Tryz.prog Tryz.sort118_ren:={
 mixed:=by kernel_rfl
 f6:=⟨Tryz.f118.name,by decide,Tryz.func118.trans (congrArg some (by kernel_rfl))⟩
 f8:=Tryz.func194.trans (congrArg some (by kernel_rfl))
 f9:=⟨Tryz.f193.name,by decide,Tryz.func193.trans (congrArg some (by kernel_rfl))⟩
 f19:=Tryz.func262.trans (congrArg some (by kernel_rfl))
 f20:=Tryz.func263.trans (congrArg some (by kernel_rfl))
 f21:=⟨Tryz.f253.name,by decide,Tryz.func253.trans (congrArg some (by kernel_rfl))⟩
 f22:=⟨Tryz.f254.name,by decide,Tryz.func254.trans (congrArg some (by kernel_rfl))⟩
 f23:=⟨Tryz.f255.name,by decide,Tryz.func255.trans (congrArg some (by kernel_rfl))⟩
 f24:=⟨Tryz.f256.name,by decide,Tryz.func256.trans (congrArg some (by kernel_rfl))⟩
 f25:=⟨Tryz.f257.name,by decide,Tryz.func257.trans (congrArg some (by kernel_rfl))⟩
 f26:=⟨Tryz.f258.name,by decide,Tryz.func258.trans (congrArg some (by kernel_rfl))⟩
 f27:=⟨Tryz.f259.name,by decide,Tryz.func259.trans (congrArg some (by kernel_rfl))⟩
 f28:=⟨Tryz.f260.name,by decide,Tryz.func260.trans (congrArg some (by kernel_rfl))⟩
 f29:=⟨Tryz.f261.name,by decide,Tryz.func261.trans (congrArg some (by kernel_rfl))⟩
 f31:=Tryz.func298.trans (congrArg some (by kernel_rfl))
 f32:=Tryz.func299.trans (congrArg some (by kernel_rfl))
 f36:=⟨Tryz.f297.name,by decide,Tryz.func297.trans (congrArg some (by kernel_rfl))⟩
 f37:=⟨Tryz.f300.name,by decide,Tryz.func300.trans (congrArg some (by kernel_rfl))⟩
 f38:=⟨Tryz.f301.name,by decide,Tryz.func301.trans (congrArg some (by kernel_rfl))⟩
 f39:=⟨Tryz.f302.name,by decide,Tryz.func302.trans (congrArg some (by kernel_rfl))⟩
 f41:=⟨Tryz.f317.name,by decide,Tryz.func317.trans (congrArg some (by kernel_rfl))⟩
 t0:=Tryz.underlying0
 a0:=Tryz.isAgg0
 z0:=Tryz.sizeOf0
 v0:=Tryz.zeroValue0
 t3:=Tryz.underlying3
 a3:=Tryz.isAgg3
 z3:=Tryz.sizeOf3
 v3:=Tryz.zeroValue3
 t4:=Tryz.underlying4
 a4:=Tryz.isAgg4
 z4:=Tryz.sizeOf4
 v4:=Tryz.zeroValue4
 t5:=Tryz.underlying5
 a5:=Tryz.isAgg5
 z5:=Tryz.sizeOf5
 v5:=Tryz.zeroValue5
 t9:=Tryz.underlying9
 a9:=Tryz.isAgg9
 z9:=Tryz.sizeOf9
 v9:=Tryz.zeroValue9
 t26:=Tryz.underlying33
 a26:=Tryz.isAgg33
 z26:=Tryz.sizeOf33
 v26:=Tryz.zeroValue33
 t27:=Tryz.underlying33
 a27:=Tryz.isAgg33
 z27:=Tryz.sizeOf33
 v27:=Tryz.zeroValue33
 t29:=Tryz.underlying9
 a29:=Tryz.isAgg9
 z29:=Tryz.sizeOf9
 v29:=Tryz.zeroValue9
 t32:=Tryz.underlying220
 a32:=Tryz.isAgg220
 z32:=Tryz.sizeOf220
 v32:=Tryz.zeroValue220
 t35:=Tryz.underlying326
 a35:=Tryz.isAgg326
 z35:=Tryz.sizeOf326
 v35:=Tryz.zeroValue326
 t36:=Tryz.underlying327
 a36:=Tryz.isAgg327
 z36:=Tryz.sizeOf327
 v36:=Tryz.zeroValue327
 t41:=Tryz.underlying94
 a41:=Tryz.isAgg94
 z41:=Tryz.sizeOf94
 v41:=Tryz.zeroValue94
 t44:=Tryz.underlying223
 a44:=Tryz.isAgg223
 z44:=Tryz.sizeOf223
 v44:=Tryz.zeroValue223
 t46:=Tryz.underlying224
 a46:=Tryz.isAgg224
 z46:=Tryz.sizeOf224
 v46:=Tryz.zeroValue224
 t53:=Tryz.underlying358
 a53:=Tryz.isAgg358
 z53:=Tryz.sizeOf358
 v53:=Tryz.zeroValue358
 t57:=Tryz.underlying362
 a57:=Tryz.isAgg362
 z57:=Tryz.sizeOf362
 v57:=Tryz.zeroValue362
 t63:=Tryz.underlying370
 a63:=Tryz.isAgg370
 z63:=Tryz.sizeOf370
 v63:=Tryz.zeroValue370
 t64:=Tryz.underlying297
 a64:=Tryz.isAgg297
 z64:=Tryz.sizeOf297
 v64:=Tryz.zeroValue297 }
def Tryz.keys204_ren:Go.Shelf.Ren:=⟨fun | 7=>204 | 10=>268 | n=>n,fun | 23=>106 | 26=>9 | 3=>110 | 28=>102 | 0=>0 | 27=>101 | 33=>44 | 4=>4 | n=>n,fun | n=>n⟩
theorem Tryz.keys204:Go.Proofs.SlLaysZ.n7 Tryz.prog Tryz.keys204_ren:={
 mixed:=by kernel_rfl
 f7:=⟨Tryz.f204.name,by decide,Tryz.func204.trans (congrArg some (by kernel_rfl))⟩
 f10:=⟨Tryz.f268.name,by decide,Tryz.func268.trans (congrArg some (by kernel_rfl))⟩
 t0:=Tryz.underlying0
 a0:=Tryz.isAgg0
 z0:=Tryz.sizeOf0
 v0:=Tryz.zeroValue0
 t4:=Tryz.underlying4
 a4:=Tryz.isAgg4
 z4:=Tryz.sizeOf4
 v4:=Tryz.zeroValue4
 t23:=Tryz.underlying106
 a23:=Tryz.isAgg106
 z23:=Tryz.sizeOf106
 v23:=Tryz.zeroValue106
 t26:=Tryz.underlying9
 a26:=Tryz.isAgg9
 z26:=Tryz.sizeOf9
 v26:=Tryz.zeroValue9
 t27:=Tryz.underlying101
 a27:=Tryz.isAgg101
 z27:=Tryz.sizeOf101
 v27:=Tryz.zeroValue101
 t28:=Tryz.underlying102
 a28:=Tryz.isAgg102
 z28:=Tryz.sizeOf102
 v28:=Tryz.zeroValue102
 t33:=Tryz.underlying44
 a33:=Tryz.isAgg44
 z33:=Tryz.sizeOf44
 v33:=Tryz.zeroValue44 }
open Go.RowKit Go.Maps Go.Sort
theorem Tryz.sorts57 (m:Nat):AnyZ.SortsIn Tryz.prog Tryz.sorted57_ren Fence.wide m:=
 ⟨fun blk off cap ss W hH hblk hsz=>callsIn_wide.2 (AnyM.slices_Sort_string Tryz.sort118 blk off cap ss W hH hblk hsz),
 fun p cap W=>callsIn_wide.2 (AnyM.slices_Sort_string_none Tryz.sort118 p cap W)⟩
theorem Tryz.maps_Keys_58 (mb:Option Nat) (W:World):CallsIn Fence.wide 5 Tryz.prog 58 #[.map mb] W fun e w'=>e=.returned (.func (.func 119) #[] #[.pointer (some ⟨W.heap.size,0,none⟩)])∧w'=W.alloc (.cells #[.map mb] 87):=
 AnyZ.keys_in Tryz.keys58 Fence.wide 5 trivial rfl mb W
theorem Tryz.slices_Sorted_keys_57_58 {H:Type} (b nn:Nat) (D0:DataW H) (R:Value→Option (DataW H×List MemPlace)) (w:World) (hown:w.ownsMap Tryz.prog 9 R b nn D0) (hmax:Maps.size D0≤maxLen) (hbytes:Maps.size D0 * 16≤140737488355328):
 CallsIn Fence.wide 5 Tryz.prog 57 #[.func (.func 119) #[] #[.pointer (some ⟨w.heap.size,0,none⟩)]] (w.alloc (.cells #[.map (some b)] 87)) fun e w'=>∃(v:Value) (ss:List (List UInt8)),e=.returned v∧ss.Perm (strKeys D0)∧
 w'.ownsRow (w.alloc (.cells #[.map (some b)] 87)).heap.size 9 1 v ss.length ((ss.mergeSort (fun x y=>decide (x≤y))).map encStr)∧(v=.slice none 0 0↔ss=[])∧Below (w.alloc (.cells #[.map (some b)] 87)).heap.size (w.alloc (.cells #[.map (some b)] 87)) w':=by
 have hbl:=hown.lt
 have hseq:SeqGives Fence.wide 2 Tryz.prog 119 #[.pointer (some ⟨w.heap.size,0,none⟩)] encStr (fun ss=>ss.Perm (strKeys D0)) (Maps.size D0) (w.alloc (.cells #[.map (some b)] 87)):=
 AnyZ.keys_gives (ρ:=Tryz.keys58_ren) { Tryz.keys58 with } Fence.wide _ trivial rfl (by omega) w.heap.size b nn D0 _ (by simp) (by simp) (by
 obtain⟨es,clock,hb,Ft,hs,hD⟩:=hown
 exact⟨es,clock,(Below.heap_alloc _ _ b hbl).trans hb,Ft,hs,hD⟩)
 exact AnyZ.sorted_in Tryz.sorted57 Fence.wide 5 trivial trivial trivial trivial rfl (by omega) (Tryz.sorts57 _) (enters_of Tryz.func118 (by kernel_rfl) rfl) 119 #[.pointer (some ⟨w.heap.size,0,none⟩)] trivial (enters_of Tryz.func119 (by kernel_rfl) rfl) _ _ hmax hbytes _ hseq
theorem Tryz.maps_Keys_204 (mb:Option Nat) (W:World):CallsIn Fence.wide 5 Tryz.prog 204 #[.map mb] W fun e w'=>e=.returned (.func (.func 268) #[] #[.pointer (some ⟨W.heap.size,0,none⟩)])∧w'=W.alloc (.cells #[.map mb] 106):=
 AnyZ.keys_in Tryz.keys204 Fence.wide 5 trivial rfl mb W
theorem Tryz.slices_Sorted_keys_57_204 {H:Type} (b nn:Nat) (D0:DataW H) (R:Value→Option (DataW H×List MemPlace)) (w:World) (hown:w.ownsMap Tryz.prog 9 R b nn D0) (hmax:Maps.size D0≤maxLen) (hbytes:Maps.size D0 * 16≤140737488355328):
 CallsIn Fence.wide 5 Tryz.prog 57 #[.func (.func 268) #[] #[.pointer (some ⟨w.heap.size,0,none⟩)]] (w.alloc (.cells #[.map (some b)] 106)) fun e w'=>∃(v:Value) (ss:List (List UInt8)),e=.returned v∧ss.Perm (strKeys D0)∧
 w'.ownsRow (w.alloc (.cells #[.map (some b)] 106)).heap.size 9 1 v ss.length ((ss.mergeSort (fun x y=>decide (x≤y))).map encStr)∧(v=.slice none 0 0↔ss=[])∧Below (w.alloc (.cells #[.map (some b)] 106)).heap.size (w.alloc (.cells #[.map (some b)] 106)) w':=by
 have hbl:=hown.lt
 have hseq:SeqGives Fence.wide 2 Tryz.prog 268 #[.pointer (some ⟨w.heap.size,0,none⟩)] encStr (fun ss=>ss.Perm (strKeys D0)) (Maps.size D0) (w.alloc (.cells #[.map (some b)] 106)):=
 AnyZ.keys_gives (ρ:=Tryz.keys204_ren) { Tryz.keys204 with } Fence.wide _ trivial rfl (by omega) w.heap.size b nn D0 _ (by simp) (by simp) (by
 obtain⟨es,clock,hb,Ft,hs,hD⟩:=hown
 exact⟨es,clock,(Below.heap_alloc _ _ b hbl).trans hb,Ft,hs,hD⟩)
 exact AnyZ.sorted_in Tryz.sorted57 Fence.wide 5 trivial trivial trivial trivial rfl (by omega) (Tryz.sorts57 _) (enters_of Tryz.func118 (by kernel_rfl) rfl) 268 #[.pointer (some ⟨w.heap.size,0,none⟩)] trivial (enters_of Tryz.func268 (by kernel_rfl) rfl) _ _ hmax hbytes _ hseq
end Go.Proofs
