/- A part. -/
import Derived.Shelf.SlIter.Nil
import Derived.Shelf.SortM.Plain
import Derived.Shelf.SortM.SortNone
import Derived.Ground.GgzProg
import Derived.Ground.SlgmProg
import Derived.Shelf.SlMaps.Clone
import Derived.Ground.SlmcProg
import Derived.Test.YtlbdklaggalgfaaGreatDoorProg
set_option maxHeartbeats 1000000
namespace Go.Proofs
open Go.Shelf
def Tryz.mc43_ren:Go.Shelf.Ren:=⟨fun | 5=>43 | 7=>102 | n=>n,fun | 23=>93 | 25=>9 | 3=>103 | 4=>4 | 20=>20 | n=>n,fun | n=>n⟩
theorem Tryz.mc43:Go.Proofs.SlLaysW.n5 Tryz.prog Tryz.mc43_ren:={
 mixed:=by kernel_rfl
 f5:=⟨Tryz.f43.name,by decide,Tryz.func43.trans (congrArg some (by kernel_rfl))⟩
 f7:=Tryz.func102.trans (congrArg some (by kernel_rfl))
 t4:=Tryz.underlying4
 a4:=Tryz.isAgg4
 z4:=Tryz.sizeOf4
 v4:=Tryz.zeroValue4
 t20:=Tryz.underlying20
 a20:=Tryz.isAgg20
 z20:=Tryz.sizeOf20
 v20:=Tryz.zeroValue20
 t23:=Tryz.underlying93
 a23:=Tryz.isAgg93
 z23:=Tryz.sizeOf93
 v23:=Tryz.zeroValue93 }
def Tryz.mc151_ren:Go.Shelf.Ren:=⟨fun | 5=>151 | 7=>102 | n=>n,fun | 23=>77 | 25=>3 | 3=>38 | 4=>4 | 20=>20 | n=>n,fun | n=>n⟩
theorem Tryz.mc151:Go.Proofs.SlLaysW.n5 Tryz.prog Tryz.mc151_ren:={
 mixed:=by kernel_rfl
 f5:=⟨Tryz.f151.name,by decide,Tryz.func151.trans (congrArg some (by kernel_rfl))⟩
 f7:=Tryz.func102.trans (congrArg some (by kernel_rfl))
 t4:=Tryz.underlying4
 a4:=Tryz.isAgg4
 z4:=Tryz.sizeOf4
 v4:=Tryz.zeroValue4
 t20:=Tryz.underlying20
 a20:=Tryz.isAgg20
 z20:=Tryz.sizeOf20
 v20:=Tryz.zeroValue20
 t23:=Tryz.underlying77
 a23:=Tryz.isAgg77
 z23:=Tryz.sizeOf77
 v23:=Tryz.zeroValue77 }
def Tryz.keys110_ren:Go.Shelf.Ren:=⟨fun | 7=>110 | 10=>167 | n=>n,fun | 23=>104 | 26=>9 | 3=>38 | 28=>145 | 0=>0 | 27=>144 | 33=>157 | 4=>4 | n=>n,fun | n=>n⟩
theorem Tryz.keys110:Go.Proofs.SlLaysZ.n7 Tryz.prog Tryz.keys110_ren:={
 mixed:=by kernel_rfl
 f7:=⟨Tryz.f110.name,by decide,Tryz.func110.trans (congrArg some (by kernel_rfl))⟩
 f10:=⟨Tryz.f167.name,by decide,Tryz.func167.trans (congrArg some (by kernel_rfl))⟩
 t0:=Tryz.underlying0
 a0:=Tryz.isAgg0
 z0:=Tryz.sizeOf0
 v0:=Tryz.zeroValue0
 t4:=Tryz.underlying4
 a4:=Tryz.isAgg4
 z4:=Tryz.sizeOf4
 v4:=Tryz.zeroValue4
 t23:=Tryz.underlying104
 a23:=Tryz.isAgg104
 z23:=Tryz.sizeOf104
 v23:=Tryz.zeroValue104
 t26:=Tryz.underlying9
 a26:=Tryz.isAgg9
 z26:=Tryz.sizeOf9
 v26:=Tryz.zeroValue9
 t27:=Tryz.underlying144
 a27:=Tryz.isAgg144
 z27:=Tryz.sizeOf144
 v27:=Tryz.zeroValue144
 t28:=Tryz.underlying145
 a28:=Tryz.isAgg145
 z28:=Tryz.sizeOf145
 v28:=Tryz.zeroValue145
 t33:=Tryz.underlying157
 a33:=Tryz.isAgg157
 z33:=Tryz.sizeOf157
 v33:=Tryz.zeroValue157 }
def Tryz.sorted109_ren:Go.Shelf.Ren:=⟨fun | 6=>109 | 8=>165 | 9=>166 | 11=>200 | 13=>202 | 12=>201 | 23=>233 | 24=>234 | 14=>224 | 15=>225 | 16=>226 | 17=>227 | 18=>228 | 19=>229 | 20=>230 | 21=>231 | 22=>232 | 25=>248 | 26=>249 | 27=>250 | 28=>251 | 29=>252 | 30=>188 | 31=>259 | n=>n,fun | 26=>9 | 28=>145 | 24=>152 | 0=>0 | 3=>3 | 37=>177 | 48=>281 | 50=>267 | 4=>4 | 40=>274 | 39=>273 | 45=>278 | 5=>5 | 9=>9 | 51=>294 | 55=>298 | 57=>305 | 58=>306 | 33=>157 | n=>n,fun | n=>n⟩
theorem Tryz.sorted109:Go.Proofs.SlLaysZ.n6 Tryz.prog Tryz.sorted109_ren:={
 mixed:=by kernel_rfl
 f6:=⟨Tryz.f109.name,by decide,Tryz.func109.trans (congrArg some (by kernel_rfl))⟩
 f8:=⟨Tryz.f165.name,by decide,Tryz.func165.trans (congrArg some (by kernel_rfl))⟩
 f11:=⟨Tryz.f200.name,by decide,Tryz.func200.trans (congrArg some (by kernel_rfl))⟩
 t0:=Tryz.underlying0
 a0:=Tryz.isAgg0
 z0:=Tryz.sizeOf0
 v0:=Tryz.zeroValue0
 t24:=Tryz.underlying152
 a24:=Tryz.isAgg152
 z24:=Tryz.sizeOf152
 v24:=Tryz.zeroValue152
 t26:=Tryz.underlying9
 a26:=Tryz.isAgg9
 z26:=Tryz.sizeOf9
 v26:=Tryz.zeroValue9
 t28:=Tryz.underlying145
 a28:=Tryz.isAgg145
 z28:=Tryz.sizeOf145
 v28:=Tryz.zeroValue145
 i26:=by kernel_rfl }
def Tryz.sort166_ren:Go.Shelf.Ren:=⟨fun | 6=>166 | 8=>202 | 9=>201 | 19=>233 | 20=>234 | 21=>224 | 22=>225 | 23=>226 | 24=>227 | 25=>228 | 26=>229 | 27=>230 | 28=>231 | 29=>232 | 36=>248 | 31=>249 | 32=>250 | 37=>251 | 38=>252 | 39=>188 | 41=>259 | n=>n,fun | 27=>152 | 29=>9 | 3=>3 | 32=>177 | 26=>152 | 0=>0 | 44=>281 | 46=>267 | 4=>4 | 36=>274 | 35=>273 | 41=>278 | 5=>5 | 9=>9 | 53=>294 | 57=>298 | 63=>305 | 64=>306 | n=>n,fun | n=>n⟩
theorem Tryz.sort166:Go.Proofs.SlLaysM.n6 Tryz.prog Tryz.sort166_ren:={
 mixed:=by kernel_rfl
 f6:=⟨Tryz.f166.name,by decide,Tryz.func166.trans (congrArg some (by kernel_rfl))⟩
 f8:=Tryz.func202.trans (congrArg some (by kernel_rfl))
 f9:=⟨Tryz.f201.name,by decide,Tryz.func201.trans (congrArg some (by kernel_rfl))⟩
 f19:=Tryz.func233.trans (congrArg some (by kernel_rfl))
 f20:=Tryz.func234.trans (congrArg some (by kernel_rfl))
 f21:=⟨Tryz.f224.name,by decide,Tryz.func224.trans (congrArg some (by kernel_rfl))⟩
 f22:=⟨Tryz.f225.name,by decide,Tryz.func225.trans (congrArg some (by kernel_rfl))⟩
 f23:=⟨Tryz.f226.name,by decide,Tryz.func226.trans (congrArg some (by kernel_rfl))⟩
 f24:=⟨Tryz.f227.name,by decide,Tryz.func227.trans (congrArg some (by kernel_rfl))⟩
 f25:=⟨Tryz.f228.name,by decide,Tryz.func228.trans (congrArg some (by kernel_rfl))⟩
 f26:=⟨Tryz.f229.name,by decide,Tryz.func229.trans (congrArg some (by kernel_rfl))⟩
 f27:=⟨Tryz.f230.name,by decide,Tryz.func230.trans (congrArg some (by kernel_rfl))⟩
 f28:=⟨Tryz.f231.name,by decide,Tryz.func231.trans (congrArg some (by kernel_rfl))⟩
 f29:=⟨Tryz.f232.name,by decide,Tryz.func232.trans (congrArg some (by kernel_rfl))⟩
 f31:=Tryz.func249.trans (congrArg some (by kernel_rfl))
 f32:=Tryz.func250.trans (congrArg some (by kernel_rfl))
 f36:=⟨Tryz.f248.name,by decide,Tryz.func248.trans (congrArg some (by kernel_rfl))⟩
 f37:=⟨Tryz.f251.name,by decide,Tryz.func251.trans (congrArg some (by kernel_rfl))⟩
 f38:=⟨Tryz.f252.name,by decide,Tryz.func252.trans (congrArg some (by kernel_rfl))⟩
 f39:=⟨Tryz.f188.name,by decide,Tryz.func188.trans (congrArg some (by kernel_rfl))⟩
 f41:=⟨Tryz.f259.name,by decide,Tryz.func259.trans (congrArg some (by kernel_rfl))⟩
 t0:=Tryz.underlying0
 a0:=Tryz.isAgg0
 z0:=Tryz.sizeOf0
 v0:=Tryz.zeroValue0
 t3:=Tryz.underlying3
 a3:=Tryz.isAgg3
 z3:=Tryz.sizeOf3
 v3:=Tryz.zeroValue3
 t4:=Tryz.underlying4
 a4:=Tryz.isAgg4
 z4:=Tryz.sizeOf4
 v4:=Tryz.zeroValue4
 t5:=Tryz.underlying5
 a5:=Tryz.isAgg5
 z5:=Tryz.sizeOf5
 v5:=Tryz.zeroValue5
 t9:=Tryz.underlying9
 a9:=Tryz.isAgg9
 z9:=Tryz.sizeOf9
 v9:=Tryz.zeroValue9
 t26:=Tryz.underlying152
 a26:=Tryz.isAgg152
 z26:=Tryz.sizeOf152
 v26:=Tryz.zeroValue152
 t27:=Tryz.underlying152
 a27:=Tryz.isAgg152
 z27:=Tryz.sizeOf152
 v27:=Tryz.zeroValue152
 t29:=Tryz.underlying9
 a29:=Tryz.isAgg9
 z29:=Tryz.sizeOf9
 v29:=Tryz.zeroValue9
 t32:=Tryz.underlying177
 a32:=Tryz.isAgg177
 z32:=Tryz.sizeOf177
 v32:=Tryz.zeroValue177
 t35:=Tryz.underlying273
 a35:=Tryz.isAgg273
 z35:=Tryz.sizeOf273
 v35:=Tryz.zeroValue273
 t36:=Tryz.underlying274
 a36:=Tryz.isAgg274
 z36:=Tryz.sizeOf274
 v36:=Tryz.zeroValue274
 t41:=Tryz.underlying278
 a41:=Tryz.isAgg278
 z41:=Tryz.sizeOf278
 v41:=Tryz.zeroValue278
 t44:=Tryz.underlying281
 a44:=Tryz.isAgg281
 z44:=Tryz.sizeOf281
 v44:=Tryz.zeroValue281
 t46:=Tryz.underlying267
 a46:=Tryz.isAgg267
 z46:=Tryz.sizeOf267
 v46:=Tryz.zeroValue267
 t53:=Tryz.underlying294
 a53:=Tryz.isAgg294
 z53:=Tryz.sizeOf294
 v53:=Tryz.zeroValue294
 t57:=Tryz.underlying298
 a57:=Tryz.isAgg298
 z57:=Tryz.sizeOf298
 v57:=Tryz.zeroValue298
 t63:=Tryz.underlying305
 a63:=Tryz.isAgg305
 z63:=Tryz.sizeOf305
 v63:=Tryz.zeroValue305
 t64:=Tryz.underlying306
 a64:=Tryz.isAgg306
 z64:=Tryz.sizeOf306
 v64:=Tryz.zeroValue306 }
def Tryz.keys203_ren:Go.Shelf.Ren:=⟨fun | 7=>203 | 10=>235 | n=>n,fun | 23=>93 | 26=>9 | 3=>103 | 28=>145 | 0=>0 | 27=>144 | 33=>157 | 4=>4 | n=>n,fun | n=>n⟩
theorem Tryz.keys203:Go.Proofs.SlLaysZ.n7 Tryz.prog Tryz.keys203_ren:={
 mixed:=by kernel_rfl
 f7:=⟨Tryz.f203.name,by decide,Tryz.func203.trans (congrArg some (by kernel_rfl))⟩
 f10:=⟨Tryz.f235.name,by decide,Tryz.func235.trans (congrArg some (by kernel_rfl))⟩
 t0:=Tryz.underlying0
 a0:=Tryz.isAgg0
 z0:=Tryz.sizeOf0
 v0:=Tryz.zeroValue0
 t4:=Tryz.underlying4
 a4:=Tryz.isAgg4
 z4:=Tryz.sizeOf4
 v4:=Tryz.zeroValue4
 t23:=Tryz.underlying93
 a23:=Tryz.isAgg93
 z23:=Tryz.sizeOf93
 v23:=Tryz.zeroValue93
 t26:=Tryz.underlying9
 a26:=Tryz.isAgg9
 z26:=Tryz.sizeOf9
 v26:=Tryz.zeroValue9
 t27:=Tryz.underlying144
 a27:=Tryz.isAgg144
 z27:=Tryz.sizeOf144
 v27:=Tryz.zeroValue144
 t28:=Tryz.underlying145
 a28:=Tryz.isAgg145
 z28:=Tryz.sizeOf145
 v28:=Tryz.zeroValue145
 t33:=Tryz.underlying157
 a33:=Tryz.isAgg157
 z33:=Tryz.sizeOf157
 v33:=Tryz.zeroValue157 }
open Go.RowKit Go.Maps Go.Sort
theorem Tryz.sorts109 (m:Nat):AnyZ.SortsIn Tryz.prog Tryz.sorted109_ren Fence.wide m:=
 ⟨fun blk off cap ss W hH hblk hsz=>callsIn_wide.2 (AnyM.slices_Sort_string Tryz.sort166 blk off cap ss W hH hblk hsz),
 fun p cap W=>callsIn_wide.2 (AnyM.slices_Sort_string_none Tryz.sort166 p cap W)⟩
theorem Tryz.maps_Keys_110 (mb:Option Nat) (W:World):CallsIn Fence.wide 5 Tryz.prog 110 #[.map mb] W fun e w'=>e=.returned (.func (.func 167) #[] #[.pointer (some ⟨W.heap.size,0,none⟩)])∧w'=W.alloc (.cells #[.map mb] 104):=
 AnyZ.keys_in Tryz.keys110 Fence.wide 5 trivial rfl mb W
theorem Tryz.slices_Sorted_keys_109_110 {H:Type} (b nn:Nat) (D0:DataW H) (R:Value→Option (DataW H×List MemPlace)) (w:World) (hown:w.ownsMap Tryz.prog 9 R b nn D0) (hmax:Maps.size D0≤maxLen) (hbytes:Maps.size D0 * 16≤140737488355328):
 CallsIn Fence.wide 5 Tryz.prog 109 #[.func (.func 167) #[] #[.pointer (some ⟨w.heap.size,0,none⟩)]] (w.alloc (.cells #[.map (some b)] 104)) fun e w'=>∃(v:Value) (ss:List (List UInt8)),e=.returned v∧ss.Perm (strKeys D0)∧
  w'.ownsRow (w.alloc (.cells #[.map (some b)] 104)).heap.size 9 1 v ss.length ((ss.mergeSort (fun x y=>decide (x≤y))).map encStr)∧(v=.slice none 0 0↔ss=[])∧Below (w.alloc (.cells #[.map (some b)] 104)).heap.size (w.alloc (.cells #[.map (some b)] 104)) w':=by
 have hbl:=hown.lt;have hseq:SeqGives Fence.wide 2 Tryz.prog 167 #[.pointer (some ⟨w.heap.size,0,none⟩)] encStr (fun ss=>ss.Perm (strKeys D0)) (Maps.size D0) (w.alloc (.cells #[.map (some b)] 104)):=
 AnyZ.keys_gives (ρ:=Tryz.keys110_ren) { Tryz.keys110 with } Fence.wide _ trivial rfl (by omega) w.heap.size b nn D0 _ (by simp) (by simp) (by
  obtain⟨es,clock,hb,Ft,hs,hD⟩:=hown;exact⟨es,clock,(Below.heap_alloc _ _ b hbl).trans hb,Ft,hs,hD⟩)
 exact AnyZ.sorted_in Tryz.sorted109 Fence.wide 5 trivial trivial trivial trivial rfl (by omega) (Tryz.sorts109 _) (enters_of Tryz.func166 (by kernel_rfl) rfl) 167 #[.pointer (some ⟨w.heap.size,0,none⟩)] trivial (enters_of Tryz.func167 (by kernel_rfl) rfl) _ _ hmax hbytes _ hseq
theorem Tryz.maps_Keys_203 (mb:Option Nat) (W:World):CallsIn Fence.wide 5 Tryz.prog 203 #[.map mb] W fun e w'=>e=.returned (.func (.func 235) #[] #[.pointer (some ⟨W.heap.size,0,none⟩)])∧w'=W.alloc (.cells #[.map mb] 93):=
 AnyZ.keys_in Tryz.keys203 Fence.wide 5 trivial rfl mb W
theorem Tryz.slices_Sorted_keys_109_203 {H:Type} (b nn:Nat) (D0:DataW H) (R:Value→Option (DataW H×List MemPlace)) (w:World) (hown:w.ownsMap Tryz.prog 9 R b nn D0) (hmax:Maps.size D0≤maxLen) (hbytes:Maps.size D0 * 16≤140737488355328):
 CallsIn Fence.wide 5 Tryz.prog 109 #[.func (.func 235) #[] #[.pointer (some ⟨w.heap.size,0,none⟩)]] (w.alloc (.cells #[.map (some b)] 93)) fun e w'=>∃(v:Value) (ss:List (List UInt8)),e=.returned v∧ss.Perm (strKeys D0)∧
  w'.ownsRow (w.alloc (.cells #[.map (some b)] 93)).heap.size 9 1 v ss.length ((ss.mergeSort (fun x y=>decide (x≤y))).map encStr)∧(v=.slice none 0 0↔ss=[])∧Below (w.alloc (.cells #[.map (some b)] 93)).heap.size (w.alloc (.cells #[.map (some b)] 93)) w':=by
 have hbl:=hown.lt;have hseq:SeqGives Fence.wide 2 Tryz.prog 235 #[.pointer (some ⟨w.heap.size,0,none⟩)] encStr (fun ss=>ss.Perm (strKeys D0)) (Maps.size D0) (w.alloc (.cells #[.map (some b)] 93)):=
 AnyZ.keys_gives (ρ:=Tryz.keys203_ren) { Tryz.keys203 with } Fence.wide _ trivial rfl (by omega) w.heap.size b nn D0 _ (by simp) (by simp) (by
  obtain⟨es,clock,hb,Ft,hs,hD⟩:=hown;exact⟨es,clock,(Below.heap_alloc _ _ b hbl).trans hb,Ft,hs,hD⟩)
 exact AnyZ.sorted_in Tryz.sorted109 Fence.wide 5 trivial trivial trivial trivial rfl (by omega) (Tryz.sorts109 _) (enters_of Tryz.func166 (by kernel_rfl) rfl) 235 #[.pointer (some ⟨w.heap.size,0,none⟩)] trivial (enters_of Tryz.func235 (by kernel_rfl) rfl) _ _ hmax hbytes _ hseq
end Go.Proofs
