/- A part. -/
import Derived.Shelf.Strings.Builder1
import Derived.Shelf.Small.Utf8
import Derived.Shelf.Small.Bits
import Derived.Shelf.Small.Strs
import Derived.Shelf.Strings.BuilderF
import Derived.Shelf.Strings.BuilderK
import Derived.Shelf.Strconv.Itoa0
import Derived.Shelf.Strconv.Itoa1
import Derived.Shelf.LaysM
import Derived.Shelf.Strconv.Itoa2
import Derived.Shelf.Strconv.Itoa3
import Derived.Shelf.Strconv.Itoa4
import Derived.Shelf.Strings.Search1
import Derived.Shelf.Strings.Search2
import Derived.Shelf.Strings.Search3
import Derived.Shelf.Strings.Shaped
import Derived.Shelf.Sort.Plain
import Derived.Shelf.Strings.Prefix
import Derived.Shelf.Unicode.Decode
import Derived.Shelf.Unicode.DecodeSlow
import Derived.Shelf.Unicode.DecodeAny
import Derived.Ground.Names2Prog
import Derived.Shelf.Slices.Clone
import Derived.Shelf.Slices.In.SortNone
import Derived.Shelf.Bytes.SlSearch0
import Derived.Ground.SlbCloneProg
import Derived.Shelf.Bytes.SlClone
import Derived.Ground.SlbNamesProg
import Derived.Shelf.Bytes.SlJoin
import Derived.Ground.SlgnProg
import Derived.Shelf.SlicesE.Clone
import Derived.Shelf.Bytes.SlEqualAll
import Derived.Shelf.Bytes.Small
import Derived.Test.YtlbdklaggalgfaaGreatDoorProg
namespace Go.Proofs
open Go.Shelf
def Tryz.lays169_ren:Go.Shelf.Ren:=⟨fun | 169=>30 | n=>n,fun | 70=>66 | 9=>9 | 0=>0 | 72=>68 | 37=>38 | 127=>162 | 3=>3 | 5=>5 | n=>n,fun | n=>n⟩
theorem Tryz.lays169:Go.Proofs.Lays.n169 Tryz.prog Tryz.lays169_ren:={
 mixed:=by kernel_rfl
 f169:=Tryz.func30.trans (congrArg some (by kernel_rfl))
 t0:=Tryz.underlying0
 a0:=Tryz.isAgg0
 z0:=Tryz.sizeOf0
 v0:=Tryz.zeroValue0
 t3:=Tryz.underlying3
 a3:=Tryz.isAgg3
 z3:=Tryz.sizeOf3
 v3:=Tryz.zeroValue3
 t9:=Tryz.underlying9
 a9:=Tryz.isAgg9
 z9:=Tryz.sizeOf9
 v9:=Tryz.zeroValue9
 t37:=Tryz.underlying38
 a37:=Tryz.isAgg38
 z37:=Tryz.sizeOf38
 v37:=Tryz.zeroValue38
 t70:=Tryz.underlying66
 a70:=Tryz.isAgg66
 z70:=Tryz.sizeOf66
 v70:=Tryz.zeroValue66
 t72:=Tryz.underlying68
 a72:=Tryz.isAgg68
 z72:=Tryz.sizeOf68
 v72:=Tryz.zeroValue68
 t127:=Tryz.underlying162
 a127:=Tryz.isAgg162
 z127:=Tryz.sizeOf162
 v127:=Tryz.zeroValue162 }
theorem Tryz.Builder_Extra_169:Builder.Extra Tryz.prog Tryz.lays169_ren:={
 sizeBuilder:=by kernel_rfl
 liesBuilder:=by kernel_rfl
 t5:=Tryz.underlying5
 a5:=Tryz.isAgg5
 z5:=Tryz.sizeOf5
 v5:=Tryz.zeroValue5
 infoByte:=by kernel_rfl
 cellsByte:=by kernel_rfl
 sizeByte:=by kernel_rfl
 neB5:=by decide }
open Go.RowKit in
theorem Tryz.Builder_String_any (B b:Nat) (l:List UInt8) (w:World) (h:Lib.IsBuilder 68 5 B b (Lib.byteCells l) w) (hBw:B≤w.heap.size):
 Calls Tryz.prog 30 #[.pointer (some ⟨b,0,none⟩)] w fun e w'=>e=.returned (.string ⟨l.toArray⟩)∧Below B w w':=Any.Builder_String_any Tryz.lays169 Tryz.Builder_Extra_169 B b l w h hBw
def Tryz.lays137_ren:Go.Shelf.Ren:=⟨fun | 137=>133 | 217=>176 | 266=>206 | n=>n,fun | 9=>9 | 5=>5 | 3=>3 | n=>n,fun | n=>n⟩
theorem Tryz.lays137:Go.Proofs.Lays.n137 Tryz.prog Tryz.lays137_ren:={
 mixed:=by kernel_rfl
 f137:=Tryz.func133.trans (congrArg some (by kernel_rfl))
 f217:=Tryz.func176.trans (congrArg some (by kernel_rfl))
 f266:=Tryz.func206.trans (congrArg some (by kernel_rfl))
 t3:=Tryz.underlying3
 a3:=Tryz.isAgg3
 z3:=Tryz.sizeOf3
 v3:=Tryz.zeroValue3
 t5:=Tryz.underlying5
 a5:=Tryz.isAgg5
 z5:=Tryz.sizeOf5
 v5:=Tryz.zeroValue5
 t9:=Tryz.underlying9
 a9:=Tryz.isAgg9
 z9:=Tryz.sizeOf9
 v9:=Tryz.zeroValue9 }
open Go.RowKit in
theorem Tryz.strings_IndexByte (s:ByteArray) (c:Int) (w:World):
 Calls Tryz.prog 133 #[.string s,.int .u8 c] w fun e w'=>e=.returned (.int .i64 (Lib.indexByte s.data.toList c.toNat.toUInt8))∧w'=w:=Any.strings_IndexByte Tryz.lays137 s c w
def Tryz.lays144_ren:Go.Shelf.Ren:=⟨fun | 144=>141 | 143=>187 | 219=>215 | 217=>176 | 225=>241 | 224=>242 | 267=>243 | 266=>206 | 314=>256 | n=>n,fun | 9=>9 | 4=>4 | 3=>3 | 5=>5 | 46=>177 | 146=>303 | 51=>281 | n=>n,fun | 1=>0 | n=>n⟩
theorem Tryz.lays144:Go.Proofs.Lays.n144 Tryz.prog Tryz.lays144_ren:={
 mixed:=by kernel_rfl
 f143:=Tryz.func187.trans (congrArg some (by kernel_rfl))
 f144:=Tryz.func141.trans (congrArg some (by kernel_rfl))
 f217:=Tryz.func176.trans (congrArg some (by kernel_rfl))
 f219:=Tryz.func215.trans (congrArg some (by kernel_rfl))
 f224:=Tryz.func242.trans (congrArg some (by kernel_rfl))
 f225:=Tryz.func241.trans (congrArg some (by kernel_rfl))
 f266:=Tryz.func206.trans (congrArg some (by kernel_rfl))
 f267:=Tryz.func243.trans (congrArg some (by kernel_rfl))
 f314:=Tryz.func256.trans (congrArg some (by kernel_rfl))
 t3:=Tryz.underlying3
 a3:=Tryz.isAgg3
 z3:=Tryz.sizeOf3
 v3:=Tryz.zeroValue3
 t4:=Tryz.underlying4
 a4:=Tryz.isAgg4
 z4:=Tryz.sizeOf4
 v4:=Tryz.zeroValue4
 t5:=Tryz.underlying5
 a5:=Tryz.isAgg5
 z5:=Tryz.sizeOf5
 v5:=Tryz.zeroValue5
 t9:=Tryz.underlying9
 a9:=Tryz.isAgg9
 z9:=Tryz.sizeOf9
 v9:=Tryz.zeroValue9
 t46:=Tryz.underlying177
 a46:=Tryz.isAgg177
 z46:=Tryz.sizeOf177
 v46:=Tryz.zeroValue177
 t51:=Tryz.underlying281
 a51:=Tryz.isAgg281
 z51:=Tryz.sizeOf281
 v51:=Tryz.zeroValue281
 t146:=Tryz.underlying303
 a146:=Tryz.isAgg303
 z146:=Tryz.sizeOf303
 v146:=Tryz.zeroValue303
 g1:=by kernel_rfl }
open Go.RowKit Go.Lib in
theorem Tryz.strings_Contains (s sub:ByteArray) (m:Int) (w:World) (hs:s.size<4294967281) (hm:w.cell? ⟨0,0,none⟩=some (.int .i64 m)):
 Calls Tryz.prog 141 #[.string s,.string sub] w fun e w'=>e=.returned (.bool (Lib.contains s.data.toList sub.data.toList))∧w'=w:=Any.strings_Contains Tryz.lays144 s sub m w hs hm
def Tryz.lays190_ren:Go.Shelf.Ren:=⟨fun | 190=>166 | 125=>202 | 258=>201 | 128=>233 | 129=>234 | 302=>224 | 303=>225 | 304=>226 | 305=>227 | 306=>228 | 307=>229 | 308=>230 | 309=>231 | 310=>232 | 333=>248 | 329=>249 | 330=>250 | 334=>251 | 335=>252 | 336=>188 | 344=>259 | n=>n,fun | 31=>152 | 9=>9 | 3=>3 | 46=>177 | 0=>0 | 51=>281 | 53=>267 | 4=>4 | 183=>274 | 182=>273 | 131=>278 | 5=>5 | 218=>294 | 222=>298 | 228=>305 | 229=>306 | n=>n,fun | n=>n⟩
theorem Tryz.lays190:Go.Proofs.Lays.n190 Tryz.prog Tryz.lays190_ren:={
 mixed:=by kernel_rfl
 f125:=Tryz.func202.trans (congrArg some (by kernel_rfl))
 f128:=Tryz.func233.trans (congrArg some (by kernel_rfl))
 f129:=Tryz.func234.trans (congrArg some (by kernel_rfl))
 f190:=Tryz.func166.trans (congrArg some (by kernel_rfl))
 f258:=Tryz.func201.trans (congrArg some (by kernel_rfl))
 f302:=Tryz.func224.trans (congrArg some (by kernel_rfl))
 f303:=Tryz.func225.trans (congrArg some (by kernel_rfl))
 f304:=Tryz.func226.trans (congrArg some (by kernel_rfl))
 f305:=Tryz.func227.trans (congrArg some (by kernel_rfl))
 f306:=Tryz.func228.trans (congrArg some (by kernel_rfl))
 f307:=Tryz.func229.trans (congrArg some (by kernel_rfl))
 f308:=Tryz.func230.trans (congrArg some (by kernel_rfl))
 f309:=Tryz.func231.trans (congrArg some (by kernel_rfl))
 f310:=Tryz.func232.trans (congrArg some (by kernel_rfl))
 f329:=Tryz.func249.trans (congrArg some (by kernel_rfl))
 f330:=Tryz.func250.trans (congrArg some (by kernel_rfl))
 f333:=Tryz.func248.trans (congrArg some (by kernel_rfl))
 f334:=Tryz.func251.trans (congrArg some (by kernel_rfl))
 f335:=Tryz.func252.trans (congrArg some (by kernel_rfl))
 f336:=Tryz.func188.trans (congrArg some (by kernel_rfl))
 f344:=Tryz.func259.trans (congrArg some (by kernel_rfl))
 t0:=Tryz.underlying0
 a0:=Tryz.isAgg0
 z0:=Tryz.sizeOf0
 v0:=Tryz.zeroValue0
 t3:=Tryz.underlying3
 a3:=Tryz.isAgg3
 z3:=Tryz.sizeOf3
 v3:=Tryz.zeroValue3
 t4:=Tryz.underlying4
 a4:=Tryz.isAgg4
 z4:=Tryz.sizeOf4
 v4:=Tryz.zeroValue4
 t5:=Tryz.underlying5
 a5:=Tryz.isAgg5
 z5:=Tryz.sizeOf5
 v5:=Tryz.zeroValue5
 t9:=Tryz.underlying9
 a9:=Tryz.isAgg9
 z9:=Tryz.sizeOf9
 v9:=Tryz.zeroValue9
 t31:=Tryz.underlying152
 a31:=Tryz.isAgg152
 z31:=Tryz.sizeOf152
 v31:=Tryz.zeroValue152
 t46:=Tryz.underlying177
 a46:=Tryz.isAgg177
 z46:=Tryz.sizeOf177
 v46:=Tryz.zeroValue177
 t51:=Tryz.underlying281
 a51:=Tryz.isAgg281
 z51:=Tryz.sizeOf281
 v51:=Tryz.zeroValue281
 t53:=Tryz.underlying267
 a53:=Tryz.isAgg267
 z53:=Tryz.sizeOf267
 v53:=Tryz.zeroValue267
 t131:=Tryz.underlying278
 a131:=Tryz.isAgg278
 z131:=Tryz.sizeOf278
 v131:=Tryz.zeroValue278
 t182:=Tryz.underlying273
 a182:=Tryz.isAgg273
 z182:=Tryz.sizeOf273
 v182:=Tryz.zeroValue273
 t183:=Tryz.underlying274
 a183:=Tryz.isAgg274
 z183:=Tryz.sizeOf274
 v183:=Tryz.zeroValue274
 t218:=Tryz.underlying294
 a218:=Tryz.isAgg294
 z218:=Tryz.sizeOf294
 v218:=Tryz.zeroValue294
 t222:=Tryz.underlying298
 a222:=Tryz.isAgg298
 z222:=Tryz.sizeOf298
 v222:=Tryz.zeroValue298
 t228:=Tryz.underlying305
 a228:=Tryz.isAgg305
 z228:=Tryz.sizeOf305
 v228:=Tryz.zeroValue305
 t229:=Tryz.underlying306
 a229:=Tryz.isAgg306
 z229:=Tryz.sizeOf306
 v229:=Tryz.zeroValue306 }
open Go.Sort Go.RowKit in
theorem Tryz.slices_Sort_string (blk off cap:Nat) (ss:List (List UInt8)) (w:World) (hH:Holds encStr w blk off ss.toArray) (hblk:blk<w.heap.size) (hsz:ss.length<4611686018427387904):
 Calls Tryz.prog 166 #[.slice (some ⟨blk,off,none⟩) ss.length cap] w fun e w'=>
  e=.returned (.tuple #[])∧∃n os,w'=grow (putRow encStr (Sort.ahead w n) blk off (ss.mergeSort fun x y=>decide (x≤y)).toArray) os:=Any.slices_Sort_string Tryz.lays190 blk off cap ss w hH hblk hsz
def Tryz.lays99_ren:Go.Shelf.Ren:=⟨fun | 99=>254 | 206=>260 | n=>n,fun | 9=>9 | 4=>4 | 3=>3 | n=>n,fun | n=>n⟩
theorem Tryz.lays99:Go.Proofs.Lays.n99 Tryz.prog Tryz.lays99_ren:={
 mixed:=by kernel_rfl
 f99:=Tryz.func254.trans (congrArg some (by kernel_rfl))
 f206:=Tryz.func260.trans (congrArg some (by kernel_rfl))
 t3:=Tryz.underlying3
 a3:=Tryz.isAgg3
 z3:=Tryz.sizeOf3
 v3:=Tryz.zeroValue3
 t4:=Tryz.underlying4
 a4:=Tryz.isAgg4
 z4:=Tryz.sizeOf4
 v4:=Tryz.zeroValue4
 t9:=Tryz.underlying9
 a9:=Tryz.isAgg9
 z9:=Tryz.sizeOf9
 v9:=Tryz.zeroValue9 }
open Go.RowKit Go.Lib in
theorem Tryz.strings_HasPrefix (s p:ByteArray) (w:World):
 Calls Tryz.prog 254 #[.string s,.string p] w fun e w'=>e=.returned (.bool (Lib.hasPrefix s.data.toList p.data.toList))∧w'=w:=Any.strings_HasPrefix Tryz.lays99 s p w
def Tryz.lays102_ren:Go.Shelf.Ren:=⟨fun | 102=>76 | 209=>135 | 207=>178 | n=>n,fun | 9=>9 | 4=>4 | 3=>3 | n=>n,fun | n=>n⟩
theorem Tryz.lays102:Go.Proofs.Lays.n102 Tryz.prog Tryz.lays102_ren:={
 mixed:=by kernel_rfl
 f102:=Tryz.func76.trans (congrArg some (by kernel_rfl))
 f207:=Tryz.func178.trans (congrArg some (by kernel_rfl))
 f209:=Tryz.func135.trans (congrArg some (by kernel_rfl))
 t3:=Tryz.underlying3
 a3:=Tryz.isAgg3
 z3:=Tryz.sizeOf3
 v3:=Tryz.zeroValue3
 t4:=Tryz.underlying4
 a4:=Tryz.isAgg4
 z4:=Tryz.sizeOf4
 v4:=Tryz.zeroValue4
 t9:=Tryz.underlying9
 a9:=Tryz.isAgg9
 z9:=Tryz.sizeOf9
 v9:=Tryz.zeroValue9 }
open Go.RowKit Go.Lib in
theorem Tryz.strings_TrimSuffix (s p:ByteArray) (w:World) (hs:s.size≤9223372036854775807):
 Calls Tryz.prog 76 #[.string s,.string p] w fun e w'=>e=.returned (.string ⟨(Lib.trimSuffix s.data.toList p.data.toList).toArray⟩)∧w'=w:=Any.strings_TrimSuffix Tryz.lays102 s p w hs
def Tryz.lays197_ren:Go.Shelf.Ren:=⟨fun | 197=>189 | 260=>216 | n=>n,fun | 9=>9 | 21=>21 | 3=>3 | 4=>4 | 5=>5 | 105=>250 | 119=>287 | 0=>0 | 46=>177 | 139=>290 | 138=>289 | n=>n,fun | 3=>1 | 4=>2 | n=>n⟩
theorem Tryz.lays197:Go.Proofs.Lays.n197 Tryz.prog Tryz.lays197_ren:={
 mixed:=by kernel_rfl
 f197:=Tryz.func189.trans (congrArg some (by kernel_rfl))
 f260:=Tryz.func216.trans (congrArg some (by kernel_rfl))
 t0:=Tryz.underlying0
 a0:=Tryz.isAgg0
 z0:=Tryz.sizeOf0
 v0:=Tryz.zeroValue0
 t3:=Tryz.underlying3
 a3:=Tryz.isAgg3
 z3:=Tryz.sizeOf3
 v3:=Tryz.zeroValue3
 t4:=Tryz.underlying4
 a4:=Tryz.isAgg4
 z4:=Tryz.sizeOf4
 v4:=Tryz.zeroValue4
 t5:=Tryz.underlying5
 a5:=Tryz.isAgg5
 z5:=Tryz.sizeOf5
 v5:=Tryz.zeroValue5
 t9:=Tryz.underlying9
 a9:=Tryz.isAgg9
 z9:=Tryz.sizeOf9
 v9:=Tryz.zeroValue9
 t21:=Tryz.underlying21
 a21:=Tryz.isAgg21
 z21:=Tryz.sizeOf21
 v21:=Tryz.zeroValue21
 t46:=Tryz.underlying177
 a46:=Tryz.isAgg177
 z46:=Tryz.sizeOf177
 v46:=Tryz.zeroValue177
 t105:=Tryz.underlying250
 a105:=Tryz.isAgg250
 z105:=Tryz.sizeOf250
 v105:=Tryz.zeroValue250
 t119:=Tryz.underlying287
 a119:=Tryz.isAgg287
 z119:=Tryz.sizeOf287
 t138:=Tryz.underlying289
 a138:=Tryz.isAgg289
 z138:=Tryz.sizeOf289
 v138:=Tryz.zeroValue289
 t139:=Tryz.underlying290
 a139:=Tryz.isAgg290
 z139:=Tryz.sizeOf290
 v139:=Tryz.zeroValue290
 g3:=by kernel_rfl
 g4:=by kernel_rfl }
def Tryz.lays260_ren:Go.Shelf.Ren:=⟨fun | 260=>216 | n=>n,fun | 9=>9 | 21=>21 | 3=>3 | 4=>4 | 5=>5 | 119=>287 | 0=>0 | 46=>177 | 139=>290 | 138=>289 | n=>n,fun | 3=>1 | 4=>2 | n=>n⟩
theorem Tryz.lays260:Go.Proofs.Lays.n260 Tryz.prog Tryz.lays260_ren:={
 mixed:=by kernel_rfl
 f260:=Tryz.func216.trans (congrArg some (by kernel_rfl))
 t0:=Tryz.underlying0
 a0:=Tryz.isAgg0
 z0:=Tryz.sizeOf0
 v0:=Tryz.zeroValue0
 t3:=Tryz.underlying3
 a3:=Tryz.isAgg3
 z3:=Tryz.sizeOf3
 v3:=Tryz.zeroValue3
 t4:=Tryz.underlying4
 a4:=Tryz.isAgg4
 z4:=Tryz.sizeOf4
 v4:=Tryz.zeroValue4
 t5:=Tryz.underlying5
 a5:=Tryz.isAgg5
 z5:=Tryz.sizeOf5
 v5:=Tryz.zeroValue5
 t9:=Tryz.underlying9
 a9:=Tryz.isAgg9
 z9:=Tryz.sizeOf9
 v9:=Tryz.zeroValue9
 t21:=Tryz.underlying21
 a21:=Tryz.isAgg21
 z21:=Tryz.sizeOf21
 v21:=Tryz.zeroValue21
 t46:=Tryz.underlying177
 a46:=Tryz.isAgg177
 z46:=Tryz.sizeOf177
 v46:=Tryz.zeroValue177
 t119:=Tryz.underlying287
 a119:=Tryz.isAgg287
 z119:=Tryz.sizeOf287
 t138:=Tryz.underlying289
 a138:=Tryz.isAgg289
 z138:=Tryz.sizeOf289
 v138:=Tryz.zeroValue289
 t139:=Tryz.underlying290
 a139:=Tryz.isAgg290
 z139:=Tryz.sizeOf290
 v139:=Tryz.zeroValue290
 g3:=by kernel_rfl
 g4:=by kernel_rfl }
open Go.RowKit Go.Lib in
theorem Tryz.utf8_DecodeRuneInString (s:ByteArray) (w:World) (hT:Lib.Utf8Tabs 1 2 w):
 Calls Tryz.prog 189 #[.string s] w fun e w'=>e=.returned (.tuple #[.int .i32 (Lib.decodeGo s).1,.int .i64 (Lib.decodeGo s).2])∧Below w.heap.size w w':=Any.utf8_DecodeRuneInString Tryz.lays197 s w hT
def Tryz.laysNm215_ren:Go.Shelf.Ren:=⟨fun | 15=>113 | n=>n,fun | 22=>101 | 3=>3 | 4=>4 | n=>n,fun | n=>n⟩
theorem Tryz.laysNm215:Go.Proofs.Lays2.n15 Tryz.prog Tryz.laysNm215_ren:={
 mixed:=by kernel_rfl
 f15:=Tryz.func113.trans (congrArg some (by kernel_rfl))
 t3:=Tryz.underlying3
 a3:=Tryz.isAgg3
 z3:=Tryz.sizeOf3
 v3:=Tryz.zeroValue3
 t4:=Tryz.underlying4
 a4:=Tryz.isAgg4
 z4:=Tryz.sizeOf4
 v4:=Tryz.zeroValue4
 t22:=Tryz.underlying101
 a22:=Tryz.isAgg101
 z22:=Tryz.sizeOf101
 v22:=Tryz.zeroValue101
 i3:=by kernel_rfl }
open Go.RowKit Go.Lib in
theorem Tryz.slices_Clone_int (b off n c:Nat) (zs:List Int) (w:World) (hz:n≤zs.length) (hbig:n * 8≤140737488355328) (hc:∀j,j<zs.length→w.cell? ⟨b,off+j,none⟩=some (.int .i64 (zs.getD j 0))):
 Calls Tryz.prog 113 #[.slice (some ⟨b,off,none⟩) n c] w fun e w'=>∃v',e=.returned v'∧w'.ownsRow w.heap.size 3 1 v' n ((zs.take n).map (Value.int .i64))∧v'≠.slice none 0 0∧Below w.heap.size w w':=Any.slices_Clone_int Tryz.laysNm215 b off n c zs w hz hbig hc
open Go.RowKit Go.Lib in
theorem Tryz.slices_Clone_int_nil (n c:Nat) (w:World):
 Calls Tryz.prog 113 #[.slice none n c] w fun e w'=>e=.returned (.slice none 0 0)∧w'=w:=Any.slices_Clone_int_nil Tryz.laysNm215 n c w
open Go.RowKit Go.Lib in
theorem Tryz.slices_Clone_int_zero (a:Addr) (c:Nat) (w:World):
 Calls Tryz.prog 113 #[.slice (some a) 0 c] w fun e w'=>∃v',e=.returned v'∧w'.ownsRow w.heap.size 3 1 v' 0 []∧v'≠.slice none 0 0∧Below w.heap.size w w':=Any.slices_Clone_int_zero Tryz.laysNm215 a c w
open Go.RowKit Go.Sort in
theorem Tryz.slices_Sort_string_none (p:Option Addr) (cap:Nat) (w:World):
 Calls Tryz.prog 166 #[.slice p 0 cap] w fun e w'=>e=.returned (.tuple #[])∧w'=w:=Any.slices_Sort_string_none Tryz.lays190 p cap w
def Tryz.lays115_ren:Go.Shelf.Ren:=⟨fun | 115=>40 | n=>n,fun | 37=>38 | 4=>4 | 9=>9 | 5=>5 | n=>n,fun | n=>n⟩
theorem Tryz.lays115:Go.Proofs.Lays.n115 Tryz.prog Tryz.lays115_ren:={
 mixed:=by kernel_rfl
 f115:=Tryz.func40.trans (congrArg some (by kernel_rfl))
 t4:=Tryz.underlying4
 a4:=Tryz.isAgg4
 z4:=Tryz.sizeOf4
 v4:=Tryz.zeroValue4
 t9:=Tryz.underlying9
 a9:=Tryz.isAgg9
 z9:=Tryz.sizeOf9
 v9:=Tryz.zeroValue9
 t37:=Tryz.underlying38
 a37:=Tryz.isAgg38
 z37:=Tryz.sizeOf38
 v37:=Tryz.zeroValue38 }
open Go.Proofs Go.RowKit Go.Lib in
theorem Tryz.bytes_Equal_strs (v1 v2:Value) (t1 t2:ByteArray) (w:World) (h1:(convert 38 9 v1).run Tryz.prog w=.ok (.string t1) w) (h2:(convert 38 9 v2).run Tryz.prog w=.ok (.string t2) w):
 Calls Tryz.prog 40 #[v1,v2] w fun e w'=>e=.returned (.bool (t1.toList==t2.toList))∧w'=w:=Any.bytes_Equal_strs Tryz.lays115 v1 v2 t1 t2 w h1 h2
def Tryz.laysSlK4_ren:Go.Shelf.Ren:=⟨fun | 4=>93 | n=>n,fun | 22=>38 | 4=>4 | 5=>5 | n=>n,fun | n=>n⟩
theorem Tryz.laysSlK4:Go.Proofs.SlLaysK.n4 Tryz.prog Tryz.laysSlK4_ren:={
 mixed:=by kernel_rfl
 f4:=Tryz.func93.trans (congrArg some (by kernel_rfl))
 t4:=Tryz.underlying4
 a4:=Tryz.isAgg4
 z4:=Tryz.sizeOf4
 v4:=Tryz.zeroValue4
 t22:=Tryz.underlying38
 a22:=Tryz.isAgg38
 z22:=Tryz.sizeOf38
 v22:=Tryz.zeroValue38
 t5:=Tryz.underlying5
 i5:=by kernel_rfl }
open Go.RowKit Go.Lib in
theorem Tryz.bytes_Clone_at (a:Addr) (n c:Nat) (xs:List Int) (w:World) (hx:xs.length=n) (hbig:n≤140737488355328) (hc:∀i,i<n→w.cell? (a.add i)=some (.int .u8 (xs.getD i 0))):
 Calls Tryz.prog 93 #[.slice (some a) n c] w fun e w'=>∃v',e=.returned v'∧w'.ownsRow w.heap.size 5 1 v' n (xs.map (Value.int .u8))∧v'≠.slice none 0 0∧Below w.heap.size w w':=Any.bytes_Clone_at Tryz.laysSlK4 a n c xs w hx hbig hc
open Go.RowKit Go.Lib in
theorem Tryz.bytes_Clone_nil (n c:Nat) (w:World):
 Calls Tryz.prog 93 #[.slice none n c] w fun e w'=>e=.returned (.slice none 0 0)∧w'=w:=Any.bytes_Clone_nil Tryz.laysSlK4 n c w
def Tryz.laysSlJ14_ren:Go.Shelf.Ren:=⟨fun | 14=>191 | 15=>221 | n=>n,fun | 26=>111 | 22=>38 | 3=>3 | 4=>4 | 0=>0 | 9=>9 | 20=>20 | 5=>5 | n=>n,fun | n=>n⟩
theorem Tryz.laysSlJ14:Go.Proofs.SlLaysJ.n14 Tryz.prog Tryz.laysSlJ14_ren:={
 mixed:=by kernel_rfl
 f14:=Tryz.func191.trans (congrArg some (by kernel_rfl))
 f15:=Tryz.func221.trans (congrArg some (by kernel_rfl))
 t0:=Tryz.underlying0
 a0:=Tryz.isAgg0
 z0:=Tryz.sizeOf0
 v0:=Tryz.zeroValue0
 t3:=Tryz.underlying3
 a3:=Tryz.isAgg3
 z3:=Tryz.sizeOf3
 v3:=Tryz.zeroValue3
 t4:=Tryz.underlying4
 a4:=Tryz.isAgg4
 z4:=Tryz.sizeOf4
 v4:=Tryz.zeroValue4
 t9:=Tryz.underlying9
 a9:=Tryz.isAgg9
 z9:=Tryz.sizeOf9
 v9:=Tryz.zeroValue9
 t20:=Tryz.underlying20
 a20:=Tryz.isAgg20
 z20:=Tryz.sizeOf20
 v20:=Tryz.zeroValue20
 t22:=Tryz.underlying38
 a22:=Tryz.isAgg38
 z22:=Tryz.sizeOf38
 v22:=Tryz.zeroValue38
 t26:=Tryz.underlying111
 a26:=Tryz.isAgg111
 z26:=Tryz.sizeOf111
 v26:=Tryz.zeroValue111
 t5:=Tryz.underlying5
 z5:=Tryz.sizeOf5
 i5:=by kernel_rfl }
open Go.RowKit Go.Lib in
theorem Tryz.bytes_Join_many (b o n c:Nat) (vs:List Value) (ls:List (List UInt8)) (sv:Value) (sep:List UInt8) (w:World) (hn:ls.length=n) (h2:2≤n) (hP:Lib.PartsAt w ⟨b,o,none⟩ vs ls) (hcap:n≤c) (hS:Lib.HoldsBytes w sv sep) (hn47:n≤140737488355328) (hlen:Lib.lens ls+sep.length * (n - 1)≤140737488355328):
 Calls Tryz.prog 191 #[.slice (some ⟨b,o,none⟩) n c,sv] w fun e w'=>∃v',e=.returned v'∧Lib.FreshBytes w.heap.size w' v' (Lib.join ls sep)∧Below w.heap.size w w':=Any.bytes_Join_many Tryz.laysSlJ14 b o n c vs ls sv sep w hn h2 hP hcap hS hn47 hlen
open Go.RowKit Go.Lib in
theorem Tryz.bytes_Join_one (b o c:Nat) (ad0:Addr) (c0:Nat) (l0:List UInt8) (sv:Value) (w:World) (hcell:w.cell? ⟨b,o,none⟩=some (.slice (some ad0) l0.length c0)) (hc:∀(i:Nat) x,l0[i]?=some x→w.cell? (ad0.add i)=some (.int .u8 (x.toNat:Int))) (h0:0<l0.length) (hs:l0.length≤140737488355328):
 Calls Tryz.prog 191 #[.slice (some ⟨b,o,none⟩) 1 c,sv] w fun e w'=>∃v',e=.returned v'∧Lib.FreshBytes w.heap.size w' v' l0∧Below w.heap.size w w':=Any.bytes_Join_one Tryz.laysSlJ14 b o c ad0 c0 l0 sv w hcell hc h0 hs
end Go.Proofs
