/- A part. -/
import Derived.Shelf.Strings.Builder1
import Derived.Shelf.Small.Utf8
import Derived.Shelf.Small.Bits
import Derived.Shelf.Small.Strs
import Derived.Shelf.Small.Wraps
import Derived.Shelf.Strings.BuilderF
import Derived.Shelf.Strconv.Itoa0
import Derived.Shelf.Strconv.Itoa1
import Derived.Shelf.LaysM
import Derived.Shelf.Strconv.Itoa2
import Derived.Shelf.Strconv.Itoa3
import Derived.Shelf.Strconv.Itoa4
import Derived.Shelf.Strings.Search1
import Derived.Shelf.Strings.Search2
import Derived.Shelf.Strings.Search3
import Derived.Shelf.Strings.Shaped
import Derived.Shelf.Sort.Plain
import Derived.Shelf.Strings.Prefix
import Derived.Shelf.Unicode.Decode
import Derived.Shelf.Bits.Mul64
import Derived.Shelf.Unicode.DecodeSlow
import Derived.Shelf.Unicode.DecodeAny
import Derived.Ground.Names2Prog
import Derived.Shelf.Slices.Clone
import Derived.Shelf.Slices.In.SortNone
import Derived.Shelf.Bytes.SlSearch0
import Derived.Ground.SlbCloneProg
import Derived.Shelf.Bytes.SlClone
import Derived.Ground.SlbNamesProg
import Derived.Shelf.Bytes.SlJoin
import Derived.Ground.SlgnProg
import Derived.Shelf.SlicesE.Clone
import Derived.Shelf.Bytes.SlEqualAll
import Derived.Shelf.Bytes.Small
import Derived.Test.YtlidiclfpklliaaGreatDoorProg
namespace Go.Proofs
open Go.Shelf
def Tryz.lays137_ren:Go.Shelf.Ren:=⟨fun | 137=>206 | 217=>269 | 266=>304 | n=>n,fun | 9=>9 | 5=>5 | 3=>3 | n=>n,fun | n=>n⟩
theorem Tryz.lays137:Go.Proofs.Lays.n137 Tryz.prog Tryz.lays137_ren:={
 mixed:=by kernel_rfl
 f137:=Tryz.func206.trans (congrArg some (by kernel_rfl))
 f217:=Tryz.func269.trans (congrArg some (by kernel_rfl))
 f266:=Tryz.func304.trans (congrArg some (by kernel_rfl))
 t3:=Tryz.underlying3
 a3:=Tryz.isAgg3
 z3:=Tryz.sizeOf3
 v3:=Tryz.zeroValue3
 t5:=Tryz.underlying5
 a5:=Tryz.isAgg5
 z5:=Tryz.sizeOf5
 v5:=Tryz.zeroValue5
 t9:=Tryz.underlying9
 a9:=Tryz.isAgg9
 z9:=Tryz.sizeOf9
 v9:=Tryz.zeroValue9 }
open Go.RowKit in
theorem Tryz.strings_IndexByte (s:ByteArray) (c:Int) (w:World):
 Calls Tryz.prog 206 #[.string s,.int .u8 c] w fun e w'=>e=.returned (.int .i64 (Lib.indexByte s.data.toList c.toNat.toUInt8))∧w'=w:=Any.strings_IndexByte Tryz.lays137 s c w
def Tryz.lays103_ren:Go.Shelf.Ren:=⟨fun | 103=>78 | 210=>146 | 206=>205 | n=>n,fun | 9=>9 | 4=>4 | 24=>142 | 3=>3 | n=>n,fun | n=>n⟩
theorem Tryz.lays103:Go.Proofs.Lays.n103 Tryz.prog Tryz.lays103_ren:={
 mixed:=by kernel_rfl
 f103:=Tryz.func78.trans (congrArg some (by kernel_rfl))
 f206:=Tryz.func205.trans (congrArg some (by kernel_rfl))
 f210:=Tryz.func146.trans (congrArg some (by kernel_rfl))
 t3:=Tryz.underlying3
 a3:=Tryz.isAgg3
 z3:=Tryz.sizeOf3
 v3:=Tryz.zeroValue3
 t4:=Tryz.underlying4
 a4:=Tryz.isAgg4
 z4:=Tryz.sizeOf4
 v4:=Tryz.zeroValue4
 t9:=Tryz.underlying9
 a9:=Tryz.isAgg9
 z9:=Tryz.sizeOf9
 v9:=Tryz.zeroValue9
 t24:=Tryz.underlying142
 a24:=Tryz.isAgg142
 z24:=Tryz.sizeOf142
 v24:=Tryz.zeroValue142 }
open Go.RowKit in
theorem Tryz.strings_CutPrefix (s p:ByteArray) (w:World):
 Calls Tryz.prog 78 #[.string s,.string p] w fun e w'=>e=.returned (.tuple #[.string ⟨(Lib.trimPrefix s.data.toList p.data.toList).toArray⟩,.bool (Lib.hasPrefix s.data.toList p.data.toList)])∧w'=w:=Any.strings_CutPrefix Tryz.lays103 s p w
def Tryz.lays144_ren:Go.Shelf.Ren:=⟨fun | 144=>276 | 143=>305 | 219=>318 | 217=>269 | 225=>326 | 224=>327 | 267=>328 | 266=>304 | 314=>336 | n=>n,fun | 9=>9 | 4=>4 | 3=>3 | 5=>5 | 46=>220 | 146=>388 | 51=>223 | n=>n,fun | 1=>0 | n=>n⟩
theorem Tryz.lays144:Go.Proofs.Lays.n144 Tryz.prog Tryz.lays144_ren:={
 mixed:=by kernel_rfl
 f143:=Tryz.func305.trans (congrArg some (by kernel_rfl))
 f144:=Tryz.func276.trans (congrArg some (by kernel_rfl))
 f217:=Tryz.func269.trans (congrArg some (by kernel_rfl))
 f219:=Tryz.func318.trans (congrArg some (by kernel_rfl))
 f224:=Tryz.func327.trans (congrArg some (by kernel_rfl))
 f225:=Tryz.func326.trans (congrArg some (by kernel_rfl))
 f266:=Tryz.func304.trans (congrArg some (by kernel_rfl))
 f267:=Tryz.func328.trans (congrArg some (by kernel_rfl))
 f314:=Tryz.func336.trans (congrArg some (by kernel_rfl))
 t3:=Tryz.underlying3
 a3:=Tryz.isAgg3
 z3:=Tryz.sizeOf3
 v3:=Tryz.zeroValue3
 t4:=Tryz.underlying4
 a4:=Tryz.isAgg4
 z4:=Tryz.sizeOf4
 v4:=Tryz.zeroValue4
 t5:=Tryz.underlying5
 a5:=Tryz.isAgg5
 z5:=Tryz.sizeOf5
 v5:=Tryz.zeroValue5
 t9:=Tryz.underlying9
 a9:=Tryz.isAgg9
 z9:=Tryz.sizeOf9
 v9:=Tryz.zeroValue9
 t46:=Tryz.underlying220
 a46:=Tryz.isAgg220
 z46:=Tryz.sizeOf220
 v46:=Tryz.zeroValue220
 t51:=Tryz.underlying223
 a51:=Tryz.isAgg223
 z51:=Tryz.sizeOf223
 v51:=Tryz.zeroValue223
 t146:=Tryz.underlying388
 a146:=Tryz.isAgg388
 z146:=Tryz.sizeOf388
 v146:=Tryz.zeroValue388
 g1:=by kernel_rfl }
open Go.RowKit Go.Lib in
theorem Tryz.strings_Contains (s sub:ByteArray) (m:Int) (w:World) (hs:s.size<4294967281) (hm:w.cell? ⟨0,0,none⟩=some (.int .i64 m)):
 Calls Tryz.prog 276 #[.string s,.string sub] w fun e w'=>e=.returned (.bool (Lib.contains s.data.toList sub.data.toList))∧w'=w:=Any.strings_Contains Tryz.lays144 s sub m w hs hm
def Tryz.lays190_ren:Go.Shelf.Ren:=⟨fun | 190=>118 | 125=>194 | 258=>193 | 128=>262 | 129=>263 | 302=>253 | 303=>254 | 304=>255 | 305=>256 | 306=>257 | 307=>258 | 308=>259 | 309=>260 | 310=>261 | 333=>297 | 329=>298 | 330=>299 | 334=>300 | 335=>301 | 336=>302 | 344=>317 | n=>n,fun | 31=>33 | 9=>9 | 3=>3 | 46=>220 | 0=>0 | 51=>223 | 53=>224 | 4=>4 | 183=>327 | 182=>326 | 131=>94 | 5=>5 | 218=>358 | 222=>362 | 228=>370 | 229=>297 | n=>n,fun | n=>n⟩
theorem Tryz.lays190:Go.Proofs.Lays.n190 Tryz.prog Tryz.lays190_ren:={
 mixed:=by kernel_rfl
 f125:=Tryz.func194.trans (congrArg some (by kernel_rfl))
 f128:=Tryz.func262.trans (congrArg some (by kernel_rfl))
 f129:=Tryz.func263.trans (congrArg some (by kernel_rfl))
 f190:=Tryz.func118.trans (congrArg some (by kernel_rfl))
 f258:=Tryz.func193.trans (congrArg some (by kernel_rfl))
 f302:=Tryz.func253.trans (congrArg some (by kernel_rfl))
 f303:=Tryz.func254.trans (congrArg some (by kernel_rfl))
 f304:=Tryz.func255.trans (congrArg some (by kernel_rfl))
 f305:=Tryz.func256.trans (congrArg some (by kernel_rfl))
 f306:=Tryz.func257.trans (congrArg some (by kernel_rfl))
 f307:=Tryz.func258.trans (congrArg some (by kernel_rfl))
 f308:=Tryz.func259.trans (congrArg some (by kernel_rfl))
 f309:=Tryz.func260.trans (congrArg some (by kernel_rfl))
 f310:=Tryz.func261.trans (congrArg some (by kernel_rfl))
 f329:=Tryz.func298.trans (congrArg some (by kernel_rfl))
 f330:=Tryz.func299.trans (congrArg some (by kernel_rfl))
 f333:=Tryz.func297.trans (congrArg some (by kernel_rfl))
 f334:=Tryz.func300.trans (congrArg some (by kernel_rfl))
 f335:=Tryz.func301.trans (congrArg some (by kernel_rfl))
 f336:=Tryz.func302.trans (congrArg some (by kernel_rfl))
 f344:=Tryz.func317.trans (congrArg some (by kernel_rfl))
 t0:=Tryz.underlying0
 a0:=Tryz.isAgg0
 z0:=Tryz.sizeOf0
 v0:=Tryz.zeroValue0
 t3:=Tryz.underlying3
 a3:=Tryz.isAgg3
 z3:=Tryz.sizeOf3
 v3:=Tryz.zeroValue3
 t4:=Tryz.underlying4
 a4:=Tryz.isAgg4
 z4:=Tryz.sizeOf4
 v4:=Tryz.zeroValue4
 t5:=Tryz.underlying5
 a5:=Tryz.isAgg5
 z5:=Tryz.sizeOf5
 v5:=Tryz.zeroValue5
 t9:=Tryz.underlying9
 a9:=Tryz.isAgg9
 z9:=Tryz.sizeOf9
 v9:=Tryz.zeroValue9
 t31:=Tryz.underlying33
 a31:=Tryz.isAgg33
 z31:=Tryz.sizeOf33
 v31:=Tryz.zeroValue33
 t46:=Tryz.underlying220
 a46:=Tryz.isAgg220
 z46:=Tryz.sizeOf220
 v46:=Tryz.zeroValue220
 t51:=Tryz.underlying223
 a51:=Tryz.isAgg223
 z51:=Tryz.sizeOf223
 v51:=Tryz.zeroValue223
 t53:=Tryz.underlying224
 a53:=Tryz.isAgg224
 z53:=Tryz.sizeOf224
 v53:=Tryz.zeroValue224
 t131:=Tryz.underlying94
 a131:=Tryz.isAgg94
 z131:=Tryz.sizeOf94
 v131:=Tryz.zeroValue94
 t182:=Tryz.underlying326
 a182:=Tryz.isAgg326
 z182:=Tryz.sizeOf326
 v182:=Tryz.zeroValue326
 t183:=Tryz.underlying327
 a183:=Tryz.isAgg327
 z183:=Tryz.sizeOf327
 v183:=Tryz.zeroValue327
 t218:=Tryz.underlying358
 a218:=Tryz.isAgg358
 z218:=Tryz.sizeOf358
 v218:=Tryz.zeroValue358
 t222:=Tryz.underlying362
 a222:=Tryz.isAgg362
 z222:=Tryz.sizeOf362
 v222:=Tryz.zeroValue362
 t228:=Tryz.underlying370
 a228:=Tryz.isAgg370
 z228:=Tryz.sizeOf370
 v228:=Tryz.zeroValue370
 t229:=Tryz.underlying297
 a229:=Tryz.isAgg297
 z229:=Tryz.sizeOf297
 v229:=Tryz.zeroValue297 }
open Go.Sort Go.RowKit in
theorem Tryz.slices_Sort_string (blk off cap:Nat) (ss:List (List UInt8)) (w:World) (hH:Holds encStr w blk off ss.toArray) (hblk:blk<w.heap.size) (hsz:ss.length<4611686018427387904):
 Calls Tryz.prog 118 #[.slice (some ⟨blk,off,none⟩) ss.length cap] w fun e w'=>
 e=.returned (.tuple #[])∧∃n os,w'=grow (putRow encStr (Sort.ahead w n) blk off (ss.mergeSort fun x y=>decide (x≤y)).toArray) os:=Any.slices_Sort_string Tryz.lays190 blk off cap ss w hH hblk hsz
def Tryz.lays197_ren:Go.Shelf.Ren:=⟨fun | 197=>306 | 260=>319 | n=>n,fun | 9=>9 | 21=>21 | 3=>3 | 4=>4 | 5=>5 | 105=>354 | 119=>378 | 0=>0 | 46=>220 | 139=>381 | 138=>380 | n=>n,fun | 3=>1 | 4=>2 | n=>n⟩
theorem Tryz.lays197:Go.Proofs.Lays.n197 Tryz.prog Tryz.lays197_ren:={
 mixed:=by kernel_rfl
 f197:=Tryz.func306.trans (congrArg some (by kernel_rfl))
 f260:=Tryz.func319.trans (congrArg some (by kernel_rfl))
 t0:=Tryz.underlying0
 a0:=Tryz.isAgg0
 z0:=Tryz.sizeOf0
 v0:=Tryz.zeroValue0
 t3:=Tryz.underlying3
 a3:=Tryz.isAgg3
 z3:=Tryz.sizeOf3
 v3:=Tryz.zeroValue3
 t4:=Tryz.underlying4
 a4:=Tryz.isAgg4
 z4:=Tryz.sizeOf4
 v4:=Tryz.zeroValue4
 t5:=Tryz.underlying5
 a5:=Tryz.isAgg5
 z5:=Tryz.sizeOf5
 v5:=Tryz.zeroValue5
 t9:=Tryz.underlying9
 a9:=Tryz.isAgg9
 z9:=Tryz.sizeOf9
 v9:=Tryz.zeroValue9
 t21:=Tryz.underlying21
 a21:=Tryz.isAgg21
 z21:=Tryz.sizeOf21
 v21:=Tryz.zeroValue21
 t46:=Tryz.underlying220
 a46:=Tryz.isAgg220
 z46:=Tryz.sizeOf220
 v46:=Tryz.zeroValue220
 t105:=Tryz.underlying354
 a105:=Tryz.isAgg354
 z105:=Tryz.sizeOf354
 v105:=Tryz.zeroValue354
 t119:=Tryz.underlying378
 a119:=Tryz.isAgg378
 z119:=Tryz.sizeOf378
 t138:=Tryz.underlying380
 a138:=Tryz.isAgg380
 z138:=Tryz.sizeOf380
 v138:=Tryz.zeroValue380
 t139:=Tryz.underlying381
 a139:=Tryz.isAgg381
 z139:=Tryz.sizeOf381
 v139:=Tryz.zeroValue381
 g3:=by kernel_rfl
 g4:=by kernel_rfl }
def Tryz.lays264_ren:Go.Shelf.Ren:=⟨fun | 264=>316 | n=>n,fun | 53=>224 | 46=>220 | n=>n,fun | n=>n⟩
theorem Tryz.lays264:Go.Proofs.Lays.n264 Tryz.prog Tryz.lays264_ren:={
 mixed:=by kernel_rfl
 f264:=Tryz.func316.trans (congrArg some (by kernel_rfl))
 t46:=Tryz.underlying220
 a46:=Tryz.isAgg220
 z46:=Tryz.sizeOf220
 v46:=Tryz.zeroValue220
 t53:=Tryz.underlying224
 a53:=Tryz.isAgg224
 z53:=Tryz.sizeOf224
 v53:=Tryz.zeroValue224 }
open Go.RowKit Go.Lib in
theorem Tryz.bits_Mul64 (x y:Nat) (hx:x<18446744073709551616) (hy:y<18446744073709551616) (w:World):
 Calls Tryz.prog 316 #[.int .u64 x,.int .u64 y] w fun e w'=>e=.returned (.tuple #[.int .u64 ((x * y / 18446744073709551616:Nat):Int),.int .u64 ((x * y % 18446744073709551616:Nat):Int)])∧w'=w:=Any.bits_Mul64 Tryz.lays264 x y hx hy w
def Tryz.lays260_ren:Go.Shelf.Ren:=⟨fun | 260=>319 | n=>n,fun | 9=>9 | 21=>21 | 3=>3 | 4=>4 | 5=>5 | 119=>378 | 0=>0 | 46=>220 | 139=>381 | 138=>380 | n=>n,fun | 3=>1 | 4=>2 | n=>n⟩
theorem Tryz.lays260:Go.Proofs.Lays.n260 Tryz.prog Tryz.lays260_ren:={
 mixed:=by kernel_rfl
 f260:=Tryz.func319.trans (congrArg some (by kernel_rfl))
 t0:=Tryz.underlying0
 a0:=Tryz.isAgg0
 z0:=Tryz.sizeOf0
 v0:=Tryz.zeroValue0
 t3:=Tryz.underlying3
 a3:=Tryz.isAgg3
 z3:=Tryz.sizeOf3
 v3:=Tryz.zeroValue3
 t4:=Tryz.underlying4
 a4:=Tryz.isAgg4
 z4:=Tryz.sizeOf4
 v4:=Tryz.zeroValue4
 t5:=Tryz.underlying5
 a5:=Tryz.isAgg5
 z5:=Tryz.sizeOf5
 v5:=Tryz.zeroValue5
 t9:=Tryz.underlying9
 a9:=Tryz.isAgg9
 z9:=Tryz.sizeOf9
 v9:=Tryz.zeroValue9
 t21:=Tryz.underlying21
 a21:=Tryz.isAgg21
 z21:=Tryz.sizeOf21
 v21:=Tryz.zeroValue21
 t46:=Tryz.underlying220
 a46:=Tryz.isAgg220
 z46:=Tryz.sizeOf220
 v46:=Tryz.zeroValue220
 t119:=Tryz.underlying378
 a119:=Tryz.isAgg378
 z119:=Tryz.sizeOf378
 t138:=Tryz.underlying380
 a138:=Tryz.isAgg380
 z138:=Tryz.sizeOf380
 v138:=Tryz.zeroValue380
 t139:=Tryz.underlying381
 a139:=Tryz.isAgg381
 z139:=Tryz.sizeOf381
 v139:=Tryz.zeroValue381
 g3:=by kernel_rfl
 g4:=by kernel_rfl }
open Go.RowKit Go.Lib in
theorem Tryz.utf8_DecodeRuneInString (s:ByteArray) (w:World) (hT:Lib.Utf8Tabs 1 2 w):
 Calls Tryz.prog 306 #[.string s] w fun e w'=>e=.returned (.tuple #[.int .i32 (Lib.decodeGo s).1,.int .i64 (Lib.decodeGo s).2])∧Below w.heap.size w w':=Any.utf8_DecodeRuneInString Tryz.lays197 s w hT
def Tryz.laysNm215_ren:Go.Shelf.Ren:=⟨fun | 15=>129 | n=>n,fun | 22=>108 | 3=>3 | 4=>4 | n=>n,fun | n=>n⟩
theorem Tryz.laysNm215:Go.Proofs.Lays2.n15 Tryz.prog Tryz.laysNm215_ren:={
 mixed:=by kernel_rfl
 f15:=Tryz.func129.trans (congrArg some (by kernel_rfl))
 t3:=Tryz.underlying3
 a3:=Tryz.isAgg3
 z3:=Tryz.sizeOf3
 v3:=Tryz.zeroValue3
 t4:=Tryz.underlying4
 a4:=Tryz.isAgg4
 z4:=Tryz.sizeOf4
 v4:=Tryz.zeroValue4
 t22:=Tryz.underlying108
 a22:=Tryz.isAgg108
 z22:=Tryz.sizeOf108
 v22:=Tryz.zeroValue108
 i3:=by kernel_rfl }
open Go.RowKit Go.Lib in
theorem Tryz.slices_Clone_int (b off n c:Nat) (zs:List Int) (w:World) (hz:n≤zs.length) (hbig:n * 8≤140737488355328) (hc:∀j,j<zs.length→w.cell? ⟨b,off+j,none⟩=some (.int .i64 (zs.getD j 0))):
 Calls Tryz.prog 129 #[.slice (some ⟨b,off,none⟩) n c] w fun e w'=>∃v',e=.returned v'∧w'.ownsRow w.heap.size 3 1 v' n ((zs.take n).map (Value.int .i64))∧v'≠.slice none 0 0∧Below w.heap.size w w':=Any.slices_Clone_int Tryz.laysNm215 b off n c zs w hz hbig hc
open Go.RowKit Go.Lib in
theorem Tryz.slices_Clone_int_nil (n c:Nat) (w:World):
 Calls Tryz.prog 129 #[.slice none n c] w fun e w'=>e=.returned (.slice none 0 0)∧w'=w:=Any.slices_Clone_int_nil Tryz.laysNm215 n c w
open Go.RowKit Go.Lib in
theorem Tryz.slices_Clone_int_zero (a:Addr) (c:Nat) (w:World):
 Calls Tryz.prog 129 #[.slice (some a) 0 c] w fun e w'=>∃v',e=.returned v'∧w'.ownsRow w.heap.size 3 1 v' 0 []∧v'≠.slice none 0 0∧Below w.heap.size w w':=Any.slices_Clone_int_zero Tryz.laysNm215 a c w
open Go.RowKit Go.Sort in
theorem Tryz.slices_Sort_string_none (p:Option Addr) (cap:Nat) (w:World):
 Calls Tryz.prog 118 #[.slice p 0 cap] w fun e w'=>e=.returned (.tuple #[])∧w'=w:=Any.slices_Sort_string_none Tryz.lays190 p cap w
def Tryz.lays115_ren:Go.Shelf.Ren:=⟨fun | 115=>51 | n=>n,fun | 37=>36 | 4=>4 | 9=>9 | 5=>5 | n=>n,fun | n=>n⟩
theorem Tryz.lays115:Go.Proofs.Lays.n115 Tryz.prog Tryz.lays115_ren:={
 mixed:=by kernel_rfl
 f115:=Tryz.func51.trans (congrArg some (by kernel_rfl))
 t4:=Tryz.underlying4
 a4:=Tryz.isAgg4
 z4:=Tryz.sizeOf4
 v4:=Tryz.zeroValue4
 t9:=Tryz.underlying9
 a9:=Tryz.isAgg9
 z9:=Tryz.sizeOf9
 v9:=Tryz.zeroValue9
 t37:=Tryz.underlying36
 a37:=Tryz.isAgg36
 z37:=Tryz.sizeOf36
 v37:=Tryz.zeroValue36 }
open Go.Proofs Go.RowKit Go.Lib in
theorem Tryz.bytes_Equal_strs (v1 v2:Value) (t1 t2:ByteArray) (w:World) (h1:(convert 36 9 v1).run Tryz.prog w=.ok (.string t1) w) (h2:(convert 36 9 v2).run Tryz.prog w=.ok (.string t2) w):
 Calls Tryz.prog 51 #[v1,v2] w fun e w'=>e=.returned (.bool (t1.toList==t2.toList))∧w'=w:=Any.bytes_Equal_strs Tryz.lays115 v1 v2 t1 t2 w h1 h2
def Tryz.laysSlK4_ren:Go.Shelf.Ren:=⟨fun | 4=>52 | n=>n,fun | 22=>36 | 4=>4 | 5=>5 | n=>n,fun | n=>n⟩
theorem Tryz.laysSlK4:Go.Proofs.SlLaysK.n4 Tryz.prog Tryz.laysSlK4_ren:={
 mixed:=by kernel_rfl
 f4:=Tryz.func52.trans (congrArg some (by kernel_rfl))
 t4:=Tryz.underlying4
 a4:=Tryz.isAgg4
 z4:=Tryz.sizeOf4
 v4:=Tryz.zeroValue4
 t22:=Tryz.underlying36
 a22:=Tryz.isAgg36
 z22:=Tryz.sizeOf36
 v22:=Tryz.zeroValue36
 t5:=Tryz.underlying5
 i5:=by kernel_rfl }
open Go.RowKit Go.Lib in
theorem Tryz.bytes_Clone_at (a:Addr) (n c:Nat) (xs:List Int) (w:World) (hx:xs.length=n) (hbig:n≤140737488355328) (hc:∀i,i<n→w.cell? (a.add i)=some (.int .u8 (xs.getD i 0))):
 Calls Tryz.prog 52 #[.slice (some a) n c] w fun e w'=>∃v',e=.returned v'∧w'.ownsRow w.heap.size 5 1 v' n (xs.map (Value.int .u8))∧v'≠.slice none 0 0∧Below w.heap.size w w':=Any.bytes_Clone_at Tryz.laysSlK4 a n c xs w hx hbig hc
open Go.RowKit Go.Lib in
theorem Tryz.bytes_Clone_nil (n c:Nat) (w:World):
 Calls Tryz.prog 52 #[.slice none n c] w fun e w'=>e=.returned (.slice none 0 0)∧w'=w:=Any.bytes_Clone_nil Tryz.laysSlK4 n c w
def Tryz.laysSlJ14_ren:Go.Shelf.Ren:=⟨fun | 14=>289 | 15=>313 | n=>n,fun | 26=>23 | 22=>36 | 3=>3 | 4=>4 | 0=>0 | 9=>9 | 20=>20 | 5=>5 | n=>n,fun | n=>n⟩
theorem Tryz.laysSlJ14:Go.Proofs.SlLaysJ.n14 Tryz.prog Tryz.laysSlJ14_ren:={
 mixed:=by kernel_rfl
 f14:=Tryz.func289.trans (congrArg some (by kernel_rfl))
 f15:=Tryz.func313.trans (congrArg some (by kernel_rfl))
 t0:=Tryz.underlying0
 a0:=Tryz.isAgg0
 z0:=Tryz.sizeOf0
 v0:=Tryz.zeroValue0
 t3:=Tryz.underlying3
 a3:=Tryz.isAgg3
 z3:=Tryz.sizeOf3
 v3:=Tryz.zeroValue3
 t4:=Tryz.underlying4
 a4:=Tryz.isAgg4
 z4:=Tryz.sizeOf4
 v4:=Tryz.zeroValue4
 t9:=Tryz.underlying9
 a9:=Tryz.isAgg9
 z9:=Tryz.sizeOf9
 v9:=Tryz.zeroValue9
 t20:=Tryz.underlying20
 a20:=Tryz.isAgg20
 z20:=Tryz.sizeOf20
 v20:=Tryz.zeroValue20
 t22:=Tryz.underlying36
 a22:=Tryz.isAgg36
 z22:=Tryz.sizeOf36
 v22:=Tryz.zeroValue36
 t26:=Tryz.underlying23
 a26:=Tryz.isAgg23
 z26:=Tryz.sizeOf23
 v26:=Tryz.zeroValue23
 t5:=Tryz.underlying5
 z5:=Tryz.sizeOf5
 i5:=by kernel_rfl }
open Go.RowKit Go.Lib in
theorem Tryz.bytes_Join_many (b o n c:Nat) (vs:List Value) (ls:List (List UInt8)) (sv:Value) (sep:List UInt8) (w:World) (hn:ls.length=n) (h2:2≤n) (hP:Lib.PartsAt w ⟨b,o,none⟩ vs ls) (hcap:n≤c) (hS:Lib.HoldsBytes w sv sep) (hn47:n≤140737488355328) (hlen:Lib.lens ls+sep.length * (n - 1)≤140737488355328):
 Calls Tryz.prog 289 #[.slice (some ⟨b,o,none⟩) n c,sv] w fun e w'=>∃v',e=.returned v'∧Lib.FreshBytes w.heap.size w' v' (Lib.join ls sep)∧Below w.heap.size w w':=Any.bytes_Join_many Tryz.laysSlJ14 b o n c vs ls sv sep w hn h2 hP hcap hS hn47 hlen
open Go.RowKit Go.Lib in
theorem Tryz.bytes_Join_one (b o c:Nat) (ad0:Addr) (c0:Nat) (l0:List UInt8) (sv:Value) (w:World) (hcell:w.cell? ⟨b,o,none⟩=some (.slice (some ad0) l0.length c0)) (hc:∀(i:Nat) x,l0[i]?=some x→w.cell? (ad0.add i)=some (.int .u8 (x.toNat:Int))) (h0:0<l0.length) (hs:l0.length≤140737488355328):
 Calls Tryz.prog 289 #[.slice (some ⟨b,o,none⟩) 1 c,sv] w fun e w'=>∃v',e=.returned v'∧Lib.FreshBytes w.heap.size w' v' l0∧Below w.heap.size w w':=Any.bytes_Join_one Tryz.laysSlJ14 b o c ad0 c0 l0 sv w hcell hc h0 hs
end Go.Proofs
