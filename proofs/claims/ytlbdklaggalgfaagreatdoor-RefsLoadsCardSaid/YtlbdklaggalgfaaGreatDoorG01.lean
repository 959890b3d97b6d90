/- Num I64 Str Same NumBytes RdBig -/
import Derived.Test.YtlbdklaggalgfaaGreatDoorG00
import Derived.Laws.BitsLemmas
import Derived.IntWalk
import Derived.Test.YtlbdklaggalgfaaGreatDoorChecked
import Derived.Outline
import Derived.WalkSpells
import Derived.Laws.BytesArg
import Derived.Deep.LoopGhost
import Derived.Deep.DeepCutAuto
import Derived.BigQuiet
import Derived.Deep.QuietTactic
set_option linter.unusedSimpArgs false
set_option linter.unusedVariables false
set_option maxHeartbeats 2000000
namespace Go.Aq
open Go.RowKit
def Bc (c:UInt8):Value:=.int .u8 c.toNat
def Bs (l:List UInt8):List Value:=l.map Bc
theorem Bs_length (l:List UInt8):(Bs l).length=l.length:=by simp[Bs]
theorem Bs_append (l m:List UInt8):Bs (l++m)=Bs l++Bs m:=by simp[Bs]
theorem Bs_get (l:List UInt8) (j:Nat) (h:j<l.length):(Bs l)[j]?=some (.int .u8 ((l[j]'h).toNat:Int)):=by simp[Bs,Bc,h]
theorem Bs_set (l:List UInt8) (j:Nat) (c:UInt8):(Bs l).set j (.int .u8 (c.toNat:Int))=Bs (l.set j c):=by simp[Bs,Bc,List.map_set]
theorem Bs_one (l:List UInt8):∀u∈Bs l,u.oneCell'=true:=by
 intro u hu;obtain⟨_,_,rfl⟩:=List.mem_map.1 hu;rfl
theorem bits_nat_full (k:IntKind) (hk:∀n:Nat,n<2^k.bits→k.wrap n=n) (a b:Nat) (ha:a<2^k.bits) (hb:b<2^k.bits):
  bits .and k a b=((a &&& b:Nat):Int)∧bits .or k a b=((a ||| b:Nat):Int)∧bits .xor k a b=((a ^^^ b:Nat):Int):=by
 have ha':a % 2^k.bits=a:=Nat.mod_eq_of_lt ha;have hb':b % 2^k.bits=b:=Nat.mod_eq_of_lt hb;refine⟨?_,?_,?_⟩
 ·simp only[bits,BitVec.ofInt_natCast,BitVec.toNat_and,BitVec.toNat_ofNat,ha',hb'];exact hk _ (Nat.and_lt_two_pow _ hb)
 ·simp only[bits,BitVec.ofInt_natCast,BitVec.toNat_or,BitVec.toNat_ofNat,ha',hb'];exact hk _ (Nat.or_lt_two_pow ha hb)
 ·simp only[bits,BitVec.ofInt_natCast,BitVec.toNat_xor,BitVec.toNat_ofNat,ha',hb'];exact hk _ (Nat.xor_lt_two_pow ha hb)
theorem bits_u8 (a b:Nat) (ha:a<256) (hb:b<256):bits .and .u8 a b=((a &&& b:Nat):Int)∧bits .or .u8 a b=((a ||| b:Nat):Int)∧bits .xor .u8 a b=((a ^^^ b:Nat):Int):=
 bits_nat_full .u8 (fun n h=>by rw[IntKind.wrap_u8];simp only[IntKind.bits] at h;omega) a b ha hb
theorem u8and1N (a:Nat) (ha:a<256):bits .and .u8 a 1=((a % 2:Nat):Int):=by
 have:=(bits_u8 a 1 ha (by decide)).1;rw[Nat.and_one_is_mod] at this;exact this
theorem or_shift (a b k:Nat) (ha:a<2^k):a ||| b * 2^k=a+2^k * b:=by
 rw[Nat.or_comm,Nat.mul_comm,Nat.add_comm];exact (Nat.two_pow_add_eq_or_of_lt ha b).symm
theorem bits_i64 (a b:Nat) (ha:a<9223372036854775808) (hb:b<9223372036854775808):bits .and .i64 a b=((a &&& b:Nat):Int)∧bits .or .i64 a b=((a ||| b:Nat):Int)∧bits .xor .i64 a b=((a ^^^ b:Nat):Int):=by
 have hp:(9223372036854775808:Nat)=2^63:=by decide
 have ha':a % 2^IntKind.i64.bits=a:=Nat.mod_eq_of_lt (by simp only[IntKind.bits];omega);have hb':b % 2^IntKind.i64.bits=b:=Nat.mod_eq_of_lt (by simp only[IntKind.bits];omega);have hk:∀n:Nat,n<9223372036854775808→IntKind.i64.wrap (n:Int)=n:=fun n h=>IntWalk.i64_in _ (by omega)
 have h1:a &&& b<9223372036854775808:=by rw[hp] at hb ⊢;exact Nat.and_lt_two_pow a hb
 have h2:a ||| b<9223372036854775808:=by rw[hp] at ha hb ⊢;exact Nat.or_lt_two_pow ha hb
 have h3:a ^^^ b<9223372036854775808:=by rw[hp] at ha hb ⊢;exact Nat.xor_lt_two_pow ha hb
 refine⟨?_,?_,?_⟩
 ·simp only[bits,BitVec.ofInt_natCast,BitVec.toNat_and,BitVec.toNat_ofNat,ha',hb'];exact hk _ h1
 ·simp only[bits,BitVec.ofInt_natCast,BitVec.toNat_or,BitVec.toNat_ofNat,ha',hb'];exact hk _ h2
 ·simp only[bits,BitVec.ofInt_natCast,BitVec.toNat_xor,BitVec.toNat_ofNat,ha',hb'];exact hk _ h3
theorem or_byte (n x:Nat) (hn:n<1099511627776) (hx:x<256):bits .or .i64 ((n:Int) * 256) (x:Int)=((n * 256+x:Nat):Int):=by
 have h:=(bits_i64 (n * 256) x (by omega) (by omega)).2.1;have e:n * 256 ||| x=n * 256+x:=by
  rw[Nat.or_comm];have:=or_shift x n 8 hx;rw[show (2:Nat)^8=256 by decide] at this;rw[this];omega
 rw[e] at h;rw[←h];rfl
theorem i64mask (x m k:Nat) (hx:x<9223372036854775808) (hm:m+1=2^k) (hk:k≤62):bits .and .i64 (x:Int) (m:Int)=((x % 2^k:Nat):Int):=by
 have h2:2^k≤2^62:=Nat.pow_le_pow_right (by decide) hk;have h:=(bits_i64 x m hx (by have:(2:Nat)^62=4611686018427387904:=(by decide);omega)).1;rw[h,show m=2^k - 1 by omega,Nat.and_two_pow_sub_one_eq_mod]
theorem i64orl (n x k:Nat) (hn:n * 2^k<9223372036854775808) (hx:x<2^k) (hk:k≤62):bits .or .i64 ((n:Int) * ((2^k:Nat):Int)) (x:Int)=((n * 2^k+x:Nat):Int):=by
 have h2:2^k≤2^62:=Nat.pow_le_pow_right (by decide) hk;have h:=(bits_i64 (n * 2^k) x hn (by have:(2:Nat)^62=4611686018427387904:=(by decide);omega)).2.1;have e:n * 2^k ||| x=n * 2^k+x:=by
  rw[Nat.or_comm,or_shift x n k hx,Nat.add_comm,Nat.mul_comm]
 rw[e] at h;rw[←h,Int.natCast_mul]
def str (l:List UInt8):ByteArray:=⟨l.toArray⟩
theorem str_inj {l m:List UInt8} (h:str l=str m):l=m:=by
 have:=congrArg (fun b:ByteArray=>b.data.toList) h;simpa[str] using this
theorem str_toList (l:List UInt8):(str l).toList=l:=ByteArray.toList_mk l
theorem str_size (l:List UInt8):(str l).size=l.length:=by simp[str,ByteArray.size]
theorem str_eq (a b:List UInt8):((str a).toList==(str b).toList)=decide (a=b):=by rw[str_toList,str_toList];exact (Bool.eq_iff_iff.2 (by simp))
theorem run_str {P:Program} {w:World} {v:Value} {n:Nat} {bs:List UInt8} (h:Sees w 1 v n (Bs bs)) (src dst e:TypeId) (hs:P.underlying src=some (.slice e)) (he:P.underlying e=some (.int .u8)) (hd:P.underlying dst=some .string):
  (convert src dst v).run P w=.ok (.string (str bs)) w:=by
 obtain⟨hl,ao,cap,rfl,hc,hno,hcells⟩:=h;rw[run_convert_bytes_string w src dst e ao n cap hs he hd];cases ao with
 | none=>
  obtain⟨rfl,rfl⟩:=hno rfl;have:bs=[]:=List.eq_nil_of_length_eq_zero (by simpa[Bs] using hl);subst this;rfl
 | some ad=>
  have h1:=run_loadCells_list (P:=P) (w:=w) ad (Bs bs) (hcells ad rfl);have h2:(Bs bs)=(bs.map fun c=>(c.toNat:Int)).map (Value.int .u8):=by simp[Bs,Bc]
  rw[hl,Nat.mul_one,h2] at h1;rw[run_bytesToString w ad n cap _ h1,foldl_push_bytes];simp[str,Function.comp_def]
end Go.Aq
namespace Go.Proofs.YtlbdklaggalgfaaGreatDoor
open Go.RowKit Go.Aq
theorem run_str8 {w:World} {v:Value} {n:Nat} {bs:List UInt8} (h:Sees w 1 v n (Bs bs)):(convert 38 9 v).run Tryz.prog w=.ok (.string (str bs)) w:=
 run_str h _ _ _ Tryz.underlying38 Tryz.underlying5 Tryz.underlying9
theorem same_any (w:World) (v v':Value) (n n':Nat) (a b:List UInt8) (h1:Sees w 1 v n (Bs a)) (h2:Sees w 1 v' n' (Bs b)):
  Calls Tryz.prog 60 #[v,v'] w fun e w'=>e=.returned (.bool (decide (a=b)))∧w=w':=by
 have r1:=run_str8 h1;have r2:=run_str8 h2;obtain⟨ao,cap,rfl,-⟩:=h1.shape;obtain⟨ao',cap',rfl,-⟩:=h2.shape;go_enter Tryz.func60,Tryz.ntmps60
 go_wp2
 go_ret;refine⟨?_,rfl⟩;rw[←str_eq];rfl
theorem same_yes (w:World) (v v':Value) (n n':Nat) (a b:List UInt8) (h1:Sees w 1 v n (Bs a)) (h2:Sees w 1 v' n' (Bs b)) (h:a=b):
  Calls Tryz.prog 60 #[v,v'] w fun e w'=>e=.returned (.bool true)∧w=w':=by
 have:=same_any w v v' n n' a b h1 h2;simpa[h] using this
theorem copy_any (w:World) (v:Value) (n:Nat) (bs:List UInt8) (hv:Sees w 1 v n (Bs bs)) (hb:n≤140737488355328) (sl_u8:SliceTy Tryz.prog 38 5 (.int .u8 0) 1 1):
  Calls Tryz.prog 66 #[v] w fun e w'=>∃v',e=.returned v'∧Own w' 5 1 v' n (Bs bs)∧Chg [] w w'∧∀k∈v'.ownBlock.toList,w.heap.size≤k:=by
 obtain⟨ao,cap,rfl,-⟩:=hv.shape;go_enter Tryz.func66,Tryz.ntmps66;go_wp2_with (at_builtin;refine wpList_app rfl _ _ 38 rfl sl_u8 (n:=0) (xs:=[]) (Own.made w 5 1) rfl (hv.chg0 (Chg.alloc (Chg.refl _ _) _)) rfl (Bs_one bs) (by omega) (by omega) ?_;intro v' w' ho hc hn);go_ret;refine⟨v',rfl,by simpa using ho,Chg.trans (Chg.alloc (Chg.refl _ _) _) hc (by simp[Value.ownBlock]),fun k hk=>?_⟩;rcases hn k hk with h | h
 ·simp[Value.ownBlock] at h;omega
 ·simp at h;omega
end Go.Proofs.YtlbdklaggalgfaaGreatDoor
namespace Go.Aq
open Go.RowKit
theorem ret_bool {a b:Bool} (h:a=b):Ending.returned (.bool a)=.returned (.bool b):=by rw[h]
theorem ret_int {k:IntKind} {a b:Int} (h:a=b):Ending.returned (.int k a)=.returned (.int k b):=by rw[h]
theorem Sees.part {w:World} {v:Value} {n:Nat} {xs:List Value} (h:Sees w 1 v n xs) (at_ wd:Nat) (hw:0<wd) (hn:at_+wd≤n):
  ∃g off cap,v=.slice (some ⟨g,off,none⟩) n cap∧n≤cap∧Sees w 1 (.slice (some ⟨g,off+at_,none⟩) wd (cap - at_)) wd ((xs.drop at_).take wd):=by
 obtain⟨g,off,cap,rfl,hc,hcell⟩:=h.at1 (by omega);have hl:=h.len;refine⟨g,off,cap,rfl,hc,⟨by simp;omega,_,_,rfl,by omega,by simp,fun ad had j u hu=>?_⟩⟩;cases had;have hj:j<wd:=by
  have:=(List.getElem?_eq_some_iff.1 hu).1;simp at this;omega
 rw[Addr.add_lit,Nat.add_assoc,hcell (at_+j) (by omega),←hu,List.getElem?_take_of_lt hj,List.getElem?_drop]
def beVal (l:List UInt8):Nat:=l.foldl (fun n x=>n * 256+x.toNat) 0
theorem beVal_snoc (l:List UInt8) (x:UInt8):beVal (l++[x])=beVal l * 256+x.toNat:=by simp[beVal]
theorem beVal_lt (l:List UInt8):beVal l<256^l.length:=by
 induction h:l.length generalizing l with
 | zero=>have:=List.eq_nil_of_length_eq_zero h;subst this;simp[beVal]
 | succ k ih=>
  have hne:l≠[]:=by intro e;subst e;simp at h
  rw[←List.dropLast_concat_getLast hne,beVal_snoc];have:=ih l.dropLast (by simp;omega);have hx:=(l.getLast hne).toNat_lt;rw[Nat.pow_succ];omega
theorem Bs_take (l:List UInt8) (n:Nat):Bs (l.take n)=(Bs l).take n:=by simp[Bs,List.map_take]
theorem Bs_drop (l:List UInt8) (n:Nat):Bs (l.drop n)=(Bs l).drop n:=by simp[Bs,List.map_drop]
def leBy (n k:Nat):List UInt8:=(List.range k).map fun i=>UInt8.ofNat (n / 2^(8 * i))
def beB (n k:Nat):List UInt8:=(leBy n k).reverse
theorem leB_length (n k:Nat):(leBy n k).length=k:=by simp[leBy]
theorem beB_length (n k:Nat):(beB n k).length=k:=by simp[beB,leBy]
def revAt (l:List UInt8) (i:Nat):List UInt8:=(List.range l.length).map fun j=>if j<i∨l.length≤j+i then l.getD (l.length - 1 - j) 0 else l.getD j 0
theorem revAt_length (l:List UInt8) (i:Nat):(revAt l i).length=l.length:=by simp[revAt]
theorem revAt_zero (l:List UInt8):revAt l 0=l:=by
 apply List.ext_getElem;·simp[revAt]
 ·intro i h1 h2;simp only[revAt,List.getElem_map,List.getElem_range];rw[if_neg (by omega)];simp[h2]
theorem revAt_end (l:List UInt8) (i:Nat) (h:l.length≤2 * i+1):revAt l i=l.reverse:=by
 apply List.ext_getElem;·simp[revAt]
 ·intro j h1 h2;simp only[revAt_length] at h1;simp only[revAt,List.getElem_map,List.getElem_range,List.getElem_reverse];by_cases hj:j<i∨l.length≤j+i;·rw[if_pos hj,List.getD_eq_getElem?_getD,List.getElem?_eq_getElem (by omega)];rfl
  ·rw[if_neg hj,List.getD_eq_getElem?_getD,List.getElem?_eq_getElem (by omega)];simp only[Option.getD_some];congr 1;omega
theorem revAt_lo (l:List UInt8) (i j:Nat) (h:i+j+1=l.length) (hij:i<j):(revAt l i)[i]'(by rw[revAt_length];omega)=l[i]'(by omega):=by
 simp only[revAt,List.getElem_map,List.getElem_range];rw[if_neg (by omega),List.getD_eq_getElem?_getD,List.getElem?_eq_getElem (by omega)];rfl
theorem revAt_hi (l:List UInt8) (i j:Nat) (h:i+j+1=l.length) (hij:i<j):(revAt l i)[j]'(by rw[revAt_length];omega)=l[j]'(by omega):=by
 simp only[revAt,List.getElem_map,List.getElem_range];rw[if_neg (by omega),List.getD_eq_getElem?_getD,List.getElem?_eq_getElem (by omega)];rfl
theorem revAt_step (l:List UInt8) (i j:Nat) (h:i+j+1=l.length) (hij:i<j):((revAt l i).set i (l[j]'(by omega))).set j (l[i]'(by omega))=revAt l (i+1):=by
 apply List.ext_getElem;·simp[revAt]
 ·intro k h1 h2;simp only[revAt_length] at h2;simp only[List.getElem_set,revAt,List.getElem_map,List.getElem_range];by_cases hkj:j=k
  ·subst hkj;rw[if_pos rfl,if_pos (by omega),List.getD_eq_getElem?_getD,List.getElem?_eq_getElem (by omega)];simp only[Option.getD_some];congr 1;omega
  ·rw[if_neg hkj];by_cases hki:i=k
   ·subst hki;rw[if_pos rfl,if_pos (by omega),List.getD_eq_getElem?_getD,List.getElem?_eq_getElem (by omega)];simp only[Option.getD_some];congr 1;omega
   ·rw[if_neg hki];by_cases hk:k<i∨l.length≤k+i;·rw[if_pos hk,if_pos (by omega)]
    ·rw[if_neg hk,if_neg (by omega)]
end Go.Aq
namespace Go.Proofs.YtlbdklaggalgfaaGreatDoor
open Go.RowKit Go.Aq
theorem there_ok (w:World) (v:Value) (n at_ wd:Nat) (b:List UInt8) (hv:Sees w 1 v n (Bs b)) (h1:1≤wd) (h6:wd≤6) (ha:at_+wd≤n) (hn:n≤4611686018427387904):
  Calls Tryz.prog 98 #[v,.int .i64 at_,.int .i64 wd] w fun e w'=>∃v',e=.returned (.tuple #[v',.int .i64 0])∧Sees w 1 v' wd (Bs ((b.drop at_).take wd))∧w=w':=by
 obtain⟨g,off,cap,rfl,hc,hs⟩:=hv.part at_ wd (by omega) ha;have t1:decide ((wd:Int)<1)=false:=by simp;omega
 have t2:decide ((6:Int)<(wd:Int))=false:=by simp;omega
 have t3:decide ((at_:Int)<0)=false:=by simp
 have t4:decide ((n:Int)<(at_:Int))=false:=by simp;omega
 have t5:decide ((n:Int) - (at_:Int)<(wd:Int))=false:=by simp;omega
 have t4':decide (n<at_)=false:=by simp;omega
 go_enter Tryz.func98,Tryz.ntmps98
 go_wp2
 go_ret2;rw[Nat.add_sub_cancel_left];refine⟨_,rfl,?_,rfl⟩;rw[Bs_take,Bs_drop];exact hs
theorem readBig_ok (w:World) (v:Value) (n at_ wd:Nat) (b:List UInt8) (hv:Sees w 1 v n (Bs b)) (h1:1≤wd) (h6:wd≤6) (ha:at_+wd≤n) (hn:n≤4611686018427387904):
  Calls Tryz.prog 39 #[v,.int .i64 at_,.int .i64 wd] w fun e w'=>e=.returned (.tuple #[.int .i64 (beVal ((b.drop at_).take wd):Nat),.int .i64 0])∧w=w':=by
 obtain⟨R,hR⟩:∃R,beVal ((b.drop at_).take wd)=R:=⟨_,rfl⟩;rw[hR];have HR:=zH hR;clear hR;go_enter Tryz.func39,Tryz.ntmps39;go_wp2_with fail;refine (there_ok w v n at_ wd b hv h1 h6 ha hn).mono ?_;rintro e w1 ⟨v',rfl,hs,rfl⟩;have hbl:((b.drop at_).take wd).length=wd:=by have:=hs.len;rw[Bs_length] at this;omega
 generalize (b.drop at_).take wd=l at *;clear hv ha hn;obtain⟨g,off,cap,rfl,hc,hcell⟩:=hs.at1 (by omega);have HL:=zH hbl;clear hbl;have HC:=zH hcell;clear hcell;go_wp2_with fail;go_loopg [10,12,22] wd (fun k vn _ vi wr=>∃(i m:Nat),vn=.int .i64 m∧vi=.int .i64 i∧i+k=wd∧m=beVal (l.take i)∧wr=w);case atStart=>exact⟨0,0,rfl,rfl,by omega,rfl,rfl⟩
 case round=>
  obtain⟨i,m,rfl,rfl,hik,hm,rfl⟩:=hrel;have hmb:m<1099511627776∨i=wd:=by
   by_cases hi:i<wd
   ·left;have h:=beVal_lt (l.take i);rw[List.length_take,Nat.min_eq_left (by have:=HL.out;omega),←hm] at h;have h2:(256:Nat)^i≤256^5:=Nat.pow_le_pow_right (by decide) (by omega);have h3:(256:Nat)^5=1099511627776:=by decide
    omega
   ·right;omega
  have HM:=zH hm;clear hm;have HIK:=zH hik;clear hik;by_cases hlt:i<wd
  ·have hmb':m<1099511627776:=by omega
   clear hmb;have hll:i<l.length:=by have:=HL.out;omega
   have x0:wr.cell? ⟨g,off+i,none⟩=some (.int .u8 ((l[i]'hll).toNat:Int)):=by
    rw[HC.out i (by omega),Bs_get _ _ hll]
   have hb:=(l[i]'hll).toNat_lt;have HT:=zH (show beVal (l.take (i+1))=beVal (l.take i) * 256+(l[i]'hll).toNat by rw[List.take_succ_eq_append_getElem hll,beVal_snoc]);have hor:=or_byte m (l[i]'hll).toNat hmb' hb;generalize (l[i]'hll).toNat=x at *
   go_wp2
   go_roundg (gk - 1);case measure=>have:=HIK.out;omega
   case rel=>exact⟨i+1,m * 256+x,by go_num,by go_num,by have:=HIK.out;omega,by rw[HT.out,←HM.out],rfl⟩
  ·have hi:i=wd:=by have:=HIK.out;omega
   subst hi
   go_wp2
   go_ret2;have e:=HM.out;rw[List.take_of_length_le (by have:=HL.out;omega),HR.out] at e;rw[e];exact⟨rfl,rfl⟩
theorem reverse_any (w:World) (g n cap:Nat) (l:List UInt8) (hv:Own w 5 1 (.slice (some ⟨g,0,none⟩) n cap) n (Bs l)) (h1:1≤n) (hn:n≤4611686018427387904):
  Calls Tryz.prog 193 #[.slice (some ⟨g,0,none⟩) n cap] w fun e w'=>e=.returned (.tuple #[])∧Own w' 5 1 (.slice (some ⟨g,0,none⟩) n cap) n (Bs l.reverse)∧Chg [g] w w':=by
 have hl:l.length=n:=by have:=hv.len;rw[Bs_length] at this;omega
 have HL:=zH hl;clear hl;go_enter Tryz.func193,Tryz.ntmps193
 go_wp2
 go_loopg [2,3] n (fun k vi vj wr=>∃(i j:Nat) (b:Int),vi=.int .i64 i∧vj=.int .i64 b∧(b=j∨(n≤2 * i∧b+1=j))∧i+k=n∧i≤n∧b+i+1=n∧Own wr 5 1 (.slice (some ⟨g,0,none⟩) n cap) n (Bs (revAt l i))∧Chg [g] w wr);case atStart=>exact⟨0,n - 1,(n:Int) - 1,rfl,by rfl,by omega,by omega,by omega,by omega,by rw[revAt_zero];exact hv,Chg.refl _ _⟩
 case round=>
  obtain⟨i,j,b,rfl,rfl,hbj,hik,hi,hbi,ho,hc⟩:=hrel;have HIK:=zH hik;clear hik;by_cases hlt:(i:Int)<b
  ·obtain⟨j',hj'⟩:∃j':Nat,b=j':=⟨b.toNat,by omega⟩;have hij:i<j':=by omega
   have hsum:i+j'+1=n:=by omega
   subst hj';have hsl:i+j'+1=l.length:=by rw[HL.out];exact hsum
   have t1:decide ((i:Int)<(j':Int))=true:=by simpa using hlt
   have t1':decide (i<j')=true:=by simpa using hij
   obtain⟨c,hcc⟩:∃c,l[i]'(by omega)=c:=⟨_,rfl⟩;obtain⟨d,hdd⟩:∃d,l[j']'(by omega)=d:=⟨_,rfl⟩;have x0:wr.cell? ⟨g,i,none⟩=some (.int .u8 (c.toNat:Int)):=by
    rw[ho.cellAt i (by omega),Bs_get _ _ (by rw[revAt_length];omega),revAt_lo l i j' hsl hij,hcc]
   have x1:wr.cell? ⟨g,j',none⟩=some (.int .u8 (d.toNat:Int)):=by
    rw[ho.cellAt j' (by omega),Bs_get _ _ (by rw[revAt_length];omega),revAt_hi l i j' hsl hij,hdd]
   have f0:=ho.frozenAt i;have f1:=ho.frozenAt j';have hst:=revAt_step l i j' hsl hij;rw[hcc,hdd] at hst;have ho2:=(ho.set i (.int .u8 (d.toNat:Int))).set j' (.int .u8 (c.toNat:Int));rw[Bs_set,Bs_set,hst] at ho2;have hc2:=(hc.setCell (p:=⟨g,i,none⟩) (by simp) (.int .u8 (d.toNat:Int))).setCell (p:=⟨g,j',none⟩) (by simp) (.int .u8 (c.toNat:Int));have HS:=zH hsum;clear hsum hbj hbi hst hcc hdd;generalize c.toNat=c at *;generalize d.toNat=d at *;have hne:(j'=i)=False:=by simp;omega
   have hne':(i=j')=False:=by simp;omega
   have i1:(i:Int)<n:=by have:=HS.out;omega
   have i2:(j':Int)<n:=by have:=HS.out;omega
   have ho3:Own ((wr.setCell ⟨g,i,none⟩ (.int .u8 (d:Int))).setCell ⟨g,j',none⟩ (.int .u8 (c:Int))).drew 5 1 (.slice (some ⟨g,0,none⟩) n cap) n (Bs (revAt l (i+1))):=ho2;have hc3:=hc2.drew;clear ho2 hc2
   go_wp2
   go_region;generalize ((wr.setCell ⟨g,i,none⟩ (.int .u8 (d:Int))).setCell ⟨g,j',none⟩ (.int .u8 (c:Int))).drew=w3 at *
   go_wp2
   go_roundg (gk - 1);case measure=>have:=HIK.out;have:=HS.out;omega
   case rel=>exact⟨i+1,j' - 1,(j':Int) - 1,by go_num,rfl,by omega,by have:=HIK.out;have:=HS.out;omega,by have:=HS.out;omega,by have:=HS.out;omega,ho3,hc3⟩
  ·have t1:decide ((i:Int)<b)=false:=by simpa using hlt
   go_wp2
   go_end0
   refine⟨rfl,?_,hc⟩;rw[revAt_end l i (by rw[HL.out];omega)] at ho;exact ho
theorem little_ok (w:World) (n wd:Nat) (h1:1≤wd) (h6:wd≤6) (hn:n<2^(8 * wd)) (sl_u8:SliceTy Tryz.prog 38 5 (.int .u8 0) 1 1):
  Calls Tryz.prog 192 #[.int .i64 n,.int .i64 wd] w fun e w'=>∃g,e=.returned (.tuple #[.slice (some ⟨g,0,none⟩) wd wd,.int .i64 0])∧Own w' 5 1 (.slice (some ⟨g,0,none⟩) wd wd) wd (Bs (leBy n wd))∧Chg [] w w'∧w.heap.size≤g:=by
 have t1:decide ((wd:Int)<1)=false:=by simp;omega
 have t2:decide ((6:Int)<(wd:Int))=false:=by simp;omega
 have t3:decide ((n:Int)<0)=false:=by simp
 have hq:(n:Int) / 2^(8 * wd)=0:=by
  have:((n / 2^(8 * wd):Nat):Int)=0:=by rw[Nat.div_eq_of_lt hn];rfl
  simpa using this
 have HN:=zH hn;clear hn;go_enter Tryz.func192,Tryz.ntmps192;go_wp2_with (at_make;refine wpList_mk rfl _ _ 38 rfl sl_u8 rfl .i64 .i64 wd rfl rfl (by omega) (by omega) (by omega) (by omega) ?_;intro w1 ho1 hc1 hs1);obtain⟨B,hB⟩:∃B,B=w.heap.size:=⟨_,rfl⟩;rw[←hB] at ho1 ⊢;have HB:=zH hB;clear hB;have hr0:List.replicate wd (Value.int IntKind.u8 0)=Bs (leBy n 0++List.replicate (wd - 0) 0):=by simp[Bs,Bc,leBy]
 rw[hr0] at ho1;clear hr0 hs1
 go_wp2
 go_loopg [7,29] wd (fun k _ vi wr=>∃(i:Nat),vi=.int .i64 i∧i+k=wd∧Own wr 5 1 (.slice (some ⟨B,0,none⟩) wd wd) wd (Bs (leBy n i++List.replicate (wd - i) 0))∧Chg [] w wr);case atStart=>exact⟨0,rfl,by omega,ho1,hc1⟩
 case round=>
  clear ho1 hc1;obtain⟨i,rfl,hik,ho,hc⟩:=hrel;have HIK:=zH hik;by_cases hlt:i<wd
  ·clear hik;have f0:=ho.frozenAt i;have x0:∃u,wr.cell? ⟨B,i,none⟩=some u:=by
    rw[ho.cellAt i (by omega)];exact⟨_,List.getElem?_eq_getElem (by have:=ho.len;omega)⟩
   obtain⟨u,x0⟩:=x0;have hst:(leBy n i++List.replicate (wd - i) 0).set i (UInt8.ofNat (n / 2^(8 * i)))=leBy n (i+1)++List.replicate (wd - (i+1)) 0:=by
    rw[List.set_append_right _ _ (by rw[leB_length];exact Nat.le_refl _),leB_length,Nat.sub_self,show wd - i=(wd - (i+1))+1 by omega,List.replicate_succ,List.set_cons_zero];simp only[leBy,List.range_succ,List.map_append,List.map_cons,List.map_nil,List.append_assoc,List.cons_append,List.nil_append]
   have ho2:=ho.set i (.int .u8 ((UInt8.ofNat (n / 2^(8 * i))).toNat:Int));rw[Bs_set,hst] at ho2;have hc2:=hc.setCell (p:=⟨B,i,none⟩) (by right;have:=HB.out;simp;omega) (.int .u8 ((UInt8.ofNat (n / 2^(8 * i))).toNat:Int));have ev:((UInt8.ofNat (n / 2^(8 * i))).toNat:Int)=(n:Int) / 2^(8 * i) % 256:=by
    rw[UInt8.toNat_ofNat'];simp
   rw[ev] at ho2 hc2;clear hst ev
   go_wp2
   go_roundg (gk - 1);case measure=>have:=HIK.out;omega
   case rel=>
    refine⟨i+1,by go_num,by have:=HIK.out;omega,?_,?_⟩;·exact ho2
    ·exact hc2
  ·have hi:i=wd:=by omega
   subst hi;rw[Nat.sub_self,List.replicate_zero,List.append_nil] at ho
   go_wp2
   go_ret2;exact⟨B,rfl,ho,hc,by have:=HB.out;omega⟩
theorem big_ok (w:World) (n wd:Nat) (h1:1≤wd) (h6:wd≤6) (hn:n<2^(8 * wd)) (sl_u8:SliceTy Tryz.prog 38 5 (.int .u8 0) 1 1):
  Calls Tryz.prog 152 #[.int .i64 n,.int .i64 wd] w fun e w'=>∃g,e=.returned (.tuple #[.slice (some ⟨g,0,none⟩) wd wd,.int .i64 0])∧Own w' 5 1 (.slice (some ⟨g,0,none⟩) wd wd) wd (Bs (beB n wd))∧Chg [] w w'∧w.heap.size≤g:=by
 go_enter Tryz.func152,Tryz.ntmps152;go_wp2_with fail;refine (little_ok w n wd h1 h6 hn sl_u8).mono ?_;rintro e w1 ⟨g,rfl,ho,hc,hg⟩;clear hn;go_wp2_with fail;refine (reverse_any w1 g wd wd (leBy n wd) ho h1 (by omega)).mono ?_;rintro e w2 ⟨rfl,ho2,hc2⟩;go_wp2_with fail;go_ret2;exact⟨g,rfl,ho2,hc.trans hc2 (by simp;omega),hg⟩
end Go.Proofs.YtlbdklaggalgfaaGreatDoor
namespace Go.Aq
open Go.RowKit
theorem w64r {n:Nat} (h:n<4611686018427387904):wrap64 (n:Int)=(n:Int):=by unfold wrap64;omega
end Go.Aq
namespace Go.Proofs.YtlbdklaggalgfaaGreatDoor
open Go.RowKit Go.Aq
theorem rreadBig_ok (w:World) (v:Value) (n at_ wd:Nat) (b:List UInt8) (hv:Sees w 1 v n (Bs b)) (h1:1≤wd) (h6:wd≤6) (ha:at_+wd≤n) (hn:n≤1000000000):
  Calls Tryz.prog 124 #[v,.int .i64 at_,.int .i64 wd] w fun e w'=>e=.returned (.tuple #[.int .i64 (beVal ((b.drop at_).take wd):Nat),.int .i64 0])∧w=w':=by
 obtain⟨R,hR⟩:∃R,beVal ((b.drop at_).take wd)=R:=⟨_,rfl⟩;rw[hR];have HR:=zH hR;clear hR;obtain⟨l,hl⟩:∃l,(b.drop at_).take wd=l:=⟨_,rfl⟩;have hbl:b.length=n:=by have:=hv.len;rw[Bs_length] at this;omega
 have hll:l.length=wd:=by rw[←hl];simp;omega
 obtain⟨g,off,cap,rfl,hc,hcell⟩:=hv.at1 (by omega);have hce:∀i,i<wd→w.cell? ⟨g,off+(at_+i),none⟩=some (.int .u8 ((l.getD i 0).toNat:Int)):=fun i hi=>by
  rw[hcell (at_+i) (by omega),Bs_get b (at_+i) (by omega)];subst hl;simp[List.getD,List.getElem?_take,hi,List.getElem?_drop,show at_+i<b.length by omega]
 have HC:=zH hce;have HL:=zA hll hl;obtain⟨q,hq⟩:∃q,q+at_=n:=⟨n - at_,by omega⟩;have HB:Hid (at_+wd≤n∧n≤1000000000∧1≤wd∧wd≤6):=⟨ha,hn,h1,h6⟩;have d1:decide ((wd:Int)<1)=false:=by simp;omega
 have d2:decide (6<(wd:Int))=false:=by simp;omega
 have d2':decide (6<wd)=false:=by simp;omega
 have d3:decide ((at_:Int)<0)=false:=by simp
 have d4:decide ((n:Int)<(at_:Int))=false:=by simp;omega
 have d4':decide (n<at_)=false:=by simp;omega
 have d5:decide ((q:Int)<(wd:Int))=false:=by simp;omega
 have d5':decide (q<wd)=false:=by simp;omega
 have hw:wrap64 ((n:Int) - (at_:Int))=(q:Int):=by rw[show (n:Int) - (at_:Int)=(q:Int) by omega];exact w64r (by omega)
 clear hv hce hcell hc hbl hll hl h1 h6 ha hn hq;go_enter Tryz.func124,Tryz.ntmps124;go_wp2_with fail;clear d1 d2 d2' d3 d4 d4' d5 d5' hw;go_loopg [8,9] wd (fun k vn vi wr=>∃(i m:Nat),vn=.int .i64 m∧vi=.int .i64 i∧i+k=wd∧m=beVal (l.take i)∧wr=w);case atStart=>exact⟨0,0,rfl,rfl,by omega,rfl,rfl⟩
 case round=>
  obtain⟨i,m,rfl,rfl,hik,hm,rfl⟩:=hrel;have hmb:m<1099511627776∨i=wd:=by
   by_cases hi:i<wd
   ·left;have h:=beVal_lt (l.take i);rw[List.length_take,Nat.min_eq_left (by have:=HL.out.1;omega),←hm] at h;have h2:(256:Nat)^i≤256^5:=Nat.pow_le_pow_right (by decide) (by have:=HB.out;omega);have h3:(256:Nat)^5=1099511627776:=by decide
    omega
   ·right;omega
  have HM:=zH hm;clear hm;have HIK:=zH hik;clear hik;by_cases hlt:i<wd
  ·have hmb':m<1099511627776:=by omega
   clear hmb;have hll:i<l.length:=by have:=HL.out.1;omega
   have x0:=HC.out i hlt;have hg:l.getD i 0=l[i]'hll:=by simp[List.getD,hll]
   rw[hg] at x0;have hb:=(l[i]'hll).toNat_lt;have HT:=zH (show beVal (l.take (i+1))=beVal (l.take i) * 256+(l[i]'hll).toNat by rw[List.take_succ_eq_append_getElem hll,beVal_snoc]);have hor:=or_byte m (l[i]'hll).toNat hmb' hb;generalize (l[i]'hll).toNat=x at *;have t1:decide ((i:Int)<(wd:Int))=true:=decide_eq_true (by omega);have t1':decide (i<wd)=true:=decide_eq_true hlt;obtain⟨p,hp⟩:∃p,at_+i=p:=⟨_,rfl⟩;have q1:p<n:=by have:=HB.out;omega
   have q2:(p:Int)<(n:Int):=by omega
   have hpw:wrap64 ((at_:Int)+(i:Int))=(p:Int):=by rw[show (at_:Int)+(i:Int)=(p:Int) by omega];exact w64r (by have:=HB.out;omega)
   rw[hp] at x0;have hwi:Hid (wrap64 ((i:Int)+1)=((i+1:Nat):Int)):=by show _=_;rw[show (i:Int)+1=((i+1:Nat):Int) by omega];exact w64r (by have:=HB.out;omega)
   clear hg hll hlt hp
   go_wp2
   go_roundg (gk - 1);case measure=>have:=HIK.out;have:=of_decide_eq_true t1';omega
   case rel=>
    have hi1:=of_decide_eq_true t1';exact⟨i+1,m * 256+x,by go_num,by rw[hwi.out],by have:=HIK.out;omega,by rw[HT.out,←HM.out],rfl⟩
  ·have hi:i=wd:=by have:=HIK.out;omega
   subst hi;have t1:decide ((i:Int)<(i:Int))=false:=decide_eq_false (by omega);have t1':decide (i<i)=false:=decide_eq_false (by omega);clear hmb hlt
   go_wp2
   go_ret2;have hm:m=R:=by
    have h:=HM.out;rw[List.take_of_length_le (by have:=HL.out.1;omega)] at h;rw[h,←HR.out,HL.out.2]
   rw[hm];exact⟨rfl,rfl⟩
end Go.Proofs.YtlbdklaggalgfaaGreatDoor
