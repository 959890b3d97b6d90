/- I64 Same NumBytes FyD Map Arr -/
import Derived.Test.YtlidiclfpklliaaGreatDoorG00
import Derived.IntWalk
import Derived.Deep.LoopGhost
import Derived.Deep.DeepCutAuto
import Derived.BigQuiet
import Derived.Deep.QuietTactic
import Derived.Maps.Own
import Derived.Maps.OwnOps
import Derived.Laws.Rows
set_option linter.unusedVariables false
set_option maxHeartbeats 400000
namespace Go.Aq
open Go.RowKit
theorem bits_i64 (a b:Nat) (ha:a<9223372036854775808) (hb:b<9223372036854775808):bits .and .i64 a b=((a &&& b:Nat):Int)∧bits .or .i64 a b=((a ||| b:Nat):Int)∧bits .xor .i64 a b=((a ^^^ b:Nat):Int):=by
 have hp:(9223372036854775808:Nat)=2^63:=by decide
 have ha':a % 2^IntKind.i64.bits=a:=Nat.mod_eq_of_lt (by simp only[IntKind.bits];omega)
 have hb':b % 2^IntKind.i64.bits=b:=Nat.mod_eq_of_lt (by simp only[IntKind.bits];omega)
 have hk:∀n:Nat,n<9223372036854775808→IntKind.i64.wrap (n:Int)=n:=fun n h=>IntWalk.i64_in _ (by omega)
 have h1:a &&& b<9223372036854775808:=by rw[hp] at hb ⊢;exact Nat.and_lt_two_pow a hb
 have h2:a ||| b<9223372036854775808:=by rw[hp] at ha hb ⊢;exact Nat.or_lt_two_pow ha hb
 have h3:a ^^^ b<9223372036854775808:=by rw[hp] at ha hb ⊢;exact Nat.xor_lt_two_pow ha hb
 refine⟨?_,?_,?_⟩
 ·simp only[bits,BitVec.ofInt_natCast,BitVec.toNat_and,BitVec.toNat_ofNat,ha',hb']
  exact hk _ h1
 ·simp only[bits,BitVec.ofInt_natCast,BitVec.toNat_or,BitVec.toNat_ofNat,ha',hb']
  exact hk _ h2
 ·simp only[bits,BitVec.ofInt_natCast,BitVec.toNat_xor,BitVec.toNat_ofNat,ha',hb']
  exact hk _ h3
theorem or_byte (n x:Nat) (hn:n<1099511627776) (hx:x<256):bits .or .i64 ((n:Int) * 256) (x:Int)=((n * 256+x:Nat):Int):=by
 have h:=(bits_i64 (n * 256) x (by omega) (by omega)).2.1
 have e:n * 256 ||| x=n * 256+x:=by
  rw[Nat.or_comm]
  have:=or_shift x n 8 hx
  rw[show (2:Nat)^8=256 by decide] at this
  rw[this]
  omega
 rw[e] at h
 rw[←h]
 rfl
theorem i64mask (x m k:Nat) (hx:x<9223372036854775808) (hm:m+1=2^k) (hk:k≤62):bits .and .i64 (x:Int) (m:Int)=((x % 2^k:Nat):Int):=by
 have h2:2^k≤2^62:=Nat.pow_le_pow_right (by decide) hk
 have h:=(bits_i64 x m hx (by have:(2:Nat)^62=4611686018427387904:=(by decide);omega)).1
 rw[h,show m=2^k - 1 by omega,Nat.and_two_pow_sub_one_eq_mod]
theorem i64orl (n x k:Nat) (hn:n * 2^k<9223372036854775808) (hx:x<2^k) (hk:k≤62):bits .or .i64 ((n:Int) * ((2^k:Nat):Int)) (x:Int)=((n * 2^k+x:Nat):Int):=by
 have h2:2^k≤2^62:=Nat.pow_le_pow_right (by decide) hk
 have h:=(bits_i64 (n * 2^k) x hn (by have:(2:Nat)^62=4611686018427387904:=(by decide);omega)).2.1
 have e:n * 2^k ||| x=n * 2^k+x:=by
  rw[Nat.or_comm,or_shift x n k hx,Nat.add_comm,Nat.mul_comm]
 rw[e] at h
 rw[←h,Int.natCast_mul]
end Go.Aq
namespace Go.Proofs.YtlidiclfpklliaaGreatDoor
open Go.RowKit Go.Aq
theorem same_any (w:World) (v v':Value) (n n':Nat) (a b:List UInt8) (h1:Sees w 1 v n (Bs a)) (h2:Sees w 1 v' n' (Bs b)):
  Calls Tryz.prog 15 #[v,v'] w fun e w'=>e=.returned (.bool (decide (a=b)))∧w=w':=by
 have r1:=run_str8 h1
 have r2:=run_str8 h2
 obtain⟨ao,cap,rfl,-⟩:=h1.shape
 obtain⟨ao',cap',rfl,-⟩:=h2.shape
 go_enter Tryz.func15,Tryz.ntmps15
 go_wp2
 go_ret
 refine⟨?_,rfl⟩
 rw[←str_eq]
 rfl
theorem copy_any (w:World) (v:Value) (n:Nat) (bs:List UInt8) (hv:Sees w 1 v n (Bs bs)) (hb:n≤140737488355328) (sl_u8:SliceTy Tryz.prog 36 5 (.int .u8 0) 1 1):
  Calls Tryz.prog 12 #[v] w fun e w'=>∃v',e=.returned v'∧Own w' 5 1 v' n (Bs bs)∧Chg [] w w'∧∀k∈v'.ownBlock.toList,w.heap.size≤k:=by
 obtain⟨ao,cap,rfl,-⟩:=hv.shape
 go_enter Tryz.func12,Tryz.ntmps12
 go_wp2_with (at_builtin;refine wpList_app rfl _ _ 36 rfl sl_u8 (n:=0) (xs:=[]) (Own.made w 5 1) rfl (hv.chg0 (Chg.alloc (Chg.refl _ _) _)) rfl (Bs_one bs) (by omega) (by omega) ?_;intro v' w' ho hc hn)
 go_ret
 refine⟨v',rfl,by simpa using ho,Chg.trans (Chg.alloc (Chg.refl _ _) _) hc (by simp[Value.ownBlock]),fun k hk=>?_⟩
 rcases hn k hk with h | h
 ·simp[Value.ownBlock] at h;omega
 ·simp at h;omega
end Go.Proofs.YtlidiclfpklliaaGreatDoor
namespace Go.Aq
open Go.RowKit
theorem ret_bool {a b:Bool} (h:a=b):Ending.returned (.bool a)=.returned (.bool b):=by rw[h]
theorem ret_int {k:IntKind} {a b:Int} (h:a=b):Ending.returned (.int k a)=.returned (.int k b):=by rw[h]
theorem Sees.part {w:World} {v:Value} {n:Nat} {xs:List Value} (h:Sees w 1 v n xs) (at_ wd:Nat) (hw:0<wd) (hn:at_+wd≤n):
  ∃g off cap,v=.slice (some ⟨g,off,none⟩) n cap∧n≤cap∧Sees w 1 (.slice (some ⟨g,off+at_,none⟩) wd (cap - at_)) wd ((xs.drop at_).take wd):=by
 obtain⟨g,off,cap,rfl,hc,hcell⟩:=h.at1 (by omega)
 have hl:=h.len
 refine⟨g,off,cap,rfl,hc,⟨by simp;omega,_,_,rfl,by omega,by simp,fun ad had j u hu=>?_⟩⟩
 cases had
 have hj:j<wd:=by
  have:=(List.getElem?_eq_some_iff.1 hu).1
  simp at this;omega
 rw[Addr.add_lit,Nat.add_assoc,hcell (at_+j) (by omega),←hu,List.getElem?_take_of_lt hj,List.getElem?_drop]
def beVal (l:List UInt8):Nat:=l.foldl (fun n x=>n * 256+x.toNat) 0
theorem beVal_snoc (l:List UInt8) (x:UInt8):beVal (l++[x])=beVal l * 256+x.toNat:=by simp[beVal]
theorem beVal_lt (l:List UInt8):beVal l<256^l.length:=by
 induction h:l.length generalizing l with
 | zero=>have:=List.eq_nil_of_length_eq_zero h;subst this;simp[beVal]
 | succ k ih=>
  have hne:l≠[]:=by intro e;subst e;simp at h
  rw[←List.dropLast_concat_getLast hne,beVal_snoc]
  have:=ih l.dropLast (by simp;omega)
  have hx:=(l.getLast hne).toNat_lt
  rw[Nat.pow_succ]
  omega
theorem Bs_take (l:List UInt8) (n:Nat):Bs (l.take n)=(Bs l).take n:=by simp[Bs,List.map_take]
theorem Bs_drop (l:List UInt8) (n:Nat):Bs (l.drop n)=(Bs l).drop n:=by simp[Bs,List.map_drop]
def leBy (n k:Nat):List UInt8:=(List.range k).map fun i=>UInt8.ofNat (n / 2^(8 * i))
def beB (n k:Nat):List UInt8:=(leBy n k).reverse
theorem leB_length (n k:Nat):(leBy n k).length=k:=by simp[leBy]
theorem beB_length (n k:Nat):(beB n k).length=k:=by simp[beB,leBy]
def revAt (l:List UInt8) (i:Nat):List UInt8:=(List.range l.length).map fun j=>if j<i∨l.length≤j+i then l.getD (l.length - 1 - j) 0 else l.getD j 0
theorem revAt_length (l:List UInt8) (i:Nat):(revAt l i).length=l.length:=by simp[revAt]
theorem revAt_zero (l:List UInt8):revAt l 0=l:=by
 apply List.ext_getElem
 ·simp[revAt]
 ·intro i h1 h2
  simp only[revAt,List.getElem_map,List.getElem_range]
  rw[if_neg (by omega)]
  simp[h2]
theorem revAt_end (l:List UInt8) (i:Nat) (h:l.length≤2 * i+1):revAt l i=l.reverse:=by
 apply List.ext_getElem
 ·simp[revAt]
 ·intro j h1 h2
  simp only[revAt_length] at h1
  simp only[revAt,List.getElem_map,List.getElem_range,List.getElem_reverse]
  by_cases hj:j<i∨l.length≤j+i
  ·rw[if_pos hj,List.getD_eq_getElem?_getD,List.getElem?_eq_getElem (by omega)];rfl
  ·rw[if_neg hj,List.getD_eq_getElem?_getD,List.getElem?_eq_getElem (by omega)]
   simp only[Option.getD_some]
   congr 1
   omega
theorem revAt_lo (l:List UInt8) (i j:Nat) (h:i+j+1=l.length) (hij:i<j):(revAt l i)[i]'(by rw[revAt_length];omega)=l[i]'(by omega):=by
 simp only[revAt,List.getElem_map,List.getElem_range]
 rw[if_neg (by omega),List.getD_eq_getElem?_getD,List.getElem?_eq_getElem (by omega)];rfl
theorem revAt_hi (l:List UInt8) (i j:Nat) (h:i+j+1=l.length) (hij:i<j):(revAt l i)[j]'(by rw[revAt_length];omega)=l[j]'(by omega):=by
 simp only[revAt,List.getElem_map,List.getElem_range]
 rw[if_neg (by omega),List.getD_eq_getElem?_getD,List.getElem?_eq_getElem (by omega)];rfl
theorem revAt_step (l:List UInt8) (i j:Nat) (h:i+j+1=l.length) (hij:i<j):((revAt l i).set i (l[j]'(by omega))).set j (l[i]'(by omega))=revAt l (i+1):=by
 apply List.ext_getElem
 ·simp[revAt]
 ·intro k h1 h2
  simp only[revAt_length] at h2
  simp only[List.getElem_set,revAt,List.getElem_map,List.getElem_range]
  by_cases hkj:j=k
  ·subst hkj
   rw[if_pos rfl,if_pos (by omega),List.getD_eq_getElem?_getD,List.getElem?_eq_getElem (by omega)]
   simp only[Option.getD_some]
   congr 1
   omega
  ·rw[if_neg hkj]
   by_cases hki:i=k
   ·subst hki
    rw[if_pos rfl,if_pos (by omega),List.getD_eq_getElem?_getD,List.getElem?_eq_getElem (by omega)]
    simp only[Option.getD_some]
    congr 1
    omega
   ·rw[if_neg hki]
    by_cases hk:k<i∨l.length≤k+i
    ·rw[if_pos hk,if_pos (by omega)]
    ·rw[if_neg hk,if_neg (by omega)]
end Go.Aq
namespace Go.Proofs.YtlidiclfpklliaaGreatDoor
open Go.RowKit Go.Aq
theorem there_ok (w:World) (v:Value) (n at_ wd:Nat) (b:List UInt8) (hv:Sees w 1 v n (Bs b)) (h1:1≤wd) (h6:wd≤6) (ha:at_+wd≤n) (hn:n≤4611686018427387904):
  Calls Tryz.prog 176 #[v,.int .i64 at_,.int .i64 wd] w fun e w'=>∃v',e=.returned (.tuple #[v',.int .i64 0])∧Sees w 1 v' wd (Bs ((b.drop at_).take wd))∧w=w':=by
 obtain⟨g,off,cap,rfl,hc,hs⟩:=hv.part at_ wd (by omega) ha
 have t1:decide ((wd:Int)<1)=false:=by simp;omega
 have t2:decide ((6:Int)<(wd:Int))=false:=by simp;omega
 have t3:decide ((at_:Int)<0)=false:=by simp
 have t4:decide ((n:Int)<(at_:Int))=false:=by simp;omega
 have t5:decide ((n:Int) - (at_:Int)<(wd:Int))=false:=by simp;omega
 have t4':decide (n<at_)=false:=by simp;omega
 go_enter Tryz.func176,Tryz.ntmps176
 go_wp2
 go_ret2
 rw[Nat.add_sub_cancel_left]
 refine⟨_,rfl,?_,rfl⟩
 rw[Bs_take,Bs_drop]
 exact hs
theorem readBig_ok (w:World) (v:Value) (n at_ wd:Nat) (b:List UInt8) (hv:Sees w 1 v n (Bs b)) (h1:1≤wd) (h6:wd≤6) (ha:at_+wd≤n) (hn:n≤4611686018427387904):
  Calls Tryz.prog 99 #[v,.int .i64 at_,.int .i64 wd] w fun e w'=>e=.returned (.tuple #[.int .i64 (beVal ((b.drop at_).take wd):Nat),.int .i64 0])∧w=w':=by
 obtain⟨R,hR⟩:∃R,beVal ((b.drop at_).take wd)=R:=⟨_,rfl⟩
 rw[hR]
 have HR:=zH hR;clear hR
 go_enter Tryz.func99,Tryz.ntmps99
 go_wp2_with fail
 refine (there_ok w v n at_ wd b hv h1 h6 ha hn).mono ?_
 rintro e w1 ⟨v',rfl,hs,rfl⟩
 have hbl:((b.drop at_).take wd).length=wd:=by have:=hs.len;rw[Bs_length] at this;omega
 generalize (b.drop at_).take wd=l at *
 clear hv ha hn
 obtain⟨g,off,cap,rfl,hc,hcell⟩:=hs.at1 (by omega)
 have HL:=zH hbl;clear hbl
 have HC:=zH hcell;clear hcell
 go_wp2_with fail
 go_loopg [10,12,22] wd (fun k vn _ vi wr=>∃(i m:Nat),vn=.int .i64 m∧vi=.int .i64 i∧i+k=wd∧m=beVal (l.take i)∧wr=w)
 case atStart=>exact⟨0,0,rfl,rfl,by omega,rfl,rfl⟩
 case round=>
  obtain⟨i,m,rfl,rfl,hik,hm,rfl⟩:=hrel
  have hmb:m<1099511627776∨i=wd:=by
   by_cases hi:i<wd
   ·left
    have h:=beVal_lt (l.take i)
    rw[List.length_take,Nat.min_eq_left (by have:=HL.out;omega),←hm] at h
    have h2:(256:Nat)^i≤256^5:=Nat.pow_le_pow_right (by decide) (by omega)
    have h3:(256:Nat)^5=1099511627776:=by decide
    omega
   ·right;omega
  have HM:=zH hm;clear hm
  have HIK:=zH hik;clear hik
  by_cases hlt:i<wd
  ·have hmb':m<1099511627776:=by omega
   clear hmb
   have hll:i<l.length:=by have:=HL.out;omega
   have x0:wr.cell? ⟨g,off+i,none⟩=some (.int .u8 ((l[i]'hll).toNat:Int)):=by
    rw[HC.out i (by omega),Bs_get _ _ hll]
   have hb:=(l[i]'hll).toNat_lt
   have HT:=zH (show beVal (l.take (i+1))=beVal (l.take i) * 256+(l[i]'hll).toNat by rw[List.take_succ_eq_append_getElem hll,beVal_snoc])
   have hor:=or_byte m (l[i]'hll).toNat hmb' hb
   generalize (l[i]'hll).toNat=x at *
   go_wp2
   go_roundg (gk - 1)
   case measure=>have:=HIK.out;omega
   case rel=>exact⟨i+1,m * 256+x,by go_num,by go_num,by have:=HIK.out;omega,by rw[HT.out,←HM.out],rfl⟩
  ·have hi:i=wd:=by have:=HIK.out;omega
   subst hi
   go_wp2
   go_ret2
   have e:=HM.out
   rw[List.take_of_length_le (by have:=HL.out;omega),HR.out] at e
   rw[e]
   exact⟨rfl,rfl⟩
theorem reverse_any (w:World) (g n cap:Nat) (l:List UInt8) (hv:Own w 5 1 (.slice (some ⟨g,0,none⟩) n cap) n (Bs l)) (h1:1≤n) (hn:n≤4611686018427387904):
  Calls Tryz.prog 252 #[.slice (some ⟨g,0,none⟩) n cap] w fun e w'=>e=.returned (.tuple #[])∧Own w' 5 1 (.slice (some ⟨g,0,none⟩) n cap) n (Bs l.reverse)∧Chg [g] w w':=by
 have hl:l.length=n:=by have:=hv.len;rw[Bs_length] at this;omega
 have HL:=zH hl;clear hl
 go_enter Tryz.func252,Tryz.ntmps252
 go_wp2
 go_loopg [2,3] n (fun k vi vj wr=>∃(i j:Nat) (b:Int),vi=.int .i64 i∧vj=.int .i64 b∧(b=j∨(n≤2 * i∧b+1=j))∧i+k=n∧i≤n∧b+i+1=n∧Own wr 5 1 (.slice (some ⟨g,0,none⟩) n cap) n (Bs (revAt l i))∧Chg [g] w wr)
 case atStart=>exact⟨0,n - 1,(n:Int) - 1,rfl,by rfl,by omega,by omega,by omega,by omega,by rw[revAt_zero];exact hv,Chg.refl _ _⟩
 case round=>
  obtain⟨i,j,b,rfl,rfl,hbj,hik,hi,hbi,ho,hc⟩:=hrel
  have HIK:=zH hik;clear hik
  by_cases hlt:(i:Int)<b
  ·obtain⟨j',hj'⟩:∃j':Nat,b=j':=⟨b.toNat,by omega⟩
   have hij:i<j':=by omega
   have hsum:i+j'+1=n:=by omega
   subst hj'
   have hsl:i+j'+1=l.length:=by rw[HL.out];exact hsum
   have t1:decide ((i:Int)<(j':Int))=true:=by simpa using hlt
   have t1':decide (i<j')=true:=by simpa using hij
   obtain⟨c,hcc⟩:∃c,l[i]'(by omega)=c:=⟨_,rfl⟩
   obtain⟨d,hdd⟩:∃d,l[j']'(by omega)=d:=⟨_,rfl⟩
   have x0:wr.cell? ⟨g,i,none⟩=some (.int .u8 (c.toNat:Int)):=by
    rw[ho.cellAt i (by omega),Bs_get _ _ (by rw[revAt_length];omega),revAt_lo l i j' hsl hij,hcc]
   have x1:wr.cell? ⟨g,j',none⟩=some (.int .u8 (d.toNat:Int)):=by
    rw[ho.cellAt j' (by omega),Bs_get _ _ (by rw[revAt_length];omega),revAt_hi l i j' hsl hij,hdd]
   have f0:=ho.frozenAt i
   have f1:=ho.frozenAt j'
   have hst:=revAt_step l i j' hsl hij
   rw[hcc,hdd] at hst
   have ho2:=(ho.set i (.int .u8 (d.toNat:Int))).set j' (.int .u8 (c.toNat:Int))
   rw[Bs_set,Bs_set,hst] at ho2
   have hc2:=(hc.setCell (p:=⟨g,i,none⟩) (by simp) (.int .u8 (d.toNat:Int))).setCell (p:=⟨g,j',none⟩) (by simp) (.int .u8 (c.toNat:Int))
   have HS:=zH hsum;clear hsum hbj hbi hst hcc hdd
   generalize c.toNat=c at *
   generalize d.toNat=d at *
   have hne:(j'=i)=False:=by simp;omega
   have hne':(i=j')=False:=by simp;omega
   have i1:(i:Int)<n:=by have:=HS.out;omega
   have i2:(j':Int)<n:=by have:=HS.out;omega
   have ho3:Own ((wr.setCell ⟨g,i,none⟩ (.int .u8 (d:Int))).setCell ⟨g,j',none⟩ (.int .u8 (c:Int))).drew 5 1 (.slice (some ⟨g,0,none⟩) n cap) n (Bs (revAt l (i+1))):=ho2
   have hc3:=hc2.drew
   clear ho2 hc2
   go_wp2
   go_region
   generalize ((wr.setCell ⟨g,i,none⟩ (.int .u8 (d:Int))).setCell ⟨g,j',none⟩ (.int .u8 (c:Int))).drew=w3 at *
   go_wp2
   go_roundg (gk - 1)
   case measure=>have:=HIK.out;have:=HS.out;omega
   case rel=>exact⟨i+1,j' - 1,(j':Int) - 1,by go_num,rfl,by omega,by have:=HIK.out;have:=HS.out;omega,by have:=HS.out;omega,by have:=HS.out;omega,ho3,hc3⟩
  ·have t1:decide ((i:Int)<b)=false:=by simpa using hlt
   go_wp2
   go_end0
   refine⟨rfl,?_,hc⟩
   rw[revAt_end l i (by rw[HL.out];omega)] at ho
   exact ho
theorem little_ok (w:World) (n wd:Nat) (h1:1≤wd) (h6:wd≤6) (hn:n<2^(8 * wd)) (sl_u8:SliceTy Tryz.prog 36 5 (.int .u8 0) 1 1):
  Calls Tryz.prog 251 #[.int .i64 n,.int .i64 wd] w fun e w'=>∃g,e=.returned (.tuple #[.slice (some ⟨g,0,none⟩) wd wd,.int .i64 0])∧Own w' 5 1 (.slice (some ⟨g,0,none⟩) wd wd) wd (Bs (leBy n wd))∧Chg [] w w'∧w.heap.size≤g:=by
 have t1:decide ((wd:Int)<1)=false:=by simp;omega
 have t2:decide ((6:Int)<(wd:Int))=false:=by simp;omega
 have t3:decide ((n:Int)<0)=false:=by simp
 have hq:(n:Int) / 2^(8 * wd)=0:=by
  have:((n / 2^(8 * wd):Nat):Int)=0:=by rw[Nat.div_eq_of_lt hn];rfl
  simpa using this
 have HN:=zH hn;clear hn
 go_enter Tryz.func251,Tryz.ntmps251
 go_wp2_with (at_make;refine wpList_mk rfl _ _ 36 rfl sl_u8 rfl .i64 .i64 wd rfl rfl (by omega) (by omega) (by omega) (by omega) ?_;intro w1 ho1 hc1 hs1)
 obtain⟨B,hB⟩:∃B,B=w.heap.size:=⟨_,rfl⟩
 rw[←hB] at ho1 ⊢
 have HB:=zH hB;clear hB
 have hr0:List.replicate wd (Value.int IntKind.u8 0)=Bs (leBy n 0++List.replicate (wd - 0) 0):=by simp[Bs,Bc,leBy]
 rw[hr0] at ho1
 clear hr0 hs1
 go_wp2
 go_loopg [7,29] wd (fun k _ vi wr=>∃(i:Nat),vi=.int .i64 i∧i+k=wd∧Own wr 5 1 (.slice (some ⟨B,0,none⟩) wd wd) wd (Bs (leBy n i++List.replicate (wd - i) 0))∧Chg [] w wr)
 case atStart=>exact⟨0,rfl,by omega,ho1,hc1⟩
 case round=>
  clear ho1 hc1
  obtain⟨i,rfl,hik,ho,hc⟩:=hrel
  have HIK:=zH hik
  by_cases hlt:i<wd
  ·clear hik
   have f0:=ho.frozenAt i
   have x0:∃u,wr.cell? ⟨B,i,none⟩=some u:=by
    rw[ho.cellAt i (by omega)]
    exact⟨_,List.getElem?_eq_getElem (by have:=ho.len;omega)⟩
   obtain⟨u,x0⟩:=x0
   have hst:(leBy n i++List.replicate (wd - i) 0).set i (UInt8.ofNat (n / 2^(8 * i)))=leBy n (i+1)++List.replicate (wd - (i+1)) 0:=by
    rw[List.set_append_right _ _ (by rw[leB_length];exact Nat.le_refl _),leB_length,Nat.sub_self,show wd - i=(wd - (i+1))+1 by omega,List.replicate_succ,List.set_cons_zero]
    simp only[leBy,List.range_succ,List.map_append,List.map_cons,List.map_nil,List.append_assoc,List.cons_append,List.nil_append]
   have ho2:=ho.set i (.int .u8 ((UInt8.ofNat (n / 2^(8 * i))).toNat:Int))
   rw[Bs_set,hst] at ho2
   have hc2:=hc.setCell (p:=⟨B,i,none⟩) (by right;have:=HB.out;simp;omega) (.int .u8 ((UInt8.ofNat (n / 2^(8 * i))).toNat:Int))
   have ev:((UInt8.ofNat (n / 2^(8 * i))).toNat:Int)=(n:Int) / 2^(8 * i) % 256:=by
    rw[UInt8.toNat_ofNat']
    simp
   rw[ev] at ho2 hc2
   clear hst ev
   go_wp2
   go_roundg (gk - 1)
   case measure=>have:=HIK.out;omega
   case rel=>
    refine⟨i+1,by go_num,by have:=HIK.out;omega,?_,?_⟩
    ·exact ho2
    ·exact hc2
  ·have hi:i=wd:=by omega
   subst hi
   rw[Nat.sub_self,List.replicate_zero,List.append_nil] at ho
   go_wp2
   go_ret2
   exact⟨B,rfl,ho,hc,by have:=HB.out;omega⟩
theorem big_ok (w:World) (n wd:Nat) (h1:1≤wd) (h6:wd≤6) (hn:n<2^(8 * wd)) (sl_u8:SliceTy Tryz.prog 36 5 (.int .u8 0) 1 1):
  Calls Tryz.prog 191 #[.int .i64 n,.int .i64 wd] w fun e w'=>∃g,e=.returned (.tuple #[.slice (some ⟨g,0,none⟩) wd wd,.int .i64 0])∧Own w' 5 1 (.slice (some ⟨g,0,none⟩) wd wd) wd (Bs (beB n wd))∧Chg [] w w'∧w.heap.size≤g:=by
 go_enter Tryz.func191,Tryz.ntmps191
 go_wp2_with fail
 refine (little_ok w n wd h1 h6 hn sl_u8).mono ?_
 rintro e w1 ⟨g,rfl,ho,hc,hg⟩
 clear hn
 go_wp2_with fail
 refine (reverse_any w1 g wd wd (leBy n wd) ho h1 (by omega)).mono ?_
 rintro e w2 ⟨rfl,ho2,hc2⟩
 go_wp2_with fail
 go_ret2
 exact⟨g,rfl,ho2,hc.trans hc2 (by simp;omega),hg⟩
end Go.Proofs.YtlidiclfpklliaaGreatDoor
namespace Go.Aq.Fy
open Go.Aq Go.RowKit
abbrev Sec:=List UInt8
def nul (n:Nat):Sec:=List.replicate n 0
def zsec:Sec:=nul 256
def fill (b:Sec):Sec:=b++nul (256 - b.length)
def setS (f:Nat→Sec) (k:Nat) (b:Sec):Nat→Sec:=fun j=>if j=k then b else f j
abbrev Puts:=List (Nat×Sec)
def setAll (f:Nat→Sec) (l:Puts):Nat→Sec:=l.foldl (fun g p=>setS g p.1 p.2) f
structure DiskD where
 n:Nat
 now:Nat→Sec
 dur:Nat→Sec
 pend:Puts
 writes:Int
 falls:Nat
 mask:Sec
 down:Bool
def bitL (m:Sec) (i:Nat):Bool:=(m.getD (i / 8) 0).toNat.testBit (i % 8)
def crashS (m:Sec):Nat→(Nat→Sec)→Puts→(Nat→Sec)
 | _,f,[]=>f
 | i,f,(k,b)::l=>crashS m (i+1) (if bitL m i then setS f k b else f) l
def newD (n:Nat):DiskD:=⟨n,fun _=>zsec,fun _=>zsec,[],0,0,[],false⟩
def crashD (D:DiskD) (m:Sec):DiskD:=if D.down then D else { D with now:=crashS m 0 D.dur D.pend,dur:=crashS m 0 D.dur D.pend,pend:=[],down:=true }
def flushD (D:DiskD):DiskD×Nat:=if D.down then (D,12) else ({ D with dur:=setAll D.dur D.pend,pend:=[] },0)
def putD (D:DiskD) (k:Nat) (b:Sec):DiskD×Nat:=
 if D.falls=0 then ({ D with writes:=wrap64 (D.writes+1),pend:=D.pend++[(k,b)],now:=setS D.now k b },0)
 else if D.falls=1 then (crashD { D with writes:=wrap64 (D.writes+1),pend:=D.pend++[(k,b)],falls:=0 } D.mask,12)
 else ({ D with writes:=wrap64 (D.writes+1),pend:=D.pend++[(k,b)],falls:=D.falls - 1,now:=setS D.now k b },0)
def writeD (D:DiskD) (k:Nat) (b:Sec):DiskD×Nat:=
 if D.down then (D,12) else if D.n≤k then (D,1) else if b.length≠256 then (D,4) else putD D k b
def eachD:DiskD→Puts→DiskD×Nat
 | D,[]=>(D,0)
 | D,p::l=>if (writeD D p.1 p.2).2=0 then eachD (writeD D p.1 p.2).1 l else writeD D p.1 p.2
def writesD (D:DiskD) (l:Puts):DiskD×Nat:=if (eachD D l).2=0 then flushD (eachD D l).1 else eachD D l
def runP:DiskD→List Puts→DiskD×Nat
 | D,[]=>(D,0)
 | D,s::l=>if (writesD D s).2=0 then runP (writesD D s).1 l else writesD D s
structure LogD where
 ring:Nat
 seq:Nat
 pos:Nat
def headB (ring seq pos:Nat):Sec:=fill ([65,81]++beB ring 2++beB seq 6++beB pos 2)
def markB (seq pos n:Nat):Sec:=fill ([65,67]++beB seq 6++beB pos 2++beB n 2)
def need (n:Nat):Nat:=if n<1 then 0 else n+(n - 1) / 64+1
def homeL (L:LogD):Nat:=2+L.ring
def inL (L:LogD) (i:Nat):Nat:=2+(L.pos+i) % L.ring
def atHome (D:DiskD) (L:LogD) (k:Nat):Bool:=decide (homeL L≤k)&&decide (k<D.n)
def descs (l:Puts) (d:Nat):List Sec:=(List.range d).map fun i=>fill (((l.drop (64 * i)).take 64).flatMap fun p=>beB p.1 2)
def changeL (L:LogD) (l:Puts):Puts:=(descs l ((l.length+63) / 64)++l.map (·.2)).mapIdx fun i b=>(inL L i,b)
def nextL (L:LogD) (n:Nat):LogD:=⟨L.ring,L.seq+1,(L.pos+need n) % L.ring⟩
def headL (L:LogD):Puts:=[(0,headB L.ring L.seq L.pos)]
def commitP (L:LogD) (l:Puts):List Puts:=if l=[] then [] else [changeL L l,[(1,markB L.seq L.pos l.length)],l,headL (nextL L l.length)]
def markedN (D:DiskD) (L:LogD):Nat:=
 let n:=beVal (((D.now 1).drop 10).take 2)
 if D.now 1=markB L.seq L.pos n∧need n≤L.ring then n else 0
def readAt (D:DiskD) (L:LogD) (i:Nat):Nat:=beVal (((D.now (inL L (i / 64))).drop (i % 64 * 2)).take 2)
def readL (D:DiskD) (L:LogD) (n:Nat):Puts:=(List.range n).map fun i=>(readAt D L i,D.now (inL L (need n - n+i)))
def redoP (D:DiskD) (L:LogD):List Puts:=
 let n:=markedN D L
 if n=0 then [] else if (readL D L n).all (fun p=>atHome D L p.1) then [readL D L n,headL (nextL L n)] else []
def headOf (b:Sec):LogD:=⟨beVal ((b.drop 2).take 2),beVal ((b.drop 4).take 6),beVal ((b.drop 10).take 2)⟩
structure FileD where
 size:Nat
 blocks:List Nat
deriving DecidableEq
abbrev Files:=List (Nm×FileD)
structure FsD where
 disk:DiskD
 log:LogD
 mt:Nat
 files:Files
def nameOk (s:Nm):Bool:=s.all (fun c=>decide (33≤c.toNat)&&decide (c.toNat≤126))&&decide (s≠[])&&decide (s.length≤80)
def cnt (n:Nat):Nat:=(n+255) / 256
def topB (m:Nat):Sec:=fill ([65,70]++beB m 2)
def firstF (F:FsD):Nat:=homeL F.log+1+F.mt
def allF (F:FsD):Nat:=F.disk.n - firstF F
def rowB (p:Nm×FileD):Sec:=UInt8.ofNat p.1.length::p.1++beB p.2.size 4++p.2.blocks.flatMap fun k=>beB k 2
def tableB (l:Files):Sec:=beB l.length 2++l.flatMap rowB
def sectorsB (m:Nat) (l:Files):List Sec:=
 if m * 256<(tableB l).length then [] else (List.range m).map fun i=>(((tableB l++nul (m * 256 - (tableB l).length)).drop (256 * i)).take 256)
def differB (b:Nat) (old new:List Sec):Puts:=((List.range old.length).filter fun i=>old.getD i []≠new.getD i []).map fun i=>(b+i,new.getD i [])
structure ChangeD where
 kind:Int
 name:Nm
 tonm:Nm
 data:Sec
structure WorkD where
 files:Files
 fresh:List (Nm×Sec)
def hasF (l:Files) (s:Nm):Bool:=(lookK s l).isSome
def bytesB (F:FsD) (x:FileD):Sec:=(x.blocks.flatMap fun k=>F.disk.now (firstF F+k)).take x.size
def bytesW (F:FsD) (w:WorkD) (s:Nm):Sec:=match lookK s w.fresh with
 | some b=>b
 | none=>match lookK s w.files with
  | some x=>bytesB F x
  | none=>[]
def tellW (w:WorkD) (s:Nm) (b:Sec):WorkD×Nat:=
 if 65535<b.length∨(hasF w.files s=false∧400≤w.files.length) then (w,10) else (⟨insK s ⟨b.length,[]⟩ w.files,insK s b w.fresh⟩,0)
def goneW (w:WorkD) (s:Nm):WorkD:=⟨delK s w.files,delK s w.fresh⟩
def renameW (w:WorkD) (s t:Nm):WorkD×Nat:=
 match lookK s w.files with
 | none=>(w,6)
 | some x=>if s=t then (w,0) else if hasF w.files t then (w,7) else
  (goneW ⟨insK t x w.files,match lookK s w.fresh with | some b=>insK t b w.fresh | none=>w.fresh⟩ s,0)
def oneW (F:FsD) (w:WorkD) (c:ChangeD):WorkD×Nat:=
 if nameOk c.name=false∨(c.kind=4∧nameOk c.tonm=false) then (w,16)
 else if c.kind=2∨(c.kind=1∧hasF w.files c.name=false) then tellW w c.name c.data
 else if c.kind=1 then (w,7)
 else if c.kind=3 then (if hasF w.files c.name then tellW w c.name (bytesW F w c.name++c.data) else (w,6))
 else if c.kind=4 then renameW w c.name c.tonm
 else if c.kind≠5 then (w,1)
 else if hasF w.files c.name then (goneW w c.name,0) else (w,6)
def allW (F:FsD):WorkD→List ChangeD→WorkD×Nat
 | w,[]=>(w,0)
 | w,c::l=>if (oneW F w c).2=0 then allW F (oneW F w c).1 l else oneW F w c
def usedF (l:Files) (k:Nat):Bool:=l.any fun p=>p.2.blocks.contains k
def freeF (F:FsD):List Nat:=(List.range (allF F)).filter fun k=>!usedF F.files k
def needW (l:List (Nm×Sec)):Nat:=(l.map fun p=>cnt p.2.length).sum
def placeF:List (Nm×Sec)→List Nat→Files→Files
 | [],_,l=>l
 | (s,b)::r,free,l=>placeF r (free.drop (cnt b.length)) (insK s ⟨b.length,free.take (cnt b.length)⟩ l)
def blockP (first:Nat) (b:Sec) (ks:List Nat):Puts:=ks.mapIdx fun i k=>(first+k,((b++nul (cnt b.length * 256 - b.length)).drop (256 * i)).take 256)
def placeP (first:Nat):List (Nm×Sec)→List Nat→Puts
 | [],_=>[]
 | (s,b)::r,free=>blockP first b (free.take (cnt b.length))++placeP first r (free.drop (cnt b.length))
def prepF (F:FsD) (l:List ChangeD):Nat×List Puts×Files×LogD:=
 let r:=allW F ⟨F.files,[]⟩ l
 if r.2≠0 then (r.2,[],[],F.log)
 else if (freeF F).length<needW r.1.fresh then (8,[],[],F.log)
 else
  let fs:=placeF r.1.fresh (freeF F) r.1.files
  if F.mt * 256<(tableB fs).length then (8,[],[],F.log)
  else
   let t:=differB (homeL F.log+1) (sectorsB F.mt F.files) (sectorsB F.mt fs)
   if F.log.ring<need t.length then (9,[],[],F.log)
   else
    let bl:=placeP (firstF F) r.1.fresh (freeF F)
    (0,(if bl=[] then [] else [bl])++commitP F.log t,fs,if t=[] then F.log else nextL F.log t.length)
def doF (F:FsD) (l:List ChangeD):FsD×Nat:=
 let p:=prepF F l
 if p.1≠0 then (F,p.1)
 else
  let r:=runP F.disk p.2.1
  if r.2=0 then (⟨r.1,p.2.2.2,F.mt,p.2.2.1⟩,0) else ({ F with disk:=r.1 },r.2)
end Go.Aq.Fy
namespace Go.Aq
section
open Go.RowKit Go.Maps
def GoodKey (P:Program) (k:TypeId) (v:Value):Prop:=∃l,keyOf P k v=some l
def MapF (P:Program) (k:TypeId) (w:World) (b:Nat) (f:Value→Option Value):Prop:=
 ∃es clock,w.heap[b]?=some (.map es clock)∧(es.toList.map (·.key)).Nodup∧(∀e∈es.toList,GoodKey P k e.key∧f e.key=some e.val)∧∀key v,f key=some v→∃e∈es.toList,e.key=key
theorem run_obj {P:Program} {w:World} {r:Nat} {es:Array MapEntry} {c:Nat} (h:w.heap[r]?=some (.map es c)):(getObj r).run P w=.ok (.map es c) w:=by
 simp[getObj,Sem.run,h]
theorem run_setMap {P:Program} {w:World} {r:Nat} {es:Array MapEntry} {c:Nat} (h:w.heap[r]?=some (.map es c)) (o:Obj):(setObj r o).run P w=.ok () (ChangeMaps.setBlock w r o):=by
 simp[setObj,Sem.run,h,ChangeMaps.setBlock]
theorem nodup_get {α β:Type} {g:α→β} {l:List α} (h:(l.map g).Nodup) {i j:Nat} {x y:α} (hi:l[i]?=some x) (hj:l[j]?=some y) (hxy:g x=g y):i=j:=by
 have h1:(l.map g)[i]?=some (g x):=by simp[hi]
 have h2:(l.map g)[j]?=some (g y):=by simp[hj]
 obtain⟨hi',e1⟩:=List.getElem?_eq_some_iff.1 h1
 obtain⟨hj',e2⟩:=List.getElem?_eq_some_iff.1 h2
 exact (List.getElem_inj h).1 (by rw[e1,e2,hxy])
theorem MapF.lt {P:Program} {k:TypeId} {w:World} {b:Nat} {f:Value→Option Value} (h:MapF P k w b f):b<w.heap.size:=by
 obtain⟨es,clock,h1,_⟩:=h
 exact (Array.getElem?_eq_some_iff.1 h1).1
theorem MapF.chg {P:Program} {k:TypeId} {w w':World} {b:Nat} {f:Value→Option Value} {S:List Nat} (h:MapF P k w b f) (c:Chg S w w') (hb:b∉S):MapF P k w' b f:=by
 have hl:=h.lt
 obtain⟨es,clock,h1,h2⟩:=h
 exact⟨es,clock,by rw[c.block b hl hb];exact h1,h2⟩
theorem MapF.new (P:Program) (k:TypeId) (w:World):MapF P k (w.alloc (.map #[] 0)) w.heap.size fun _=>none:=
 ⟨#[],0,heap_alloc_new w _,by simp,by simp,by simp⟩
theorem MapF.blk {P:Program} {k:TypeId} {w:World} {b p:Nat} {f:Value→Option Value} {cs:Array Value} {e:TypeId} (h:MapF P k w b f) (hb:Blk w p cs e):b≠p:=by
 rintro rfl
 obtain⟨es,clock,h1,_⟩:=h
 unfold Blk at hb
 rw[h1] at hb
 simp at hb
theorem MapF.own {P:Program} {k:TypeId} {w:World} {b:Nat} {f:Value→Option Value} {e:TypeId} {size:Nat} {v:Value} {n:Nat} {xs:List Value} (h:MapF P k w b f) (ho:Own w e size v n xs):b∉v.ownBlock.toList:=by
 intro hb
 rcases ho.2 with ⟨rfl,_⟩ | ⟨g,cap,cur,rfl,_,hg,_⟩
 ·simp[Value.ownBlock] at hb
 ·simp[Value.ownBlock] at hb
  subst hb
  obtain⟨es,clock,h1,_⟩:=h
  rw[h1] at hg
  simp at hg
theorem MapF.find {P:Program} {k:TypeId} (K:Keyed P k) {f:Value→Option Value} {es:Array MapEntry} {key:Value} (hkey:GoodKey P k key)
  (h2:∀e∈es.toList,GoodKey P k e.key∧f e.key=some e.val) (h3:∀key v,f key=some v→∃e∈es.toList,e.key=key) (w:World):
  (f key=none∧(Instr.findKey k key es.toList).run P w=.ok none w)∨∃j e,f key=some e.val∧e.key=key∧es.toList[j]?=some e∧(Instr.findKey k key es.toList).run P w=.ok (some (j,e.val)) w:=by
 obtain⟨l,hl⟩:=hkey
 rcases K.find w hl es.toList (fun e he=>(h2 e he).1) with ⟨h4,h5⟩ | ⟨j,e,h4,h5,h6⟩
 ·left
  refine⟨?_,h4⟩
  cases hf:f key with
  | none=>rfl
  | some v=>obtain⟨e,he,hk⟩:=h3 key v hf;exact absurd hk (h5 e he)
 ·right
  have hm:e∈es.toList:=List.mem_of_getElem? h5
  exact⟨j,e,by rw[←h6];exact (h2 e hm).2,h6,h5,h4⟩
theorem MapF.look {P:Program} {t k e:TypeId} {w:World} {b:Nat} {f:Value→Option Value} (h:MapF P k w b f) (K:Keyed P k) (ht:P.underlying t=some (.map k e)) {z:Value} (hz:(zeroValue e).run P w=.ok z w) {key:Value} (hkey:GoodKey P k key):
  (Instr.lookup t (.map (some b)) key false).run P w=.ok ((f key).getD z) w∧(Instr.lookup t (.map (some b)) key true).run P w=.ok (.tuple #[(f key).getD z,.bool (f key).isSome]) w:=by
 obtain⟨es,clock,h1,hnd,h2,h3⟩:=h
 have hc:∀em,(Instr.checkKey em 10000 k key).run P w=.ok () w:=fun em=>by obtain⟨l,hl⟩:=hkey;exact K.check w em hl
 rcases MapF.find K hkey h2 h3 w with ⟨h4,h5⟩ | ⟨j,e0,h4,_,_,h5⟩
 ·constructor <;> simp[Instr.lookup,run_underlying ht,run_obj h1,hc,h5,h4,hz]
 ·constructor <;> simp[Instr.lookup,run_underlying ht,run_obj h1,hc,h5,h4]
open Classical in
noncomputable def updF (f:Value→Option Value) (key v:Value):Value→Option Value:=fun x=>if x=key then some v else f x
theorem MapF.put {P:Program} {t k e:TypeId} {w:World} {b:Nat} {f:Value→Option Value} (h:MapF P k w b f) (K:Keyed P k) (ht:P.underlying t=some (.map k e)) {key v:Value} (hkey:GoodKey P k key):
  ∃w',(Instr.mapUpdate t (.map (some b)) key v).run P w=.ok () w'∧MapF P k w' b (updF f key v)∧Chg [b] w w':=by
 have hlt:=h.lt
 obtain⟨es,clock,h1,hnd,h2,h3⟩:=h
 have hc:∀em,(Instr.checkKey em 10000 k key).run P w=.ok () w:=fun em=>by obtain⟨l,hl⟩:=hkey;exact K.check w em hl
 have hs:(Instr.keyThatStays key key).run P w=.ok key w:=by obtain⟨l,hl⟩:=hkey;exact K.stays w hl
 have chg:∀o,Chg [b] w (ChangeMaps.setBlock w b o):=fun o=>⟨rfl,rfl,rfl,by simp[ChangeMaps.setBlock],fun k _ hk=>by
  have hne:b≠k:=fun e=>hk (by simp[e])
  simp[ChangeMaps.setBlock,hne]⟩
 have at_:∀o,(ChangeMaps.setBlock w b o).heap[b]?=some o:=fun o=>by
  simp[ChangeMaps.setBlock,hlt]
 rcases MapF.find K hkey h2 h3 w with ⟨h4,h5⟩ | ⟨j,e0,h4,h6,h7,h5⟩
 ·refine⟨_,by simp[Instr.mapUpdate,run_underlying ht,run_obj h1,hc,h5,run_setMap h1];rfl,⟨_,_,at_ _,?_,?_,?_⟩,chg _⟩
  ·simp only[Array.toList_push,List.map_append,List.map_cons,List.map_nil]
   rw[List.nodup_append]
   refine⟨hnd,by simp,?_⟩
   intro x hx y hy
   simp at hy
   subst hy
   obtain⟨e,he,rfl⟩:=List.mem_map.1 hx
   rintro rfl
   have:=(h2 e he).2
   rw[h4] at this
   simp at this
  ·intro e he
   simp at he
   rcases he with he | rfl
   ·have:=h2 e (by simpa using he)
    refine⟨this.1,?_⟩
    have hne:e.key≠key:=fun hk=>by rw[hk,h4] at this;simp at this
    simp[updF,hne,this.2]
   ·exact⟨hkey,by simp[updF]⟩
  ·intro x v' hx
   by_cases hxk:x=key
   ·exact⟨⟨key,v,clock⟩,by simp,hxk.symm⟩
   ·simp[updF,hxk] at hx
    obtain⟨e,he,hk⟩:=h3 x v' hx
    exact⟨e,by simp at he ⊢;exact .inl he,hk⟩
 ·have hj:j<es.size:=by have:=(List.getElem?_eq_some_iff.1 h7).1;simpa using this
  have hes:es[j]?=some e0:=by simpa using h7
  have hkeys:(es.modify j fun e=>{ e with key:=key,val:=v }).toList.map (·.key)=es.toList.map (·.key):=by
   apply List.ext_getElem?
   intro i
   rw[List.getElem?_map,List.getElem?_map,Array.getElem?_toList,Array.getElem?_toList,Array.getElem?_modify]
   split
   ·rename_i hij
    subst hij
    rw[hes]
    simp[h6]
   ·rfl
  refine⟨_,by simp[Instr.mapUpdate,run_underlying ht,run_obj h1,hc,h5,hes,h6,hs,run_setMap h1];rfl,⟨_,_,at_ _,?_,?_,?_⟩,chg _⟩
  ·rw[hkeys];exact hnd
  ·intro e he
   obtain⟨i,hi⟩:=List.getElem?_of_mem he
   rw[Array.getElem?_toList,Array.getElem?_modify] at hi
   split at hi
   ·rename_i hij
    subst hij
    rw[hes] at hi
    simp at hi
    subst hi
    exact⟨hkey,by simp[updF]⟩
   ·rename_i hij
    have hi':es.toList[i]?=some e:=by rw[Array.getElem?_toList];exact hi
    have hm:e∈es.toList:=List.mem_of_getElem? hi'
    have hh:=h2 e hm
    refine⟨hh.1,?_⟩
    have hek:e.key≠key:=fun hk=>hij (nodup_get hnd h7 hi' (by rw[h6,hk]))
    simp[updF,hek,hh.2]
  ·intro x v' hx
   have hx':∃e∈es.toList,e.key=x:=by
    by_cases hxk:x=key
    ·exact⟨e0,List.mem_of_getElem? h7,by rw[h6,hxk]⟩
    ·simp[updF,hxk] at hx
     exact h3 x v' hx
   obtain⟨e,he,hk⟩:=hx'
   have:x∈(es.modify j fun e=>{ e with key:=key,val:=v }).toList.map (·.key):=by
    rw[hkeys];exact List.mem_map.2 ⟨e,he,hk⟩
   obtain⟨e',he',hk'⟩:=List.mem_map.1 this
   exact⟨e',he',hk'⟩
end
section
open Go.RowKit
def ArrTy (P:Program) (ty:TypeId) (n:Nat):Prop:=(∃d,P.underlying ty=some d∧(match d with | .struct _ | .array _ _=>true | _=>false)=true)∧(P.info? ty).map (·.size)=some n
theorem wpList_ldA {P:Program} {ops:Array Oper} {rest:List Oper} {o:Oper} {a:Act} {w:World} {Q:Exit→Act→World→Prop} (hgd:o.guard=none) (ty:TypeId) (x:Operand) (ho:o.op=.load ty x)
  {g:Nat} {cs:Array Value} {e:TypeId} (hb:Blk w g cs e) (ht:ArrTy P ty cs.size) (hx:a.eval x=.pointer (some ⟨g,0,none⟩))
  (h:wpList P ops Q rest (a.put o.dst (.agg cs)) w):wpList P ops Q (o::rest) a w:=by
 obtain⟨⟨d,h1,h2⟩,h3⟩:=ht
 exact wpList_load_row hgd ty x ho g hx e cs (0,0) d hb h1 (by cases d <;> simp_all) h3 h
theorem wpList_stA {P:Program} {ops:Array Oper} {rest:List Oper} {o:Oper} {a:Act} {w:World} {Q:Exit→Act→World→Prop} (hgd:o.guard=none) (ty:TypeId) (x y:Operand) (ho:o.op=.store ty x y)
  {g:Nat} {old cs:Array Value} {e:TypeId} (hb:Blk w g old e) (ht:ArrTy P ty cs.size) (hs:old.size=cs.size) (h1:∀v∈cs.toList,v.oneCell'=true) (hx:a.eval x=.pointer (some ⟨g,0,none⟩)) (hy:a.eval y=.agg cs)
  (h:∀w',Blk w' g cs e→Chg [g] w w'→w'.heap.size=w.heap.size→wpList P ops Q rest (a.put o.dst undef) w'):wpList P ops Q (o::rest) a w:=by
 obtain⟨-,h3⟩:=ht
 refine wpList_store_row hgd ty x y ho g cs hx hy e old hb h3 hs (Array.all_eq_true_iff_forall_mem.2 fun v hv=>h1 v (by simpa using hv)) ?_
 exact h _ (setRow_heap w g old cs e _ hb) ⟨rfl,rfl,rfl,by simp,fun k _ hk=>setRow_other w g k cs (fun e=>hk (by simp[e]))⟩ (by simp)
theorem results_A {P:Program} {fn:Func} {p:Tmp} {ty:TypeId} (h:fn.results=#[.cell p ty]) (tmps:Array Value) (w:World) {g:Nat} {e:TypeId} {cs:Array Value}
  (hb:Blk w g cs e) (ht:ArrTy P ty cs.size) (hp:tmps.getD p undef=.pointer (some ⟨g,0,none⟩)):(results fn tmps).run P w=.ok (.agg cs) w:=by
 obtain⟨⟨d,h1,h2⟩,h3⟩:=ht
 exact results_cell_row h tmps w g e cs (0,0) d hp hb h1 (by cases d <;> simp_all) h3
theorem Sees.row {W:World} {k:Nat} {cs:Array Value} {e:TypeId} {m:Nat} (h:Blk W k cs e) (hm:cs.size=m):Sees W 1 (.slice (some ⟨k,0,none⟩) m m) m cs.toList:=by
 subst hm
 refine⟨by simp,_,_,rfl,Nat.le_refl _,by simp,fun ad had j u hu=>?_⟩
 cases had
 rw[Addr.add_lit,Nat.zero_add,h.cell]
 simpa using hu
structure Fresh (w wr:World) (e:TypeId) (size:Nat) (v:Value) (n:Nat) (xs:List Value):Prop where
 own:Own wr e size v n xs
 chg:Chg [] w wr
 new:∀k∈v.ownBlock.toList,w.heap.size≤k
theorem Fresh.nil (w:World) (e:TypeId) (size:Nat):Fresh w w e size (.slice none 0 0) 0 []:=⟨Own.nil w e size,Chg.refl _ _,by simp[Value.ownBlock]⟩
theorem Fresh.to {w wr w':World} {e:TypeId} {size:Nat} {v:Value} {n:Nat} {xs:List Value} (h:Fresh w wr e size v n xs) (c:Chg [] wr w'):Fresh w w' e size v n xs:=
 ⟨h.own.chg c (fun _ _=>by simp),h.chg.trans c (by simp),h.new⟩
theorem Fresh.app {w wr w':World} {e:TypeId} {size:Nat} {v v':Value} {n n':Nat} {xs xs':List Value} (h:Fresh w wr e size v n xs) (ho:Own w' e size v' n' xs') (hc:Chg v.ownBlock.toList wr w')
  (hn:∀k∈v'.ownBlock.toList,k∈v.ownBlock.toList∨wr.heap.size≤k):Fresh w w' e size v' n' xs':=
 ⟨ho,h.chg.trans hc (fun i hi=>.inr (h.new i hi)),fun k hk=>by
  rcases hn k hk with h1 | h1
  ·exact h.new k h1
  ·exact Nat.le_trans h.chg.size h1⟩
theorem wpList_appF {P:Program} {w0 W:World} {ops:Array Oper} {rest:List Oper} {o:Oper} {a:Act} {Q:Exit→Act→World→Prop} (hgd:o.guard=none) (s x:Operand) (t:TypeId)
  (ho:o.op=.call { callee:=.builtin .append,args:=#[s,x],argTypes:=#[t,t] })
  {e:TypeId} {z:Value} {size bytes:Nat} (ht:SliceTy P t e z size bytes)
  {v:Value} {n:Nat} {xs:List Value} (hf:Fresh w0 W e size v n xs) (hs:a.eval s=v) {vx:Value} {m:Nat} {news:List Value} (hsrc:Sees W size vx m news) (hx:a.eval x=vx)
  (h1:∀u∈news,u.oneCell'=true) (hb:(n+m) * bytes≤140737488355328) (h63:n+m≤9223372036854775807)
  (h:∀v' W',Fresh w0 W' e size v' (n+m) (xs++news)→Chg v.ownBlock.toList W W'→wpList P ops Q rest (a.put o.dst v') W'):wpList P ops Q (o::rest) a W:=
 wpList_app hgd s x t ho ht hf.own hs hsrc hx h1 hb h63 fun v' W' h2 h3 h4=>h v' W' (hf.app h2 h3 h4) h3
theorem step_appF {P:Program} {w0 W:World} {ops:Array Oper} {o:Oper} {a:Act} {K:Act→World→Prop} {Q:Exit→Act→World→Prop} {E:Prop} (hgd:o.guard=none) (s x:Operand) (t:TypeId)
  (ho:o.op=.call { callee:=.builtin .append,args:=#[s,x],argTypes:=#[t,t] })
  {e:TypeId} {z:Value} {size bytes:Nat} (ht:SliceTy P t e z size bytes)
  {v:Value} {n:Nat} {xs:List Value} (hf:Fresh w0 W e size v n xs) (hs:a.eval s=v) {vx:Value} {m:Nat} {news:List Value} (hsrc:Sees W size vx m news) (hx:a.eval x=vx)
  (h1:∀u∈news,u.oneCell'=true) (hb:(n+m) * bytes≤140737488355328) (h63:n+m≤9223372036854775807)
  (h:∀v' W',Fresh w0 W' e size v' (n+m) (xs++news)→Chg v.ownBlock.toList W W'→K (a.put o.dst v') W'):
  if Region.wanted o (yielded ops a.tmps)=true then Oper.wp P o a W K Q else E:=
 step_app hgd s x t ho ht hf.own hs hsrc hx h1 hb h63 fun v' W' h2 h3 h4=>h v' W' (hf.app h2 h3 h4) h3
theorem Fresh.shape {w wr:World} {e:TypeId} {size:Nat} {v:Value} {n:Nat} {xs:List Value} (h:Fresh w wr e size v n xs):∃ao cap,v=.slice ao n cap∧n≤cap:=by
 obtain⟨ao,cap,h1,h2,-⟩:=h.own.sees.shape
 exact⟨ao,cap,h1,h2⟩
end
end Go.Aq
