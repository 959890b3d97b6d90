/- Sums OrB OrC RefSign -/
import Derived.Test.YtlidiclfpklliaaGreatDoorRefSum
set_option linter.unusedSimpArgs false
set_option linter.unusedVariables false
set_option maxHeartbeats 8000000
namespace Go.Proofs.YtlidiclfpklliaaGreatDoor
section
open Go.RowKit Go.Aq Go.Aq.Sha
theorem refKey_any (w:World) (v:Value) (n:Nat) (b:List UInt8) (hv:Sees w 1 v n (Bs b)) (hn:n≤1000000):
  Calls Tryz.prog 32 #[v] w fun e w'=>e=.returned (.string (str (hexL (sum b))))∧Chg [] w w':=by
 go_enter Tryz.func32,Tryz.ntmps32
 go_wp2_with fail
 refine (refSum_any w v n b hv hn).mono ?_
 rintro e w1 ⟨v',rfl,hf⟩
 go_wp2_with fail
 refine (refHex_any w1 v' 32 (sum b) hf.own.sees (by omega)).mono ?_
 rintro e w2 ⟨rfl,hc⟩
 go_wp2_with fail
 go_ret
 exact⟨rfl,hf.chg.nil hc⟩
theorem refValid_any (w:World) (s:List UInt8) (hs:s.length≤1000000):
  Calls Tryz.prog 81 #[.string (str s)] w fun e w'=>e=.returned (.bool (validB s))∧Chg [] w w':=by
 go_enter Tryz.func81,Tryz.ntmps81
 go_wp2_with fail
 refine (refUnhex_any w s hs).mono ?_
 rintro e w1 (⟨bs,v',hu,rfl,hf⟩ | ⟨hu,rfl,hc⟩)
 ·obtain⟨ao,cap,rfl,hcap⟩:=hf.shape
  have hv:validB s=(bs.length==32):=by unfold validB;rw[hu]
  have HV:=zH hv
  have hc:=hf.chg
  clear hu hv hf
  generalize bs.length=k at *
  go_wp2_with fail
  go_ret
  exact⟨ret_bool (by rw[HV.out,Bool.eq_iff_iff];simp;omega),hc⟩
 ·have hv:validB s=false:=by unfold validB;rw[hu]
  have HV:=zH hv
  clear hu hv
  go_wp2_with fail
  go_ret
  exact⟨ret_bool HV.out.symm,hc⟩
end
section
open Go.RowKit Go.Aq Go.Aq.Fy
theorem rvalids_ok (w:World) (l:List (List UInt8)) (v:Value) (n:Nat) (hn:l.length=n) (hv:Sees w 1 v n (names l)) (hb:n≤1000000) (hs:∀k∈l,k.length≤1000000):
  Calls Tryz.prog 212 #[v] w fun e w'=>e=.returned (.bool (validAll l))∧Chg [] w w':=by
 obtain⟨ao,cap,rfl,-⟩:=hv.shape
 have HV:=zC hv hn hb hs
 clear hv hn hb hs
 go_enter Tryz.func212,Tryz.ntmps212
 go_wp2_with fail
 go_loopg [3] n (fun k vi wr=>∃(i:Nat),vi=.int .i64 i∧Hid (k=n - i∧i≤n∧(∀(j:Nat) (k':List UInt8),l[j]?=some k'→j<i→validB k'=true)∧Chg [] w wr))
 case atStart=>exact⟨0,rfl,by omega,by omega,fun _ _ _ h=>absurd h (Nat.not_lt_zero _),Chg.refl _ _⟩
 case round=>
  obtain⟨i,rfl,HJ⟩:=hrel
  by_cases him:i<n
  ·have t1:decide ((i:Int)<(n:Int))=true:=decide_eq_true (by omega)
   have him':i<l.length:=by rw[HV.out.2.1];exact him
   obtain⟨g',off',cap',e1,hle,-,hx⟩:=HV.out.1.cells (by omega)
   injection e1 with e1 _ e2
   subst e1 e2
   have x0:=hx i (by omega)
   obtain⟨ki,hki⟩:∃ki,l[i]?=some ki:=⟨_,List.getElem?_eq_getElem him'⟩
   have ex:(names l)[i]?=some (.string (str ki)):=by unfold names;rw[List.getElem?_map,hki];rfl
   rw[ex] at x0
   have y0:=HJ.out.2.2.2.cell_some x0 (by simp)
   have hcl:=fun w'=>refValid_any w' ki (HV.out.2.2.2 _ (List.mem_of_getElem? hki))
   have hwi:Hid (wrap64 ((i:Int)+1)=(i:Int)+1):=by have:=HV.out.2.2.1;show _=_;unfold wrap64;omega
   obtain⟨b,hbv⟩:∃b,validB ki=b:=⟨_,rfl⟩
   rw[hbv] at hcl
   have HC:=zA hki hbv
   clear x0 hx ex him' hbv hki hle
   go_wp2_with fail
   refine (hcl _).mono ?_
   rintro e w3 ⟨rfl,c3⟩
   clear hcl y0
   cases b with
   | false=>
    have HC3:=zH c3
    clear c3
    go_wp2_with fail
    go_ret
    exact⟨by rw[validAll_no HC.out.1 HC.out.2];rfl,HJ.out.2.2.2.nil HC3.out⟩
   | true=>
    have HC3:=zH c3
    clear c3
    go_wp2_with fail
    go_roundg (gk - 1)
    case measure=>have:=HJ.out.1;omega
    case rel=>
     have hi1:i+1≤n:=him
     refine⟨i+1,by rw[hwi.out];rfl,by have:=HJ.out.1;omega,hi1,fun j kj hj hji=>?_,HJ.out.2.2.2.nil HC3.out⟩
     by_cases e:j<i
     ·exact HJ.out.2.2.1 j kj hj e
     ·have e:j=i:=by omega
      subst e
      have e2:=HC.out.1
      rw[hj] at e2
      injection e2 with e2
      rw[e2]
      exact HC.out.2
  ·have t1:decide ((i:Int)<(n:Int))=false:=decide_eq_false (by omega)
   go_wp2_with fail
   go_ret
   refine⟨?_,HJ.out.2.2.2⟩
   rw[validAll_get (l:=l) (fun j kj hj=>HJ.out.2.2.1 j kj hj (by have:=HV.out.2.1;have:=(List.getElem?_eq_some_iff.1 hj).1;omega))]
   rfl
set_option maxRecDepth 100000 in
theorem rtmay_ok (w:World) (t:TreeD) (v:Value) (n:Nat) (hn:t.keys.length=n) (hv:Sees w 1 v n (names t.keys)) (hb:n≤100000) (hs:∀k∈t.keys,k.length≤1000000):
  Calls Tryz.prog 152 #[treeV t v] w fun e w'=>e=.returned (.bool (mayTree t))∧Chg [] w w':=by
 obtain⟨s,l⟩:=t
 simp only at hn hv hs
 obtain⟨ao,cap,rfl,-⟩:=hv.shape
 obtain⟨K,hK⟩:∃K,w.heap.size=K:=⟨_,rfl⟩
 have hc0:Chg [] w (w.alloc (.cells #[.int .i64 s.w,.int .i64 s.h,.int .i64 s.c,.int .i64 s.d,.slice ao n cap] 151)):=(Chg.refl [] w).alloc _
 have hb0:Blk (w.alloc (.cells #[.int .i64 s.w,.int .i64 s.h,.int .i64 s.c,.int .i64 s.d,.slice ao n cap] 151)) K #[.int .i64 s.w,.int .i64 s.h,.int .i64 s.c,.int .i64 s.d,.slice ao n cap] 151:=Blk.new_at w _ _ hK
 have hgr:=fun w'=>rgrid_any s w'
 obtain⟨g1,g2⟩:=grid_le s
 obtain⟨hm1,hm2⟩:=mul_nat g1 g2
 obtain⟨m,hm⟩:∃m,((gridD s).1 * (gridD s).2).toNat=m:=⟨_,rfl⟩
 have hm3:(gridD s).1 * (gridD s).2=(m:Int):=by
  rw[←hm,Int.toNat_of_nonneg (Int.mul_nonneg g1.1 g2.1)]
 have hM:wrap64 ((gridD s).1 * (gridD s).2)=(m:Int):=by rw[hm2,hm]
 have eM:mayTree ⟨s,l⟩=(decide (0<(gridD s).1)&&((n:Int)==(m:Int))&&validAll l):=by
  unfold mayTree
  simp only[hn,hm3]
 have hva:=fun w' (c:Chg [] w w')=>rvalids_ok w' l (.slice ao n cap) n hn (hv.chg c (fun t _ ht'=>by simp at ht')) (by omega) hs
 rw[eM]
 unfold treeV
 unfold shpV at hgr
 clear hn hv hs hm hm1 hm2 hm3 eM hb g1 g2
 obtain⟨x,hx⟩:∃x,(gridD s).1=x:=⟨_,rfl⟩
 obtain⟨y,hy⟩:∃y,(gridD s).2=y:=⟨_,rfl⟩
 simp only[hx,hy] at hgr hM ⊢
 clear hx hy
 have HC0:=zH hc0
 go_enter Tryz.func152,Tryz.ntmps152
 have x0:(w.alloc (.cells #[.int .i64 s.w,.int .i64 s.h,.int .i64 s.c,.int .i64 s.d,.slice ao n cap] 151)).cell? ⟨K,0,none⟩=some (.int .i64 s.w):=hb0.cell 0
 go_wp2_with fail
 have ct:=HC0.out
 generalize w.alloc (.cells #[.int .i64 s.w,.int .i64 s.h,.int .i64 s.c,.int .i64 s.d,.slice ao n cap] 151)=w0 at *
 refine (hgr _).mono ?_
 rintro e w1 ⟨rfl,c1⟩
 have hb1:=hb0.chg0 c1
 have ct1:=ct.nil c1
 have y4:w1.cell? ⟨K,4,none⟩=some (.slice ao n cap):=hb1.cell 4
 clear hgr x0 hb0 ct c1 hc0
 have HT:=zH ct1
 have hva1:=hva w1 ct1
 clear hva ct1 HC0 hb1
 by_cases h1:0<x
 ·have d1:decide (0<x)=true:=decide_eq_true h1
  cases h2:((n:Int)==(m:Int)) with
  | true=>
   have HB:=zH h2
   clear h1
   go_wp2_with fail
   refine hva1.mono ?_
   rintro e w2 ⟨rfl,c2⟩
   clear hva1
   go_wp2_with fail
   go_ret
   exact⟨by simp only[d1,HB.out,Bool.true_and,Bool.false_and,Bool.and_false];rfl,HT.out.nil c2⟩
  | false=>
   have HB:=zH h2
   clear h1 hva1
   go_wp2_with fail
   go_ret
   exact⟨by simp only[d1,HB.out,Bool.true_and,Bool.false_and,Bool.and_false];rfl,HT.out⟩
 ·have d1:decide (0<x)=false:=decide_eq_false h1
  have HB:=zH d1
  clear h1 hva1
  go_wp2_with fail
  go_ret
  exact⟨by simp only[d1,HB.out,Bool.true_and,Bool.false_and,Bool.and_false];rfl,HT.out⟩
end
end Go.Proofs.YtlidiclfpklliaaGreatDoor
namespace Go.Aq
open Go.RowKit
theorem Sees.cut {w:World} {g off n cap p m:Nat} {b:List UInt8} (h:Sees w 1 (.slice (some ⟨g,off,none⟩) n cap) n (Bs b)) (hp:p+m≤n) (hc:cap≠p) (hnc:n≤cap):
  Sees w 1 (.slice (some ⟨g,off+p,none⟩) m (cap - p)) m (Bs ((b.drop p).take m)):=
 Sees.take (h.dropAt (by omega) (if_neg hc)) (by omega)
theorem chunk_snoc:∀(j:Nat) (s:List UInt8),chunkN (j+1) s=chunkN j s++[hexL ((s.drop (32 * j)).take 32)]
 | 0,s=>by simp[chunkN]
 | j+1,s=>by
  show hexL (s.take 32)::chunkN (j+1) (s.drop 32)=hexL (s.take 32)::chunkN j (s.drop 32)++_
  rw[chunk_snoc j (s.drop 32),List.drop_drop,show 32+32 * j=32 * (j+1) by omega]
  rfl
theorem chunkN_len:∀(n:Nat) (t:List UInt8),(chunkN n t).length=n
 | 0,_=>rfl
 | n+1,t=>by show (chunkN n (t.drop 32)).length+1=n+1;rw[chunkN_len n]
theorem chunkN_short:∀(n:Nat) (t:List UInt8),∀k∈chunkN n t,k.length≤1000000
 | 0,_,k,hk=>by simp[chunkN] at hk
 | n+1,t,k,hk=>by
  simp only[chunkN,List.mem_cons] at hk
  rcases hk with rfl | hk
  ·rw[hexL_length];simp;omega
  ·exact chunkN_short n _ k hk
end Go.Aq
namespace Go.Proofs.YtlidiclfpklliaaGreatDoor
open Go.RowKit Go.Aq Go.Aq.Fy
theorem rtree_ty:ArrTy Tryz.prog 151 5:=⟨⟨_,Tryz.underlying151,rfl⟩,by kernel_rfl⟩
def AsTreeEnd (w:World) (b:List UInt8) (e:Ending) (w':World):Prop:=
 (∃v,e=.returned (.tuple #[v,.bool (refTree b)])∧∃t ao n cap,v=treeV t (.slice ao n cap)∧(refTree b=true→t=refTreeD b.tail∧Sees w' 1 (.slice ao n cap) t.keys.length (names t.keys)∧∀k∈eyes (.slice ao n cap),w.heap.size≤k))∧Chg [] w w'
theorem AsTreeEnd.no {w w':World} {b:List UInt8} (h:refTree b=false) {t:TreeD} {ao:Option Addr} {n cap:Nat} (c:Chg [] w w'):AsTreeEnd w b (.returned (.tuple #[treeV t (.slice ao n cap),.bool false])) w':=
 ⟨⟨_,by rw[h],t,ao,n,cap,rfl,fun h2=>by rw[h] at h2;cases h2⟩,c⟩
def treeZ:TreeD:=⟨shpZ,[]⟩
structure KeyI (w2 wr:World) (K2:Nat) (pre:Array Value) (post:Array Value) (T:TypeId) (kv:Value) (l:List (List UInt8)):Prop where
 blk:Blk wr K2 (pre++#[kv]++post) T
 own:Aq.Own wr 9 1 kv l.length (names l)
 far:∀k∈kv.ownBlock.toList,K2<k
 chg:Chg [K2] w2 wr
set_option maxRecDepth 100000 in
theorem asTree_any (w:World) (v:Value) (b:List UInt8) (n:Nat) (hn:b.length=n) (hv:Sees w 1 v n (Bs b)) (hb:n≤1000000):
  Calls Tryz.prog 84 #[v] w (AsTreeEnd w b):=by
 obtain⟨K,hK⟩:∃K,w.heap.size=K:=⟨_,rfl⟩
 have hc0:Chg [] w (w.alloc (.cells #[.int .i64 0,.int .i64 0,.int .i64 0,.int .i64 0,.slice none 0 0] 151)):=(Chg.refl [] w).alloc _
 have hbK:Blk (w.alloc (.cells #[.int .i64 0,.int .i64 0,.int .i64 0,.int .i64 0,.slice none 0 0] 151)) K #[.int .i64 0,.int .i64 0,.int .i64 0,.int .i64 0,.slice none 0 0] 151:=Blk.new_at w _ _ hK
 have aT:ArrTy Tryz.prog 151 (#[.int .i64 0,.int .i64 0,.int .i64 0,.int .i64 0,.slice none 0 0]:Array Value).size:=rtree_ty
 by_cases h7:n<7
 ·have t1:decide ((n:Int)<7)=true:=by simp;omega
  have hr:refTree b=false:=by
   unfold refTree
   match b,hn with
   | [],_=>rfl
   | k::t,hn=>simp only[List.length_cons] at hn;have:decide (6≤t.length)=false:=decide_eq_false (by omega);simp[this]
  obtain⟨ao,cap,rfl,-⟩:=hv.shape
  have HC0:=zC hc0 hbK hK hr
  clear hv hb hc0 hbK hr h7 hn
  go_enter Tryz.func84,Tryz.ntmps84
  go_wp2_with fail
  refine bodyPost_ret (results_AT rfl _ _ HC0.out.2.1 aT rfl) rfl ?_
  exact AsTreeEnd.no (t:=treeZ) HC0.out.2.2.2 HC0.out.1
 ·match b,hn,hv with
  | [],hn,hv=>simp at hn;omega
  | k::t,hn,hv=>
  have hp:0<n:=by omega
  obtain⟨g,off,cap,rfl,hcap,hcell⟩:=hv.at1 hp
  have m0:(w.alloc (.cells #[.int .i64 0,.int .i64 0,.int .i64 0,.int .i64 0,.slice none 0 0] 151)).cell? ⟨g,off,none⟩=some (.int .u8 (k.toNat:Int)):=hc0.cell_some (hcell 0 hp) (by simp)
  have t1:decide ((n:Int)<7)=false:=by simp;omega
  have t2:(0:Int)<(n:Int):=by omega
  have htl:t.length=n - 1:=by simp only[List.length_cons] at hn;omega
  by_cases h2:k=2
  ·subst h2
   have k1:(((2:UInt8).toNat:Int) != 2)=false:=rfl
   obtain⟨m,hm⟩:∃m:Nat,n=m+7:=⟨n - 7,by omega⟩
   have hsub:wrap64 ((n:Int) - 7)=(m:Int):=by unfold wrap64;omega
   have hrm:Int.tmod (m:Int) 32=((m % 32:Nat):Int):=by rw[Int.tmod_eq_emod_of_nonneg (by omega)];rfl
   by_cases h32:m % 32=0
   ·have r1:(((m % 32:Nat):Int) != 0)=false:=by simp[h32]
    have hcg:∀j,j<n→w.cell? ⟨g,off+j,none⟩=some (.int .u8 (((2::t).getD j 0).toNat:Int)):=fun j hj=>by
     rw[hcell j hj,Bs_get _ j (by rw[hn];exact hj)]
     simp[List.getD,hn,hj]
    have hsl:=fun w' (c:Chg [] w w') (j:Nat) (hj:7+32 * j+32≤n)=>(hv.chg0 c).cut (p:=7+32 * j) (m:=32) hj (by omega) hcap
    have hso:=fun w' (c:Chg [] w w')=>rshapeOf_any g (off+1) (cap - 1) _ _ _ _ _ _ ((2::t).getD 1 0).toNat_lt ((2::t).getD 2 0).toNat_lt ((2::t).getD 3 0).toNat_lt ((2::t).getD 4 0).toNat_lt ((2::t).getD 5 0).toNat_lt ((2::t).getD 6 0).toNat_lt w'
     (c.cell_some (hcg 1 (by omega)) (by simp)) (c.cell_some (hcg 2 (by omega)) (by simp)) (c.cell_some (hcg 3 (by omega)) (by simp)) (c.cell_some (hcg 4 (by omega)) (by simp)) (c.cell_some (hcg 5 (by omega)) (by simp)) (c.cell_some (hcg 6 (by omega)) (by simp))
    have hS6:shp6 t=⟨((256 * ((2::t).getD 1 0).toNat+((2::t).getD 2 0).toNat:Nat):Int),((256 * ((2::t).getD 3 0).toNat+((2::t).getD 4 0).toNat:Nat):Int),((((2::t).getD 5 0).toNat:Nat):Int),((((2::t).getD 6 0).toNat:Nat):Int)⟩:=shpAt_cells (2::t) (by rw[hn];omega)
    clear hcg
    generalize 256 * ((2::t).getD 1 0).toNat+((2::t).getD 2 0).toNat=W at *
    generalize 256 * ((2::t).getD 3 0).toNat+((2::t).getD 4 0).toNat=H at *
    generalize ((2::t).getD 5 0).toNat=C at *
    generalize ((2::t).getD 6 0).toNat=D at *
    obtain⟨q,hq⟩:∃q,m=32 * q:=⟨m / 32,by omega⟩
    have hT:refTreeD t=⟨⟨W,H,C,D⟩,chunkN q (t.drop 6)⟩:=by
     unfold refTreeD
     rw[hS6,show (t.length - 6) / 32=q by omega]
    have hrT:refTree (2::t)=mayTree ⟨⟨W,H,C,D⟩,chunkN q (t.drop 6)⟩:=by
     unfold refTree
     have d1:decide (6≤t.length)=true:=decide_eq_true (by omega)
     have d2:decide ((t.length - 6) % 32=0)=true:=decide_eq_true (by omega)
     simp[d1,d2,hT]
    have hmt:=fun w' v hs=>rtmay_ok w' ⟨⟨W,H,C,D⟩,chunkN q (t.drop 6)⟩ v q (chunkN_len _ _) hs (by omega) (chunkN_short _ _)
    rw[←hrT] at hmt
    unfold treeV at hmt
    simp only at hmt
    have HQ:Hid (n=7+32 * q∧n≤cap∧n≤1000000):=⟨by omega,hcap,hb⟩
    have HC0:=zB hc0 hbK hK
    have HT:=zA hT hrT
    have n1:7≤n:=by omega
    have n1':(7:Int)≤(n:Int):=by omega
    have n2:¬cap=1:=by omega
    have HSUB:=zA hsub hrm
    clear hv hb hc0 hbK hm h32 htl hcell hn hS6 hq hT hrT h7
    go_enter Tryz.func84,Tryz.ntmps84
    go_wp2_with fail
    clear hsub hrm
    refine (hso _ HC0.out.1).mono ?_
    rintro e w1 ⟨rfl,c1⟩
    have hbK1:=HC0.out.2.1.chg0 c1
    have ct1:=HC0.out.1.nil c1
    obtain⟨K2,hK2⟩:∃K2,w1.heap.size=K2:=⟨_,rfl⟩
    have cb:Chg [] w1 (w1.alloc (.cells #[.int .i64 W,.int .i64 H,.int .i64 C,.int .i64 D,.slice none 0 0] 151)):=(Chg.refl [] w1).alloc _
    have hb2:Blk (w1.alloc (.cells #[.int .i64 W,.int .i64 H,.int .i64 C,.int .i64 D,.slice none 0 0] 151)) K2 #[.int .i64 W,.int .i64 H,.int .i64 C,.int .i64 D,.slice none 0 0] 151:=Blk.new_at w1 _ _ hK2
    have hz2:(w1.alloc (.cells #[.int .i64 W,.int .i64 H,.int .i64 C,.int .i64 D,.slice none 0 0] 151)).heap.size=K2+1:=by simp[hK2]
    have hKK:K<K2:=by have:=hbK1.lt;omega
    have hbK2:=hbK1.chg0 cb
    have ct2:=ct1.nil cb
    have HB2:=zD hb2 hbK2 ct2 hKK hz2
    clear hso m0 c1 hbK1 ct1 cb hb2 hbK2 ct2 hKK hz2
    go_wp2_with fail
    generalize w1.alloc (.cells #[.int .i64 W,.int .i64 H,.int .i64 C,.int .i64 D,.slice none 0 0] 151)=w2 at *
    go_loopg [5] q (fun gk v5 wr=>∃(j p:Nat) (ao3:Option Addr) (cap3:Nat),v5=.int .i64 (p:Int)∧Hid (gk=q - j∧j≤q∧p=7+32 * j∧KeyI w2 wr K2 #[.int .i64 W,.int .i64 H,.int .i64 C,.int .i64 D] #[] 151 (.slice ao3 j cap3) (chunkN j (t.drop 6))))
    case atStart=>exact⟨0,7,none,0,rfl,by omega,by omega,rfl,HB2.out.1,Aq.Own.nil _ _ _,by simp[Value.ownBlock],Chg.refl _ _⟩
    case round=>
     obtain⟨j,p,ao3,cap3,rfl,HJ⟩:=hrel
     have ctr:Chg [] w wr:=HB2.out.2.2.1.trans HJ.out.2.2.2.chg (fun k hk=>by simp at hk;right;have h1:=HB2.out.2.2.2.1;have h2:=HC0.out.2.2;omega)
     have hbr:Blk wr K2 #[.int .i64 W,.int .i64 H,.int .i64 C,.int .i64 D,.slice ao3 j cap3] 151:=HJ.out.2.2.2.blk
     have hcl:(chunkN j (t.drop 6)).length=j:=chunkN_len _ _
     have hOr:=HJ.out.2.2.2.own
     rw[hcl] at hOr
     by_cases hjq:j<q
     ·have t3n:p<n:=by have h1:=HJ.out.2.2.1;have h2:=HQ.out.1;omega
      have t3:decide ((p:Int)<(n:Int))=true:=decide_eq_true (by omega)
      have t3':decide (p<n)=true:=decide_eq_true t3n
      clear t3n
      obtain⟨S,hS⟩:∃S,(Value.slice ao3 j cap3).ownBlock.toList=S:=⟨_,rfl⟩
      have HS:=zH hS
      have HF:Hid (True∧True∧(∀k∈(Value.slice ao3 j cap3).ownBlock.toList,K2<k)∧Chg [K2] w2 wr):=⟨trivial,trivial,HJ.out.2.2.2.far,HJ.out.2.2.2.chg⟩
      have hKS:K2∉S:=fun h=>by have:=HJ.out.2.2.2.far K2 (by rw[hS];exact h);omega
      have HTR:=zH ctr
      obtain⟨p2,hp2⟩:∃p2,p+32=p2:=⟨_,rfl⟩
      have hpp:p2≤n:=by have h1:=HJ.out.2.2.1;have h2:=HQ.out.1;omega
      have hnb:n≤1000000:=HQ.out.2.2
      have HP:=zB hp2 hpp hjq
      have HRW:Hid (IntKind.i64.wrap ((p:Int)+32)=(p2:Int)∧wrap64 ((p:Int)+32)=(p2:Int)):=⟨by rw[show (p:Int)+32=(p2:Int) by omega];exact wrap_i64_nat _ (by omega),by rw[show (p:Int)+32=(p2:Int) by omega];exact w64 _ (by omega)⟩
      clear hp2 hpp hnb hjq hS hcl
      go_upto_region 7 with (fail)
      obtain⟨q1,q2,q2',q3,q3',q4⟩:¬cap=p∧p≤p2∧(p:Int)≤(p2:Int)∧p2≤cap∧(p2:Int)≤(cap:Int)∧p2 - p=32:=by
       have h1:=HP.out.1;have h2:=HP.out.2.1
       refine⟨?_,?_,?_,?_,?_,?_⟩ <;> omega
      obtain⟨w1a,w2a⟩:=HRW.out
      refine wp_region_U S (fun i=>i==11) (by kernel_rfl) ?_
      have cd:Chg [] wr wr.drew:=(Chg.refl _ _).drew
      have hbE:=hbr.chg0 cd
      have hOE:=Aq.Own.chg hOr cd (fun _ _=>by simp)
      have HSl:Hid (Sees wr.drew 1 (.slice (some ⟨g,off+p,none⟩) 32 (cap - p)) 32 (Bs (((2::t).drop p).take 32))):=by
       have h:=hsl wr.drew (HTR.out.nil cd) j (by have h1:=HP.out.2.2;have h2:=HQ.out.1;omega)
       rw[←HJ.out.2.2.1] at h
       exact h
      have HCD:=zH cd
      clear hbr hOr ctr cd
      generalize wr.drew=wE at *
      have C0:Chg S wE wE:=Chg.refl _ _
      have y4:wE.cell? ⟨K2,4,none⟩=some (.slice ao3 j cap3):=hbE.cell 4
      refine tU 0 (.pointer (some ⟨K2,4,none⟩)) C0 (fun w4 c4=>?_) ?_
      ·go_simp
      try simp only[Act.put,yA,yB,yC,yD,yE,yF]
      refine tU 1 (.slice ao3 j cap3) C0 (fun w4 c4=>?_) ?_
      ·have z4:=c4.cell_some y4 hKS
       go_simp
      try simp only[Act.put,yA,yB,yC,yD,yE,yF]
      refine tU 2 (.slice (some ⟨g,off,none⟩) n cap) C0 (fun w4 c4=>?_) ?_
      ·go_simp
      try simp only[Act.put,yA,yB,yC,yD,yE,yF]
      refine tU 3 (.int .i64 (p:Int)) C0 (fun w4 c4=>?_) ?_
      ·go_simp
      try simp only[Act.put,yA,yB,yC,yD,yE,yF]
      refine tU 4 (.int .i64 (p:Int)) C0 (fun w4 c4=>?_) ?_
      ·go_simp
      try simp only[Act.put,yA,yB,yC,yD,yE,yF]
      refine tU 5 (.int .i64 (p2:Int)) C0 (fun w4 c4=>?_) ?_
      ·go_simp
      try simp only[Act.put,yA,yB,yC,yD,yE,yF]
      refine tU 6 (.slice (some ⟨g,off+p,none⟩) 32 (cap - p)) C0 (fun w4 c4=>?_) ?_
      ·go_simp
      try simp only[Act.put,yA,yB,yC,yD,yE,yF]
      refine oU 7 ?_
      go_simp
      refine (refHex_any wE _ 32 _ HSl.out (by decide)).mono ?_
      rintro e w7 ⟨rfl,c7⟩
      refine⟨c7.toS,?_⟩
      obtain⟨kx,hkx⟩:∃kx,hexL (((2::t).drop p).take 32)=kx:=⟨_,rfl⟩
      rw[hkx]
      have HKX:=zH hkx
      clear hkx
      have hO7:=Aq.Own.chg hOE c7 (fun _ _=>by simp)
      have hb7:=hbE.chg0 c7
      have c7S:Chg S wE w7:=c7.toS
      clear hOE hbE c7
      try simp only[Act.put,yA,yB,yC,yD,yE,yF]
      refine oU 8 ?_
      go_simp
      have hs8:Sees (w7.alloc (.cells #[.string (str kx)] 9)) 1 (.slice (some ⟨w7.heap.size,0,none⟩) 1 1) 1 (names [kx]):=Sees.row (Blk.new w7 #[.string (str kx)] 9) (m:=1) rfl
      have c8:Chg [] w7 (w7.alloc (.cells #[.string (str kx)] 9)):=(Chg.refl _ _).alloc _
      have hO8:=Aq.Own.chg hO7 c8 (fun _ _=>by simp)
      have hb8:=hb7.chg0 c8
      have c8S:=c7S.nil c8
      refine⟨c8S,?_⟩
      generalize w7.alloc (.cells #[.string (str kx)] 9)=w8 at *
      obtain⟨A8,hA8⟩:∃A8,w7.heap.size=A8:=⟨_,rfl⟩
      rw[hA8] at hs8
      try rw[hA8]
      clear hA8 c8 hO7 hb7 c7S
      try simp only[Act.put,yA,yB,yC,yD,yE,yF]
      refine oU 9 ?_
      clear w1a w2a
      refine wp_app _ _ 33 rfl sl_keys hO8 rfl hs8 rfl (by simp[names,Value.oneCell']) (by have h1:=HQ.out.2.2;have h2:=HP.out.2.2;have h3:=HQ.out.1;omega) (by have h1:=HQ.out.2.2;have h2:=HP.out.2.2;have h3:=HQ.out.1;omega) ?_
      intro v9 w9 ho9 c9 n9
      rw[HS.out] at c9 n9
      have c9S:=c8S.tr c9
      refine⟨c9S,?_⟩
      have hb9:=hb8.chg c9 hKS
      have hn9:∀k∈v9.ownBlock.toList,K2<k:=fun k hk=>by
       rcases n9 k hk with h | h
       ·exact HF.out.2.2.1 k (by rw[HS.out];exact h)
       ·have h1:=hb8.lt;omega
      obtain⟨ao9,cap9,rfl,-⟩:=ho9.sees.shape
      have x9:w9.cell? ⟨K2,4,none⟩=some (.slice ao3 j cap3):=hb9.cell 4
      have f9:w9.frozen? ⟨K2,4,none⟩=false:=hb9.frozen 4
      try simp only[Act.put,yA,yB,yC,yD,yE,yF]
      refine tU 10 (.pointer (some ⟨K2,4,none⟩)) c9S (fun w4 c4=>?_) ?_
      ·go_simp
      try simp only[Act.put,yA,yB,yC,yD,yE,yF]
      refine wpAnyU_last 11 rfl (by kernel_rfl) (by rfl) (by rfl) ?_
      go_simp
      try simp only[Act.put,yA,yB,yC,yD,yE,yF]
      refine wpAny_fin (by kernel_rfl) ?_ _
      have hb11:=hb9.set 4 (.slice ao9 (j+1) cap9)
      have c11:Chg [K2] w9 (w9.setCell ⟨K2,4,none⟩ (.slice ao9 (j+1) cap9)):=(Chg.refl _ _).setCell (by simp) _
      have ho11:=Aq.Own.chg ho9 c11 (fun k hk hk'=>by simp at hk';have:=hn9 k hk;omega)
      have HR:=zD hb11 c11 ho11 hn9 c9S
      generalize w9.setCell ⟨K2,4,none⟩ (.slice ao9 (j+1) cap9)=w11 at *
      clear hb11 c11 ho11 hn9 c9S hb9 hs8 hb8 hO8 c8S c9 n9 ho9 x9 f9 y4 C0
      go_wp2_with fail
      go_roundg (gk - 1)
      case measure=>have:=HJ.out.1;have:=HP.out.2.2;omega
      case rel=>
       have hx:kx=hexL (((t.drop 6).drop (32 * j)).take 32):=by
        rw[←HKX.out,HJ.out.2.2.1,show 7+32 * j=(6+32 * j)+1 by omega,List.drop_succ_cons,List.drop_drop]
       refine⟨j+1,p2,ao9,cap9,by rw[HRW.out.2],by have:=HJ.out.1;omega,HP.out.2.2,by have h1:=HJ.out.2.2.1;have h2:=HP.out.1;omega,?_,?_,HR.out.2.2.2.1,?_⟩
       ·exact HR.out.1
       ·rw[chunk_snoc,←hx,List.length_append,chunkN_len]
        have e:names (chunkN j (t.drop 6)++[kx])=names (chunkN j (t.drop 6))++names [kx]:=by simp[names]
        rw[e]
        exact HR.out.2.2.1
       ·refine ((HF.out.2.2.2.nil HCD.out).trans HR.out.2.2.2.2 (fun k hk=>?_)).trans HR.out.2.1 (fun k hk=>.inl hk)
        have h1:=HF.out.2.2.1 k (by rw[HS.out];exact hk)
        have h2:=HB2.out.2.2.2.2
        exact .inr (by omega)
     ·have t3n:¬p<n:=by have h1:=HJ.out.2.2.1;have h2:=HQ.out.1;omega
      have t3:decide ((p:Int)<(n:Int))=false:=decide_eq_false (by omega)
      have t3':decide (p<n)=false:=decide_eq_false t3n
      clear t3n
      have hjq':j=q:=by have:=HJ.out.2.1;omega
      subst hjq'
      have hs3:=hOr.sees
      have hmt1:=hmt wr _ hs3
      have hbKr:=HB2.out.2.1.chg HJ.out.2.2.2.chg (by have:=HB2.out.2.2.2.1;simp;omega)
      have HX:=zC hbr hbKr hOr ctr
      obtain⟨y0,y1,y2,y3,y4⟩:=Blk5 hbr
      have HFar:Hid (∀k∈(Value.slice ao3 j cap3).ownBlock.toList,K2<k):=HJ.out.2.2.2.far
      clear hmt hsl hbr hOr ctr hcl hs3 hbKr hjq
      cases hM:refTree (2::t) with
      | false=>
       have HM:=zH hM
       rw[hM] at hmt1
       clear hM
       go_wp2_with fail
       refine hmt1.mono ?_
       rintro e w5 ⟨rfl,c5⟩
       have hbK5:=HX.out.2.1.chg0 c5
       have ct5:=HX.out.2.2.2.nil c5
       clear hmt1 y0 y1 y2 y3 y4 c5
       go_wp2_with (with_reducible refine wpList_stA rfl 151 _ _ rfl hbK5 aT rfl (by simp[Value.oneCell']) rfl rfl ?_;intro w20 hb20 c20 hs20)
       refine bodyPost_ret (results_AT rfl _ _ hb20 aT rfl) rfl ?_
       exact AsTreeEnd.no (t:=treeZ) HM.out (ct5.trans c20 fun k hk=>by simp at hk;right;have:=HC0.out.2.2;omega)
      | true=>
       have HM:=zH hM
       rw[hM] at hmt1
       clear hM
       go_wp2_with fail
       refine hmt1.mono ?_
       rintro e w5 ⟨rfl,c5⟩
       have hbK5:=HX.out.2.1.chg0 c5
       have ct5:=HX.out.2.2.2.nil c5
       have hO5:=Aq.Own.chg HX.out.2.2.1 c5 (fun _ _=>by simp)
       clear hmt1 y0 y1 y2 y3 y4
       obtain⟨y0,y1,y2,y3,y4⟩:=Blk5 (HX.out.1.chg0 c5)
       have HO5:=zH hO5
       clear c5 hO5
       have aT2:ArrTy Tryz.prog 151 (#[.int .i64 W,.int .i64 H,.int .i64 C,.int .i64 D,.slice ao3 j cap3]:Array Value).size:=rtree_ty
       have hss:(#[.int .i64 0,.int .i64 0,.int .i64 0,.int .i64 0,.slice none 0 0]:Array Value).size=(#[.int .i64 W,.int .i64 H,.int .i64 C,.int .i64 D,.slice ao3 j cap3]:Array Value).size:=rfl
       have hone:∀v∈(#[.int .i64 W,.int .i64 H,.int .i64 C,.int .i64 D,.slice ao3 j cap3]:Array Value).toList,v.oneCell'=true:=by simp[Value.oneCell']
       go_wp2_with (with_reducible refine wpList_stA rfl 151 _ _ rfl hbK5 aT2 hss hone rfl rfl ?_;intro w20 hb20 c20 hs20)
       refine bodyPost_ret (results_AT rfl _ _ hb20 aT2 rfl) rfl ?_
       have hO20:=Aq.Own.chg HO5.out c20 (fun k hk hk'=>by simp at hk';have h1:=HFar.out k hk;have h2:=HB2.out.2.2.2.1;omega)
       refine⟨⟨treeV ⟨⟨W,H,C,D⟩,chunkN j (t.drop 6)⟩ (.slice ao3 j cap3),by rw[HM.out];rfl,_,_,_,_,rfl,fun _=>⟨HT.out.1.symm,?_,fun k hk=>?_⟩⟩,ct5.trans c20 fun k hk=>by simp at hk;right;have:=HC0.out.2.2;omega⟩
       ·show Sees w20 1 _ (chunkN j (t.drop 6)).length _
        rw[chunkN_len]
        exact hO20.sees
       ·have h1:=HFar.out k (eyes_own _ k hk)
        have h2:=HB2.out.2.2.2.1
        have h3:=HC0.out.2.2
        omega
   ·have r1:(((m % 32:Nat):Int) != 0)=true:=by simp;omega
    have hr:refTree (2::t)=false:=by
     unfold refTree
     have:decide ((t.length - 6) % 32=0)=false:=decide_eq_false (by rw[htl];intro h;apply h32;omega)
     simp[this]
    have HC0:=zC hc0 hbK hK hr
    clear hv hb hc0 hbK hr h7 hn hm h32 htl hcell
    go_enter Tryz.func84,Tryz.ntmps84
    go_wp2_with fail
    refine bodyPost_ret (results_AT rfl _ _ HC0.out.2.1 aT rfl) rfl ?_
    exact AsTreeEnd.no (t:=treeZ) HC0.out.2.2.2 HC0.out.1
  ·have k1:((k.toNat:Int) != 2)=true:=by
    have h2:k.toNat≠2:=fun e=>h2 (by rw[←UInt8.ofNat_toNat (x:=k),e];rfl)
    simp;omega
   have hr:refTree (k::t)=false:=by unfold refTree;simp[h2]
   have HC0:=zC hc0 hbK hK hr
   clear hv hb hc0 hbK hr h7 hn htl hcell h2
   go_enter Tryz.func84,Tryz.ntmps84
   go_wp2_with fail
   refine bodyPost_ret (results_AT rfl _ _ HC0.out.2.1 aT rfl) rfl ?_
   exact AsTreeEnd.no (t:=treeZ) HC0.out.2.2.2 HC0.out.1
end Go.Proofs.YtlidiclfpklliaaGreatDoor
namespace Go.Aq.Wd
def contF:Nat→Nat→List UInt8→Option Nat
 | 0,c,_=>some c
 | _+1,_,[]=>none
 | k+1,c,b::t=>if b.toNat / 64=2 then contF k (c * 64+b.toNat % 64) t else none
def finS (n lo:Nat) (o:Option Nat):Option (Nat×Nat):=match o with
 | none=>none
 | some c=>if c<lo∨1114111<c∨(55296≤c∧c≤57343) then none else some (c,n+1)
def refSign (r:List UInt8):Option (Nat×Nat):=match r with
 | []=>none
 | x::t=>if x.toNat<128 then some (x.toNat,1) else if 192≤x.toNat∧x.toNat≤223 then finS 1 128 (contF 1 (x.toNat % 32) t) else if 224≤x.toNat∧x.toNat≤239 then finS 2 2048 (contF 2 (x.toNat % 16) t)
  else if 240≤x.toNat∧x.toNat≤247 then finS 3 65536 (contF 3 (x.toNat % 8) t) else none
def goodO (d:Nat×Nat):Option (Nat×Nat):=if bad d then none else some d
theorem goodO_bad:goodO (65533,1)=none:=rfl
theorem goodO_ok (c n:Nat) (h:¬(c=65533∧n=1)):goodO (c,n)=some (c,n):=by unfold goodO;rw[not_bad c n h];rfl
theorem refSign_eq (r:List UInt8) (h:r≠[]):refSign r=goodO (dec r):=by
 obtain⟨x,t,rfl⟩:∃x t,r=x::t:=by cases r;(exact absurd rfl h);exact⟨_,_,rfl⟩
 have b0:=x.toNat_lt
 unfold refSign dec
 simp only[List.getD_cons_zero,List.getD_cons_succ,List.length_cons]
 unfold Lib.decodeN
 by_cases h1:x.toNat<128
 ·simp only[if_pos h1]
  rw[goodO_ok _ _ (by omega)]
 ·simp only[if_neg h1]
  by_cases h2:192≤x.toNat∧x.toNat≤223
  ·rw[if_pos h2]
   cases t with
   | nil=>
    rw[if_neg (by simp),if_neg (by simp),if_neg (by simp)]
    simp[contF,finS,goodO_bad]
   | cons y t=>
    have b1:=y.toNat_lt
    simp only[List.getD_cons_zero,List.length_cons,contF]
    by_cases hy:y.toNat / 64=2
    ·rw[if_pos hy,if_pos (by omega)]
     simp only[finS,ge_iff_le]
     by_cases hc:128≤x.toNat % 32 * 64+y.toNat % 64
     ·rw[if_pos hc,if_neg (by omega),goodO_ok _ _ (by omega)]
     ·rw[if_neg hc,if_pos (by omega),goodO_bad]
    ·rw[if_neg hy,if_neg (by omega),if_neg (by omega),if_neg (by omega)]
     simp[finS,goodO_bad]
  ·rw[if_neg h2]
   by_cases h3:224≤x.toNat∧x.toNat≤239
   ·rw[if_pos h3,if_neg (by omega)]
    match t with
    | []=>
     rw[if_neg (by simp),if_neg (by simp)]
     simp[contF,finS,goodO_bad]
    | [y]=>
     rw[if_neg (by simp),if_neg (by simp)]
     by_cases hy:y.toNat / 64=2 <;> simp[contF,finS,goodO_bad,hy]
    | y::z::t=>
     have b1:=y.toNat_lt
     have b2:=z.toNat_lt
     simp only[List.getD_cons_zero,List.getD_cons_succ,List.length_cons,contF]
     by_cases hy:y.toNat / 64=2
     ·rw[if_pos hy]
      by_cases hz:z.toNat / 64=2
      ·rw[if_pos hz,if_pos (by omega)]
       simp only[finS,ge_iff_le]
       have e:(x.toNat % 16 * 64+y.toNat % 64) * 64+z.toNat % 64=x.toNat % 16 * 4096+y.toNat % 64 * 64+z.toNat % 64:=by omega
       rw[e]
       split
       ·rename_i hc
        rw[if_neg (by omega),goodO_bad]
       ·rename_i hc
        rw[if_pos (by omega),goodO_ok _ _ (by omega)]
      ·rw[if_neg hz,if_neg (by omega),if_neg (by omega)]
       simp[finS,goodO_bad]
     ·rw[if_neg hy,if_neg (by omega),if_neg (by omega)]
      simp[finS,goodO_bad]
   ·rw[if_neg h3]
    by_cases h4:240≤x.toNat∧x.toNat≤247
    ·rw[if_pos h4,if_neg (by omega),if_neg (by omega)]
     match t with
     | []=>
      rw[if_neg (by simp)]
      simp[contF,finS,goodO_bad]
     | [y]=>
      rw[if_neg (by simp)]
      by_cases hy:y.toNat / 64=2 <;> simp[contF,finS,goodO_bad,hy]
     | [y,z]=>
      rw[if_neg (by simp)]
      by_cases hy:y.toNat / 64=2 <;> by_cases hz:z.toNat / 64=2 <;> simp[contF,finS,goodO_bad,hy,hz]
     | y::z::u::t=>
      have b1:=y.toNat_lt
      have b2:=z.toNat_lt
      have b3:=u.toNat_lt
      simp only[List.getD_cons_zero,List.getD_cons_succ,List.length_cons,contF]
      by_cases hy:y.toNat / 64=2
      ·rw[if_pos hy]
       by_cases hz:z.toNat / 64=2
       ·rw[if_pos hz]
        by_cases hu:u.toNat / 64=2
        ·rw[if_pos hu,if_pos (by omega)]
         simp only[finS,ge_iff_le]
         have e:((x.toNat % 8 * 64+y.toNat % 64) * 64+z.toNat % 64) * 64+u.toNat % 64=x.toNat % 8 * 262144+y.toNat % 64 * 4096+z.toNat % 64 * 64+u.toNat % 64:=by omega
         rw[e]
         split
         ·rename_i hc
          rw[if_neg (by omega),goodO_bad]
         ·rename_i hc
          rw[if_pos (by omega),goodO_ok _ _ (by omega)]
        ·rw[if_neg hu,if_neg (by omega)]
         simp[finS,goodO_bad]
       ·rw[if_neg hz,if_neg (by omega)]
        simp[finS,goodO_bad]
      ·rw[if_neg hy,if_neg (by omega)]
       simp[finS,goodO_bad]
    ·rw[if_neg h4,if_neg (by omega),if_neg (by omega),if_neg (by omega)]
     rw[goodO_bad]
end Go.Aq.Wd
