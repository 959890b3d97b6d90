/- ObJ ObL ObM -/
import Derived.Test.YtlidiclfpklliaaGreatDoorG34
set_option linter.unusedSimpArgs false
set_option linter.unusedVariables false
set_option maxHeartbeats 8000000
namespace Go.Proofs.YtlidiclfpklliaaGreatDoor
section
open Go.RowKit Go.Aq Go.Aq.Fy Go.Maps
set_option maxRecDepth 100000 in
theorem tbytes_no (w:World) (t:TreeD) (v:Value) (n:Nat) (hn:t.keys.length=n) (hv:Sees w 1 v n (names t.keys)) (hb:n≤100000) (hs:∀k∈t.keys,k.length≤1000000) (hm:mayTree t=false):
  Calls Tryz.prog 372 #[treeV t v] w fun e w'=>e=.returned (.slice none 0 0)∧Chg [] w w':=by
 have hma:=fun w' (c:Chg [] w w')=>tmay_ok w' t v n hn (hv.chg c (fun t _ ht'=>by simp at ht')) hb hs
 rw[hm] at hma
 obtain⟨s,l⟩:=t
 simp only at hn hv hs
 obtain⟨ao,cap,rfl,-⟩:=hv.shape
 obtain⟨K,hK⟩:∃K,w.heap.size=K:=⟨_,rfl⟩
 have hc0:Chg [] w (w.alloc (.cells #[.int .i64 s.w,.int .i64 s.h,.int .i64 s.c,.int .i64 s.d,.slice ao n cap] 271)):=(Chg.refl [] w).alloc _
 have hb0:Blk (w.alloc (.cells #[.int .i64 s.w,.int .i64 s.h,.int .i64 s.c,.int .i64 s.d,.slice ao n cap] 271)) K #[.int .i64 s.w,.int .i64 s.h,.int .i64 s.c,.int .i64 s.d,.slice ao n cap] 271:=Blk.new_at w _ _ hK
 have hm1:=hma _ hc0
 unfold treeV at *
 clear hn hv hs hb hm hma hb0
 go_enter Tryz.func372,Tryz.ntmps372
 go_wp2_with fail
 refine hm1.mono ?_
 rintro e w1 ⟨rfl,c1⟩
 clear hm1
 go_wp2_with fail
 go_ret
 exact⟨rfl,hc0.tr c1⟩
end
section
open Go.RowKit Go.Aq Go.Aq.Fy
theorem imay_ok (w:World) (s:ShpD) (ao:Option Addr) (n cap:Nat) (hn:n≤9223372036854775807):
  Calls Tryz.prog 369 #[rasV s (.slice ao n cap)] w fun e w'=>e=.returned (.bool (mayTile s n))∧Chg [] w w':=by
 obtain⟨K,hK⟩:∃K,w.heap.size=K:=⟨_,rfl⟩
 have hc0:Chg [] w (w.alloc (.cells #[.int .i64 s.w,.int .i64 s.h,.int .i64 s.c,.int .i64 s.d,.slice ao n cap] 270)):=(Chg.refl [] w).alloc _
 have hb0:Blk (w.alloc (.cells #[.int .i64 s.w,.int .i64 s.h,.int .i64 s.c,.int .i64 s.d,.slice ao n cap] 270)) K #[.int .i64 s.w,.int .i64 s.h,.int .i64 s.c,.int .i64 s.d,.slice ao n cap] 270:=Blk.new_at w _ _ hK
 have hp:=fun w'=>mayPix_any s ao n cap hn w'
 have eM:mayTile s n=(mayPix s n&&decide (s.w≤8)&&decide (s.h≤8)):=rfl
 rw[eM]
 unfold rasV at *
 clear eM hn
 have HC0:=zH hc0
 obtain⟨x0,x1,x2,x3,x4⟩:=Blk5 hb0
 go_enter Tryz.func369,Tryz.ntmps369
 go_wp2_with fail
 have ct:=HC0.out
 generalize w.alloc (.cells #[.int .i64 s.w,.int .i64 s.h,.int .i64 s.c,.int .i64 s.d,.slice ao n cap] 270)=w0 at *
 refine (hp _).mono ?_
 rintro e w1 ⟨rfl,c1⟩
 have hb1:=hb0.chg0 c1
 clear x0 x1 x2 x3 x4
 obtain⟨x0,x1,x2,x3,x4⟩:=Blk5 hb1
 have HT:=zH (ct.nil c1)
 clear hp hb0 ct c1 hc0 HC0 hb1
 cases q1:mayPix s n with
 | false=>
  have Q1:=zH q1
  clear q1
  go_wp2_with fail
  go_ret
  exact⟨by simp only[Q1.out,Bool.false_and];rfl,HT.out⟩
 | true=>
  have Q1:=zH q1
  clear q1
  cases q2:decide (s.w≤8) with
  | false=>
   have Q2:=zH q2
   go_wp2_with fail
   go_ret
   exact⟨by simp only[Q1.out,Q2.out,Bool.true_and,Bool.false_and];rfl,HT.out⟩
  | true=>
   have Q2:=zH q2
   go_wp2_with fail
   go_ret
   exact⟨by simp only[Q1.out,Q2.out,Bool.true_and];rfl,HT.out⟩
set_option maxRecDepth 100000 in
theorem ibytes_ok (w:World) (s:ShpD) (pv:Value) (px:List UInt8) (hv:Sees w 1 pv px.length (Bs px)) (hn:px.length≤1000000000):
  Calls Tryz.prog 366 #[rasV s pv] w fun e w'=>∃v',e=.returned v'∧Sees w' 1 v' (tileB s px).length (Bs (tileB s px))∧Chg [] w w':=by
 obtain⟨ao,cap,rfl,-⟩:=hv.shape
 obtain⟨K,hK⟩:∃K,w.heap.size=K:=⟨_,rfl⟩
 obtain⟨n,hln⟩:∃n,px.length=n:=⟨_,rfl⟩
 rw[hln] at hv hn ⊢
 have hc0:Chg [] w (w.alloc (.cells #[.int .i64 s.w,.int .i64 s.h,.int .i64 s.c,.int .i64 s.d,.slice ao n cap] 270)):=(Chg.refl [] w).alloc _
 have hb0:Blk (w.alloc (.cells #[.int .i64 s.w,.int .i64 s.h,.int .i64 s.c,.int .i64 s.d,.slice ao n cap] 270)) K #[.int .i64 s.w,.int .i64 s.h,.int .i64 s.c,.int .i64 s.d,.slice ao n cap] 270:=Blk.new_at w _ _ hK
 have hm:=fun w'=>imay_ok w' s ao n cap (by omega)
 cases hM:mayTile s n with
 | false=>
  have e:tileB s px=[]:=by unfold tileB;rw[hln,hM];rfl
  rw[e]
  rw[hM] at hm
  unfold rasV at *
  have HC0:=zH hc0
  clear hM e hv hn hc0 hln
  obtain⟨x0,x1,x2,x3,x4⟩:=Blk5 hb0
  go_enter Tryz.func366,Tryz.ntmps366
  go_wp2_with fail
  refine (hm _).mono ?_
  rintro e w1 ⟨rfl,c1⟩
  clear hm x0 x1 x2 x3 x4
  go_wp2_with fail
  go_ret
  exact⟨_,rfl,Sees.nil _ _,HC0.out.tr c1⟩
 | true=>
  have hmp:mayPix s n=true:=((mayTile_iff s _).1 hM).1
  have e:tileB s px=1::encP s px:=by unfold tileB;rw[hln,hM];rfl
  have hel:=encP_len s px
  rw[hln] at hel
  have hns:n≤16384:=by
   have h1:=(mayPix_iff s n).1 hmp
   have h2:=h1.1
   unfold maySh at h2
   simp only[Bool.and_eq_true,decide_eq_true_eq] at h2
   omega
  rw[e]
  rw[hM] at hm
  have he:=fun w' (c:Chg [] w w')=>enc_good s (.slice ao n cap) n px w' (hv.chg0 c) hmp
  unfold rasV at *
  have HC0:=zH hc0
  have HE:=zA hel hns
  clear hM e hv hn hc0 hln hmp hns
  obtain⟨x0,x1,x2,x3,x4⟩:=Blk5 hb0
  go_enter Tryz.func366,Tryz.ntmps366
  go_wp2_with fail
  have ct:=HC0.out
  generalize w.alloc (.cells #[.int .i64 s.w,.int .i64 s.h,.int .i64 s.c,.int .i64 s.d,.slice ao n cap] 270)=w0 at *
  refine (hm _).mono ?_
  rintro e w1 ⟨rfl,c1⟩
  have hb1:=hb0.chg0 c1
  have ct1:=ct.nil c1
  clear hm x0 x1 x2 x3 x4
  obtain⟨x0,x1,x2,x3,x4⟩:=Blk5 hb1
  have he1:=he w1 ct1
  have HT:=zH ct1
  clear he hb0 ct c1 HC0 hb1 ct1
  go_wp2_with fail
  refine he1.mono ?_
  rintro e w2 ⟨v1,rfl,hs1,hnew,c2⟩
  obtain⟨ao1,cap1,rfl,-⟩:=hs1.shape
  have hf1:Aq.Own (w2.alloc (.cells #[.int .u8 1] 5)) 5 1 (.slice (some ⟨w2.heap.size,0,none⟩) 1 1) 1 [.int .u8 1]:=pown_blk (Blk.new w2 _ _) rfl (by decide)
  have hsrc:=hs1.chg0 ((Chg.refl [] w2).alloc (.cells #[.int .u8 1] 5))
  have h1s:=one_Bs (encP s px)
  have HT2:=zH ((HT.out.nil c2).alloc (.cells #[.int .u8 1] 5))
  have HN:Hid (w.heap.size≤w2.heap.size):=(HT.out.nil c2).size
  clear he1 hs1 c2 hnew x0 x1 x2 x3 x4
  go_wp2_with (first
   | (at_builtin;refine wpList_app rfl _ _ 36 rfl sl_u8 hf1 rfl hsrc rfl h1s (by have:=HE.out.2;omega) (by have:=HE.out.2;omega) ?_;intro v2 w3 ho2 c3 n3)
   | fail)
  obtain⟨ao2,cap2,rfl,-⟩:=ho2.sees.shape
  go_wp2_with fail
  go_ret
  refine⟨_,rfl,?_,HT2.out.trans c3 (fun k hk=>?_)⟩
  ·have h:=ho2.sees
   have e1:(encP s px).length+1=1+(7+n):=by rw[HE.out.1];omega
   rw[e1]
   exact h
  ·simp[Value.ownBlock] at hk
   right;have:=HN.out;omega
theorem own_alloc1 (w:World) (b:List UInt8) (hb:b.length≤1000000):OwnB (w.alloc (.cells (Bs b).toArray 5)) (.slice (some ⟨w.heap.size,0,none⟩) b.length b.length) b:=by
 have h:=pown_blk (Blk.new w (Bs b).toArray 5) (n:=b.length) (by simp[Bs_length]) (by omega)
 unfold OwnB
 simpa using h
theorem wrap_u8_nat' (a:Nat) (h:a<256):IntKind.u8.wrap (a:Int)=(a:Int):=by
 simp only[IntKind.wrap,IntKind.bits,IntKind.signed]
 simp
 omega
set_option maxRecDepth 100000 in
theorem tbytes_yes (w:World) (W H C D:Nat) (hW:W<65536) (hH:H<65536) (hC:C<256) (hD:D<256) (l:List (List UInt8)) (v:Value) (n:Nat) (hn:l.length=n) (hv:Sees w 1 v n (names l)) (hb:n≤100000) (hs:∀k∈l,k.length≤1000000)
  (hm:mayTree ⟨⟨W,H,C,D⟩,l⟩=true):
  Calls Tryz.prog 372 #[.agg #[.int .i64 W,.int .i64 H,.int .i64 C,.int .i64 D,v]] w fun e w'=>∃v',e=.returned v'∧OwnB w' v' (([2]++beB W 2++beB H 2++[UInt8.ofNat C,UInt8.ofNat D])++rawKs l)∧Chg [] w w':=by
 obtain⟨R,hR⟩:∃R,([2]++beB W 2++beB H 2++[UInt8.ofNat C,UInt8.ofNat D])++rawKs l=R:=⟨_,rfl⟩
 rw[hR]
 have HR:=zH hR
 clear hR
 have hva:validAll l=true:=by unfold mayTree at hm;simp only[Bool.and_eq_true] at hm;exact hm.2
 have hma:=fun w' (c:Chg [] w w')=>tmay_ok w' ⟨⟨W,H,C,D⟩,l⟩ v n hn (hv.chg c (fun t _ ht'=>by simp at ht')) hb hs
 rw[hm] at hma
 unfold treeV at hma
 simp only at hma
 have hlt:=hv.lt (by decide)
 obtain⟨ao,cap,rfl,-⟩:=hv.shape
 obtain⟨K,hK⟩:∃K,w.heap.size=K:=⟨_,rfl⟩
 have hc0:Chg [] w (w.alloc (.cells #[.int .i64 W,.int .i64 H,.int .i64 C,.int .i64 D,.slice ao n cap] 271)):=(Chg.refl [] w).alloc _
 have hb0:Blk (w.alloc (.cells #[.int .i64 W,.int .i64 H,.int .i64 C,.int .i64 D,.slice ao n cap] 271)) K #[.int .i64 W,.int .i64 H,.int .i64 C,.int .i64 D,.slice ao n cap] 271:=Blk.new_at w _ _ hK
 have hm1:=hma _ hc0
 have a5:=wrap_u8_nat' C hC
 have a6:=wrap_u8_nat' D hD
 have uC:((UInt8.ofNat C).toNat:Int)=(C:Int):=by rw[Wd.u8n C hC]
 have uD:((UInt8.ofNat D).toNat:Int)=(D:Int):=by rw[Wd.u8n D hD]
 have HA:=zE hv hn hb hva hlt hK
 have HC0:=zH hc0
 have HU:=zA uC uD
 have HW:=zA hW hH
 obtain⟨x0,x1,x2,x3,x4⟩:=Blk5 hb0
 clear hn hv hs hb hm hma hva hlt hc0 uC uD hW hH hC hD
 go_enter Tryz.func372,Tryz.ntmps372
 go_wp2_with fail
 have ct:=HC0.out
 have hKs:K<(w.alloc (.cells #[.int .i64 W,.int .i64 H,.int .i64 C,.int .i64 D,.slice ao n cap] 271)).heap.size:=hb0.lt
 generalize w.alloc (.cells #[.int .i64 W,.int .i64 H,.int .i64 C,.int .i64 D,.slice ao n cap] 271)=w0 at *
 refine hm1.mono ?_
 rintro e w1 ⟨rfl,c1⟩
 have hb1:=hb0.chg0 c1
 have HT:=zA (ct.nil c1) (Nat.lt_of_lt_of_le hKs c1.size)
 clear hm1 x0 x1 x2 x3 x4 hb0 ct c1 HC0 hKs
 obtain⟨x0,x1,x2,x3,x4⟩:=Blk5 hb1
 go_upto_region 3 with (fail)
 refine wp_region_E [] (by kernel_rfl) ?_
 have c0:Chg [] w1 w1.drew:=(Chg.refl _ _).drew
 have hbE:=hb1.chg0 c0
 have HCE:=zH (HT.out.1.nil c0)
 have hEs:w1.drew.heap.size=w1.heap.size:=rfl
 have HEs:Hid (K<w1.drew.heap.size):=HT.out.2
 generalize w1.drew=wE at *
 clear x0 x1 x2 x3 x4 hb1 c0 HT hEs
 obtain⟨y0,y1,y2,y3,y4⟩:=Blk5 hbE
 have c0:Chg [] wE wE:=Chg.refl _ _
 refine tE 1 (.pointer (some ⟨K,0,none⟩)) c0 (fun w4 c4=>?_) ?_
 ·go_simp
 try simp only[Act.put,yA,yB,yC,yD,yE,yF]
 refine tE 2 (.pointer (some ⟨K,0,none⟩)) c0 (fun w4 c4=>?_) ?_
 ·go_simp
 try simp only[Act.put,yA,yB,yC,yD,yE,yF]
 refine tE 3 (.int .i64 W) c0 (fun w4 c4=>?_) ?_
 ·have z0:=c4.cell_some y0 (by simp)
  have z1:=c4.cell_some y1 (by simp)
  have z2:=c4.cell_some y2 (by simp)
  have z3:=c4.cell_some y3 (by simp)
  have z4:=c4.cell_some y4 (by simp)
  go_simp
 try simp only[Act.put,yA,yB,yC,yD,yE,yF]
 refine tE 5 (.pointer (some ⟨K,0,none⟩)) c0 (fun w4 c4=>?_) ?_
 ·go_simp
 try simp only[Act.put,yA,yB,yC,yD,yE,yF]
 refine tE 6 (.pointer (some ⟨K,1,none⟩)) c0 (fun w4 c4=>?_) ?_
 ·go_simp
 try simp only[Act.put,yA,yB,yC,yD,yE,yF]
 refine tE 7 (.int .i64 H) c0 (fun w4 c4=>?_) ?_
 ·have z0:=c4.cell_some y0 (by simp)
  have z1:=c4.cell_some y1 (by simp)
  have z2:=c4.cell_some y2 (by simp)
  have z3:=c4.cell_some y3 (by simp)
  have z4:=c4.cell_some y4 (by simp)
  go_simp
 try simp only[Act.put,yA,yB,yC,yD,yE,yF]
 clear y0 y1 y2 y3 y4
 refine oE 0 ?_
 go_simp
 have ho1:OwnB (wE.alloc (.cells #[.int .u8 2] 5)) (.slice (some ⟨wE.heap.size,0,none⟩) 1 1) [2]:=own_alloc1 wE [2] (by decide)
 have hf1:FB wE (wE.alloc (.cells #[.int .u8 2] 5)) (.slice (some ⟨wE.heap.size,0,none⟩) 1 1) [2]:=⟨ho1,c0.alloc _,fun k hk=>by simp[Value.ownBlock] at hk;omega⟩
 refine⟨hf1.chg,?_⟩
 generalize wE.alloc (.cells #[.int .u8 2] 5)=wA at *
 obtain⟨KK,hKK⟩:∃KK,wE.heap.size=KK:=⟨_,rfl⟩
 rw[hKK] at hf1
 try rw[hKK]
 clear ho1 hKK
 try simp only[Act.put,yA,yB,yC,yD,yE,yF]
 refine oE 4 ?_
 go_simp
 refine (onum_ok wE wA _ [2] W 2 hf1 (by decide) (by decide) (by decide) (by have:=HW.out.1;omega)).mono ?_
 rintro e wB ⟨v1,rfl,hf2⟩
 refine⟨hf2.chg,?_⟩
 obtain⟨b3,hb3⟩:∃b3,[2]++beB W 2=b3:=⟨_,rfl⟩
 have hb3l:b3.length=3:=by rw[←hb3];simp[beB_length]
 rw[hb3] at hf2
 have HB3:=zA hb3 hb3l
 clear hb3 hb3l
 obtain⟨ao1,cap1,rfl⟩:=hf2.shape
 try simp only[Act.put,yA,yB,yC,yD,yE,yF]
 refine oE 8 ?_
 go_simp
 refine (onum_ok wE wB _ b3 H 2 hf2 (by have:=HB3.out.2;omega) (by decide) (by decide) (by have:=HW.out.2;omega)).mono ?_
 rintro e wC ⟨v2,rfl,hf3⟩
 refine⟨hf3.chg,?_⟩
 obtain⟨b5,hb5⟩:∃b5,b3++beB H 2=b5:=⟨_,rfl⟩
 have hb5l:b5.length=5:=by rw[←hb5,List.length_append,HB3.out.2,beB_length]
 rw[hb5] at hf3
 have hb5:[2]++beB W 2++beB H 2=b5:=by rw[HB3.out.1];exact hb5
 obtain⟨ao2,cap2,rfl⟩:=hf3.shape
 skip
 try simp only[Act.put,yA,yB,yC,yD,yE,yF]
 refine tE 9 (.slice ao2 b5.length cap2) hf3.chg (fun w4 c4=>?_) ?_
 ·go_simp
 try simp only[Act.put,yA,yB,yC,yD,yE,yF]
 refine wpAnyE_done (by kernel_rfl) ?_ _
 have hbC:=hbE.chg0 hf3.chg
 have HF:=zB hf3 hb5 hb5l
 have HCC:=zH (HCE.out.nil hf3.chg)
 clear hf1 hf2 hf3 hbE c0 hb5 hb5l
 go_upto_region 4 with (fail)
 obtain⟨S,hS⟩:∃S,(Value.slice ao2 b5.length cap2).ownBlock.toList=S:=⟨_,rfl⟩
 refine wp_region_E S (by kernel_rfl) ?_
 have hSn:∀k∈S,K<k:=fun k hk=>by
  have h1:=HF.out.1.new k (by rw[hS];exact hk)
  have h2:=HEs.out
  omega
 have cD:Chg [] wC wC.drew:=(Chg.refl _ _).drew
 have hbD:=hbC.chg0 cD
 have hoD:OwnB wC.drew (.slice ao2 b5.length cap2) b5:=Aq.Own.chg HF.out.1.own cD (fun _ _=>by simp)
 have HCD:=zH (HCC.out.nil cD)
 have HSn:Hid (∀k∈S,K<k):=hSn
 have hKS:K∉S:=fun h=>by have:=hSn K h;omega
 clear hbC cD HCC hSn
 generalize wC.drew=wF at *
 obtain⟨y0,y1,y2,y3,y4⟩:=Blk5 hbD
 have c0:Chg S wF wF:=Chg.refl _ _
 have HSS:Hid ((Value.slice ao2 b5.length cap2).ownBlock.toList=S):=hS
 clear hS
 refine tE 0 (.slice ao2 b5.length cap2) c0 (fun w4 c4=>?_) ?_
 ·go_simp
 try simp only[Act.put,yA,yB,yC,yD,yE,yF]
 refine tE 1 (.pointer (some ⟨K,0,none⟩)) c0 (fun w4 c4=>?_) ?_
 ·go_simp
 try simp only[Act.put,yA,yB,yC,yD,yE,yF]
 refine tE 2 (.pointer (some ⟨K,2,none⟩)) c0 (fun w4 c4=>?_) ?_
 ·go_simp
 try simp only[Act.put,yA,yB,yC,yD,yE,yF]
 refine tE 3 (.int .i64 C) c0 (fun w4 c4=>?_) ?_
 ·have z0:=c4.cell_some y0 hKS
  have z1:=c4.cell_some y1 hKS
  have z2:=c4.cell_some y2 hKS
  have z3:=c4.cell_some y3 hKS
  have z4:=c4.cell_some y4 hKS
  go_simp
 try simp only[Act.put,yA,yB,yC,yD,yE,yF]
 refine tE 4 (.int .u8 C) c0 (fun w4 c4=>?_) ?_
 ·go_simp
 try simp only[Act.put,yA,yB,yC,yD,yE,yF]
 refine tE 5 (.pointer (some ⟨K,0,none⟩)) c0 (fun w4 c4=>?_) ?_
 ·go_simp
 try simp only[Act.put,yA,yB,yC,yD,yE,yF]
 refine tE 6 (.pointer (some ⟨K,3,none⟩)) c0 (fun w4 c4=>?_) ?_
 ·go_simp
 try simp only[Act.put,yA,yB,yC,yD,yE,yF]
 refine tE 7 (.int .i64 D) c0 (fun w4 c4=>?_) ?_
 ·have z0:=c4.cell_some y0 hKS
  have z1:=c4.cell_some y1 hKS
  have z2:=c4.cell_some y2 hKS
  have z3:=c4.cell_some y3 hKS
  have z4:=c4.cell_some y4 hKS
  go_simp
 try simp only[Act.put,yA,yB,yC,yD,yE,yF]
 refine tE 8 (.int .u8 D) c0 (fun w4 c4=>?_) ?_
 ·go_simp
 try simp only[Act.put,yA,yB,yC,yD,yE,yF]
 refine tE 11 (.pointer (some ⟨K,4,none⟩)) c0 (fun w4 c4=>?_) ?_
 ·go_simp
 try simp only[Act.put,yA,yB,yC,yD,yE,yF]
 refine tE 12 (.slice ao n cap) c0 (fun w4 c4=>?_) ?_
 ·have z0:=c4.cell_some y0 hKS
  have z1:=c4.cell_some y1 hKS
  have z2:=c4.cell_some y2 hKS
  have z3:=c4.cell_some y3 hKS
  have z4:=c4.cell_some y4 hKS
  go_simp
 try simp only[Act.put,yA,yB,yC,yD,yE,yF]
 clear y0 y1 y2 y3 y4
 refine oE 9 ?_
 go_simp
 have eB:(#[.int .u8 (C:Int),.int .u8 (D:Int)]:Array Value)=(Bs [UInt8.ofNat C,UInt8.ofNat D]).toArray:=by simp only[Bs,Bc,List.map_cons,List.map_nil,HU.out.1,HU.out.2]
 have hs9:Sees (wF.alloc (.cells #[.int .u8 (C:Int),.int .u8 (D:Int)] 5)) 1 (.slice (some ⟨wF.heap.size,0,none⟩) 2 2) 2 (Bs [UInt8.ofNat C,UInt8.ofNat D]):=by rw[eB];exact Sees.row (Blk.new wF (Bs [UInt8.ofNat C,UInt8.ofNat D]).toArray 5) (m:=2) rfl
 have c9:Chg [] wF (wF.alloc (.cells #[.int .u8 (C:Int),.int .u8 (D:Int)] 5)):=(Chg.refl _ _).alloc _
 have ho9:Aq.Own (wF.alloc (.cells #[.int .u8 (C:Int),.int .u8 (D:Int)] 5)) 5 1 (.slice ao2 b5.length cap2) b5.length (Bs b5):=Aq.Own.chg hoD c9 (fun _ _=>by simp)
 refine⟨c9.toS,?_⟩
 clear eB
 generalize wF.alloc (.cells #[.int .u8 (C:Int),.int .u8 (D:Int)] 5)=wG at *
 obtain⟨KK2,hKK2⟩:∃KK2,wF.heap.size=KK2:=⟨_,rfl⟩
 rw[hKK2] at hs9
 try rw[hKK2]
 clear hKK2
 try simp only[Act.put,yA,yB,yC,yD,yE,yF]
 refine oE 10 ?_
 refine wp_app _ _ 36 rfl sl_u8 ho9 rfl hs9 rfl (one_Bs _) (by have:=HF.out.2.2;omega) (by have:=HF.out.2.2;omega) ?_
 intro v10 w10 ho10 c10 n10
 rw[HSS.out] at c10 n10
 have cS10:Chg S wF w10:=c9.toS.tr c10
 refine⟨cS10,?_⟩
 have hB10:OwnB w10 v10 (b5++[UInt8.ofNat C,UInt8.ofNat D]):=OwnB.app ho10 rfl
 obtain⟨b7,hb7⟩:∃b7,b5++[UInt8.ofNat C,UInt8.ofNat D]=b7:=⟨_,rfl⟩
 have hb7l:b7.length=7:=by rw[←hb7,List.length_append,HF.out.2.2];rfl
 rw[hb7] at hB10
 have HB7:=zA hb7 hb7l
 clear hb7 hb7l ho10
 obtain⟨ao10,cap10,rfl⟩:=hB10.shape
 try simp only[Act.put,yA,yB,yC,yD,yE,yF]
 refine oE 13 ?_
 go_simp
 have hn10:∀k∈(Value.slice ao10 b7.length cap10).ownBlock.toList,K<k:=fun k hk=>by
  rcases n10 k hk with h | h
  ·exact HSn.out k h
  ·have h2:=c9.size;have h3:=HCD.out.size;have h4:=HA.out.2.2.2.2.2;have h5:=hbD.lt;omega
 have hx10:Sees w10 1 (.slice ao n cap) n (names l):=(HA.out.1.chg0 HCD.out).chg cS10 (fun t ht ht'=>by have h1:=HA.out.2.2.2.2.1 t ht;have h2:=HSn.out t ht';have h3:=HA.out.2.2.2.2.2;omega)
 refine (okeysU w10 _ b7 hB10 (by have:=HB7.out.2;omega) l (.slice ao n cap) n HA.out.2.1 hx10 (fun t ht ht'=>by have h1:=HA.out.2.2.2.2.1 t ht;have h2:=hn10 t ht';have h3:=HA.out.2.2.2.2.2;omega) HA.out.2.2.2.1 HA.out.2.2.1).mono ?_
 rintro e w13 ⟨v13,rfl,ho13,u13⟩
 have cS13:Chg S wF w13:=cS10.trans u13.chg (fun t ht=>by rcases n10 t ht with h | h;(exact .inl h);(right;have h2:=c9.size;omega))
 refine⟨cS13,?_⟩
 obtain⟨bL,hbL⟩:∃bL,b7++rawKs l=bL:=⟨_,rfl⟩
 rw[hbL] at ho13
 have HBL:=zH hbL
 clear hbL
 obtain⟨ao13,cap13,rfl⟩:=ho13.shape
 try simp only[Act.put,yA,yB,yC,yD,yE,yF]
 refine tE 14 (.slice ao13 bL.length cap13) cS13 (fun w4 c4=>?_) ?_
 ·go_simp
 try simp only[Act.put,yA,yB,yC,yD,yE,yF]
 refine wpAnyE_done (by kernel_rfl) ?_ _
 have HO:=zA ho13 cS13
 clear ho13 cS13 hx10 hB10
 go_wp2_with fail
 go_ret
 refine⟨_,rfl,?_,HCD.out.trans HO.out.2 (fun k hk=>.inr (by have h1:=HSn.out k hk;have h2:=HA.out.2.2.2.2.2;omega))⟩
 have e7:[2]++beB W 2++beB H 2++[UInt8.ofNat C,UInt8.ofNat D]=b7:=by rw[HF.out.2.1];exact HB7.out.1
 have eR:bL=R:=by rw[←HR.out,e7];exact HBL.out.symm
 rw[←eR]
 exact HO.out.1
theorem tbytes_ok (w:World) (t:TreeD) (v:Value) (n:Nat) (hn:t.keys.length=n) (hv:Sees w 1 v n (names t.keys)) (hb:n≤100000) (hs:∀k∈t.keys,k.length≤1000000):
  Calls Tryz.prog 372 #[treeV t v] w fun e w'=>∃v',e=.returned v'∧Sees w' 1 v' (treeB t).length (Bs (treeB t))∧Chg [] w w':=by
 cases hm:mayTree t with
 | false=>
  have e:treeB t=[]:=by unfold treeB;rw[hm];rfl
  rw[e]
  refine (tbytes_no w t v n hn hv hb hs hm).mono ?_
  rintro e w1 ⟨rfl,c1⟩
  exact⟨_,rfl,Sees.nil _ _,c1⟩
 | true=>
  have hnum:numsB t.shp=true:=by have h:=may_shape hm;unfold maySh at h;simp only[Bool.and_eq_true] at h;exact h.1
  obtain⟨hw,hh,hc,hd⟩:=(numsB_iff t.shp).1 hnum
  obtain⟨s,l⟩:=t
  simp only at hw hh hc hd
  obtain⟨W,hW⟩:∃W:Nat,s.w=W:=⟨s.w.toNat,by omega⟩
  obtain⟨H,hH⟩:∃H:Nat,s.h=H:=⟨s.h.toNat,by omega⟩
  obtain⟨C,hC⟩:∃C:Nat,s.c=C:=⟨s.c.toNat,by omega⟩
  obtain⟨D,hD⟩:∃D:Nat,s.d=D:=⟨s.d.toNat,by omega⟩
  obtain⟨sw,sh,sc,sd⟩:=s
  simp only at hW hH hC hD hw hh hc hd
  subst hW hH hC hD
  have e:treeB ⟨⟨W,H,C,D⟩,l⟩=([2]++beB W 2++beB H 2++[UInt8.ofNat C,UInt8.ofNat D])++rawKs l:=by
   unfold treeB
   rw[hm]
   simp[treeT]
  rw[e]
  refine (tbytes_yes w W H C D (by omega) (by omega) (by omega) (by omega) l v n hn hv hb hs hm).mono ?_
  rintro e w1 ⟨v',rfl,ho,c1⟩
  exact⟨v',rfl,Aq.Own.sees ho,c1⟩
end
end Go.Proofs.YtlidiclfpklliaaGreatDoor
