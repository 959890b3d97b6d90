/- A commit's bytes. No statement of the seat is proved here. -/
import Derived.Test.YtlidiclfpklliaaGreatDoorG35
set_option linter.unusedSimpArgs false
set_option linter.unusedVariables false
set_option maxHeartbeats 16000000
namespace Go.Aq
open Go.RowKit
section
variable {P:Program} {ops:Array Oper} {Q:Exit→Act→World→Prop} {md:Region.Mode} {S:List Nat} {w0:World}
theorem wpAnyE_three (i j k:Nat) {oi oj ok:Oper} {fuel:Nat} {listed:Array Bool} {a:Act} {w:World} (hi:ops[i]?=some oi) (hj:ops[j]?=some oj) (hk:ops[k]?=some ok) (hr:Region.ready md ops listed=[i,j,k])
  (hwi:Region.wanted oi (yielded ops a.tmps)=true) (hwj:Region.wanted oj (yielded ops a.tmps)=true) (hwk:Region.wanted ok (yielded ops a.tmps)=true)
  (h1:oi.wp P a w (fun a' w'=>Chg S w0 w'∧wpAnyE S w0 P md ops Q fuel (listed.setIfInBounds i true) a' w') Q)
  (h2:oj.wp P a w (fun a' w'=>Chg S w0 w'∧wpAnyE S w0 P md ops Q fuel (listed.setIfInBounds j true) a' w') Q)
  (h3:ok.wp P a w (fun a' w'=>Chg S w0 w'∧wpAnyE S w0 P md ops Q fuel (listed.setIfInBounds k true) a' w') Q):wpAnyE S w0 P md ops Q (fuel+1) listed a w:=by
 refine⟨fun h0=>(by rw[hr] at h0;cases h0),fun m hm=>?_⟩
 rw[hr] at hm
 simp only[List.mem_cons,List.not_mem_nil,or_false] at hm
 rcases hm with rfl | rfl | rfl
 ·unfold wpOp
  simp only[hi,hwi,if_true]
  exact .inl h1
 ·unfold wpOp
  simp only[hj,hwj,if_true]
  exact .inl h2
 ·unfold wpOp
  simp only[hk,hwk,if_true]
  exact .inl h3
end
end Go.Aq
namespace Go.Proofs.YtlidiclfpklliaaGreatDoor
open Go.RowKit Go.Aq Go.Aq.Fy
theorem rawKs_one (k:List UInt8):rawKs [k]=rawK k:=by simp[rawKs]
theorem eyN {W:World} {v:Value} {b:List UInt8} (h:OwnB W v b):Disj (eyes (.slice (some ⟨W.heap.size,0,none⟩) 1 1)) v.ownBlock.toList:=fun k hk hk'=>by
 simp[eyes] at hk
 have:=Aq.Own.lt h k hk'
 omega
theorem eyO {W:World} {v:Value} {n:Nat} {xs:List Value} (h:Sees W 1 v n xs):Disj (eyes v) (Value.slice (some ⟨W.heap.size,0,none⟩) 1 1).ownBlock.toList:=fun k hk hk'=>by
 simp[Value.ownBlock] at hk'
 have:=h.lt (by decide) k hk
 omega
def SzE (E:Nat) (w:World):Prop:=w.heap.size=E
theorem SzE.le {E k:Nat} {w:World} (s:SzE E w) (h:E≤k):w.heap.size≤k:=s▸h
theorem new0 {E:Nat} {wE W:World} (s:SzE E wE) (c:Chg [] wE W):Hid (∀k∈(Value.slice (some ⟨W.heap.size,0,none⟩) 1 1).ownBlock.toList,E≤k):=fun k hk=>by
 simp[Value.ownBlock] at hk
 rw[hk]
 exact s▸c.size
theorem new4 {E:Nat} {wE W W':World} {v v':Value} (s:SzE E wE) (c:Chg [] wE W) (u:UpdV W W' v v') (h:Hid (∀k∈v.ownBlock.toList,E≤k)):Hid (∀k∈v'.ownBlock.toList,E≤k):=fun k hk=>(u.new k hk).elim (h.out k) fun h2=>Nat.le_trans (s▸c.size) h2
theorem chg4 {E:Nat} {wE W W':World} {v v':Value} (s:SzE E wE) (c:Chg [] wE W) (u:UpdV W W' v v') (h:Hid (∀k∈v.ownBlock.toList,E≤k)):Chg [] wE W':=c.trans u.chg fun k hk=>.inr (s.le (h.out k hk))
theorem sees9 (W:World) (n:Nat) (h:((UInt8.ofNat n).toNat:Int)=(n:Int)):Sees (W.alloc (.cells #[.int .u8 (n:Int)] 5)) 1 (.slice (some ⟨W.heap.size,0,none⟩) 1 1) 1 (Bs [UInt8.ofNat n]):=by
 have e9:(#[.int .u8 (n:Int)]:Array Value)=(Bs [UInt8.ofNat n]).toArray:=by simp only[Bs,Bc,List.map_cons,List.map_nil,h]
 rw[e9]
 exact Sees.row (Blk.new W (Bs [UInt8.ofNat n]).toArray 5) (m:=1) rfl
theorem fin10 {w1 wE W w10:World} {K E:Nat} (s:SzE E wE) {b34:List UInt8} {v4:Value} {ao:Option Addr} {cap:Nat} (e34:b34.length=34) (h:OwnB w10 (.slice ao b34.length cap) b34) (hk:Hid (K<E)) (c:Chg [] wE W) (n4:Hid (∀k∈v4.ownBlock.toList,E≤k))
  (n10:∀k∈(Value.slice ao b34.length cap).ownBlock.toList,k∈v4.ownBlock.toList∨W.heap.size≤k) (c10:Chg [] w1 w10):
  ∃(ao3:Option Addr) (cap3:Nat),(Value.slice ao b34.length cap)=.slice ao3 34 cap3∧OwnB w10 (.slice ao3 34 cap3) b34∧(∀k∈(Value.slice ao3 34 cap3).ownBlock.toList,K<k)∧Chg [] w1 w10:=by
 rw[e34] at h n10 ⊢
 refine⟨ao,cap,rfl,h,fun k hk'=>?_,c10⟩
 have h1:=hk.out
 rcases n10 k hk' with h2 | h2
 ·have:=n4.out k h2;omega
 ·have h3:E≤W.heap.size:=s▸c.size
  omega
set_option maxRecDepth 100000 in
theorem cbytes_yes (w:World) (hT:Tabs w) (tr:List UInt8) (l:List (List UInt8)) (st:Nat) (au tx:List UInt8) (v:Value) (n:Nat) (hn:l.length=n) (hv:Sees w 1 v n (names l)) (hb:n≤100000) (hs:∀k∈l,k.length≤1000000)
  (hl1:tr.length≤1000000) (ha:au.length<65536) (hx:tx.length<65536) (hm:mayComm ⟨tr,l,(st:Int),au,tx⟩=true):
  Calls Tryz.prog 382 #[.agg #[.string (str tr),v,.int .i64 (st:Int),.string (str au),.string (str tx)]] w fun e w'=>∃v',e=.returned v'∧OwnB w' v' (((((([3]++rawK tr)++[UInt8.ofNat n])++rawKs l)++beB st 6)++(beB au.length 2++au))++(beB tx.length 2++tx))∧Chg [] w w':=by
 obtain⟨b33,h33⟩:∃b33,[3]++rawK tr=b33:=⟨_,rfl⟩
 obtain⟨b34,h34⟩:∃b34,b33++[UInt8.ofNat n]=b34:=⟨_,rfl⟩
 rw[h33,h34]
 obtain⟨R,hR⟩:∃R,((((b34++rawKs l)++beB st 6)++(beB au.length 2++au))++(beB tx.length 2++tx))=R:=⟨_,rfl⟩
 rw[hR]
 have HR:=zH hR
 clear hR
 have hm2:=hm
 unfold mayComm at hm2
 simp only[Bool.and_eq_true,decide_eq_true_eq,Bool.not_eq_true'] at hm2
 obtain⟨⟨⟨⟨⟨⟨⟨m1,m2⟩,m3⟩,-⟩,m5⟩,m6⟩,-⟩,-⟩:=hm2
 rw[hn] at m2
 have hst:st<2^(8 * 6):=by omega
 have hma:=fun w' (c:Chg [] w w')=>cmay_ok w' (hT.chg c) ⟨tr,l,(st:Int),au,tx⟩ v n hn (hv.chg0 c) hb hs hl1 (by simp only;omega) (by simp only;omega)
 rw[hm] at hma
 unfold commV at hma
 simp only at hma
 have hvt:validAll [tr]=true:=by unfold validAll;simp[m1]
 have hrl:(rawK tr).length=32:=(rawK_valid m1).2.1
 have hrsl:=rawKs_len l m3
 have e33:b33.length=33:=by rw[←h33,List.length_append,hrl];rfl
 have e34:b34.length=34:=by rw[←h34,List.length_append,e33];rfl
 have HB:=zC h33 e33 h34 e34
 clear h33 h34 e33 e34
 rw[hn] at hrsl
 have hlt:=hv.lt (by decide)
 obtain⟨ao,cap,rfl,-⟩:=hv.shape
 obtain⟨K,hK⟩:∃K,w.heap.size=K:=⟨_,rfl⟩
 have hc0:Chg [] w (w.alloc (.cells #[.string (str tr),.slice ao n cap,.int .i64 (st:Int),.string (str au),.string (str tx)] 273)):=(Chg.refl [] w).alloc _
 have hb0:Blk (w.alloc (.cells #[.string (str tr),.slice ao n cap,.int .i64 (st:Int),.string (str au),.string (str tx)] 273)) K #[.string (str tr),.slice ao n cap,.int .i64 (st:Int),.string (str au),.string (str tx)] 273:=Blk.new_at w _ _ hK
 have hm1:=hma _ hc0
 have a5:=wrap_u8_nat' n (by omega)
 have uN:((UInt8.ofNat n).toNat:Int)=(n:Int):=by rw[Wd.u8n n (by omega)]
 have HA:=zE hv hn hb m3 hlt hK
 have HL:=zE hrl hrsl m2 ha hx hst
 have HVT:=zH hvt
 have HC0:=zH hc0
 have HU:=zH uN
 obtain⟨x0,x1,x2,x3,x4⟩:=Blk5 hb0
 clear hn hv hs hb hm hma hlt hc0 uN hvt hrl hrsl m1 m2 m3 m5 m6 ha hx hst hl1 hT
 go_enter Tryz.func382,Tryz.ntmps382
 go_wp2_with fail
 have ct:=HC0.out
 have hKs:K<(w.alloc (.cells #[.string (str tr),.slice ao n cap,.int .i64 (st:Int),.string (str au),.string (str tx)] 273)).heap.size:=hb0.lt
 generalize w.alloc (.cells #[.string (str tr),.slice ao n cap,.int .i64 (st:Int),.string (str au),.string (str tx)] 273)=w0 at *
 refine hm1.mono ?_
 rintro e w1 ⟨rfl,c1⟩
 have hb1:=hb0.chg0 c1
 have HT:=zA (ct.nil c1) (Nat.lt_of_lt_of_le hKs c1.size)
 clear hm1 x0 x1 x2 x3 x4 hb0 ct c1 HC0 hKs
 obtain⟨x0,x1,x2,x3,x4⟩:=Blk5 hb1
 go_upto_region 3 with (fail)
 go_cut [3] from 7 to 18 (fun s wx=>∃(ao3:Option Addr) (cap3:Nat),s=.slice ao3 34 cap3∧OwnB wx (.slice ao3 34 cap3) b34∧(∀k∈(Value.slice ao3 34 cap3).ownBlock.toList,K<k)∧Chg [] w1 wx)
 case first=>
  refine wp_region_E [] (by kernel_rfl) ?_
  have c0:Chg [] w1 w1.drew:=(Chg.refl _ _).drew
  have hbE:=hb1.chg0 c0
  have HEs:Hid (K<w1.drew.heap.size):=HT.out.2
  have HC1:=zH c0
  generalize w1.drew=wE at *
  clear x0 x1 x2 x3 x4 hb1 c0 HT
  obtain⟨y0,y1,y2,y3,y4⟩:=Blk5 hbE
  have c0:Chg [] wE wE:=Chg.refl _ _
  refine tE 1 (.pointer (some ⟨K,0,none⟩)) c0 (fun w4 c4=>?_) ?_
  ·go_simp
  try simp only[Act.put,yA,yB,yC,yD,yE,yF]
  refine tE 2 (.string (str tr)) c0 (fun w4 c4=>?_) ?_
  ·have z0:=c4.cell_some y0 (by simp)
   go_simp
  try simp only[Act.put,yA,yB,yC,yD,yE,yF]
  refine tE 5 (.pointer (some ⟨K,1,none⟩)) c0 (fun w4 c4=>?_) ?_
  ·go_simp
  try simp only[Act.put,yA,yB,yC,yD,yE,yF]
  refine tE 6 (.slice ao n cap) c0 (fun w4 c4=>?_) ?_
  ·have z1:=c4.cell_some y1 (by simp)
   go_simp
  try simp only[Act.put,yA,yB,yC,yD,yE,yF]
  refine tE 7 (.int .i64 n) c0 (fun w4 c4=>?_) ?_
  ·go_simp
  try simp only[Act.put,yA,yB,yC,yD,yE,yF]
  refine tE 8 (.int .u8 n) c0 (fun w4 c4=>?_) ?_
  ·go_simp
  try simp only[Act.put,yA,yB,yC,yD,yE,yF]
  clear y0 y1 y2 y3 y4 hbE
  obtain⟨E,hsE⟩:∃E,SzE E wE:=⟨_,rfl⟩
  have hk0:Hid (K<E):=by have h1:=HEs.out;rw[show wE.heap.size=E from hsE] at h1;exact h1
  refine wpAnyE_three 0 3 9 rfl rfl rfl (by kernel_rfl) (by rfl) (by rfl) (by rfl) ?_ ?_ ?_
  ·skip
   go_simp
   have c3:Chg [] wE (wE.alloc (.cells #[.int .u8 3] 5)):=(Chg.refl _ _).alloc _
   have h2:OwnB (wE.alloc (.cells #[.int .u8 3] 5)) (.slice (some ⟨wE.heap.size,0,none⟩) 1 1) [3]:=own_alloc1 wE [3] (by decide)
   have nh2:=new0 hsE c0
   have c4:=c0.nil c3
   refine⟨c4,?_⟩
   generalize wE.alloc (.cells #[.int .u8 3] 5)=w1 at *
   generalize wE.heap.size=B5 at *
   clear c3
   try simp only[Act.put,yA,yB,yC,yD,yE,yF]
   refine wpAnyE_two 3 9 rfl rfl (by kernel_rfl) (by rfl) (by rfl) ?_ ?_
   ·skip
    go_simp
    have c8:Chg [] w1 (w1.alloc (.cells #[.string (str tr)] 9)):=(Chg.refl _ _).alloc _
    have h11:=Aq.Own.chg h2 c8 (fun _ _=>by simp)
    have h7:Sees (w1.alloc (.cells #[.string (str tr)] 9)) 1 (.slice (some ⟨w1.heap.size,0,none⟩) 1 1) 1 (names [tr]):=Sees.row (Blk.new _ _ _) (m:=1) rfl
    have d12:=eyN h2
    have c9:=c4.nil c8
    refine⟨c9,?_⟩
    generalize w1.alloc (.cells #[.string (str tr)] 9)=w6 at *
    generalize w1.heap.size=B10 at *
    clear c8
    try simp only[Act.put,yA,yB,yC,yD,yE,yF]
    refine wpAnyE_two 4 9 rfl rfl (by kernel_rfl) (by rfl) (by rfl) ?_ ?_
    ·skip
     go_simp
     refine (okeysU w6 _ [3] h11 (by decide) [tr] _ 1 rfl h7 d12 HVT.out (by decide)).mono ?_
     rintro e w13 ⟨v14,rfl,h15,u16⟩
     rw[rawKs_one,HB.out.1] at h15
     have n18:=new4 hsE c9 u16 nh2
     have c17:=chg4 hsE c9 u16 nh2
     refine⟨c17,?_⟩
     obtain⟨ao4,cap4,rfl⟩:=h15.shape
     clear u16
     try simp only[Act.put,yA,yB,yC,yD,yE,yF]
     refine oE 9 ?_
     go_simp
     have c21:Chg [] w13 (w13.alloc (.cells #[.int .u8 (n:Int)] 5)):=(Chg.refl _ _).alloc _
     have h24:=Aq.Own.chg h15 c21 (fun _ _=>by simp)
     have h20:Sees (w13.alloc (.cells #[.int .u8 (n:Int)] 5)) 1 (.slice (some ⟨w13.heap.size,0,none⟩) 1 1) 1 (Bs [UInt8.ofNat n]):=sees9 w13 n HU.out
     have c22:=c17.nil c21
     refine⟨c22,?_⟩
     generalize w13.alloc (.cells #[.int .u8 (n:Int)] 5)=w19 at *
     generalize w13.heap.size=B23 at *
     clear c21
     try simp only[Act.put,yA,yB,yC,yD,yE,yF]
     refine oE 10 ?_
     refine wp_app _ _ 36 rfl sl_u8 h24 rfl h20 rfl (one_Bs _) (by have:=HB.out.2.1;omega) (by have:=HB.out.2.1;omega) ?_
     intro v10 w10 ho10 c10 n10
     have cE10:=c22.trans c10 (fun k hk=>.inr (hsE.le (n18.out k hk)))
     refine⟨cE10,?_⟩
     have hB10:=OwnB.app ho10 (b:=[UInt8.ofNat n]) rfl
     rw[HB.out.2.2.1] at hB10
     clear ho10
     obtain⟨ao10,cap10,rfl⟩:=hB10.shape
     try simp only[Act.put,yA,yB,yC,yD,yE,yF]
     refine tE 11 (.slice ao10 b34.length cap10) cE10 (fun w4 c4=>?_) ?_
     ·go_simp
     try simp only[Act.put,yA,yB,yC,yD,yE,yF]
     refine wpAnyE_done (by kernel_rfl) ?_ _
     go_wp2_with fail
     go_meet
     exact fin10 hsE HB.out.2.2.2 hB10 hk0 c22 n18 n10 (HC1.out.nil cE10)
    ·skip
     go_simp
     have c27:Chg [] w6 (w6.alloc (.cells #[.int .u8 (n:Int)] 5)):=(Chg.refl _ _).alloc _
     have h30:=Aq.Own.chg h11 c27 (fun _ _=>by simp)
     have h31:=h7.chg0 c27
     have h26:Sees (w6.alloc (.cells #[.int .u8 (n:Int)] 5)) 1 (.slice (some ⟨w6.heap.size,0,none⟩) 1 1) 1 (Bs [UInt8.ofNat n]):=sees9 w6 n HU.out
     have d32:=eyN h11
     have c28:=c9.nil c27
     refine⟨c28,?_⟩
     generalize w6.alloc (.cells #[.int .u8 (n:Int)] 5)=w25 at *
     generalize w6.heap.size=B29 at *
     clear c27
     try simp only[Act.put,yA,yB,yC,yD,yE,yF]
     refine oE 4 ?_
     go_simp
     refine (okeysU w25 _ [3] h30 (by decide) [tr] _ 1 rfl h31 d12 HVT.out (by decide)).mono ?_
     rintro e w33 ⟨v34,rfl,h35,u36⟩
     rw[rawKs_one,HB.out.1] at h35
     have n38:=new4 hsE c28 u36 nh2
     have c37:=chg4 hsE c28 u36 nh2
     have h39:=h26.chg u36.chg d32
     refine⟨c37,?_⟩
     obtain⟨ao4,cap4,rfl⟩:=h35.shape
     clear u36
     try simp only[Act.put,yA,yB,yC,yD,yE,yF]
     refine oE 10 ?_
     refine wp_app _ _ 36 rfl sl_u8 h35 rfl h39 rfl (one_Bs _) (by have:=HB.out.2.1;omega) (by have:=HB.out.2.1;omega) ?_
     intro v10 w10 ho10 c10 n10
     have cE10:=c37.trans c10 (fun k hk=>.inr (hsE.le (n38.out k hk)))
     refine⟨cE10,?_⟩
     have hB10:=OwnB.app ho10 (b:=[UInt8.ofNat n]) rfl
     rw[HB.out.2.2.1] at hB10
     clear ho10
     obtain⟨ao10,cap10,rfl⟩:=hB10.shape
     try simp only[Act.put,yA,yB,yC,yD,yE,yF]
     refine tE 11 (.slice ao10 b34.length cap10) cE10 (fun w4 c4=>?_) ?_
     ·go_simp
     try simp only[Act.put,yA,yB,yC,yD,yE,yF]
     refine wpAnyE_done (by kernel_rfl) ?_ _
     go_wp2_with fail
     go_meet
     exact fin10 hsE HB.out.2.2.2 hB10 hk0 c37 n38 n10 (HC1.out.nil cE10)
   ·skip
    go_simp
    have c42:Chg [] w1 (w1.alloc (.cells #[.int .u8 (n:Int)] 5)):=(Chg.refl _ _).alloc _
    have h45:=Aq.Own.chg h2 c42 (fun _ _=>by simp)
    have h41:Sees (w1.alloc (.cells #[.int .u8 (n:Int)] 5)) 1 (.slice (some ⟨w1.heap.size,0,none⟩) 1 1) 1 (Bs [UInt8.ofNat n]):=sees9 w1 n HU.out
    have d46:=eyN h2
    have c43:=c4.nil c42
    refine⟨c43,?_⟩
    generalize w1.alloc (.cells #[.int .u8 (n:Int)] 5)=w40 at *
    generalize w1.heap.size=B44 at *
    clear c42
    try simp only[Act.put,yA,yB,yC,yD,yE,yF]
    refine oE 3 ?_
    go_simp
    have c49:Chg [] w40 (w40.alloc (.cells #[.string (str tr)] 9)):=(Chg.refl _ _).alloc _
    have h52:=Aq.Own.chg h45 c49 (fun _ _=>by simp)
    have h53:=h41.chg0 c49
    have h48:Sees (w40.alloc (.cells #[.string (str tr)] 9)) 1 (.slice (some ⟨w40.heap.size,0,none⟩) 1 1) 1 (names [tr]):=Sees.row (Blk.new _ _ _) (m:=1) rfl
    have d54:=eyN h45
    have c50:=c43.nil c49
    refine⟨c50,?_⟩
    generalize w40.alloc (.cells #[.string (str tr)] 9)=w47 at *
    generalize w40.heap.size=B51 at *
    clear c49
    try simp only[Act.put,yA,yB,yC,yD,yE,yF]
    refine oE 4 ?_
    go_simp
    refine (okeysU w47 _ [3] h52 (by decide) [tr] _ 1 rfl h48 d54 HVT.out (by decide)).mono ?_
    rintro e w55 ⟨v56,rfl,h57,u58⟩
    rw[rawKs_one,HB.out.1] at h57
    have n60:=new4 hsE c50 u58 nh2
    have c59:=chg4 hsE c50 u58 nh2
    have h61:=h53.chg u58.chg d46
    refine⟨c59,?_⟩
    obtain⟨ao4,cap4,rfl⟩:=h57.shape
    clear u58
    try simp only[Act.put,yA,yB,yC,yD,yE,yF]
    refine oE 10 ?_
    refine wp_app _ _ 36 rfl sl_u8 h57 rfl h61 rfl (one_Bs _) (by have:=HB.out.2.1;omega) (by have:=HB.out.2.1;omega) ?_
    intro v10 w10 ho10 c10 n10
    have cE10:=c59.trans c10 (fun k hk=>.inr (hsE.le (n60.out k hk)))
    refine⟨cE10,?_⟩
    have hB10:=OwnB.app ho10 (b:=[UInt8.ofNat n]) rfl
    rw[HB.out.2.2.1] at hB10
    clear ho10
    obtain⟨ao10,cap10,rfl⟩:=hB10.shape
    try simp only[Act.put,yA,yB,yC,yD,yE,yF]
    refine tE 11 (.slice ao10 b34.length cap10) cE10 (fun w4 c4=>?_) ?_
    ·go_simp
    try simp only[Act.put,yA,yB,yC,yD,yE,yF]
    refine wpAnyE_done (by kernel_rfl) ?_ _
    go_wp2_with fail
    go_meet
    exact fin10 hsE HB.out.2.2.2 hB10 hk0 c59 n60 n10 (HC1.out.nil cE10)
  ·skip
   go_simp
   have c64:Chg [] wE (wE.alloc (.cells #[.string (str tr)] 9)):=(Chg.refl _ _).alloc _
   have h63:Sees (wE.alloc (.cells #[.string (str tr)] 9)) 1 (.slice (some ⟨wE.heap.size,0,none⟩) 1 1) 1 (names [tr]):=Sees.row (Blk.new _ _ _) (m:=1) rfl
   have c65:=c0.nil c64
   refine⟨c65,?_⟩
   generalize wE.alloc (.cells #[.string (str tr)] 9)=w62 at *
   generalize wE.heap.size=B66 at *
   clear c64
   try simp only[Act.put,yA,yB,yC,yD,yE,yF]
   refine wpAnyE_two 0 9 rfl rfl (by kernel_rfl) (by rfl) (by rfl) ?_ ?_
   ·skip
    go_simp
    have c69:Chg [] w62 (w62.alloc (.cells #[.int .u8 3] 5)):=(Chg.refl _ _).alloc _
    have h72:=h63.chg0 c69
    have h68:OwnB (w62.alloc (.cells #[.int .u8 3] 5)) (.slice (some ⟨w62.heap.size,0,none⟩) 1 1) [3]:=own_alloc1 w62 [3] (by decide)
    have nh68:=new0 hsE c65
    have d73:=eyO h63
    have c70:=c65.nil c69
    refine⟨c70,?_⟩
    generalize w62.alloc (.cells #[.int .u8 3] 5)=w67 at *
    generalize w62.heap.size=B71 at *
    clear c69
    try simp only[Act.put,yA,yB,yC,yD,yE,yF]
    refine wpAnyE_two 4 9 rfl rfl (by kernel_rfl) (by rfl) (by rfl) ?_ ?_
    ·skip
     go_simp
     refine (okeysU w67 _ [3] h68 (by decide) [tr] _ 1 rfl h72 d73 HVT.out (by decide)).mono ?_
     rintro e w74 ⟨v75,rfl,h76,u77⟩
     rw[rawKs_one,HB.out.1] at h76
     have n79:=new4 hsE c70 u77 nh68
     have c78:=chg4 hsE c70 u77 nh68
     refine⟨c78,?_⟩
     obtain⟨ao4,cap4,rfl⟩:=h76.shape
     clear u77
     try simp only[Act.put,yA,yB,yC,yD,yE,yF]
     refine oE 9 ?_
     go_simp
     have c82:Chg [] w74 (w74.alloc (.cells #[.int .u8 (n:Int)] 5)):=(Chg.refl _ _).alloc _
     have h85:=Aq.Own.chg h76 c82 (fun _ _=>by simp)
     have h81:Sees (w74.alloc (.cells #[.int .u8 (n:Int)] 5)) 1 (.slice (some ⟨w74.heap.size,0,none⟩) 1 1) 1 (Bs [UInt8.ofNat n]):=sees9 w74 n HU.out
     have c83:=c78.nil c82
     refine⟨c83,?_⟩
     generalize w74.alloc (.cells #[.int .u8 (n:Int)] 5)=w80 at *
     generalize w74.heap.size=B84 at *
     clear c82
     try simp only[Act.put,yA,yB,yC,yD,yE,yF]
     refine oE 10 ?_
     refine wp_app _ _ 36 rfl sl_u8 h85 rfl h81 rfl (one_Bs _) (by have:=HB.out.2.1;omega) (by have:=HB.out.2.1;omega) ?_
     intro v10 w10 ho10 c10 n10
     have cE10:=c83.trans c10 (fun k hk=>.inr (hsE.le (n79.out k hk)))
     refine⟨cE10,?_⟩
     have hB10:=OwnB.app ho10 (b:=[UInt8.ofNat n]) rfl
     rw[HB.out.2.2.1] at hB10
     clear ho10
     obtain⟨ao10,cap10,rfl⟩:=hB10.shape
     try simp only[Act.put,yA,yB,yC,yD,yE,yF]
     refine tE 11 (.slice ao10 b34.length cap10) cE10 (fun w4 c4=>?_) ?_
     ·go_simp
     try simp only[Act.put,yA,yB,yC,yD,yE,yF]
     refine wpAnyE_done (by kernel_rfl) ?_ _
     go_wp2_with fail
     go_meet
     exact fin10 hsE HB.out.2.2.2 hB10 hk0 c83 n79 n10 (HC1.out.nil cE10)
    ·skip
     go_simp
     have c88:Chg [] w67 (w67.alloc (.cells #[.int .u8 (n:Int)] 5)):=(Chg.refl _ _).alloc _
     have h91:=h72.chg0 c88
     have h92:=Aq.Own.chg h68 c88 (fun _ _=>by simp)
     have h87:Sees (w67.alloc (.cells #[.int .u8 (n:Int)] 5)) 1 (.slice (some ⟨w67.heap.size,0,none⟩) 1 1) 1 (Bs [UInt8.ofNat n]):=sees9 w67 n HU.out
     have d93:=eyN h68
     have c89:=c70.nil c88
     refine⟨c89,?_⟩
     generalize w67.alloc (.cells #[.int .u8 (n:Int)] 5)=w86 at *
     generalize w67.heap.size=B90 at *
     clear c88
     try simp only[Act.put,yA,yB,yC,yD,yE,yF]
     refine oE 4 ?_
     go_simp
     refine (okeysU w86 _ [3] h92 (by decide) [tr] _ 1 rfl h91 d73 HVT.out (by decide)).mono ?_
     rintro e w94 ⟨v95,rfl,h96,u97⟩
     rw[rawKs_one,HB.out.1] at h96
     have n99:=new4 hsE c89 u97 nh68
     have c98:=chg4 hsE c89 u97 nh68
     have h100:=h87.chg u97.chg d93
     refine⟨c98,?_⟩
     obtain⟨ao4,cap4,rfl⟩:=h96.shape
     clear u97
     try simp only[Act.put,yA,yB,yC,yD,yE,yF]
     refine oE 10 ?_
     refine wp_app _ _ 36 rfl sl_u8 h96 rfl h100 rfl (one_Bs _) (by have:=HB.out.2.1;omega) (by have:=HB.out.2.1;omega) ?_
     intro v10 w10 ho10 c10 n10
     have cE10:=c98.trans c10 (fun k hk=>.inr (hsE.le (n99.out k hk)))
     refine⟨cE10,?_⟩
     have hB10:=OwnB.app ho10 (b:=[UInt8.ofNat n]) rfl
     rw[HB.out.2.2.1] at hB10
     clear ho10
     obtain⟨ao10,cap10,rfl⟩:=hB10.shape
     try simp only[Act.put,yA,yB,yC,yD,yE,yF]
     refine tE 11 (.slice ao10 b34.length cap10) cE10 (fun w4 c4=>?_) ?_
     ·go_simp
     try simp only[Act.put,yA,yB,yC,yD,yE,yF]
     refine wpAnyE_done (by kernel_rfl) ?_ _
     go_wp2_with fail
     go_meet
     exact fin10 hsE HB.out.2.2.2 hB10 hk0 c98 n99 n10 (HC1.out.nil cE10)
   ·skip
    go_simp
    have c103:Chg [] w62 (w62.alloc (.cells #[.int .u8 (n:Int)] 5)):=(Chg.refl _ _).alloc _
    have h106:=h63.chg0 c103
    have h102:Sees (w62.alloc (.cells #[.int .u8 (n:Int)] 5)) 1 (.slice (some ⟨w62.heap.size,0,none⟩) 1 1) 1 (Bs [UInt8.ofNat n]):=sees9 w62 n HU.out
    have c104:=c65.nil c103
    refine⟨c104,?_⟩
    generalize w62.alloc (.cells #[.int .u8 (n:Int)] 5)=w101 at *
    generalize w62.heap.size=B105 at *
    clear c103
    try simp only[Act.put,yA,yB,yC,yD,yE,yF]
    refine oE 0 ?_
    go_simp
    have c109:Chg [] w101 (w101.alloc (.cells #[.int .u8 3] 5)):=(Chg.refl _ _).alloc _
    have h112:=h106.chg0 c109
    have h113:=h102.chg0 c109
    have h108:OwnB (w101.alloc (.cells #[.int .u8 3] 5)) (.slice (some ⟨w101.heap.size,0,none⟩) 1 1) [3]:=own_alloc1 w101 [3] (by decide)
    have nh108:=new0 hsE c104
    have d114:=eyO h106
    have d115:=eyO h102
    have c110:=c104.nil c109
    refine⟨c110,?_⟩
    generalize w101.alloc (.cells #[.int .u8 3] 5)=w107 at *
    generalize w101.heap.size=B111 at *
    clear c109
    try simp only[Act.put,yA,yB,yC,yD,yE,yF]
    refine oE 4 ?_
    go_simp
    refine (okeysU w107 _ [3] h108 (by decide) [tr] _ 1 rfl h112 d114 HVT.out (by decide)).mono ?_
    rintro e w116 ⟨v117,rfl,h118,u119⟩
    rw[rawKs_one,HB.out.1] at h118
    have n121:=new4 hsE c110 u119 nh108
    have c120:=chg4 hsE c110 u119 nh108
    have h122:=h113.chg u119.chg d115
    refine⟨c120,?_⟩
    obtain⟨ao4,cap4,rfl⟩:=h118.shape
    clear u119
    try simp only[Act.put,yA,yB,yC,yD,yE,yF]
    refine oE 10 ?_
    refine wp_app _ _ 36 rfl sl_u8 h118 rfl h122 rfl (one_Bs _) (by have:=HB.out.2.1;omega) (by have:=HB.out.2.1;omega) ?_
    intro v10 w10 ho10 c10 n10
    have cE10:=c120.trans c10 (fun k hk=>.inr (hsE.le (n121.out k hk)))
    refine⟨cE10,?_⟩
    have hB10:=OwnB.app ho10 (b:=[UInt8.ofNat n]) rfl
    rw[HB.out.2.2.1] at hB10
    clear ho10
    obtain⟨ao10,cap10,rfl⟩:=hB10.shape
    try simp only[Act.put,yA,yB,yC,yD,yE,yF]
    refine tE 11 (.slice ao10 b34.length cap10) cE10 (fun w4 c4=>?_) ?_
    ·go_simp
    try simp only[Act.put,yA,yB,yC,yD,yE,yF]
    refine wpAnyE_done (by kernel_rfl) ?_ _
    go_wp2_with fail
    go_meet
    exact fin10 hsE HB.out.2.2.2 hB10 hk0 c120 n121 n10 (HC1.out.nil cE10)
  ·skip
   go_simp
   have c125:Chg [] wE (wE.alloc (.cells #[.int .u8 (n:Int)] 5)):=(Chg.refl _ _).alloc _
   have h124:Sees (wE.alloc (.cells #[.int .u8 (n:Int)] 5)) 1 (.slice (some ⟨wE.heap.size,0,none⟩) 1 1) 1 (Bs [UInt8.ofNat n]):=sees9 wE n HU.out
   have c126:=c0.nil c125
   refine⟨c126,?_⟩
   generalize wE.alloc (.cells #[.int .u8 (n:Int)] 5)=w123 at *
   generalize wE.heap.size=B127 at *
   clear c125
   try simp only[Act.put,yA,yB,yC,yD,yE,yF]
   refine wpAnyE_two 0 3 rfl rfl (by kernel_rfl) (by rfl) (by rfl) ?_ ?_
   ·skip
    go_simp
    have c130:Chg [] w123 (w123.alloc (.cells #[.int .u8 3] 5)):=(Chg.refl _ _).alloc _
    have h133:=h124.chg0 c130
    have h129:OwnB (w123.alloc (.cells #[.int .u8 3] 5)) (.slice (some ⟨w123.heap.size,0,none⟩) 1 1) [3]:=own_alloc1 w123 [3] (by decide)
    have nh129:=new0 hsE c126
    have d134:=eyO h124
    have c131:=c126.nil c130
    refine⟨c131,?_⟩
    generalize w123.alloc (.cells #[.int .u8 3] 5)=w128 at *
    generalize w123.heap.size=B132 at *
    clear c130
    try simp only[Act.put,yA,yB,yC,yD,yE,yF]
    refine oE 3 ?_
    go_simp
    have c137:Chg [] w128 (w128.alloc (.cells #[.string (str tr)] 9)):=(Chg.refl _ _).alloc _
    have h140:=h133.chg0 c137
    have h141:=Aq.Own.chg h129 c137 (fun _ _=>by simp)
    have h136:Sees (w128.alloc (.cells #[.string (str tr)] 9)) 1 (.slice (some ⟨w128.heap.size,0,none⟩) 1 1) 1 (names [tr]):=Sees.row (Blk.new _ _ _) (m:=1) rfl
    have d142:=eyN h129
    have c138:=c131.nil c137
    refine⟨c138,?_⟩
    generalize w128.alloc (.cells #[.string (str tr)] 9)=w135 at *
    generalize w128.heap.size=B139 at *
    clear c137
    try simp only[Act.put,yA,yB,yC,yD,yE,yF]
    refine oE 4 ?_
    go_simp
    refine (okeysU w135 _ [3] h141 (by decide) [tr] _ 1 rfl h136 d142 HVT.out (by decide)).mono ?_
    rintro e w143 ⟨v144,rfl,h145,u146⟩
    rw[rawKs_one,HB.out.1] at h145
    have n148:=new4 hsE c138 u146 nh129
    have c147:=chg4 hsE c138 u146 nh129
    have h149:=h140.chg u146.chg d134
    refine⟨c147,?_⟩
    obtain⟨ao4,cap4,rfl⟩:=h145.shape
    clear u146
    try simp only[Act.put,yA,yB,yC,yD,yE,yF]
    refine oE 10 ?_
    refine wp_app _ _ 36 rfl sl_u8 h145 rfl h149 rfl (one_Bs _) (by have:=HB.out.2.1;omega) (by have:=HB.out.2.1;omega) ?_
    intro v10 w10 ho10 c10 n10
    have cE10:=c147.trans c10 (fun k hk=>.inr (hsE.le (n148.out k hk)))
    refine⟨cE10,?_⟩
    have hB10:=OwnB.app ho10 (b:=[UInt8.ofNat n]) rfl
    rw[HB.out.2.2.1] at hB10
    clear ho10
    obtain⟨ao10,cap10,rfl⟩:=hB10.shape
    try simp only[Act.put,yA,yB,yC,yD,yE,yF]
    refine tE 11 (.slice ao10 b34.length cap10) cE10 (fun w4 c4=>?_) ?_
    ·go_simp
    try simp only[Act.put,yA,yB,yC,yD,yE,yF]
    refine wpAnyE_done (by kernel_rfl) ?_ _
    go_wp2_with fail
    go_meet
    exact fin10 hsE HB.out.2.2.2 hB10 hk0 c147 n148 n10 (HC1.out.nil cE10)
   ·skip
    go_simp
    have c152:Chg [] w123 (w123.alloc (.cells #[.string (str tr)] 9)):=(Chg.refl _ _).alloc _
    have h155:=h124.chg0 c152
    have h151:Sees (w123.alloc (.cells #[.string (str tr)] 9)) 1 (.slice (some ⟨w123.heap.size,0,none⟩) 1 1) 1 (names [tr]):=Sees.row (Blk.new _ _ _) (m:=1) rfl
    have c153:=c126.nil c152
    refine⟨c153,?_⟩
    generalize w123.alloc (.cells #[.string (str tr)] 9)=w150 at *
    generalize w123.heap.size=B154 at *
    clear c152
    try simp only[Act.put,yA,yB,yC,yD,yE,yF]
    refine oE 0 ?_
    go_simp
    have c158:Chg [] w150 (w150.alloc (.cells #[.int .u8 3] 5)):=(Chg.refl _ _).alloc _
    have h161:=h155.chg0 c158
    have h162:=h151.chg0 c158
    have h157:OwnB (w150.alloc (.cells #[.int .u8 3] 5)) (.slice (some ⟨w150.heap.size,0,none⟩) 1 1) [3]:=own_alloc1 w150 [3] (by decide)
    have nh157:=new0 hsE c153
    have d163:=eyO h151
    have d164:=eyO h155
    have c159:=c153.nil c158
    refine⟨c159,?_⟩
    generalize w150.alloc (.cells #[.int .u8 3] 5)=w156 at *
    generalize w150.heap.size=B160 at *
    clear c158
    try simp only[Act.put,yA,yB,yC,yD,yE,yF]
    refine oE 4 ?_
    go_simp
    refine (okeysU w156 _ [3] h157 (by decide) [tr] _ 1 rfl h162 d163 HVT.out (by decide)).mono ?_
    rintro e w165 ⟨v166,rfl,h167,u168⟩
    rw[rawKs_one,HB.out.1] at h167
    have n170:=new4 hsE c159 u168 nh157
    have c169:=chg4 hsE c159 u168 nh157
    have h171:=h161.chg u168.chg d164
    refine⟨c169,?_⟩
    obtain⟨ao4,cap4,rfl⟩:=h167.shape
    clear u168
    try simp only[Act.put,yA,yB,yC,yD,yE,yF]
    refine oE 10 ?_
    refine wp_app _ _ 36 rfl sl_u8 h167 rfl h171 rfl (one_Bs _) (by have:=HB.out.2.1;omega) (by have:=HB.out.2.1;omega) ?_
    intro v10 w10 ho10 c10 n10
    have cE10:=c169.trans c10 (fun k hk=>.inr (hsE.le (n170.out k hk)))
    refine⟨cE10,?_⟩
    have hB10:=OwnB.app ho10 (b:=[UInt8.ofNat n]) rfl
    rw[HB.out.2.2.1] at hB10
    clear ho10
    obtain⟨ao10,cap10,rfl⟩:=hB10.shape
    try simp only[Act.put,yA,yB,yC,yD,yE,yF]
    refine tE 11 (.slice ao10 b34.length cap10) cE10 (fun w4 c4=>?_) ?_
    ·go_simp
    try simp only[Act.put,yA,yB,yC,yD,yE,yF]
    refine wpAnyE_done (by kernel_rfl) ?_ _
    go_wp2_with fail
    go_meet
    exact fin10 hsE HB.out.2.2.2 hB10 hk0 c169 n170 n10 (HC1.out.nil cE10)
 case rest=>
  obtain⟨ao3,cap3,rfl,ho3,hk3,c3⟩:=hcut
  generalize wc=w3 at *
  have hb3:=hb1.chg0 c3
  have HC3:=zH (HT.out.1.nil c3)
  have hK3:K<w3.heap.size:=Nat.lt_of_lt_of_le HT.out.2 c3.size
  clear x0 x1 x2 x3 x4 hb1 HT c3
  go_upto_region 4 with (fail)
  obtain⟨S,hS⟩:∃S,(Value.slice ao3 34 cap3).ownBlock.toList=S:=⟨_,rfl⟩
  refine wp_region_E S (by kernel_rfl) ?_
  rw[hS] at hk3
  have cD:Chg [] w3 w3.drew:=(Chg.refl _ _).drew
  have hbD:=hb3.chg0 cD
  have hoD:OwnB w3.drew (.slice ao3 34 cap3) b34:=Aq.Own.chg ho3 cD (fun _ _=>by simp)
  have HCD:=zH (HC3.out.nil cD)
  have HSn:Hid (∀k∈S,K<k):=hk3
  have hKS:K∉S:=fun h=>by have:=hk3 K h;omega
  have HKF:Hid (K<w3.drew.heap.size):=hK3
  clear hb3 cD HC3 hk3 hK3 ho3
  generalize w3.drew=wF at *
  obtain⟨y0,y1,y2,y3,y4⟩:=Blk5 hbD
  have c0:Chg S wF wF:=Chg.refl _ _
  have HSS:Hid ((Value.slice ao3 34 cap3).ownBlock.toList=S):=hS
  have HBB:Hid (True∧b34.length=34):=⟨trivial,HB.out.2.2.2⟩
  clear hS hbD
  refine tE 0 (.slice ao3 34 cap3) c0 (fun w4 c4=>?_) ?_
  ·go_simp
  try simp only[Act.put,yA,yB,yC,yD,yE,yF]
  refine tE 1 (.pointer (some ⟨K,1,none⟩)) c0 (fun w4 c4=>?_) ?_
  ·go_simp
  try simp only[Act.put,yA,yB,yC,yD,yE,yF]
  refine tE 2 (.slice ao n cap) c0 (fun w4 c4=>?_) ?_
  ·have z1:=c4.cell_some y1 hKS
   go_simp
  try simp only[Act.put,yA,yB,yC,yD,yE,yF]
  refine tE 4 (.pointer (some ⟨K,2,none⟩)) c0 (fun w4 c4=>?_) ?_
  ·go_simp
  try simp only[Act.put,yA,yB,yC,yD,yE,yF]
  refine tE 5 (.int .i64 (st:Int)) c0 (fun w4 c4=>?_) ?_
  ·have z2:=c4.cell_some y2 hKS
   go_simp
  try simp only[Act.put,yA,yB,yC,yD,yE,yF]
  refine tE 7 (.pointer (some ⟨K,3,none⟩)) c0 (fun w4 c4=>?_) ?_
  ·go_simp
  try simp only[Act.put,yA,yB,yC,yD,yE,yF]
  refine tE 8 (.string (str au)) c0 (fun w4 c4=>?_) ?_
  ·have z3:=c4.cell_some y3 hKS
   go_simp
  try simp only[Act.put,yA,yB,yC,yD,yE,yF]
  refine tE 10 (.pointer (some ⟨K,4,none⟩)) c0 (fun w4 c4=>?_) ?_
  ·go_simp
  try simp only[Act.put,yA,yB,yC,yD,yE,yF]
  refine tE 11 (.string (str tx)) c0 (fun w4 c4=>?_) ?_
  ·have z4:=c4.cell_some y4 hKS
   go_simp
  try simp only[Act.put,yA,yB,yC,yD,yE,yF]
  clear y0 y1 y2 y3 y4
  refine oE 3 ?_
  go_simp
  have hxF:Sees wF 1 (.slice ao n cap) n (names l):=HA.out.1.chg0 HCD.out
  refine (okeysU wF _ b34 hoD (by have:=HBB.out.2;omega) l (.slice ao n cap) n HA.out.2.1 hxF (fun t ht ht'=>by rw[HSS.out] at ht';have h1:=HA.out.2.2.2.2.1 t ht;have h2:=HSn.out t ht';have h3:=HA.out.2.2.2.2.2;omega) HA.out.2.2.2.1 HA.out.2.2.1).mono ?_
  rintro e wG ⟨vG,rfl,hoG,uG⟩
  unfold UpdV at uG
  rw[HSS.out] at uG
  clear hxF hoD
  refine⟨uG.chg,?_⟩
  have bG:Hid ((b34++rawKs l).length≤1000):=by show _≤_;rw[List.length_append,HBB.out.2,HL.out.2.1];have:=HL.out.2.2.1;omega
  generalize hG:b34++rawKs l=bG1 at *
  have HG:=zH hG
  clear hG
  obtain⟨aoG,capG,rfl⟩:=hoG.shape
  try simp only[Act.put,yA,yB,yC,yD,yE,yF]
  refine oE 6 ?_
  go_simp
  refine (onumU wG _ bG1 st 6 hoG (by have:=bG.out;omega) (by decide) (by decide) HL.out.2.2.2.2.2).mono ?_
  rintro e wH ⟨vH,rfl,hoH,uH'⟩
  have uH:=uG.trans uH'
  refine⟨uH.chg,?_⟩
  have bH:Hid ((bG1++beB st 6).length≤2000):=by show _≤_;rw[List.length_append,beB_length];have:=bG.out;omega
  generalize hH:bG1++beB st 6=bH1 at *
  have HH:=zH hH
  clear hH uH' uG hoG
  obtain⟨aoH,capH,rfl⟩:=hoH.shape
  try simp only[Act.put,yA,yB,yC,yD,yE,yF]
  refine oE 9 ?_
  go_simp
  refine (otextU wH _ bH1 hoH (by have:=bH.out;omega) au HL.out.2.2.2.1).mono ?_
  rintro e wI ⟨vI,rfl,hoI,uI'⟩
  have uI:=uH.trans uI'
  refine⟨uI.chg,?_⟩
  have bI:Hid ((bH1++(beB au.length 2++au)).length≤80000):=by show _≤_;rw[List.length_append,List.length_append,beB_length];have:=bH.out;have:=HL.out.2.2.2.1;omega
  generalize hI:bH1++(beB au.length 2++au)=bI1 at *
  have HI:=zH hI
  clear hI uI' uH hoH
  obtain⟨aoI,capI,rfl⟩:=hoI.shape
  try simp only[Act.put,yA,yB,yC,yD,yE,yF]
  refine oE 12 ?_
  go_simp
  refine (otextU wI _ bI1 hoI (by have:=bI.out;omega) tx HL.out.2.2.2.2.1).mono ?_
  rintro e wJ ⟨vJ,rfl,hoJ,uJ'⟩
  have uJ:=uI.trans uJ'
  refine⟨uJ.chg,?_⟩
  generalize hJ:bI1++(beB tx.length 2++tx)=bJ1 at *
  have HJ:=zH hJ
  clear hJ uJ' uI hoI
  obtain⟨aoJ,capJ,rfl⟩:=hoJ.shape
  try simp only[Act.put,yA,yB,yC,yD,yE,yF]
  refine tE 13 (.slice aoJ bJ1.length capJ) uJ.chg (fun w4 c4=>?_) ?_
  ·go_simp
  try simp only[Act.put,yA,yB,yC,yD,yE,yF]
  refine wpAnyE_done (by kernel_rfl) ?_ _
  have HO:=zA hoJ uJ.chg
  clear hoJ uJ
  go_wp2_with fail
  go_ret
  refine⟨_,rfl,?_,HCD.out.trans HO.out.2 (fun k hk=>.inr (by have h1:=HSn.out k hk;have h2:=HA.out.2.2.2.2.2;omega))⟩
  have eR:bJ1=R:=HR.out
  rw[←eR]
  exact HO.out.1
theorem cbytes_ok (w:World) (hT:Tabs w) (c:CommD) (v:Value) (n:Nat) (hn:c.pars.length=n) (hv:Sees w 1 v n (names c.pars)) (hb:n≤100000) (hs:∀k∈c.pars,k.length≤1000000) (hl1:c.tree.length≤1000000) (ha:c.author.length<65536) (hx:c.text.length<65536):
  Calls Tryz.prog 382 #[commV c v] w fun e w'=>∃v',e=.returned v'∧Sees w' 1 v' (commB c).length (Bs (commB c))∧Chg [] w w':=by
 cases hm:mayComm c with
 | false=>
  have e:commB c=[]:=by unfold commB;rw[hm];rfl
  rw[e]
  have hma:=fun w' (k:Chg [] w w')=>cmay_ok w' (hT.chg k) c v n hn (hv.chg0 k) hb hs hl1 (by omega) (by omega)
  rw[hm] at hma
  obtain⟨ao,cap,rfl,-⟩:=hv.shape
  unfold commV at *
  obtain⟨K,hK⟩:∃K,w.heap.size=K:=⟨_,rfl⟩
  have hc0:Chg [] w (w.alloc (.cells #[.string (str c.tree),.slice ao n cap,.int .i64 c.stamp,.string (str c.author),.string (str c.text)] 273)):=(Chg.refl [] w).alloc _
  have hb0:Blk (w.alloc (.cells #[.string (str c.tree),.slice ao n cap,.int .i64 c.stamp,.string (str c.author),.string (str c.text)] 273)) K #[.string (str c.tree),.slice ao n cap,.int .i64 c.stamp,.string (str c.author),.string (str c.text)] 273:=Blk.new_at w _ _ hK
  have hm1:=hma _ hc0
  obtain⟨x0,x1,x2,x3,x4⟩:=Blk5 hb0
  have HC0:=zH hc0
  clear hma hn hv hb hs hl1 ha hx hm e hT hb0 hc0
  go_enter Tryz.func382,Tryz.ntmps382
  go_wp2_with fail
  refine hm1.mono ?_
  rintro e w1 ⟨rfl,c1⟩
  clear hm1 x0 x1 x2 x3 x4
  go_wp2_with fail
  go_ret
  exact⟨_,rfl,Sees.nil _ _,HC0.out.tr c1⟩
 | true=>
  obtain⟨tr,l,st,au,tx⟩:=c
  have h0:0≤st:=by
   unfold mayComm at hm
   simp only[Bool.and_eq_true,decide_eq_true_eq] at hm
   omega
  obtain⟨k,rfl⟩:∃k:Nat,st=(k:Int):=⟨st.toNat,by omega⟩
  have e:commB ⟨tr,l,(k:Int),au,tx⟩=(((((([3]++rawK tr)++[UInt8.ofNat n])++rawKs l)++beB k 6)++(beB au.length 2++au))++(beB tx.length 2++tx)):=by
   unfold commB
   rw[hm]
   simp only at hn
   simp[commT,hn]
  rw[e]
  refine (cbytes_yes w hT tr l k au tx v n hn hv hb hs hl1 ha hx hm).mono ?_
  rintro e w1 ⟨v',rfl,ho,c1⟩
  exact⟨v',rfl,Aq.Own.sees ho,c1⟩
end Go.Proofs.YtlidiclfpklliaaGreatDoor
