/- A commit's bytes. No statement of the seat is proved here. -/
import Derived.Test.YtlidiclfpklliaaGreatDoorG28
set_option linter.unusedSimpArgs false
set_option linter.unusedVariables false
set_option maxHeartbeats 16000000
namespace Go.Aq
open Go.RowKit
section
variable {P:Program} {ops:Array Oper} {Q:Exit→Act→World→Prop} {md:Region.Mode} {S:List Nat} {w0:World}
theorem wpAnyE_three (i j k:Nat) {oi oj ok:Oper} {fuel:Nat} {listed:Array Bool} {a:Act} {w:World} (hi:ops[i]?=some oi) (hj:ops[j]?=some oj) (hk:ops[k]?=some ok) (hr:Region.ready md ops listed=[i,j,k])
  (hwi:Region.wanted oi (yielded ops a.tmps)=true) (hwj:Region.wanted oj (yielded ops a.tmps)=true) (hwk:Region.wanted ok (yielded ops a.tmps)=true)
  (h1:oi.wp P a w (fun a' w'=>Chg S w0 w'∧wpAnyE S w0 P md ops Q fuel (listed.setIfInBounds i true) a' w') Q)
  (h2:oj.wp P a w (fun a' w'=>Chg S w0 w'∧wpAnyE S w0 P md ops Q fuel (listed.setIfInBounds j true) a' w') Q)
  (h3:ok.wp P a w (fun a' w'=>Chg S w0 w'∧wpAnyE S w0 P md ops Q fuel (listed.setIfInBounds k true) a' w') Q):wpAnyE S w0 P md ops Q (fuel+1) listed a w:=by
 refine⟨fun h0=>(by rw[hr] at h0;cases h0),fun m hm=>?_⟩
 rw[hr] at hm
 simp only[List.mem_cons,List.not_mem_nil,or_false] at hm
 rcases hm with rfl | rfl | rfl
 ·unfold wpOp
  simp only[hi,hwi,if_true]
  exact .inl h1
 ·unfold wpOp
  simp only[hj,hwj,if_true]
  exact .inl h2
 ·unfold wpOp
  simp only[hk,hwk,if_true]
  exact .inl h3
end
end Go.Aq
namespace Go.Proofs.YtlidiclfpklliaaGreatDoor
open Go.RowKit Go.Aq Go.Aq.Fy
theorem rawKs_one (k:List UInt8):rawKs [k]=rawK k:=by simp[rawKs]
theorem eyN {W:World} {v:Value} {b:List UInt8} (h:OwnB W v b):Disj (eyes (.slice (some ⟨W.heap.size,0,none⟩) 1 1)) v.ownBlock.toList:=fun k hk hk'=>by
 simp[eyes] at hk
 have:=Aq.Own.lt h k hk'
 omega
theorem eyO {W:World} {v:Value} {n:Nat} {xs:List Value} (h:Sees W 1 v n xs):Disj (eyes v) (Value.slice (some ⟨W.heap.size,0,none⟩) 1 1).ownBlock.toList:=fun k hk hk'=>by
 simp[Value.ownBlock] at hk'
 have:=h.lt (by decide) k hk
 omega
def SzE (E:Nat) (w:World):Prop:=w.heap.size=E
theorem SzE.le {E k:Nat} {w:World} (s:SzE E w) (h:E≤k):w.heap.size≤k:=s▸h
theorem new0 {E:Nat} {wE W:World} (s:SzE E wE) (c:Chg [] wE W):Hid (∀k∈(Value.slice (some ⟨W.heap.size,0,none⟩) 1 1).ownBlock.toList,E≤k):=fun k hk=>by
 simp[Value.ownBlock] at hk
 rw[hk]
 exact s▸c.size
theorem new4 {E:Nat} {wE W W':World} {v v':Value} (s:SzE E wE) (c:Chg [] wE W) (u:UpdV W W' v v') (h:Hid (∀k∈v.ownBlock.toList,E≤k)):Hid (∀k∈v'.ownBlock.toList,E≤k):=fun k hk=>(u.new k hk).elim (h.out k) fun h2=>Nat.le_trans (s▸c.size) h2
theorem chg4 {E:Nat} {wE W W':World} {v v':Value} (s:SzE E wE) (c:Chg [] wE W) (u:UpdV W W' v v') (h:Hid (∀k∈v.ownBlock.toList,E≤k)):Chg [] wE W':=c.trans u.chg fun k hk=>.inr (s.le (h.out k hk))
theorem sees9 (W:World) (n:Nat) (h:((UInt8.ofNat n).toNat:Int)=(n:Int)):Sees (W.alloc (.cells #[.int .u8 (n:Int)] 5)) 1 (.slice (some ⟨W.heap.size,0,none⟩) 1 1) 1 (Bs [UInt8.ofNat n]):=by
 have e9:(#[.int .u8 (n:Int)]:Array Value)=(Bs [UInt8.ofNat n]).toArray:=by simp only[Bs,Bc,List.map_cons,List.map_nil,h]
 rw[e9]
 exact Sees.row (Blk.new W (Bs [UInt8.ofNat n]).toArray 5) (m:=1) rfl
theorem fin10 {w1 wE W w10:World} {K E:Nat} (s:SzE E wE) {b34:List UInt8} {v4:Value} {ao:Option Addr} {cap:Nat} (e34:b34.length=34) (h:OwnB w10 (.slice ao b34.length cap) b34) (hk:Hid (K<E)) (c:Chg [] wE W) (n4:Hid (∀k∈v4.ownBlock.toList,E≤k))
  (n10:∀k∈(Value.slice ao b34.length cap).ownBlock.toList,k∈v4.ownBlock.toList∨W.heap.size≤k) (c10:Chg [] w1 w10):
  ∃(ao3:Option Addr) (cap3:Nat),(Value.slice ao b34.length cap)=.slice ao3 34 cap3∧OwnB w10 (.slice ao3 34 cap3) b34∧(∀k∈(Value.slice ao3 34 cap3).ownBlock.toList,K<k)∧Chg [] w1 w10:=by
 rw[e34] at h n10 ⊢
 refine⟨ao,cap,rfl,h,fun k hk'=>?_,c10⟩
 have h1:=hk.out
 rcases n10 k hk' with h2 | h2
 ·have:=n4.out k h2;omega
 ·have h3:E≤W.heap.size:=s▸c.size
  omega
set_option maxRecDepth 100000 in
theorem cbytes_yes (w:World) (hT:Tabs w) (tr:List UInt8) (l:List (List UInt8)) (st:Nat) (au tx:List UInt8) (v:Value) (n:Nat) (hn:l.length=n) (hv:Sees w 1 v n (names l)) (hb:n≤100000) (hs:∀k∈l,k.length≤1000000)
  (hl1:tr.length≤1000000) (ha:au.length<65536) (hx:tx.length<65536) (hm:mayComm ⟨tr,l,(st:Int),au,tx⟩=true):
  Calls Tryz.prog 382 #[.agg #[.string (str tr),v,.int .i64 (st:Int),.string (str au),.string (str tx)]] w fun e w'=>∃v',e=.returned v'∧OwnB w' v' (((((([3]++rawK tr)++[UInt8.ofNat n])++rawKs l)++beB st 6)++(beB au.length 2++au))++(beB tx.length 2++tx))∧Chg [] w w':=by
 obtain⟨b33,h33⟩:∃b33,[3]++rawK tr=b33:=⟨_,rfl⟩
 obtain⟨b34,h34⟩:∃b34,b33++[UInt8.ofNat n]=b34:=⟨_,rfl⟩
 rw[h33,h34]
 obtain⟨R,hR⟩:∃R,((((b34++rawKs l)++beB st 6)++(beB au.length 2++au))++(beB tx.length 2++tx))=R:=⟨_,rfl⟩
 rw[hR]
 have HR:=zH hR
 clear hR
 have hm2:=hm
 unfold mayComm at hm2
 simp only[Bool.and_eq_true,decide_eq_true_eq,Bool.not_eq_true'] at hm2
 obtain⟨⟨⟨⟨⟨⟨⟨m1,m2⟩,m3⟩,-⟩,m5⟩,m6⟩,-⟩,-⟩:=hm2
 rw[hn] at m2
 have hst:st<2^(8 * 6):=by omega
 have hma:=fun w' (c:Chg [] w w')=>cmay_ok w' (hT.chg c) ⟨tr,l,(st:Int),au,tx⟩ v n hn (hv.chg0 c) hb hs hl1 (by simp only;omega) (by simp only;omega)
 rw[hm] at hma
 unfold commV at hma
 simp only at hma
 have hvt:validAll [tr]=true:=by unfold validAll;simp[m1]
 have hrl:(rawK tr).length=32:=(rawK_valid m1).2.1
 have hrsl:=rawKs_len l m3
 have e33:b33.length=33:=by rw[←h33,List.length_append,hrl];rfl
 have e34:b34.length=34:=by rw[←h34,List.length_append,e33];rfl
 have HB:=zC h33 e33 h34 e34
 clear h33 h34 e33 e34
 rw[hn] at hrsl
 have hlt:=hv.lt (by decide)
 obtain⟨ao,cap,rfl,-⟩:=hv.shape
 obtain⟨K,hK⟩:∃K,w.heap.size=K:=⟨_,rfl⟩
 have hc0:Chg [] w (w.alloc (.cells #[.string (str tr),.slice ao n cap,.int .i64 (st:Int),.string (str au),.string (str tx)] 273)):=(Chg.refl [] w).alloc _
 have hb0:Blk (w.alloc (.cells #[.string (str tr),.slice ao n cap,.int .i64 (st:Int),.string (str au),.string (str tx)] 273)) K #[.string (str tr),.slice ao n cap,.int .i64 (st:Int),.string (str au),.string (str tx)] 273:=Blk.new_at w _ _ hK
 have hm1:=hma _ hc0
 have a5:=wrap_u8_nat' n (by omega)
 have uN:((UInt8.ofNat n).toNat:Int)=(n:Int):=by rw[Wd.u8n n (by omega)]
 have HA:=zE hv hn hb m3 hlt hK
 have HL:=zE hrl hrsl m2 ha hx hst
 have HVT:=zH hvt
 have HC0:=zH hc0
 have HU:=zH uN
 obtain⟨x0,x1,x2,x3,x4⟩:=Blk5 hb0
 clear hn hv hs hb hm hma hlt hc0 uN hvt hrl hrsl m1 m2 m3 m5 m6 ha hx hst hl1 hT
 go_enter Tryz.func382,Tryz.ntmps382
 go_wp2_with fail
 have ct:=HC0.out
 have hKs:K<(w.alloc (.cells #[.string (str tr),.slice ao n cap,.int .i64 (st:Int),.string (str au),.string (str tx)] 273)).heap.size:=hb0.lt
 generalize w.alloc (.cells #[.string (str tr),.slice ao n cap,.int .i64 (st:Int),.string (str au),.string (str tx)] 273)=w0 at *
 refine hm1.mono ?_
 rintro e w1 ⟨rfl,c1⟩
 have hb1:=hb0.chg0 c1
 have HT:=zA (ct.nil c1) (Nat.lt_of_lt_of_le hKs c1.size)
 clear hm1 x0 x1 x2 x3 x4 hb0 ct c1 HC0 hKs
 obtain⟨x0,x1,x2,x3,x4⟩:=Blk5 hb1
 go_upto_region 3 with (fail)
 go_cut [3] from 7 to 18 (fun s wx=>∃(ao3:Option Addr) (cap3:Nat),s=.slice ao3 34 cap3∧OwnB wx (.slice ao3 34 cap3) b34∧(∀k∈(Value.slice ao3 34 cap3).ownBlock.toList,K<k)∧Chg [] w1 wx)
 case first=>
  refine wp_region_E [] (by kernel_rfl) ?_
  have c0:Chg [] w1 w1.drew:=(Chg.refl _ _).drew
  have hbE:=hb1.chg0 c0
  have HEs:Hid (K<w1.drew.heap.size):=HT.out.2
  have HC1:=zH c0
  generalize w1.drew=wE at *
  clear x0 x1 x2 x3 x4 hb1 c0 HT
  obtain⟨y0,y1,y2,y3,y4⟩:=Blk5 hbE
  have c0:Chg [] wE wE:=Chg.refl _ _
  refine tE 1 (.pointer (some ⟨K,0,none⟩)) c0 (fun w4 c4=>?_) ?_
  ·go_simp
  try simp only[Act.put,yA,yB,yC,yD,yE,yF]
  refine tE 2 (.string (str tr)) c0 (fun w4 c4=>?_) ?_
  ·have z0:=c4.cell_some y0 (by simp)
   go_simp
  try simp only[Act.put,yA,yB,yC,yD,yE,yF]
  refine tE 5 (.pointer (some ⟨K,1,none⟩)) c0 (fun w4 c4=>?_) ?_
  ·go_simp
  try simp only[Act.put,yA,yB,yC,yD,yE,yF]
  refine tE 6 (.slice ao n cap) c0 (fun w4 c4=>?_) ?_
  ·have z1:=c4.cell_some y1 (by simp)
   go_simp
  try simp only[Act.put,yA,yB,yC,yD,yE,yF]
  refine tE 7 (.int .i64 n) c0 (fun w4 c4=>?_) ?_
  ·go_simp
  try simp only[Act.put,yA,yB,yC,yD,yE,yF]
  refine tE 8 (.int .u8 n) c0 (fun w4 c4=>?_) ?_
  ·go_simp
  try simp only[Act.put,yA,yB,yC,yD,yE,yF]
  clear y0 y1 y2 y3 y4 hbE
  obtain⟨E,hsE⟩:∃E,SzE E wE:=⟨_,rfl⟩
  have hk0:Hid (K<E):=by have h1:=HEs.out;rw[show wE.heap.size=E from hsE] at h1;exact h1
  refine wpAnyE_three 0 3 9 rfl rfl rfl (by kernel_rfl) (by rfl) (by rfl) (by rfl) ?g1 ?g2 ?g3
  case' g1=>
   go_simp
   have c6:Chg [] wE (wE.alloc (.cells #[.int .u8 3] 5)):=(Chg.refl _ _).alloc _
   have h5:OwnB (wE.alloc (.cells #[.int .u8 3] 5)) (.slice (some ⟨wE.heap.size,0,none⟩) 1 1) [3]:=own_alloc1 wE [3] (by decide)
   have nh5:=new0 hsE c0
   have c7:=c0.nil c6
   refine⟨c7,?_⟩
   generalize wE.alloc (.cells #[.int .u8 3] 5)=w4 at *
   generalize wE.heap.size=B8 at *
   clear c6
   try simp only[Act.put,yA,yB,yC,yD,yE,yF]
   refine wpAnyE_two 3 9 rfl rfl (by kernel_rfl) (by rfl) (by rfl) ?g9 ?g10
   case' g9=>
    go_simp
    have c13:Chg [] w4 (w4.alloc (.cells #[.string (str tr)] 9)):=(Chg.refl _ _).alloc _
    have h16:=Aq.Own.chg h5 c13 (fun _ _=>by simp)
    have h12:Sees (w4.alloc (.cells #[.string (str tr)] 9)) 1 (.slice (some ⟨w4.heap.size,0,none⟩) 1 1) 1 (names [tr]):=Sees.row (Blk.new _ _ _) (m:=1) rfl
    have d17:=eyN h5
    have c14:=c7.nil c13
    refine⟨c14,?_⟩
    generalize w4.alloc (.cells #[.string (str tr)] 9)=w11 at *
    generalize w4.heap.size=B15 at *
    clear c13
    try simp only[Act.put,yA,yB,yC,yD,yE,yF]
    refine wpAnyE_two 4 9 rfl rfl (by kernel_rfl) (by rfl) (by rfl) ?g18 ?g19
    case' g18=>
     go_simp
     refine (okeysU w11 _ [3] h16 (by decide) [tr] _ 1 rfl h12 d17 HVT.out (by decide)).mono ?_
     rintro e w20 ⟨v21,rfl,h22,u23⟩
     rw[rawKs_one,HB.out.1] at h22
     have n25:=new4 hsE c14 u23 nh5
     have c24:=chg4 hsE c14 u23 nh5
     refine⟨c24,?_⟩
     obtain⟨ao4,cap4,rfl⟩:=h22.shape
     clear u23
     try simp only[Act.put,yA,yB,yC,yD,yE,yF]
     refine oE 9 ?_
     go_simp
     have c28:Chg [] w20 (w20.alloc (.cells #[.int .u8 (n:Int)] 5)):=(Chg.refl _ _).alloc _
     have h31:=Aq.Own.chg h22 c28 (fun _ _=>by simp)
     have h27:Sees (w20.alloc (.cells #[.int .u8 (n:Int)] 5)) 1 (.slice (some ⟨w20.heap.size,0,none⟩) 1 1) 1 (Bs [UInt8.ofNat n]):=sees9 w20 n HU.out
     have c29:=c24.nil c28
     refine⟨c29,?_⟩
     generalize w20.alloc (.cells #[.int .u8 (n:Int)] 5)=w26 at *
     generalize w20.heap.size=B30 at *
     clear c28
     try simp only[Act.put,yA,yB,yC,yD,yE,yF]
     have hL4:=h31
     have nL4:=n25
     have hL9:=h27
     have cL:=c29
    case' g19=>
     go_simp
     have c34:Chg [] w11 (w11.alloc (.cells #[.int .u8 (n:Int)] 5)):=(Chg.refl _ _).alloc _
     have h37:=Aq.Own.chg h16 c34 (fun _ _=>by simp)
     have h38:=h12.chg0 c34
     have h33:Sees (w11.alloc (.cells #[.int .u8 (n:Int)] 5)) 1 (.slice (some ⟨w11.heap.size,0,none⟩) 1 1) 1 (Bs [UInt8.ofNat n]):=sees9 w11 n HU.out
     have d39:=eyN h16
     have c35:=c14.nil c34
     refine⟨c35,?_⟩
     generalize w11.alloc (.cells #[.int .u8 (n:Int)] 5)=w32 at *
     generalize w11.heap.size=B36 at *
     clear c34
     try simp only[Act.put,yA,yB,yC,yD,yE,yF]
     refine oE 4 ?_
     go_simp
     refine (okeysU w32 _ [3] h37 (by decide) [tr] _ 1 rfl h38 d17 HVT.out (by decide)).mono ?_
     rintro e w40 ⟨v41,rfl,h42,u43⟩
     rw[rawKs_one,HB.out.1] at h42
     have n45:=new4 hsE c35 u43 nh5
     have c44:=chg4 hsE c35 u43 nh5
     have h46:=h33.chg u43.chg d39
     refine⟨c44,?_⟩
     obtain⟨ao4,cap4,rfl⟩:=h42.shape
     clear u43
     try simp only[Act.put,yA,yB,yC,yD,yE,yF]
     have hL4:=h42
     have nL4:=n45
     have hL9:=h46
     have cL:=c44
   case' g10=>
    go_simp
    have c49:Chg [] w4 (w4.alloc (.cells #[.int .u8 (n:Int)] 5)):=(Chg.refl _ _).alloc _
    have h52:=Aq.Own.chg h5 c49 (fun _ _=>by simp)
    have h48:Sees (w4.alloc (.cells #[.int .u8 (n:Int)] 5)) 1 (.slice (some ⟨w4.heap.size,0,none⟩) 1 1) 1 (Bs [UInt8.ofNat n]):=sees9 w4 n HU.out
    have d53:=eyN h5
    have c50:=c7.nil c49
    refine⟨c50,?_⟩
    generalize w4.alloc (.cells #[.int .u8 (n:Int)] 5)=w47 at *
    generalize w4.heap.size=B51 at *
    clear c49
    try simp only[Act.put,yA,yB,yC,yD,yE,yF]
    refine oE 3 ?_
    go_simp
    have c56:Chg [] w47 (w47.alloc (.cells #[.string (str tr)] 9)):=(Chg.refl _ _).alloc _
    have h59:=Aq.Own.chg h52 c56 (fun _ _=>by simp)
    have h60:=h48.chg0 c56
    have h55:Sees (w47.alloc (.cells #[.string (str tr)] 9)) 1 (.slice (some ⟨w47.heap.size,0,none⟩) 1 1) 1 (names [tr]):=Sees.row (Blk.new _ _ _) (m:=1) rfl
    have d61:=eyN h52
    have c57:=c50.nil c56
    refine⟨c57,?_⟩
    generalize w47.alloc (.cells #[.string (str tr)] 9)=w54 at *
    generalize w47.heap.size=B58 at *
    clear c56
    try simp only[Act.put,yA,yB,yC,yD,yE,yF]
    refine oE 4 ?_
    go_simp
    refine (okeysU w54 _ [3] h59 (by decide) [tr] _ 1 rfl h55 d61 HVT.out (by decide)).mono ?_
    rintro e w62 ⟨v63,rfl,h64,u65⟩
    rw[rawKs_one,HB.out.1] at h64
    have n67:=new4 hsE c57 u65 nh5
    have c66:=chg4 hsE c57 u65 nh5
    have h68:=h60.chg u65.chg d53
    refine⟨c66,?_⟩
    obtain⟨ao4,cap4,rfl⟩:=h64.shape
    clear u65
    try simp only[Act.put,yA,yB,yC,yD,yE,yF]
    have hL4:=h64
    have nL4:=n67
    have hL9:=h68
    have cL:=c66
  case' g2=>
   go_simp
   have c71:Chg [] wE (wE.alloc (.cells #[.string (str tr)] 9)):=(Chg.refl _ _).alloc _
   have h70:Sees (wE.alloc (.cells #[.string (str tr)] 9)) 1 (.slice (some ⟨wE.heap.size,0,none⟩) 1 1) 1 (names [tr]):=Sees.row (Blk.new _ _ _) (m:=1) rfl
   have c72:=c0.nil c71
   refine⟨c72,?_⟩
   generalize wE.alloc (.cells #[.string (str tr)] 9)=w69 at *
   generalize wE.heap.size=B73 at *
   clear c71
   try simp only[Act.put,yA,yB,yC,yD,yE,yF]
   refine wpAnyE_two 0 9 rfl rfl (by kernel_rfl) (by rfl) (by rfl) ?g74 ?g75
   case' g74=>
    go_simp
    have c78:Chg [] w69 (w69.alloc (.cells #[.int .u8 3] 5)):=(Chg.refl _ _).alloc _
    have h81:=h70.chg0 c78
    have h77:OwnB (w69.alloc (.cells #[.int .u8 3] 5)) (.slice (some ⟨w69.heap.size,0,none⟩) 1 1) [3]:=own_alloc1 w69 [3] (by decide)
    have nh77:=new0 hsE c72
    have d82:=eyO h70
    have c79:=c72.nil c78
    refine⟨c79,?_⟩
    generalize w69.alloc (.cells #[.int .u8 3] 5)=w76 at *
    generalize w69.heap.size=B80 at *
    clear c78
    try simp only[Act.put,yA,yB,yC,yD,yE,yF]
    refine wpAnyE_two 4 9 rfl rfl (by kernel_rfl) (by rfl) (by rfl) ?g83 ?g84
    case' g83=>
     go_simp
     refine (okeysU w76 _ [3] h77 (by decide) [tr] _ 1 rfl h81 d82 HVT.out (by decide)).mono ?_
     rintro e w85 ⟨v86,rfl,h87,u88⟩
     rw[rawKs_one,HB.out.1] at h87
     have n90:=new4 hsE c79 u88 nh77
     have c89:=chg4 hsE c79 u88 nh77
     refine⟨c89,?_⟩
     obtain⟨ao4,cap4,rfl⟩:=h87.shape
     clear u88
     try simp only[Act.put,yA,yB,yC,yD,yE,yF]
     refine oE 9 ?_
     go_simp
     have c93:Chg [] w85 (w85.alloc (.cells #[.int .u8 (n:Int)] 5)):=(Chg.refl _ _).alloc _
     have h96:=Aq.Own.chg h87 c93 (fun _ _=>by simp)
     have h92:Sees (w85.alloc (.cells #[.int .u8 (n:Int)] 5)) 1 (.slice (some ⟨w85.heap.size,0,none⟩) 1 1) 1 (Bs [UInt8.ofNat n]):=sees9 w85 n HU.out
     have c94:=c89.nil c93
     refine⟨c94,?_⟩
     generalize w85.alloc (.cells #[.int .u8 (n:Int)] 5)=w91 at *
     generalize w85.heap.size=B95 at *
     clear c93
     try simp only[Act.put,yA,yB,yC,yD,yE,yF]
     have hL4:=h96
     have nL4:=n90
     have hL9:=h92
     have cL:=c94
    case' g84=>
     go_simp
     have c99:Chg [] w76 (w76.alloc (.cells #[.int .u8 (n:Int)] 5)):=(Chg.refl _ _).alloc _
     have h102:=h81.chg0 c99
     have h103:=Aq.Own.chg h77 c99 (fun _ _=>by simp)
     have h98:Sees (w76.alloc (.cells #[.int .u8 (n:Int)] 5)) 1 (.slice (some ⟨w76.heap.size,0,none⟩) 1 1) 1 (Bs [UInt8.ofNat n]):=sees9 w76 n HU.out
     have d104:=eyN h77
     have c100:=c79.nil c99
     refine⟨c100,?_⟩
     generalize w76.alloc (.cells #[.int .u8 (n:Int)] 5)=w97 at *
     generalize w76.heap.size=B101 at *
     clear c99
     try simp only[Act.put,yA,yB,yC,yD,yE,yF]
     refine oE 4 ?_
     go_simp
     refine (okeysU w97 _ [3] h103 (by decide) [tr] _ 1 rfl h102 d82 HVT.out (by decide)).mono ?_
     rintro e w105 ⟨v106,rfl,h107,u108⟩
     rw[rawKs_one,HB.out.1] at h107
     have n110:=new4 hsE c100 u108 nh77
     have c109:=chg4 hsE c100 u108 nh77
     have h111:=h98.chg u108.chg d104
     refine⟨c109,?_⟩
     obtain⟨ao4,cap4,rfl⟩:=h107.shape
     clear u108
     try simp only[Act.put,yA,yB,yC,yD,yE,yF]
     have hL4:=h107
     have nL4:=n110
     have hL9:=h111
     have cL:=c109
   case' g75=>
    go_simp
    have c114:Chg [] w69 (w69.alloc (.cells #[.int .u8 (n:Int)] 5)):=(Chg.refl _ _).alloc _
    have h117:=h70.chg0 c114
    have h113:Sees (w69.alloc (.cells #[.int .u8 (n:Int)] 5)) 1 (.slice (some ⟨w69.heap.size,0,none⟩) 1 1) 1 (Bs [UInt8.ofNat n]):=sees9 w69 n HU.out
    have c115:=c72.nil c114
    refine⟨c115,?_⟩
    generalize w69.alloc (.cells #[.int .u8 (n:Int)] 5)=w112 at *
    generalize w69.heap.size=B116 at *
    clear c114
    try simp only[Act.put,yA,yB,yC,yD,yE,yF]
    refine oE 0 ?_
    go_simp
    have c120:Chg [] w112 (w112.alloc (.cells #[.int .u8 3] 5)):=(Chg.refl _ _).alloc _
    have h123:=h117.chg0 c120
    have h124:=h113.chg0 c120
    have h119:OwnB (w112.alloc (.cells #[.int .u8 3] 5)) (.slice (some ⟨w112.heap.size,0,none⟩) 1 1) [3]:=own_alloc1 w112 [3] (by decide)
    have nh119:=new0 hsE c115
    have d125:=eyO h117
    have d126:=eyO h113
    have c121:=c115.nil c120
    refine⟨c121,?_⟩
    generalize w112.alloc (.cells #[.int .u8 3] 5)=w118 at *
    generalize w112.heap.size=B122 at *
    clear c120
    try simp only[Act.put,yA,yB,yC,yD,yE,yF]
    refine oE 4 ?_
    go_simp
    refine (okeysU w118 _ [3] h119 (by decide) [tr] _ 1 rfl h123 d125 HVT.out (by decide)).mono ?_
    rintro e w127 ⟨v128,rfl,h129,u130⟩
    rw[rawKs_one,HB.out.1] at h129
    have n132:=new4 hsE c121 u130 nh119
    have c131:=chg4 hsE c121 u130 nh119
    have h133:=h124.chg u130.chg d126
    refine⟨c131,?_⟩
    obtain⟨ao4,cap4,rfl⟩:=h129.shape
    clear u130
    try simp only[Act.put,yA,yB,yC,yD,yE,yF]
    have hL4:=h129
    have nL4:=n132
    have hL9:=h133
    have cL:=c131
  case' g3=>
   go_simp
   have c136:Chg [] wE (wE.alloc (.cells #[.int .u8 (n:Int)] 5)):=(Chg.refl _ _).alloc _
   have h135:Sees (wE.alloc (.cells #[.int .u8 (n:Int)] 5)) 1 (.slice (some ⟨wE.heap.size,0,none⟩) 1 1) 1 (Bs [UInt8.ofNat n]):=sees9 wE n HU.out
   have c137:=c0.nil c136
   refine⟨c137,?_⟩
   generalize wE.alloc (.cells #[.int .u8 (n:Int)] 5)=w134 at *
   generalize wE.heap.size=B138 at *
   clear c136
   try simp only[Act.put,yA,yB,yC,yD,yE,yF]
   refine wpAnyE_two 0 3 rfl rfl (by kernel_rfl) (by rfl) (by rfl) ?g139 ?g140
   case' g139=>
    go_simp
    have c143:Chg [] w134 (w134.alloc (.cells #[.int .u8 3] 5)):=(Chg.refl _ _).alloc _
    have h146:=h135.chg0 c143
    have h142:OwnB (w134.alloc (.cells #[.int .u8 3] 5)) (.slice (some ⟨w134.heap.size,0,none⟩) 1 1) [3]:=own_alloc1 w134 [3] (by decide)
    have nh142:=new0 hsE c137
    have d147:=eyO h135
    have c144:=c137.nil c143
    refine⟨c144,?_⟩
    generalize w134.alloc (.cells #[.int .u8 3] 5)=w141 at *
    generalize w134.heap.size=B145 at *
    clear c143
    try simp only[Act.put,yA,yB,yC,yD,yE,yF]
    refine oE 3 ?_
    go_simp
    have c150:Chg [] w141 (w141.alloc (.cells #[.string (str tr)] 9)):=(Chg.refl _ _).alloc _
    have h153:=h146.chg0 c150
    have h154:=Aq.Own.chg h142 c150 (fun _ _=>by simp)
    have h149:Sees (w141.alloc (.cells #[.string (str tr)] 9)) 1 (.slice (some ⟨w141.heap.size,0,none⟩) 1 1) 1 (names [tr]):=Sees.row (Blk.new _ _ _) (m:=1) rfl
    have d155:=eyN h142
    have c151:=c144.nil c150
    refine⟨c151,?_⟩
    generalize w141.alloc (.cells #[.string (str tr)] 9)=w148 at *
    generalize w141.heap.size=B152 at *
    clear c150
    try simp only[Act.put,yA,yB,yC,yD,yE,yF]
    refine oE 4 ?_
    go_simp
    refine (okeysU w148 _ [3] h154 (by decide) [tr] _ 1 rfl h149 d155 HVT.out (by decide)).mono ?_
    rintro e w156 ⟨v157,rfl,h158,u159⟩
    rw[rawKs_one,HB.out.1] at h158
    have n161:=new4 hsE c151 u159 nh142
    have c160:=chg4 hsE c151 u159 nh142
    have h162:=h153.chg u159.chg d147
    refine⟨c160,?_⟩
    obtain⟨ao4,cap4,rfl⟩:=h158.shape
    clear u159
    try simp only[Act.put,yA,yB,yC,yD,yE,yF]
    have hL4:=h158
    have nL4:=n161
    have hL9:=h162
    have cL:=c160
   case' g140=>
    go_simp
    have c165:Chg [] w134 (w134.alloc (.cells #[.string (str tr)] 9)):=(Chg.refl _ _).alloc _
    have h168:=h135.chg0 c165
    have h164:Sees (w134.alloc (.cells #[.string (str tr)] 9)) 1 (.slice (some ⟨w134.heap.size,0,none⟩) 1 1) 1 (names [tr]):=Sees.row (Blk.new _ _ _) (m:=1) rfl
    have c166:=c137.nil c165
    refine⟨c166,?_⟩
    generalize w134.alloc (.cells #[.string (str tr)] 9)=w163 at *
    generalize w134.heap.size=B167 at *
    clear c165
    try simp only[Act.put,yA,yB,yC,yD,yE,yF]
    refine oE 0 ?_
    go_simp
    have c171:Chg [] w163 (w163.alloc (.cells #[.int .u8 3] 5)):=(Chg.refl _ _).alloc _
    have h174:=h168.chg0 c171
    have h175:=h164.chg0 c171
    have h170:OwnB (w163.alloc (.cells #[.int .u8 3] 5)) (.slice (some ⟨w163.heap.size,0,none⟩) 1 1) [3]:=own_alloc1 w163 [3] (by decide)
    have nh170:=new0 hsE c166
    have d176:=eyO h164
    have d177:=eyO h168
    have c172:=c166.nil c171
    refine⟨c172,?_⟩
    generalize w163.alloc (.cells #[.int .u8 3] 5)=w169 at *
    generalize w163.heap.size=B173 at *
    clear c171
    try simp only[Act.put,yA,yB,yC,yD,yE,yF]
    refine oE 4 ?_
    go_simp
    refine (okeysU w169 _ [3] h170 (by decide) [tr] _ 1 rfl h175 d176 HVT.out (by decide)).mono ?_
    rintro e w178 ⟨v179,rfl,h180,u181⟩
    rw[rawKs_one,HB.out.1] at h180
    have n183:=new4 hsE c172 u181 nh170
    have c182:=chg4 hsE c172 u181 nh170
    have h184:=h174.chg u181.chg d177
    refine⟨c182,?_⟩
    obtain⟨ao4,cap4,rfl⟩:=h180.shape
    clear u181
    try simp only[Act.put,yA,yB,yC,yD,yE,yF]
    have hL4:=h180
    have nL4:=n183
    have hL9:=h184
    have cL:=c182
  all_goals
   refine oE 10 ?_
   refine wp_app _ _ 36 rfl sl_u8 hL4 rfl hL9 rfl (one_Bs _) (by have:=HB.out.2.1;omega) (by have:=HB.out.2.1;omega) ?_
   intro v10 w10 ho10 c10 n10
   have cE10:=cL.trans c10 (fun k hk=>.inr (hsE.le (nL4.out k hk)))
   refine⟨cE10,?_⟩
   have hB10:=OwnB.app ho10 (b:=[UInt8.ofNat n]) rfl
   rw[HB.out.2.2.1] at hB10
   clear ho10
   obtain⟨ao10,cap10,rfl⟩:=hB10.shape
   try simp only[Act.put,yA,yB,yC,yD,yE,yF]
   refine tE 11 (.slice ao10 b34.length cap10) cE10 (fun w4 c4=>?_) ?_
   ·go_simp
   try simp only[Act.put,yA,yB,yC,yD,yE,yF]
   refine wpAnyE_done (by kernel_rfl) ?_ _
   go_wp2_with fail
   go_meet
   exact fin10 hsE HB.out.2.2.2 hB10 hk0 cL nL4 n10 (HC1.out.nil cE10)
 case rest=>
  obtain⟨ao3,cap3,rfl,ho3,hk3,c3⟩:=hcut
  generalize wc=w3 at *
  have hb3:=hb1.chg0 c3
  have HC3:=zH (HT.out.1.nil c3)
  have hK3:K<w3.heap.size:=Nat.lt_of_lt_of_le HT.out.2 c3.size
  clear x0 x1 x2 x3 x4 hb1 HT c3
  go_upto_region 4 with (fail)
  obtain⟨S,hS⟩:∃S,(Value.slice ao3 34 cap3).ownBlock.toList=S:=⟨_,rfl⟩
  refine wp_region_E S (by kernel_rfl) ?_
  rw[hS] at hk3
  have cD:Chg [] w3 w3.drew:=(Chg.refl _ _).drew
  have hbD:=hb3.chg0 cD
  have hoD:OwnB w3.drew (.slice ao3 34 cap3) b34:=Aq.Own.chg ho3 cD (fun _ _=>by simp)
  have HCD:=zH (HC3.out.nil cD)
  have HSn:Hid (∀k∈S,K<k):=hk3
  have hKS:K∉S:=fun h=>by have:=hk3 K h;omega
  have HKF:Hid (K<w3.drew.heap.size):=hK3
  clear hb3 cD HC3 hk3 hK3 ho3
  generalize w3.drew=wF at *
  obtain⟨y0,y1,y2,y3,y4⟩:=Blk5 hbD
  have c0:Chg S wF wF:=Chg.refl _ _
  have HSS:Hid ((Value.slice ao3 34 cap3).ownBlock.toList=S):=hS
  have HBB:Hid (True∧b34.length=34):=⟨trivial,HB.out.2.2.2⟩
  clear hS hbD
  refine tE 0 (.slice ao3 34 cap3) c0 (fun w4 c4=>?_) ?_
  ·go_simp
  try simp only[Act.put,yA,yB,yC,yD,yE,yF]
  refine tE 1 (.pointer (some ⟨K,1,none⟩)) c0 (fun w4 c4=>?_) ?_
  ·go_simp
  try simp only[Act.put,yA,yB,yC,yD,yE,yF]
  refine tE 2 (.slice ao n cap) c0 (fun w4 c4=>?_) ?_
  ·have z1:=c4.cell_some y1 hKS
   go_simp
  try simp only[Act.put,yA,yB,yC,yD,yE,yF]
  refine tE 4 (.pointer (some ⟨K,2,none⟩)) c0 (fun w4 c4=>?_) ?_
  ·go_simp
  try simp only[Act.put,yA,yB,yC,yD,yE,yF]
  refine tE 5 (.int .i64 (st:Int)) c0 (fun w4 c4=>?_) ?_
  ·have z2:=c4.cell_some y2 hKS
   go_simp
  try simp only[Act.put,yA,yB,yC,yD,yE,yF]
  refine tE 7 (.pointer (some ⟨K,3,none⟩)) c0 (fun w4 c4=>?_) ?_
  ·go_simp
  try simp only[Act.put,yA,yB,yC,yD,yE,yF]
  refine tE 8 (.string (str au)) c0 (fun w4 c4=>?_) ?_
  ·have z3:=c4.cell_some y3 hKS
   go_simp
  try simp only[Act.put,yA,yB,yC,yD,yE,yF]
  refine tE 10 (.pointer (some ⟨K,4,none⟩)) c0 (fun w4 c4=>?_) ?_
  ·go_simp
  try simp only[Act.put,yA,yB,yC,yD,yE,yF]
  refine tE 11 (.string (str tx)) c0 (fun w4 c4=>?_) ?_
  ·have z4:=c4.cell_some y4 hKS
   go_simp
  try simp only[Act.put,yA,yB,yC,yD,yE,yF]
  clear y0 y1 y2 y3 y4
  refine oE 3 ?_
  go_simp
  have hxF:Sees wF 1 (.slice ao n cap) n (names l):=HA.out.1.chg0 HCD.out
  refine (okeysU wF _ b34 hoD (by have:=HBB.out.2;omega) l (.slice ao n cap) n HA.out.2.1 hxF (fun t ht ht'=>by rw[HSS.out] at ht';have h1:=HA.out.2.2.2.2.1 t ht;have h2:=HSn.out t ht';have h3:=HA.out.2.2.2.2.2;omega) HA.out.2.2.2.1 HA.out.2.2.1).mono ?_
  rintro e wG ⟨vG,rfl,hoG,uG⟩
  unfold UpdV at uG
  rw[HSS.out] at uG
  clear hxF hoD
  refine⟨uG.chg,?_⟩
  have bG:Hid ((b34++rawKs l).length≤1000):=by show _≤_;rw[List.length_append,HBB.out.2,HL.out.2.1];have:=HL.out.2.2.1;omega
  generalize hG:b34++rawKs l=bG1 at *
  have HG:=zH hG
  clear hG
  obtain⟨aoG,capG,rfl⟩:=hoG.shape
  try simp only[Act.put,yA,yB,yC,yD,yE,yF]
  refine oE 6 ?_
  go_simp
  refine (onumU wG _ bG1 st 6 hoG (by have:=bG.out;omega) (by decide) (by decide) HL.out.2.2.2.2.2).mono ?_
  rintro e wH ⟨vH,rfl,hoH,uH'⟩
  have uH:=uG.trans uH'
  refine⟨uH.chg,?_⟩
  have bH:Hid ((bG1++beB st 6).length≤2000):=by show _≤_;rw[List.length_append,beB_length];have:=bG.out;omega
  generalize hH:bG1++beB st 6=bH1 at *
  have HH:=zH hH
  clear hH uH' uG hoG
  obtain⟨aoH,capH,rfl⟩:=hoH.shape
  try simp only[Act.put,yA,yB,yC,yD,yE,yF]
  refine oE 9 ?_
  go_simp
  refine (otextU wH _ bH1 hoH (by have:=bH.out;omega) au HL.out.2.2.2.1).mono ?_
  rintro e wI ⟨vI,rfl,hoI,uI'⟩
  have uI:=uH.trans uI'
  refine⟨uI.chg,?_⟩
  have bI:Hid ((bH1++(beB au.length 2++au)).length≤80000):=by show _≤_;rw[List.length_append,List.length_append,beB_length];have:=bH.out;have:=HL.out.2.2.2.1;omega
  generalize hI:bH1++(beB au.length 2++au)=bI1 at *
  have HI:=zH hI
  clear hI uI' uH hoH
  obtain⟨aoI,capI,rfl⟩:=hoI.shape
  try simp only[Act.put,yA,yB,yC,yD,yE,yF]
  refine oE 12 ?_
  go_simp
  refine (otextU wI _ bI1 hoI (by have:=bI.out;omega) tx HL.out.2.2.2.2.1).mono ?_
  rintro e wJ ⟨vJ,rfl,hoJ,uJ'⟩
  have uJ:=uI.trans uJ'
  refine⟨uJ.chg,?_⟩
  generalize hJ:bI1++(beB tx.length 2++tx)=bJ1 at *
  have HJ:=zH hJ
  clear hJ uJ' uI hoI
  obtain⟨aoJ,capJ,rfl⟩:=hoJ.shape
  try simp only[Act.put,yA,yB,yC,yD,yE,yF]
  refine tE 13 (.slice aoJ bJ1.length capJ) uJ.chg (fun w4 c4=>?_) ?_
  ·go_simp
  try simp only[Act.put,yA,yB,yC,yD,yE,yF]
  refine wpAnyE_done (by kernel_rfl) ?_ _
  have HO:=zA hoJ uJ.chg
  clear hoJ uJ
  go_wp2_with fail
  go_ret
  refine⟨_,rfl,?_,HCD.out.trans HO.out.2 (fun k hk=>.inr (by have h1:=HSn.out k hk;have h2:=HA.out.2.2.2.2.2;omega))⟩
  have eR:bJ1=R:=HR.out
  rw[←eR]
  exact HO.out.1
theorem cbytes_ok (w:World) (hT:Tabs w) (c:CommD) (v:Value) (n:Nat) (hn:c.pars.length=n) (hv:Sees w 1 v n (names c.pars)) (hb:n≤100000) (hs:∀k∈c.pars,k.length≤1000000) (hl1:c.tree.length≤1000000) (ha:c.author.length<65536) (hx:c.text.length<65536):
  Calls Tryz.prog 382 #[commV c v] w fun e w'=>∃v',e=.returned v'∧Sees w' 1 v' (commB c).length (Bs (commB c))∧Chg [] w w':=by
 cases hm:mayComm c with
 | false=>
  have e:commB c=[]:=by unfold commB;rw[hm];rfl
  rw[e]
  have hma:=fun w' (k:Chg [] w w')=>cmay_ok w' (hT.chg k) c v n hn (hv.chg0 k) hb hs hl1 (by omega) (by omega)
  rw[hm] at hma
  obtain⟨ao,cap,rfl,-⟩:=hv.shape
  unfold commV at *
  obtain⟨K,hK⟩:∃K,w.heap.size=K:=⟨_,rfl⟩
  have hc0:Chg [] w (w.alloc (.cells #[.string (str c.tree),.slice ao n cap,.int .i64 c.stamp,.string (str c.author),.string (str c.text)] 273)):=(Chg.refl [] w).alloc _
  have hb0:Blk (w.alloc (.cells #[.string (str c.tree),.slice ao n cap,.int .i64 c.stamp,.string (str c.author),.string (str c.text)] 273)) K #[.string (str c.tree),.slice ao n cap,.int .i64 c.stamp,.string (str c.author),.string (str c.text)] 273:=Blk.new_at w _ _ hK
  have hm1:=hma _ hc0
  obtain⟨x0,x1,x2,x3,x4⟩:=Blk5 hb0
  have HC0:=zH hc0
  clear hma hn hv hb hs hl1 ha hx hm e hT hb0 hc0
  go_enter Tryz.func382,Tryz.ntmps382
  go_wp2_with fail
  refine hm1.mono ?_
  rintro e w1 ⟨rfl,c1⟩
  clear hm1 x0 x1 x2 x3 x4
  go_wp2_with fail
  go_ret
  exact⟨_,rfl,Sees.nil _ _,HC0.out.tr c1⟩
 | true=>
  obtain⟨tr,l,st,au,tx⟩:=c
  have h0:0≤st:=by
   unfold mayComm at hm
   simp only[Bool.and_eq_true,decide_eq_true_eq] at hm
   omega
  obtain⟨k,rfl⟩:∃k:Nat,st=(k:Int):=⟨st.toNat,by omega⟩
  have e:commB ⟨tr,l,(k:Int),au,tx⟩=(((((([3]++rawK tr)++[UInt8.ofNat n])++rawKs l)++beB k 6)++(beB au.length 2++au))++(beB tx.length 2++tx)):=by
   unfold commB
   rw[hm]
   simp only at hn
   simp[commT,hn]
  rw[e]
  refine (cbytes_yes w hT tr l k au tx v n hn hv hb hs hl1 ha hx hm).mono ?_
  rintro e w1 ⟨v',rfl,ho,c1⟩
  exact⟨v',rfl,Aq.Own.sees ho,c1⟩
end Go.Proofs.YtlidiclfpklliaaGreatDoor
