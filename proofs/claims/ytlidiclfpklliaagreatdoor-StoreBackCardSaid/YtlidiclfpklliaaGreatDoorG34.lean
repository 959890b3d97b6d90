/- RDcd OrA ShaKeys RefSha -/
import Derived.Test.YtlidiclfpklliaaGreatDoorG32
import Derived.Laws.CopyOwn
set_option linter.unusedSimpArgs false
set_option linter.unusedVariables false
set_option maxHeartbeats 8000000
namespace Go.Proofs.YtlidiclfpklliaaGreatDoor
section
open Go.RowKit Go.Aq Go.Aq.Wd
theorem or_bytes (a b:Nat) (ha:a<256) (hb:b<256):bits .or .i64 ((a:Int) * 256) (b:Int)=((256 * a+b:Nat):Int):=by
 have h:=(bits_i64 (a * 256) b (by omega) (by omega)).2.1
 have e:a * 256 ||| b=256 * a+b:=by
  rw[Nat.or_comm]
  have:=or_shift b a 8 hb
  rw[show (2:Nat)^8=256 by decide] at this
  rw[this]
  omega
 rw[e] at h
 rw[←h]
 rfl
set_option maxRecDepth 100000 in
theorem rshapeOf_any (g o cap x0 x1 x2 x3 x4 x5:Nat) (y0:x0<256) (y1:x1<256) (y2:x2<256) (y3:x3<256) (y4:x4<256) (y5:x5<256) (w:World)
  (m0:w.cell? ⟨g,o,none⟩=some (.int .u8 (x0:Int))) (m1:w.cell? ⟨g,o+1,none⟩=some (.int .u8 (x1:Int))) (m2:w.cell? ⟨g,o+2,none⟩=some (.int .u8 (x2:Int))) (m3:w.cell? ⟨g,o+3,none⟩=some (.int .u8 (x3:Int))) (m4:w.cell? ⟨g,o+4,none⟩=some (.int .u8 (x4:Int))) (m5:w.cell? ⟨g,o+5,none⟩=some (.int .u8 (x5:Int))):
  Calls Tryz.prog 151 #[.slice (some ⟨g,o,none⟩) 6 cap] w fun e w'=>e=.returned (.agg #[.int .i64 ((256 * x0+x1:Nat):Int),.int .i64 ((256 * x2+x3:Nat):Int),.int .i64 (x4:Int),.int .i64 (x5:Int)])∧Chg [] w w':=by
 obtain⟨K,hK⟩:∃K,w.heap.size=K:=⟨_,rfl⟩
 have hbK:Blk (w.alloc (.cells #[.int .i64 0,.int .i64 0,.int .i64 0,.int .i64 0] 145)) K #[.int .i64 0,.int .i64 0,.int .i64 0,.int .i64 0] 145:=Blk.new_at w _ _ hK
 have hc1:Chg [] w (w.alloc (.cells #[.int .i64 0,.int .i64 0,.int .i64 0,.int .i64 0] 145)):=(Chg.refl [] w).alloc _
 have n0:=hc1.cell_some m0 (by simp)
 have n1:=hc1.cell_some m1 (by simp)
 have n2:=hc1.cell_some m2 (by simp)
 have n3:=hc1.cell_some m3 (by simp)
 have n4:=hc1.cell_some m4 (by simp)
 have n5:=hc1.cell_some m5 (by simp)
 have i0:=wrap_i64_nat x0 (by omega)
 have i1:=wrap_i64_nat x1 (by omega)
 have i2:=wrap_i64_nat x2 (by omega)
 have i3:=wrap_i64_nat x3 (by omega)
 have i4:=wrap_i64_nat x4 (by omega)
 have i5:=wrap_i64_nat x5 (by omega)
 have o1:=or_bytes x0 x1 y0 y1
 have o2:=or_bytes x2 x3 y2 y3
 obtain⟨S0,s0⟩:∃S0:Int,(x0:Int) * 256=S0:=⟨_,rfl⟩
 obtain⟨S2,s2⟩:∃S2:Int,(x2:Int) * 256=S2:=⟨_,rfl⟩
 have s0w:wrap64 S0=S0:=w64 _ (by omega)
 have s2w:wrap64 S2=S2:=w64 _ (by omega)
 have s0k:IntKind.i64.wrap S0=S0:=by rw[←s0];exact wrap_i64_nat (x0 * 256) (by omega)
 have s2k:IntKind.i64.wrap S2=S2:=by rw[←s2];exact wrap_i64_nat (x2 * 256) (by omega)
 rw[s0] at o1
 rw[s2] at o2
 generalize 256 * x0+x1=W at *
 generalize 256 * x2+x3=H at *
 have HC:=zA hc1 hbK
 clear m0 m1 m2 m3 m4 m5 hc1 hbK y0 y1 y2 y3 y4 y5
 go_enter Tryz.func151,Tryz.ntmps151
 go_upto_region 1 with (fail)
 generalize (w.alloc (.cells #[.int .i64 0,.int .i64 0,.int .i64 0,.int .i64 0] 145))=w1 at *
 refine wp_region_S (fun i=>i==29) (by kernel_rfl) ?_
 refine tS 0 (.slice (some ⟨g,o,none⟩) 6 cap) (fun w4 c4=>?_) ?_
 ·go_simp
 try simp only[Act.put,yA,yB,yC,yD,yE,yF]
 refine tS 1 (.pointer (some ⟨g,o,none⟩)) (fun w4 c4=>?_) ?_
 ·go_simp
 try simp only[Act.put,yA,yB,yC,yD,yE,yF]
 refine tS 2 (.int .u8 (x0:Int)) (fun w4 c4=>?_) ?_
 ·have z:=c4.cell_some n0 (by simp)
  go_simp
 try simp only[Act.put,yA,yB,yC,yD,yE,yF]
 refine tS 3 (.int .i64 (x0:Int)) (fun w4 c4=>?_) ?_
 ·go_simp
 try simp only[Act.put,yA,yB,yC,yD,yE,yF]
 refine tS 4 (.int .i64 S0) (fun w4 c4=>?_) ?_
 ·go_simp
 try simp only[Act.put,yA,yB,yC,yD,yE,yF]
 refine tS 5 (.slice (some ⟨g,o,none⟩) 6 cap) (fun w4 c4=>?_) ?_
 ·go_simp
 try simp only[Act.put,yA,yB,yC,yD,yE,yF]
 refine tS 6 (.pointer (some ⟨g,o+1,none⟩)) (fun w4 c4=>?_) ?_
 ·go_simp
 try simp only[Act.put,yA,yB,yC,yD,yE,yF]
 refine tS 7 (.int .u8 (x1:Int)) (fun w4 c4=>?_) ?_
 ·have z:=c4.cell_some n1 (by simp)
  go_simp
 try simp only[Act.put,yA,yB,yC,yD,yE,yF]
 refine tS 8 (.int .i64 (x1:Int)) (fun w4 c4=>?_) ?_
 ·go_simp
 try simp only[Act.put,yA,yB,yC,yD,yE,yF]
 refine tS 9 (.int .i64 (W:Int)) (fun w4 c4=>?_) ?_
 ·go_simp
 try simp only[Act.put,yA,yB,yC,yD,yE,yF]
 refine tS 10 (.slice (some ⟨g,o,none⟩) 6 cap) (fun w4 c4=>?_) ?_
 ·go_simp
 try simp only[Act.put,yA,yB,yC,yD,yE,yF]
 refine tS 11 (.pointer (some ⟨g,o+2,none⟩)) (fun w4 c4=>?_) ?_
 ·go_simp
 try simp only[Act.put,yA,yB,yC,yD,yE,yF]
 refine tS 12 (.int .u8 (x2:Int)) (fun w4 c4=>?_) ?_
 ·have z:=c4.cell_some n2 (by simp)
  go_simp
 try simp only[Act.put,yA,yB,yC,yD,yE,yF]
 refine tS 13 (.int .i64 (x2:Int)) (fun w4 c4=>?_) ?_
 ·go_simp
 try simp only[Act.put,yA,yB,yC,yD,yE,yF]
 refine tS 14 (.int .i64 S2) (fun w4 c4=>?_) ?_
 ·go_simp
 try simp only[Act.put,yA,yB,yC,yD,yE,yF]
 refine tS 15 (.slice (some ⟨g,o,none⟩) 6 cap) (fun w4 c4=>?_) ?_
 ·go_simp
 try simp only[Act.put,yA,yB,yC,yD,yE,yF]
 refine tS 16 (.pointer (some ⟨g,o+3,none⟩)) (fun w4 c4=>?_) ?_
 ·go_simp
 try simp only[Act.put,yA,yB,yC,yD,yE,yF]
 refine tS 17 (.int .u8 (x3:Int)) (fun w4 c4=>?_) ?_
 ·have z:=c4.cell_some n3 (by simp)
  go_simp
 try simp only[Act.put,yA,yB,yC,yD,yE,yF]
 refine tS 18 (.int .i64 (x3:Int)) (fun w4 c4=>?_) ?_
 ·go_simp
 try simp only[Act.put,yA,yB,yC,yD,yE,yF]
 refine tS 19 (.int .i64 (H:Int)) (fun w4 c4=>?_) ?_
 ·go_simp
 try simp only[Act.put,yA,yB,yC,yD,yE,yF]
 refine tS 20 (.slice (some ⟨g,o,none⟩) 6 cap) (fun w4 c4=>?_) ?_
 ·go_simp
 try simp only[Act.put,yA,yB,yC,yD,yE,yF]
 refine tS 21 (.pointer (some ⟨g,o+4,none⟩)) (fun w4 c4=>?_) ?_
 ·go_simp
 try simp only[Act.put,yA,yB,yC,yD,yE,yF]
 refine tS 22 (.int .u8 (x4:Int)) (fun w4 c4=>?_) ?_
 ·have z:=c4.cell_some n4 (by simp)
  go_simp
 try simp only[Act.put,yA,yB,yC,yD,yE,yF]
 refine tS 23 (.int .i64 (x4:Int)) (fun w4 c4=>?_) ?_
 ·go_simp
 try simp only[Act.put,yA,yB,yC,yD,yE,yF]
 refine tS 24 (.slice (some ⟨g,o,none⟩) 6 cap) (fun w4 c4=>?_) ?_
 ·go_simp
 try simp only[Act.put,yA,yB,yC,yD,yE,yF]
 refine tS 25 (.pointer (some ⟨g,o+5,none⟩)) (fun w4 c4=>?_) ?_
 ·go_simp
 try simp only[Act.put,yA,yB,yC,yD,yE,yF]
 refine tS 26 (.int .u8 (x5:Int)) (fun w4 c4=>?_) ?_
 ·have z:=c4.cell_some n5 (by simp)
  go_simp
 try simp only[Act.put,yA,yB,yC,yD,yE,yF]
 refine tS 27 (.int .i64 (x5:Int)) (fun w4 c4=>?_) ?_
 ·go_simp
 try simp only[Act.put,yA,yB,yC,yD,yE,yF]
 refine tS 28 (.agg #[.int .i64 (W:Int),.int .i64 (H:Int),.int .i64 (x4:Int),.int .i64 (x5:Int)]) (fun w4 c4=>?_) ?_
 ·go_simp
 try simp only[Act.put,yA,yB,yC,yD,yE,yF]
 refine wpAnyS_last 29 rfl (by kernel_rfl) rfl (by rfl) (fun w5 c5=>?_)
 refine wp_stA (cs:=#[.int .i64 (W:Int),.int .i64 (H:Int),.int .i64 (x4:Int),.int .i64 (x5:Int)]) 145 _ _ rfl (HC.out.2.chg0 c5) shp_ty rfl (by simp[Value.oneCell']) rfl rfl ?_
 intro w6 hb6 c6 hs6
 refine wpAny_fin (by kernel_rfl) ?_ _
 have cw6:Chg [] w w6:=(HC.out.1.nil c5).trans c6 (fun k hk=>by simp at hk;right;omega)
 clear hs6 c6 c5 n0 n1 n2 n3 n4 n5
 go_wp2_with fail
 refine bodyPost_ret (results_A rfl _ _ hb6 shp_ty rfl) rfl ⟨rfl,cw6⟩
theorem be_two (x0 x1:UInt8):beVal [x0,x1]=256 * x0.toNat+x1.toNat:=by
 simp only[beVal,List.foldl_cons,List.foldl_nil];omega
theorem shpAt_cells (b:List UInt8) (h:7≤b.length):shpAt b=⟨((256 * (b.getD 1 0).toNat+(b.getD 2 0).toNat:Nat):Int),((256 * (b.getD 3 0).toNat+(b.getD 4 0).toNat:Nat):Int),(((b.getD 5 0).toNat:Nat):Int),(((b.getD 6 0).toNat:Nat):Int)⟩:=by
 match b,h with
 | a0::a1::a2::a3::a4::a5::a6::r,_=>
  unfold shpAt
  have e1:((a0::a1::a2::a3::a4::a5::a6::r).drop 1).take 2=[a1,a2]:=rfl
  have e2:((a0::a1::a2::a3::a4::a5::a6::r).drop 3).take 2=[a3,a4]:=rfl
  rw[e1,e2,be_two,be_two]
  rfl
theorem rclone_any (ao:Addr) (n cap:Nat) (b:List UInt8) (w:World) (hv:Sees w 1 (.slice (some ao) n cap) n (Bs b)) (hn:n≤1000000000):
  Calls Tryz.prog 12 #[.slice (some ao) n cap] w fun e w'=>∃v',e=.returned v'∧Sees w' 1 v' n (Bs b)∧(∀k∈eyes v',w.heap.size≤k)∧Chg [] w w':=
 (copy_any w _ n b hv (by omega) sl_u8).mono fun e w' ⟨v',he,ho,hc,hk⟩=>⟨v',he,ho.sees,fun k h=>hk k (eyes_own v' k h),hc⟩
set_option maxRecDepth 100000 in
theorem rdec_short (v:Value) (n:Nat) (b:List UInt8) (w:World) (hv:Sees w 1 v n (Bs b)) (hn:n<7):
  Calls Tryz.prog 149 #[v] w fun e w'=>e=.returned (.tuple #[rasV shpZ (.slice none 0 0),.int .i64 2])∧Chg [] w w':=by
 obtain⟨K,hK⟩:∃K,w.heap.size=K:=⟨_,rfl⟩
 obtain⟨ao,cap,rfl,hcap,hno⟩:=hv.shape
 have t1:decide ((n:Int)<7)=true:=by simp;omega
 have t1':decide (n<7)=true:=by simp;omega
 have hbK:Blk (w.alloc (.cells #[.int .i64 0,.int .i64 0,.int .i64 0,.int .i64 0,.slice none 0 0] 147)) K #[.int .i64 0,.int .i64 0,.int .i64 0,.int .i64 0,.slice none 0 0] 147:=Blk.new_at w _ _ hK
 have hc1:Chg [] w (w.alloc (.cells #[.int .i64 0,.int .i64 0,.int .i64 0,.int .i64 0,.slice none 0 0] 147)):=(Chg.refl [] w).alloc _
 have aT:ArrTy Tryz.prog 147 (#[.int .i64 0,.int .i64 0,.int .i64 0,.int .i64 0,.slice none 0 0]:Array Value).size:=ras_ty
 have HC:=zH hc1
 clear hno hv hn hc1
 go_enter Tryz.func149,Tryz.ntmps149
 go_wp2_with (with_reducible refine wpList_stA rfl 147 _ _ rfl hbK aT rfl (by simp[Value.oneCell']) rfl rfl ?_;intro w20 hb20 c20 hs20)
 refine bodyPost_ret (results_AT rfl _ _ hb20 aT rfl) rfl ⟨rfl,HC.out.trans c20 fun k hk=>?_⟩
 simp at hk;right;omega
set_option maxRecDepth 100000 in
theorem rdec_long (v:Value) (n:Nat) (b:List UInt8) (w:World) (hv:Sees w 1 v n (Bs b)) (hn:7≤n) (hn9:n≤1000000000):
  Calls Tryz.prog 149 #[v] w fun e w'=>∃v',e=.returned (.tuple #[rasV (decPL b).1 v',.int .i64 (decPL b).2.2])∧Sees w' 1 v' (decPL b).2.1.length (Bs (decPL b).2.1)∧(∀k∈eyes v',w.heap.size≤k)∧Chg [] w w':=by
 obtain⟨K,hK⟩:∃K,w.heap.size=K:=⟨_,rfl⟩
 have hbl:b.length=n:=by have:=hv.len;simpa[Bs] using this
 obtain⟨g,off,cap,rfl,hcap,hgl,hcell⟩:=hv.pbytes (by omega)
 have t1:decide ((n:Int)<7)=false:=by simp;omega
 have t1':decide (n<7)=false:=by simp;omega
 have hbK:Blk (w.alloc (.cells #[.int .i64 0,.int .i64 0,.int .i64 0,.int .i64 0,.slice none 0 0] 147)) K #[.int .i64 0,.int .i64 0,.int .i64 0,.int .i64 0,.slice none 0 0] 147:=Blk.new_at w _ _ hK
 have hc1:Chg [] w (w.alloc (.cells #[.int .i64 0,.int .i64 0,.int .i64 0,.int .i64 0,.slice none 0 0] 147)):=(Chg.refl [] w).alloc _
 have q0:=hc1.cell_some (hcell 0 (by omega)) (by simp)
 have hso:=fun w' (c:Chg [] w w')=>rshapeOf_any g (off+1) (cap - 1) _ _ _ _ _ _ (b.getD 1 0).toNat_lt (b.getD 2 0).toNat_lt (b.getD 3 0).toNat_lt (b.getD 4 0).toNat_lt (b.getD 5 0).toNat_lt (b.getD 6 0).toNat_lt w'
  (c.cell_some (hcell 1 (by omega)) (by simp)) (c.cell_some (hcell 2 (by omega)) (by simp)) (c.cell_some (hcell 3 (by omega)) (by simp)) (c.cell_some (hcell 4 (by omega)) (by simp)) (c.cell_some (hcell 5 (by omega)) (by simp)) (c.cell_some (hcell 6 (by omega)) (by simp))
 have hS:=shpAt_cells b (by omega)
 obtain⟨B0,hb0⟩:∃b0,(b.getD 0 0).toNat=b0:=⟨_,rfl⟩
 have x0:=(b.getD 0 0).toNat_lt
 rw[hb0] at q0 x0
 rw[Nat.add_zero] at q0
 generalize 256 * (b.getD 1 0).toNat+(b.getD 2 0).toNat=W at *
 generalize 256 * (b.getD 3 0).toNat+(b.getD 4 0).toNat=H at *
 generalize (b.getD 5 0).toNat=C at *
 generalize (b.getD 6 0).toNat=D at *
 have hso1:=hso _ hc1
 have n7:(7:Int)≤(n:Int):=by omega
 have ncap:(n:Int)≤(cap:Int):=by omega
 have c7:(7:Int)≤(cap:Int):=by omega
 have c7':7≤cap:=by omega
 have c1:cap≠1:=by omega
 obtain⟨ad,had⟩:∃ad,(if cap=7 then some (⟨g,off,none⟩:Addr) else some ⟨g,off+7,none⟩)=some ad:=by split <;> exact⟨_,rfl⟩
 have hdr:=fun w' (c:Chg [] w w')=>(hv.chg0 c).dropAt hn had
 obtain⟨nn,hnn⟩:∃nn,n - 7=nn:=⟨_,rfl⟩
 rw[hnn] at hdr
 have hnb:nn≤1000000000:=by omega
 have n0:(0:Int)<(n:Int):=by omega
 have n0':0<n:=by omega
 have nsub:(n:Int) - 7=(nn:Int):=by omega
 have nsubw:wrap64 ((n:Int) - 7)=(nn:Int):=by rw[nsub];exact w64 _ (by omega)
 have hdec:decPL b=if ¬(B0=82∧maySh ⟨W,H,C,D⟩=true) then (shpZ,[],4) else if (nn:Int)<sizeD ⟨W,H,C,D⟩ then (shpZ,[],2) else if sizeD ⟨W,H,C,D⟩<(nn:Int) then (shpZ,[],3) else (⟨W,H,C,D⟩,b.drop 7,0):=by
  unfold decPL
  rw[if_neg (by omega),hS,hbl,hnn,hb0]
 have hms:=fun w'=>rmaySh_any ⟨W,H,C,D⟩ w'
 have hsz:=fun w'=>rsize_any ⟨W,H,C,D⟩ w'
 unfold shpV at hms hsz
 simp only at hms hsz
 have HB:=zD hbK hc1 hdec had hnn
 have HGL:=zH hgl
 clear hbK hc1 hdec hv hbl hS hb0 hcell hso had hgl hn hn9
 go_enter Tryz.func149,Tryz.ntmps149
 go_wp2_with fail
 have hbK1:=HB.out.1
 have hcw1:=HB.out.2.1
 generalize (w.alloc (.cells #[.int .i64 0,.int .i64 0,.int .i64 0,.int .i64 0,.slice none 0 0] 147))=w1 at *
 refine hso1.mono ?_
 rintro e w2 ⟨rfl,c2⟩
 have hbK2:=hbK1.chg0 c2
 have hcw2:=hcw1.nil c2
 have m00:=c2.cell_some q0 (by simp)
 clear hso1 q0 hbK1 hcw1
 obtain⟨P,hP⟩:∃P,w2.heap.size=P:=⟨_,rfl⟩
 have hbP:Blk (w2.alloc (.cells #[.int .i64 0,.int .i64 0,.int .i64 0,.int .i64 0] 145)) P #[.int .i64 0,.int .i64 0,.int .i64 0,.int .i64 0] 145:=Blk.new_at w2 _ _ hP
 have hcP:Chg [] w2 (w2.alloc (.cells #[.int .i64 0,.int .i64 0,.int .i64 0,.int .i64 0] 145)):=(Chg.refl [] w2).alloc _
 have hPK:K<P:=by have:=hbK2.lt;omega
 have aS:ArrTy Tryz.prog 145 (#[.int .i64 W,.int .i64 H,.int .i64 C,.int .i64 D]:Array Value).size:=shp_ty
 have HQ:=zC hcP hbK2 hcw2 hPK
 have m00P:=hcP.cell_some m00 (by simp)
 clear hcP hbK2 hcw2 c2 m00
 go_upto_region 4 with (with_reducible refine wpList_stA rfl 145 _ _ rfl hbP aS rfl (by simp[Value.oneCell']) rfl rfl ?_;intro w6 hb6 c6 hs6)
 have hbK6:=(HQ.out.2.1.chg0 HQ.out.1).chg c6 (by have:=HQ.out.2.2.2;simp;omega)
 have cw6:Chg [] w w6:=(HQ.out.2.2.1.nil HQ.out.1).trans c6 (fun k hk=>by simp at hk;right;have:=HQ.out.2.2.2;have:=HQ.out.2.2.1.size;omega)
 have m00:=c6.cell_some m00P (by have:=HGL.out;have:=HQ.out.2.2.2;simp;omega)
 have hPK:=HQ.out.2.2.2
 have HD:=zC HB.out.2.2.1 hbK6 cw6 hPK
 have had:=HB.out.2.2.2.1
 have hnn:=HB.out.2.2.2.2
 obtain⟨p0,p1,p2,p3⟩:=Blk4 hb6
 clear hs6 c6 hbP aS HQ cw6 hPK m00P t1 t1' hP x0
 by_cases hB0:B0=82
 ·have e1:((B0:Int) != 82)=false:=by simp[hB0]
  cases hmS:maySh ⟨W,H,C,D⟩ with
  | false=>
   have hz:decPL b=(shpZ,[],4):=by rw[HD.out.1,if_pos (fun h=>by rw[hmS] at h;exact absurd h.2 (by simp))]
   have HZ:=zH hz
   rw[hmS] at hms
   clear hB0 hz hmS
   go_wp2_with fail
   refine (hms _).mono ?_
   rintro e w7 ⟨rfl,c7⟩
   have hbK7:=hbK6.chg0 c7
   clear hms p0 p1 p2 p3
   have aT:ArrTy Tryz.prog 147 (#[.int .i64 0,.int .i64 0,.int .i64 0,.int .i64 0,.slice none 0 0]:Array Value).size:=ras_ty
   go_wp2_with (with_reducible refine wpList_stA rfl 147 _ _ rfl hbK7 aT rfl (by simp[Value.oneCell']) rfl rfl ?_;intro w20 hb20 c20 hs20)
   refine bodyPost_ret (results_AT rfl _ _ hb20 aT rfl) rfl ⟨.slice none 0 0,?_⟩
   rw[HZ.out]
   refine⟨rfl,Sees.nil _ _,by simp[eyes],(HD.out.2.2.1.nil c7).trans c20 fun k hk=>?_⟩
   simp at hk;right;omega
  | true=>
   have hnn:¬¬(B0=82∧maySh ⟨W,H,C,D⟩=true):=fun h=>h ⟨hB0,hmS⟩
   have hsb:=(row_size_bound ⟨W,H,C,D⟩ (by unfold maySh at hmS;simp only[Bool.and_eq_true] at hmS;exact hmS.1)).2
   have hdd:=HD.out.1
   rw[if_neg hnn] at hdd
   rw[hmS] at hms
   generalize sizeD ⟨W,H,C,D⟩=sz at *
   have HD2:=zH hdd
   clear hB0 hmS hnn hdd
   go_wp2_with fail
   refine (hms _).mono ?_
   rintro e w7 ⟨rfl,c7⟩
   have hb7:=hb6.chg0 c7
   clear hms p0 p1 p2 p3
   obtain⟨p0,p1,p2,p3⟩:=Blk4 hb7
   go_wp2_with fail
   refine (hsz _).mono ?_
   rintro e w8 ⟨rfl,c8⟩
   have hb8:=hb7.chg0 c8
   clear p0 p1 p2 p3
   by_cases hlt:(nn:Int)<sz
   ·have e2:decide ((nn:Int)<sz)=true:=by simp;omega
    have hz:decPL b=(shpZ,[],2):=by rw[HD2.out,if_pos hlt]
    have HZ:=zH hz
    have hbK8:=(hbK6.chg0 c7).chg0 c8
    clear hz hlt
    have aT:ArrTy Tryz.prog 147 (#[.int .i64 0,.int .i64 0,.int .i64 0,.int .i64 0,.slice none 0 0]:Array Value).size:=ras_ty
    go_wp2_with (with_reducible refine wpList_stA rfl 147 _ _ rfl hbK8 aT rfl (by simp[Value.oneCell']) rfl rfl ?_;intro w20 hb20 c20 hs20)
    refine bodyPost_ret (results_AT rfl _ _ hb20 aT rfl) rfl ⟨.slice none 0 0,?_⟩
    rw[HZ.out]
    refine⟨rfl,Sees.nil _ _,by simp[eyes],((HD.out.2.2.1.nil c7).nil c8).trans c20 fun k hk=>?_⟩
    simp at hk;right;omega
   ·have e2:decide ((nn:Int)<sz)=false:=by simp;omega
    obtain⟨p0,p1,p2,p3⟩:=Blk4 hb8
    go_wp2_with fail
    refine (hsz _).mono ?_
    rintro e w9 ⟨rfl,c9⟩
    have hb9:=hb8.chg0 c9
    have hbK9:=((hbK6.chg0 c7).chg0 c8).chg0 c9
    have cw9:=((HD.out.2.2.1.nil c7).nil c8).nil c9
    clear p0 p1 p2 p3 hsz hb7 hb8 c7 c8 c9
    by_cases hgt:sz<(nn:Int)
    ·have e3:decide (sz<(nn:Int))=true:=by simp;omega
     have hz:decPL b=(shpZ,[],3):=by rw[HD2.out,if_neg (by omega),if_pos hgt]
     have HZ:=zH hz
     clear hz hlt hgt
     have aT:ArrTy Tryz.prog 147 (#[.int .i64 0,.int .i64 0,.int .i64 0,.int .i64 0,.slice none 0 0]:Array Value).size:=ras_ty
     go_wp2_with (with_reducible refine wpList_stA rfl 147 _ _ rfl hbK9 aT rfl (by simp[Value.oneCell']) rfl rfl ?_;intro w20 hb20 c20 hs20)
     refine bodyPost_ret (results_AT rfl _ _ hb20 aT rfl) rfl ⟨.slice none 0 0,?_⟩
     rw[HZ.out]
     refine⟨rfl,Sees.nil _ _,by simp[eyes],cw9.trans c20 fun k hk=>?_⟩
     simp at hk;right;omega
    ·have e3:decide (sz<(nn:Int))=false:=by simp;omega
     have hz:decPL b=(⟨W,H,C,D⟩,b.drop 7,0):=by rw[HD2.out,if_neg (by omega),if_neg (by omega)]
     have HZ:=zH hz
     have hse:=hdr w9 cw9
     obtain⟨p0,p1,p2,p3⟩:=Blk4 hb9
     clear hz hlt hgt
     go_upto_region 11 with (fail)
     refine wp_region_S (fun i=>i==5) (by kernel_rfl) ?_
     refine tS 0 (.agg #[.int .i64 W,.int .i64 H,.int .i64 C,.int .i64 D]) (fun w4 c4=>?_) ?_
     ·have z0:=c4.cell_some p0 (by simp)
      have z1:=c4.cell_some p1 (by simp)
      have z2:=c4.cell_some p2 (by simp)
      have z3:=c4.cell_some p3 (by simp)
      go_simp
     try simp only[Act.put,yA,yB,yC,yD,yE,yF]
     refine tS 1 (.slice (some ⟨g,off,none⟩) n cap) (fun w4 c4=>?_) ?_
     ·go_simp
     try simp only[Act.put,yA,yB,yC,yD,yE,yF]
     refine tS 2 (.slice (some ad) nn (cap - 7)) (fun w4 c4=>?_) ?_
     ·go_simp
     try simp only[Act.put,yA,yB,yC,yD,yE,yF]
     refine wpAnyS_only 3 rfl (by kernel_rfl) rfl (by rfl) (fun w10 c10=>?_)
     go_simp
     refine (rclone_any ad nn (cap - 7) (b.drop 7) w10 (hse.chg0 c10) hnb).mono ?_
     rintro e w11 ⟨v11,rfl,hs11,hn11,c11⟩
     refine⟨c11,?_⟩
     try simp only[Act.put,yA,yB,yC,yD,yE,yF]
     obtain⟨ao11,cp11,rfl,-,-⟩:=hs11.shape
     have hbK11:=(hbK9.chg0 c10).chg0 c11
     have cw11:=(cw9.nil c10).nil c11
     refine tS 4 (.agg #[.int .i64 W,.int .i64 H,.int .i64 C,.int .i64 D,.slice ao11 nn cp11]) (fun w4 c4=>?_) ?_
     ·go_simp
     try simp only[Act.put,yA,yB,yC,yD,yE,yF]
     refine wpAnyS_last 5 rfl (by kernel_rfl) rfl (by rfl) (fun w12 c12=>?_)
     refine wp_stA (cs:=#[.int .i64 W,.int .i64 H,.int .i64 C,.int .i64 D,.slice ao11 nn cp11]) 147 _ _ rfl (hbK11.chg0 c12) ras_ty rfl (by simp[Value.oneCell']) rfl rfl ?_
     intro w13 hb13 c13 hs13
     try simp only[Act.put,yA,yB,yC,yD,yE,yF]
     refine wpAny_only 6 rfl (by kernel_rfl) (by rfl) ?_
     go_simp
     refine wpAny_fin (by kernel_rfl) ?_ _
     try simp only[Act.put,yA,yB,yC,yD,yE,yF]
     have cw13:Chg [] w w13:=(cw11.nil c12).trans c13 fun k hk=>by simp at hk;right;omega
     have hs13:Sees w13 1 (.slice ao11 nn cp11) nn (Bs (b.drop 7)):=(hs11.chg0 c12).chg c13 fun k hk=>by
      have h1:=hn11 k hk
      have h2:=hbK9.lt
      have h3:=c10.size
      simp;omega
     have hn13:∀k∈eyes (.slice ao11 nn cp11),w.heap.size≤k:=fun k hk=>by
      have h1:=hn11 k hk
      have h2:=cw9.size
      have h3:=c10.size
      omega
     have hl7:(b.drop 7).length=nn:=by have:=hs11.len;simpa[Bs] using this
     clear p0 p1 p2 p3
     go_wp2_with fail
     refine bodyPost_ret (results_AT rfl _ _ hb13 ras_ty rfl) rfl ⟨.slice ao11 nn cp11,?_⟩
     rw[HZ.out]
     refine⟨rfl,?_,fun k hk=>by have:=hn13 k hk;omega,cw13⟩
     simp only
     rw[hl7]
     exact hs13
 ·have e1:((B0:Int) != 82)=true:=by simp;omega
  have hz:decPL b=(shpZ,[],4):=by rw[HD.out.1,if_pos (fun h=>hB0 h.1)]
  have HZ:=zH hz
  clear hB0 hz
  have aT:ArrTy Tryz.prog 147 (#[.int .i64 0,.int .i64 0,.int .i64 0,.int .i64 0,.slice none 0 0]:Array Value).size:=ras_ty
  go_wp2_with (with_reducible refine wpList_stA rfl 147 _ _ rfl hbK6 aT rfl (by simp[Value.oneCell']) rfl rfl ?_;intro w7 hb7 c7 hs7)
  refine bodyPost_ret (results_AT rfl _ _ hb7 aT rfl) rfl ⟨.slice none 0 0,?_⟩
  rw[HZ.out]
  refine⟨rfl,Sees.nil _ _,by simp[eyes],HD.out.2.2.1.trans c7 fun k hk=>?_⟩
  simp at hk;right;omega
theorem rdecode_pix (v:Value) (n:Nat) (b:List UInt8) (w:World) (hv:Sees w 1 v n (Bs b)) (hn9:n≤1000000000):
  Calls Tryz.prog 149 #[v] w fun e w'=>∃v',e=.returned (.tuple #[rasV (decPL b).1 v',.int .i64 (decPL b).2.2])∧Sees w' 1 v' (decPL b).2.1.length (Bs (decPL b).2.1)∧(∀k∈eyes v',w.heap.size≤k)∧Chg [] w w':=by
 by_cases h:n<7
 ·have hbl:b.length=n:=by have:=hv.len;simpa[Bs] using this
  have e:decPL b=(shpZ,[],2):=by unfold decPL;rw[if_pos (by omega)]
  rw[e]
  refine (rdec_short v n b w hv h).mono ?_
  rintro e w' ⟨rfl,h3⟩
  exact⟨_,rfl,Sees.nil _ _,by simp[eyes],h3⟩
 ·exact rdec_long v n b w hv (by omega) hn9
end
section
open Go.RowKit Go.Aq Go.Aq.Fy
theorem rmayTile_any (s:ShpD) (ao:Option Addr) (n cap:Nat) (hn:n≤9223372036854775807) (w:World):
  Calls Tryz.prog 150 #[rasV s (.slice ao n cap)] w fun e w'=>e=.returned (.bool (mayTile s n))∧Chg [] w w':=by
 obtain⟨K,hK⟩:∃K,w.heap.size=K:=⟨_,rfl⟩
 have hc0:Chg [] w (w.alloc (.cells #[.int .i64 s.w,.int .i64 s.h,.int .i64 s.c,.int .i64 s.d,.slice ao n cap] 147)):=(Chg.refl [] w).alloc _
 have hb0:Blk (w.alloc (.cells #[.int .i64 s.w,.int .i64 s.h,.int .i64 s.c,.int .i64 s.d,.slice ao n cap] 147)) K #[.int .i64 s.w,.int .i64 s.h,.int .i64 s.c,.int .i64 s.d,.slice ao n cap] 147:=Blk.new_at w _ _ hK
 have hp:=fun w'=>rmayPix_any s ao n cap hn w'
 have eM:mayTile s n=(mayPix s n&&decide (s.w≤8)&&decide (s.h≤8)):=rfl
 rw[eM]
 unfold rasV at *
 clear eM hn
 have HC0:=zH hc0
 obtain⟨x0,x1,x2,x3,x4⟩:=Blk5 hb0
 go_enter Tryz.func150,Tryz.ntmps150
 go_wp2_with fail
 have ct:=HC0.out
 generalize w.alloc (.cells #[.int .i64 s.w,.int .i64 s.h,.int .i64 s.c,.int .i64 s.d,.slice ao n cap] 147)=w0 at *
 refine (hp _).mono ?_
 rintro e w1 ⟨rfl,c1⟩
 have hb1:=hb0.chg0 c1
 clear x0 x1 x2 x3 x4
 obtain⟨x0,x1,x2,x3,x4⟩:=Blk5 hb1
 have HT:=zH (ct.nil c1)
 clear hp hb0 ct c1 hc0 HC0 hb1
 cases q1:mayPix s n with
 | false=>
  have Q1:=zH q1
  clear q1
  go_wp2_with fail
  go_ret
  exact⟨by simp only[Q1.out,Bool.false_and];rfl,HT.out⟩
 | true=>
  have Q1:=zH q1
  clear q1
  cases q2:decide (s.w≤8) with
  | false=>
   have Q2:=zH q2
   go_wp2_with fail
   go_ret
   exact⟨by simp only[Q1.out,Q2.out,Bool.true_and,Bool.false_and];rfl,HT.out⟩
  | true=>
   have Q2:=zH q2
   go_wp2_with fail
   go_ret
   exact⟨by simp only[Q1.out,Q2.out,Bool.true_and];rfl,HT.out⟩
def AsTileEnd (w:World) (b:List UInt8) (e:Ending) (w':World):Prop:=
 (∃v,e=.returned (.tuple #[v,.bool (refTile b)])∧∃s ao n cap,v=rasV s (.slice ao n cap)∧(refTile b=true→s=(decPL b.tail).1∧Sees w' 1 (.slice ao n cap) (decPL b.tail).2.1.length (Bs (decPL b.tail).2.1)∧∀k∈eyes (.slice ao n cap),w.heap.size≤k))∧Chg [] w w'
theorem AsTileEnd.no {w w':World} {b:List UInt8} (h:refTile b=false) {s:ShpD} {ao:Option Addr} {n cap:Nat} (c:Chg [] w w'):AsTileEnd w b (.returned (.tuple #[rasV s (.slice ao n cap),.bool false])) w':=
 ⟨⟨_,by rw[h],s,ao,n,cap,rfl,fun h2=>by rw[h] at h2;cases h2⟩,c⟩
set_option maxRecDepth 100000 in
theorem asTile_any (w:World) (v:Value) (b:List UInt8) (n:Nat) (hn:b.length=n) (hv:Sees w 1 v n (Bs b)) (hb:n≤1000000):
  Calls Tryz.prog 83 #[v] w (AsTileEnd w b):=by
 obtain⟨K,hK⟩:∃K,w.heap.size=K:=⟨_,rfl⟩
 have hc0:Chg [] w (w.alloc (.cells #[.int .i64 0,.int .i64 0,.int .i64 0,.int .i64 0,.slice none 0 0] 147)):=(Chg.refl [] w).alloc _
 have hbK:Blk (w.alloc (.cells #[.int .i64 0,.int .i64 0,.int .i64 0,.int .i64 0,.slice none 0 0] 147)) K #[.int .i64 0,.int .i64 0,.int .i64 0,.int .i64 0,.slice none 0 0] 147:=Blk.new_at w _ _ hK
 match b,hn,hv with
 | [],hn,hv=>
  simp only[List.length_nil] at hn
  subst hn
  obtain⟨ao,cap,rfl,-⟩:=hv.shape
  have HC0:=zB hc0 hbK hK
  clear hv hb hc0 hbK
  go_enter Tryz.func83,Tryz.ntmps83
  go_wp2_with fail
  refine bodyPost_ret (results_AT rfl _ _ HC0.out.2.1 ras_ty rfl) rfl ?_
  exact AsTileEnd.no (s:=shpZ) rfl HC0.out.1
 | k::t,hn,hv=>
  have hp:0<n:=by rw[←hn];simp
  obtain⟨g,off,cap,rfl,hcap,hcell⟩:=hv.at1 hp
  have m0:(w.alloc (.cells #[.int .i64 0,.int .i64 0,.int .i64 0,.int .i64 0,.slice none 0 0] 147)).cell? ⟨g,off,none⟩=some (.int .u8 (k.toNat:Int)):=hc0.cell_some (hcell 0 hp) (by simp)
  have t1:decide ((n:Int)<1)=false:=by simp;omega
  have t2:(0:Int)<(n:Int):=by omega
  have t2':0<n:=hp
  by_cases h1:k=1
  ·subst h1
   have k1:(((1:UInt8).toNat:Int) != 1)=false:=rfl
   obtain⟨s,hs⟩:∃s,(decPL t).1=s:=⟨_,rfl⟩
   obtain⟨px,hpx⟩:∃px,(decPL t).2.1=px:=⟨_,rfl⟩
   obtain⟨en,hen⟩:∃en,(decPL t).2.2=en:=⟨_,rfl⟩
   have hpl:px.length≤1000000:=by have h1:=dec_len t;rw[hpx] at h1;simp only[List.length_cons] at hn;omega
   have HR:Hid (refTile (1::t)=(decide (en=0)&&mayTile s px.length)):=by
    show (decide ((1:UInt8)=1)&&decide ((decPL t).2.2=0)&&mayTile (decPL t).1 (decPL t).2.1.length)=_
    rw[hs,hpx,hen]
    simp
   have HD:=zB hs hpx hen
   by_cases hc1:cap=1
   case' pos=>
    have hn1:n=1:=by omega
    subst hn1
    have hd:∀w'',Chg [] w w''→Calls Tryz.prog 149 #[.slice (some ⟨g,off,none⟩) 0 0] w'' fun e w'=>∃v',e=.returned (.tuple #[.agg #[.int .i64 s.w,.int .i64 s.h,.int .i64 s.c,.int .i64 s.d,v'],.int .i64 en])∧Sees w' 1 v' px.length (Bs px)∧(∀k∈eyes v',w''.heap.size≤k)∧Chg [] w'' w':=fun w'' c=>by
     have h:=rdecode_pix (.slice (some ⟨g,off,none⟩) 0 0) _ t w'' (by have h1:=(hv.chg0 c).dropAt (k:=1) hp (if_pos hc1);subst hc1;exact h1) (by omega)
     rw[hs,hpx,hen] at h
     exact h
    have HC0:=zB hc0 hbK hK
    subst hc1
    clear hv hb hcell hn hc0 hbK hs hpx hen
   case' neg=>
    have hd:∀w'',Chg [] w w''→Calls Tryz.prog 149 #[.slice (some ⟨g,off+1,none⟩) (n - 1) (cap - 1)] w'' fun e w'=>∃v',e=.returned (.tuple #[.agg #[.int .i64 s.w,.int .i64 s.h,.int .i64 s.c,.int .i64 s.d,v'],.int .i64 en])∧Sees w' 1 v' px.length (Bs px)∧(∀k∈eyes v',w''.heap.size≤k)∧Chg [] w'' w':=fun w'' c=>by
     have h:=rdecode_pix (.slice (some ⟨g,off+1,none⟩) (n - 1) (cap - 1)) _ t w'' (by have h1:=(hv.chg0 c).dropAt (k:=1) hp (if_neg hc1);exact h1) (by omega)
     rw[hs,hpx,hen] at h
     exact h
    have HC0:=zB hc0 hbK hK
    have hq:1≤n:=hp
    clear hv hb hcell hn hc0 hbK hs hpx hen
   all_goals
    go_enter Tryz.func83,Tryz.ntmps83
    go_wp2_with fail
    refine (hd _ HC0.out.1).mono ?_
    rintro e w2 ⟨v2,rfl,hs2,hn2,c2⟩
    clear hd m0
    obtain⟨ao2,cap2,rfl,-⟩:=hs2.shape
    have hbK2:=HC0.out.2.1.chg0 c2
    have ct2:=HC0.out.1.nil c2
    by_cases hen:en=0
    ·have e0:(en != 0)=false:=by simp[hen]
     obtain⟨K2,hK2⟩:∃K2,w2.heap.size=K2:=⟨_,rfl⟩
     have c3:Chg [] w2 (w2.alloc (.cells #[.int .i64 s.w,.int .i64 s.h,.int .i64 s.c,.int .i64 s.d,.slice ao2 px.length cap2] 147)):=(Chg.refl [] w2).alloc _
     have hb3:Blk (w2.alloc (.cells #[.int .i64 s.w,.int .i64 s.h,.int .i64 s.c,.int .i64 s.d,.slice ao2 px.length cap2] 147)) K2 #[.int .i64 s.w,.int .i64 s.h,.int .i64 s.c,.int .i64 s.d,.slice ao2 px.length cap2] 147:=Blk.new_at w2 _ _ hK2
     have hbK3:=hbK2.chg0 c3
     have ct3:=ct2.nil c3
     have hs3:=hs2.chg0 c3
     have hmt:=fun w'=>rmayTile_any s ao2 px.length cap2 (by omega) w'
     unfold rasV at hmt
     obtain⟨x0,x1,x2,x3,x4⟩:=Blk5 hb3
     have HB:=zD hb3 hbK3 ct3 hs3 hn2
     have HE:=zH hen
     have hKw:K2≠K:=fun e=>by have:=hbK2.lt;omega
     have HKw:=zH hKw
     clear hb3 hbK3 ct3 hs3 hn2 hs2 hbK2 ct2 c2 c3 hen hKw
     cases hM:mayTile s px.length with
     | false=>
      rw[hM] at hmt
      have HM:=zH hM
      clear hM
      go_wp2_with fail
      generalize w2.alloc (.cells #[.int .i64 s.w,.int .i64 s.h,.int .i64 s.c,.int .i64 s.d,.slice ao2 px.length cap2] 147)=w3 at *
      refine (hmt _).mono ?_
      rintro e w4 ⟨rfl,c4⟩
      clear hmt x0 x1 x2 x3 x4
      have hbK4:=HB.out.2.1.chg0 c4
      have ct4:=HB.out.2.2.1.nil c4
      have aT:ArrTy Tryz.prog 147 (#[.int .i64 0,.int .i64 0,.int .i64 0,.int .i64 0,.slice none 0 0]:Array Value).size:=ras_ty
      go_wp2_with (with_reducible refine wpList_stA rfl 147 _ _ rfl hbK4 aT rfl (by simp[Value.oneCell']) rfl rfl ?_;intro w20 hb20 c20 hs20)
      refine bodyPost_ret (results_AT rfl _ _ hb20 ras_ty rfl) rfl ?_
      exact AsTileEnd.no (s:=shpZ) (by rw[HR.out,HM.out];simp) (ct4.trans c20 fun k hk=>by simp at hk;right;have:=HC0.out.2.2;omega)
     | true=>
      rw[hM] at hmt
      have HM:=zH hM
      clear hM
      go_wp2_with fail
      generalize w2.alloc (.cells #[.int .i64 s.w,.int .i64 s.h,.int .i64 s.c,.int .i64 s.d,.slice ao2 px.length cap2] 147)=w3 at *
      refine (hmt _).mono ?_
      rintro e w4 ⟨rfl,c4⟩
      clear hmt x0 x1 x2 x3 x4
      have hbK4:=HB.out.2.1.chg0 c4
      have ct4:=HB.out.2.2.1.nil c4
      obtain⟨x0,x1,x2,x3,x4⟩:=Blk5 (HB.out.1.chg0 c4)
      have HC4:=zH c4
      clear c4
      have aT:ArrTy Tryz.prog 147 (#[.int .i64 s.w,.int .i64 s.h,.int .i64 s.c,.int .i64 s.d,.slice ao2 px.length cap2]:Array Value).size:=ras_ty
      have hss:(#[.int .i64 0,.int .i64 0,.int .i64 0,.int .i64 0,.slice none 0 0]:Array Value).size=(#[.int .i64 s.w,.int .i64 s.h,.int .i64 s.c,.int .i64 s.d,.slice ao2 px.length cap2]:Array Value).size:=rfl
      have hone:∀v∈(#[.int .i64 s.w,.int .i64 s.h,.int .i64 s.c,.int .i64 s.d,.slice ao2 px.length cap2]:Array Value).toList,v.oneCell'=true:=by simp[Value.oneCell']
      go_wp2_with (with_reducible refine wpList_stA rfl 147 _ _ rfl hbK4 aT hss hone rfl rfl ?_;intro w20 hb20 c20 hs20)
      refine bodyPost_ret (results_AT rfl _ _ hb20 ras_ty rfl) rfl ?_
      have hr:refTile (1::t)=true:=by rw[HR.out,HM.out,HE.out];rfl
      refine⟨⟨rasV s (.slice ao2 px.length cap2),by rw[hr];rfl,s,ao2,px.length,cap2,rfl,fun _=>⟨?_,?_,fun k hk=>?_⟩⟩,ct4.trans c20 fun k hk=>by simp at hk;right;have:=HC0.out.2.2;omega⟩
      ·exact HD.out.1.symm
      ·show Sees w20 1 _ (decPL t).2.1.length (Bs (decPL t).2.1)
       rw[HD.out.2.1]
       refine (HB.out.2.2.2.1.chg0 HC4.out).chg c20 fun k hk hk'=>?_
       have h1:=HB.out.2.2.2.2 k hk
       have h2:=HC0.out.2.1.lt
       simp at hk'
       omega
      ·have h1:=HB.out.2.2.2.2 k hk
       have h2:=HC0.out.1.size
       omega
    ·have e0:(en != 0)=true:=by simp[hen]
     have HE:=zH hen
     have HT:=zH ct2
     have hbK3:=hbK2.chg0 ((Chg.refl [] w2).alloc (.cells #[.int .i64 s.w,.int .i64 s.h,.int .i64 s.c,.int .i64 s.d,.slice ao2 px.length cap2] 147))
     clear hn2 hs2 hbK2 ct2 c2 hen
     have aT:ArrTy Tryz.prog 147 (#[.int .i64 0,.int .i64 0,.int .i64 0,.int .i64 0,.slice none 0 0]:Array Value).size:=ras_ty
     go_wp2_with (with_reducible refine wpList_stA rfl 147 _ _ rfl hbK3 aT rfl (by simp[Value.oneCell']) rfl rfl ?_;intro w20 hb20 c20 hs20)
     refine bodyPost_ret (results_AT rfl _ _ hb20 ras_ty rfl) rfl ?_
     exact AsTileEnd.no (s:=shpZ) (by rw[HR.out];simp[HE.out]) ((HT.out.alloc _).trans c20 fun k hk=>by simp at hk;right;have:=HC0.out.2.2;omega)
  ·have k1:((k.toNat:Int) != 1)=true:=by
    have h2:k.toNat≠1:=fun e=>h1 (by rw[←UInt8.ofNat_toNat (x:=k),e];rfl)
    simp;omega
   have hr:refTile (k::t)=false:=by unfold refTile;simp[h1]
   have HC0:=zC hc0 hbK hK hr
   have hbK':=hbK
   clear hv hb hcell hn hc0 hbK h1 hr
   go_enter Tryz.func83,Tryz.ntmps83
   go_wp2_with fail
   refine bodyPost_ret (results_AT rfl _ _ HC0.out.2.1 ras_ty rfl) rfl ?_
   exact AsTileEnd.no (s:=shpZ) HC0.out.2.2.2 HC0.out.1
end
end Go.Proofs.YtlidiclfpklliaaGreatDoor
namespace Go.Aq
end Go.Aq
namespace Go.Proofs.YtlidiclfpklliaaGreatDoor
open Go.RowKit Go.Aq Go.Aq.Sha
theorem str_extract (l:List UInt8) (i j:Nat):(str l).extract i j=str ((l.take j).drop i):=by
 unfold str
 apply ByteArray.ext
 rw[ByteArray.data_extract]
 simp[List.drop_take]
theorem copyF (w:World) (v:Value) (n:Nat) (bs:List UInt8) (hv:Sees w 1 v n (Bs bs)) (hb:n≤140737488355328):
  Calls Tryz.prog 12 #[v] w fun e w'=>∃v',e=.returned v'∧Fresh w w' 5 1 v' n (Bs bs):=
 (copy_any w v n bs hv hb sl_u8).mono fun e w' ⟨v',h1,h2,h3,h4⟩=>⟨v',h1,h2,h3,h4⟩
end Go.Proofs.YtlidiclfpklliaaGreatDoor
namespace Go.Aq
open Go.RowKit
theorem Own.blk {w:World} {e:TypeId} {g n:Nat} {xs:List Value} (h:Own w e 1 (.slice (some ⟨g,0,none⟩) n n) n xs):Blk w g xs.toArray e:=by
 rcases h.2 with ⟨h,_⟩ | ⟨g',cap',cur,hv,hbg,hg,hnc,hcm,hcs,htake⟩
 ·simp at h
 ·simp only[Value.slice.injEq,Option.some.injEq,Addr.mk.injEq,and_true,true_and] at hv
  obtain⟨rfl,rfl⟩:=hv
  have:xs.toArray=cur:=by
   rw[←htake,List.take_of_length_le (by simp only[Array.length_toList];omega)]
  rw[this]
  exact hg
theorem wpList_cp {P:Program} {w:World} {ops:Array Oper} {rest:List Oper} {o:Oper} {a:Act} {Q:Exit→Act→World→Prop} (hgd:o.guard=none) (d s:Operand) (dT sT:TypeId)
  (ho:o.op=.call { callee:=.builtin .copy,args:=#[d,s],argTypes:=#[dT,sT] }) (elem:TypeId) (hu:P.underlying dT=some (.slice elem)) (hsz:(P.info? elem).map (·.size)=some 1)
  {g n c gs cs':Nat} {cur src:List Value} {t ts:TypeId} (hb:Blk w g cur.toArray t) (hs:Blk w gs src.toArray ts) (hcl:cur.length=n) (hsl:src.length=n) (h1:∀v∈src,v.oneCell'=true)
  (hd:a.eval d=.slice (some ⟨g,0,none⟩) n c) (hx:a.eval s=.slice (some ⟨gs,0,none⟩) n cs')
  (h:∀w',Blk w' g src.toArray t→Chg [g] w w'→w'.heap.size=w.heap.size→wpList P ops Q rest (a.put o.dst (goInt n)) w'):wpList P ops Q (o::rest) a w:=by
 refine wpList_copy_own hgd d s dT sT ho elem hu hsz g 0 n c ⟨gs,0,none⟩ n cs' hd hx cur.toArray t hb src (by rw[hsl];exact (Nat.min_self n).symm) (fun j v hv=>?_) (by simp;omega) h1 ?_
 ·rw[Addr.add_lit,Nat.zero_add,hs.cell]
  simpa using hv
 ·have e:(cur.toArray.toList.take 0++(src++cur.toArray.toList.drop (0+src.length)))=src:=by
   simp only[List.take_zero,List.nil_append,Nat.zero_add]
   rw[List.drop_of_length_le (by show cur.length≤src.length;omega),List.append_nil]
  rw[e,hsl]
  exact h _ (setRow_heap w g cur.toArray src.toArray t _ hb) ⟨rfl,rfl,rfl,by simp,fun k _ hk=>setRow_other w g k _ (fun e=>hk (by simp[e]))⟩ (by simp)
end Go.Aq
namespace Go.Proofs.YtlidiclfpklliaaGreatDoor
open Go.RowKit Go.Aq Go.Aq.Sha
theorem rot_or' (x k:Nat) (hx:x<4294967296) (h1:1≤k) (h2:k≤31):bits .or .u32 ((x:Int) / 2^k) (IntKind.u32.wrap ((x:Int) * 2^(32 - k)))=((rotr x k:Nat):Int):=by
 have e1:IntKind.u32.wrap ((x:Int) * 2^(32 - k))=((x * 2^(32 - k) % 4294967296:Nat):Int):=by rw[IntKind.wrap_u32];simp
 have e2:(x:Int) / 2^k=((x / 2^k:Nat):Int):=by simp
 have hlt:x / 2^k<4294967296:=Nat.lt_of_le_of_lt (Nat.div_le_self _ _) hx
 have h:=rot_or x k hx h1 h2
 rw[e1,e2] at h ⊢
 rw[(bits_u32 _ _ (Nat.mod_lt _ (by decide)) hlt).2.1] at h
 rw[(bits_u32 _ _ hlt (Nat.mod_lt _ (by decide))).2.1,Nat.or_comm]
 exact h
set_option maxRecDepth 100000 in
theorem turn_any (x k:Nat) (hx:x<4294967296) (h1:1≤k) (h2:k≤31) (w:World):Calls Tryz.prog 156 #[.int .u32 x,.int .i64 k] w fun e w'=>e=.returned (.int .u32 (rotr x k:Nat))∧∃n,w'=w.drewN n:=by
 have HO:=zH (rot_or' x k hx h1 h2)
 obtain⟨s,hs⟩:∃s,32 - k=s:=⟨_,rfl⟩
 rw[hs] at HO
 have hsi:(32:Int) - (k:Int)=(s:Int):=by omega
 have hsb:1≤s∧s≤31:=by omega
 obtain⟨hs1,hs2⟩:=hsb
 clear hs
 go_enter Tryz.func156,Tryz.ntmps156
 go_wp2_with fail
 go_quiet (fail)
 go_wp2_with fail
 go_ret
 exact⟨ret_int HO.out,_,rfl⟩
set_option maxRecDepth 100000 in
theorem const_any (w:World):Calls Tryz.prog 155 #[] w fun e w'=>∃B,e=.returned (.slice (some ⟨B,0,none⟩) 64 64)∧Blk w' B (Ws K).toArray 223∧Chg [] w w'∧w.heap.size≤B:=by
 go_enter Tryz.func155,Tryz.ntmps155
 go_wp2_with fail
 go_ret
 exact⟨w.heap.size,rfl,Blk.new w _ _,(Chg.refl _ _).alloc _,Nat.le_refl _⟩
end Go.Proofs.YtlidiclfpklliaaGreatDoor
