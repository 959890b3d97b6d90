/- The document's files: one change. No statement of the seat is proved here. -/
import Derived.Test.YtlbdklaggalgfaaGreatDoorG19
set_option linter.unusedSimpArgs false
set_option linter.unusedVariables false
set_option maxHeartbeats 16000000
namespace Go.Aq.Fy
theorem kindC (kd:Int):kd=1∨kd=2∨kd=3∨kd=4∨kd=5∨kd<1∨5<kd:=by omega
end Go.Aq.Fy
namespace Go.Proofs.YtlbdklaggalgfaaGreatDoor
open Go.RowKit Go.Aq Go.Aq.Fy Go.Maps
def OneE (B:Nat) (w:World) (V:View) (c:ChangeD) (e:Ending) (w':World):Prop:=
 ((oneV V c).2=0∧∃v' L',e=.returned (.tuple #[v',.int .i64 0])∧Fresh w w' 134 5 v' L'.length (fcs L')∧DatR B w' L'∧L'.map DF.pr=(oneV V c).1)∨
 ((oneV V c).2≠0∧∃er:Int,er≠0∧e=.returned (.tuple #[.slice none 0 0,.int .i64 er])∧Chg [] w w')
set_option maxRecDepth 100000 in
theorem done1_ok (B:Nat) (w:World) (f v:Value) (L:List DF) (kd:Int) (nm tn:Nm) (data:Sec) (dv:Value) (hv:Sees w 5 v L.length (fcs L)) (hl:L.length≤100) (hA:Asc (L.map DF.pr)) (hD:DatR B w L) (hB:B≤w.heap.size)
  (hdv:Sees w 1 dv data.length (Bs data)) (hs:nm.length≤400∧tn.length≤400∧data.length≤70000):
  Calls Tryz.prog 63 #[f,v,.agg #[.int .i64 kd,.string (str nm),.string (str tn),dv]] w (OneE B w (L.map DF.pr) ⟨kd,nm,tn,data⟩):=by
 obtain⟨lo,lcap,rfl,-⟩:=hv.shape;obtain⟨dao,dcap,rfl,-⟩:=hdv.shape;obtain⟨dn,hdn⟩:∃dn,data.length=dn:=⟨_,rfl⟩;rw[hdn] at hdv hs ⊢;have hbx:Blk (w.alloc (.cells #[.int .i64 kd,.string (str nm),.string (str tn),.slice dao dn dcap] 131)) w.heap.size #[.int .i64 kd,.string (str nm),.string (str tn),.slice dao dn dcap] 131:=Blk.new w _ _;have hcx:Chg [] w (w.alloc (.cells #[.int .i64 kd,.string (str nm),.string (str tn),.slice dao dn dcap] 131)):=(Chg.refl _ _).alloc _;have HV:=zH (hv.chg0 hcx);have HD:=zH (hD.chg0 hcx);have HDV:=zH (hdv.chg0 hcx);have HA:=zH hA;have HBB:=zH hB;have HS:=zA hs hdn;generalize hwa:w.alloc (.cells #[.int .i64 kd,.string (str nm),.string (str tn),.slice dao dn dcap] 131)=wa at *;have HB:Hid (∀W,Chg [] wa W→W.cell? ⟨w.heap.size,1,none⟩=some (.string (str nm))∧W.cell? ⟨w.heap.size,2,none⟩=some (.string (str tn))):=fun W c=>⟨(hbx.chg0 c).cell 1,(hbx.chg0 c).cell 2⟩
 have f0:wa.cell? ⟨w.heap.size,0,none⟩=some (.int .i64 kd):=hbx.cell 0;have f1:wa.cell? ⟨w.heap.size,1,none⟩=some (.string (str nm)):=hbx.cell 1;have f2:wa.cell? ⟨w.heap.size,2,none⟩=some (.string (str tn)):=hbx.cell 2;have f3:wa.cell? ⟨w.heap.size,3,none⟩=some (.slice dao dn dcap):=hbx.cell 3;have hfn:=dfind_ok wa _ L nm HV.out (by omega);have hft:=dfind_ok wa _ L tn HV.out (by omega);have hN:=dname_ok wa nm (by omega);have hT:=dname_ok wa tn (by omega);have hcp:=copy_any wa (.slice dao dn dcap) dn data HDV.out (by omega) sl_u8D;have hdr:=fun W (c:Chg [] wa W)=>dwithout_ok W _ L nm (HV.out.chg0 c) (by omega)
 have HX:=zA hl hcx;obtain⟨bn,hbn⟩:∃b,nameOk nm=b:=⟨_,rfl⟩;obtain⟨bt,hbt⟩:∃b,nameOk tn=b:=⟨_,rfl⟩;rw[hbn] at hN;rw[hbt] at hT;have hV4:(L.map DF.pr).length<400:=by rw[List.length_map];omega
 have HV4:=zH hV4;clear hv hl hA hD hB hdv hs hbx hcx hdn hV4;go_enter Tryz.func63,Tryz.ntmps63;go_upto_region 1 with (fail);(try rw[hwa]);clear hwa;go_wp2_with fail;refine hfn.mono ?_;rintro e W ⟨⟨r,hr,rfl⟩,hW⟩;subst hW;clear hfn;go_wp2_with fail;refine hN.mono ?_;rintro e W2 ⟨rfl,hW⟩;subst hW;clear hN;cases bn with
 | false=>
  have hO:=zH (oneV_nm (V:=L.map DF.pr) (kd:=kd) (tn:=tn) (d:=data) hbn);clear hr hcp hdr;go_wp2_with fail;go_ret2;exact .inr ⟨hO.out,16,by decide,rfl,HX.out.2⟩
 | true=>
  rcases kindC kd with rfl | rfl | rfl | rfl | rfl | hk | hk
  ·rcases hr with ⟨j,x,hj,hxn,rfl⟩ | ⟨hno,rfl⟩
   ·have hlk:=pr_some HA.out hj hxn;have j0:decide ((0:Int)≤(j:Int))=true:=by simp
    have j1:decide ((j:Int)<0)=false:=by simp
    have hO:=zH (oneV_c1 (V:=L.map DF.pr) (tn:=tn) (d:=data) (by rw[hlk];exact fun h=>by cases h));clear hlk hj hxn hcp hdr;go_wp2_with fail;go_ret2;exact .inr ⟨hO.out,7,by decide,rfl,HX.out.2⟩
   ·have hlk:=pr_none hno;clear hno;have hO:=oneV_put (V:=L.map DF.pr) (kd:=1) (tn:=tn) (d:=data) hbn HV4.out (.inl ⟨rfl,hlk⟩);have HO:=zH hO;clear hO;go_wp2_with fail;refine hcp.mono ?_;rintro e W3 ⟨v3,rfl,h1,h2,h3⟩;obtain⟨ad,cd,rfl,-⟩:=h1.sees.shape;have HF3:Hid (Fresh W2 W3 5 1 (.slice ad dn cd) dn (Bs data)):=⟨h1,h2,h3⟩;have f0:=h2.cell_some f0 (by simp);have f1:=h2.cell_some f1 (by simp);clear h1 h2 h3 hcp;obtain⟨nb,hnb⟩:∃nb,newB (L.map DF.pr) 1 nm data=nb:=⟨_,rfl⟩;have HE:Hid (Fresh W2 W3 5 1 (.slice ad dn cd) dn (Bs nb)∧nb.length=dn∧oneV (L.map DF.pr) ⟨1,nm,tn,data⟩=if 65535<nb.length then (L.map DF.pr,10) else (insK nm nb (L.map DF.pr),0)):=by
     have hd:newB (L.map DF.pr) 1 nm data=data:=by unfold newB;exact if_neg (by decide)
     have hO:=HO.out;rw[hnb] at hO;rw[←hnb,hd];rw[←hnb,hd] at hO;exact⟨HF3.out,HS.out.2,hO⟩
    clear hnb;clear hlk;go_upto_region 24 with (fail);have g1:W3.cell? ⟨w.heap.size,1,none⟩=some (.string (str nm)):=(HB.out W3 HE.out.1.chg).1;have hwi:=dwith_ok W3 _ L ⟨nm,nb,ad,cd⟩ (HV.out.chg0 HE.out.1.chg) (by have:=HX.out.1;omega);unfold DF.dv at hwi;simp only at hwi;rw[HE.out.2.1] at hwi;have hwl:(wiD ⟨nm,nb,ad,cd⟩ L).length≤101:=by
     have h1:=congrArg List.length (wiD_pr ⟨nm,nb,ad,cd⟩ L HA.out);rw[List.length_map] at h1;rw[h1];have h2:=ins_length_le nm nb (L.map DF.pr);rw[List.length_map] at h2;have:=HX.out.1;exact Nat.le_trans h2 (by omega)
    go_wp2_with fail;refine hwi.mono ?_;rintro e W4 ⟨v4,rfl,hF4⟩;obtain⟨a4,c4,rfl,-⟩:=hF4.shape;have HF4:=zH hF4;clear hF4 hwi;generalize hwn:(wiD ⟨nm,nb,ad,cd⟩ L).length=wn at *;have hwn2:decide ((400:Int)<(wn:Int))=false:=by simp;omega
    by_cases hbig:65535<dn
    ·have hb1:decide ((65535:Int)<(dn:Int))=true:=by simp;omega
     have hO:=HE.out.2.2;rw[HE.out.2.1,if_pos hbig] at hO;have HO:=zH hO;clear hO hwl hwn hbig;go_wp2_with fail;go_ret2;exact .inr ⟨by rw[HO.out];exact (by decide:(10:Nat)≠0),10,by decide,rfl,HX.out.2.nil (HE.out.1.chg.nil HF4.out.chg)⟩
    ·have hb1:decide ((65535:Int)<(dn:Int))=false:=by simp;omega
     have hO:=HE.out.2.2;rw[HE.out.2.1,if_neg hbig] at hO;have HO:=zH hO;have HW:=zH hwn;have HB2:=zH hbig;clear hO hwl hwn hbig;go_wp2_with fail;go_ret2;refine .inl ⟨by rw[HO.out],_,wiD ⟨nm,nb,ad,cd⟩ L,rfl,?_,?_,?_⟩
     ·rw[HW.out];exact⟨HF4.out.own,HX.out.2.nil (HE.out.1.chg.nil HF4.out.chg),fun k hk=>Nat.le_trans (Nat.le_trans HX.out.2.size HE.out.1.chg.size) (HF4.out.new k hk)⟩
     ·refine DatR.wi ((HD.out.chg0 HE.out.1.chg).chg0 HF4.out.chg) ⟨by show nb.length≤_;rw[HE.out.2.1];exact Nat.le_of_not_lt HB2.out,?_,fun k hk=>?_⟩
      ·show Sees W4 1 (.slice ad nb.length cd) nb.length (Bs nb);rw[HE.out.2.1];exact (HE.out.1.own.sees).chg0 HF4.out.chg
      ·have hk':k∈eyes (.slice ad nb.length cd):=hk;rw[HE.out.2.1] at hk';exact Nat.le_trans (Nat.le_trans HBB.out HX.out.2.size) (HE.out.1.new k (eyes_own _ k hk'))
     ·rw[HO.out,wiD_pr _ _ HA.out]
  ·clear hr;have hO:=oneV_put (V:=L.map DF.pr) (kd:=2) (tn:=tn) (d:=data) hbn HV4.out (.inr (.inl rfl));have HO:=zH hO;clear hO;go_wp2_with fail;refine hcp.mono ?_;rintro e W3 ⟨v3,rfl,h1,h2,h3⟩;obtain⟨ad,cd,rfl,-⟩:=h1.sees.shape;have HF3:Hid (Fresh W2 W3 5 1 (.slice ad dn cd) dn (Bs data)):=⟨h1,h2,h3⟩;have f0:=h2.cell_some f0 (by simp);have f1:=h2.cell_some f1 (by simp);clear h1 h2 h3 hcp;obtain⟨nb,hnb⟩:∃nb,newB (L.map DF.pr) 2 nm data=nb:=⟨_,rfl⟩;have HE:Hid (Fresh W2 W3 5 1 (.slice ad dn cd) dn (Bs nb)∧nb.length=dn∧oneV (L.map DF.pr) ⟨2,nm,tn,data⟩=if 65535<nb.length then (L.map DF.pr,10) else (insK nm nb (L.map DF.pr),0)):=by
    have hd:newB (L.map DF.pr) 2 nm data=data:=by unfold newB;exact if_neg (by decide)
    have hO:=HO.out;rw[hnb] at hO;rw[←hnb,hd];rw[←hnb,hd] at hO;exact⟨HF3.out,HS.out.2,hO⟩
   clear hnb;go_upto_region 24 with (fail);have g1:W3.cell? ⟨w.heap.size,1,none⟩=some (.string (str nm)):=(HB.out W3 HE.out.1.chg).1;have hwi:=dwith_ok W3 _ L ⟨nm,nb,ad,cd⟩ (HV.out.chg0 HE.out.1.chg) (by have:=HX.out.1;omega);unfold DF.dv at hwi;simp only at hwi;rw[HE.out.2.1] at hwi;have hwl:(wiD ⟨nm,nb,ad,cd⟩ L).length≤101:=by
    have h1:=congrArg List.length (wiD_pr ⟨nm,nb,ad,cd⟩ L HA.out);rw[List.length_map] at h1;rw[h1];have h2:=ins_length_le nm nb (L.map DF.pr);rw[List.length_map] at h2;have:=HX.out.1;exact Nat.le_trans h2 (by omega)
   go_wp2_with fail;refine hwi.mono ?_;rintro e W4 ⟨v4,rfl,hF4⟩;obtain⟨a4,c4,rfl,-⟩:=hF4.shape;have HF4:=zH hF4;clear hF4 hwi;generalize hwn:(wiD ⟨nm,nb,ad,cd⟩ L).length=wn at *;have hwn2:decide ((400:Int)<(wn:Int))=false:=by simp;omega
   by_cases hbig:65535<dn
   ·have hb1:decide ((65535:Int)<(dn:Int))=true:=by simp;omega
    have hO:=HE.out.2.2;rw[HE.out.2.1,if_pos hbig] at hO;have HO:=zH hO;clear hO hwl hwn hbig;go_wp2_with fail;go_ret2;exact .inr ⟨by rw[HO.out];exact (by decide:(10:Nat)≠0),10,by decide,rfl,HX.out.2.nil (HE.out.1.chg.nil HF4.out.chg)⟩
   ·have hb1:decide ((65535:Int)<(dn:Int))=false:=by simp;omega
    have hO:=HE.out.2.2;rw[HE.out.2.1,if_neg hbig] at hO;have HO:=zH hO;have HW:=zH hwn;have HB2:=zH hbig;clear hO hwl hwn hbig;go_wp2_with fail;go_ret2;refine .inl ⟨by rw[HO.out],_,wiD ⟨nm,nb,ad,cd⟩ L,rfl,?_,?_,?_⟩
    ·rw[HW.out];exact⟨HF4.out.own,HX.out.2.nil (HE.out.1.chg.nil HF4.out.chg),fun k hk=>Nat.le_trans (Nat.le_trans HX.out.2.size HE.out.1.chg.size) (HF4.out.new k hk)⟩
    ·refine DatR.wi ((HD.out.chg0 HE.out.1.chg).chg0 HF4.out.chg) ⟨by show nb.length≤_;rw[HE.out.2.1];exact Nat.le_of_not_lt HB2.out,?_,fun k hk=>?_⟩
     ·show Sees W4 1 (.slice ad nb.length cd) nb.length (Bs nb);rw[HE.out.2.1];exact (HE.out.1.own.sees).chg0 HF4.out.chg
     ·have hk':k∈eyes (.slice ad nb.length cd):=hk;rw[HE.out.2.1] at hk';exact Nat.le_trans (Nat.le_trans HBB.out HX.out.2.size) (HE.out.1.new k (eyes_own _ k hk'))
    ·rw[HO.out,wiD_pr _ _ HA.out]
  ·rcases hr with ⟨j,x,hj,hxn,rfl⟩ | ⟨hno,rfl⟩
   ·have hlk:=pr_some HA.out hj hxn;have j0:decide ((0:Int)≤(j:Int))=true:=by simp
    have j1:decide ((j:Int)<0)=false:=by simp
    have hO:=oneV_put (V:=L.map DF.pr) (kd:=3) (tn:=tn) (d:=data) hbn HV4.out (.inr (.inr ⟨rfl,by rw[hlk];exact fun h=>by cases h⟩));have HO:=zA hO hlk;clear hO hlk;go_wp2_with fail;refine hcp.mono ?_;rintro e W3 ⟨v3,rfl,h1,h2,h3⟩;obtain⟨ad,cd,rfl,-⟩:=h1.sees.shape;have HF3:Hid (Fresh W2 W3 5 1 (.slice ad dn cd) dn (Bs data)):=⟨h1,h2,h3⟩;have f0:=h2.cell_some f0 (by simp);have f1:=h2.cell_some f1 (by simp);clear h1 h2 h3 hcp;have hjl:=(List.getElem?_eq_some_iff.1 hj).1;obtain⟨g,off,cap',hs,-,hgl,hcell⟩:=(HV.out.chg0 HF3.out.chg).cells (by omega);obtain⟨y0,y1,y2,y3,y4⟩:=fcs_cells rfl hcell j hjl;rw[(List.getElem?_eq_some_iff.1 hj).2] at y0 y1 y4;simp only[Value.slice.injEq,true_and] at hs;obtain⟨hs1,hs2⟩:=hs;have hxm:=HD.out x (List.mem_of_getElem? hj);obtain⟨xn,xd,xa,xc⟩:=x;unfold DF.dv at y4 hxm;simp only at y0 y1 y4 hxm hxn;subst hs1;obtain⟨xl,HXL⟩:∃xl,Hid (xd.length=xl):=⟨_,rfl⟩;have hby:=dbytesF_ok W3 f (.slice none 0 0) xn xd xa xc (hxm.2.1.chg0 HF3.out.chg) (by omega);rw[HXL.out] at hby y1 y4;have HXM:=zA hxm hj;have j2:(j:Int)<(L.length:Int):=by omega
    have j3:decide ((j:Int)<(L.length:Int))=true:=by simp;omega
    have HXN:=zH hxn;clear hxm hj hcell hgl hs2 hxn;have HHL:=zH hjl;clear hjl;go_wp2_with fail;refine hby.mono ?_;rintro e W5 ⟨ao5,cap5,rfl,hF5⟩;have HF5:=zH hF5;have hfr:=hF5;clear hF5 hby;have HS3:Hid (Sees W5 1 (.slice ad dn cd) dn (Bs data)):=HF3.out.own.sees.chg0 HF5.out.chg;have hsm:xl+dn≤140737488355328:=by have:=HXM.out.1.1;have:=HXL.out;have:=HS.out;omega
    go_upto_region 24 with (at_builtin;refine wpList_appF (w0:=W3) rfl _ _ 38 rfl sl_u8D (by exact HF5.out) rfl (by exact HS3.out) rfl (Bs_one _) (by omega) (by omega) ?_;intro v6 W6 hF6 c6;obtain⟨a6,p6,rfl,-⟩:=hF6.shape;have HF6:=zH hF6;clear hF6 c6);obtain⟨nb,hnb⟩:∃nb,newB (L.map DF.pr) 3 nm data=nb:=⟨_,rfl⟩;obtain⟨mb,hmb⟩:∃mb,xl+dn=mb:=⟨_,rfl⟩;have HE:Hid (Fresh W2 W6 5 1 (.slice a6 mb p6) mb (Bs nb)∧nb.length=mb∧oneV (L.map DF.pr) ⟨3,nm,tn,data⟩=if 65535<nb.length then (L.map DF.pr,10) else (insK nm nb (L.map DF.pr),0)):=by
     have hd:newB (L.map DF.pr) 3 nm data=xd++data:=by unfold newB;rw[if_pos rfl,HO.out.2];rfl
     have hO:=HO.out.1;have h6:=HF6.out;rw[hnb] at hO;rw[←Bs_append] at h6;subst hmb;rw[←hnb,hd] at hO ⊢;exact⟨⟨h6.own,HF3.out.chg.nil h6.chg,fun k hk=>Nat.le_trans HF3.out.chg.size (h6.new k hk)⟩,by rw[List.length_append,HXL.out,HS.out.2],hO⟩
    clear hnb;(try rw[hmb]);have g1:W6.cell? ⟨w.heap.size,1,none⟩=some (.string (str nm)):=(HB.out W6 HE.out.1.chg).1;have hwi:=dwith_ok W6 _ L ⟨nm,nb,a6,p6⟩ (HV.out.chg0 HE.out.1.chg) (by have:=HX.out.1;omega);unfold DF.dv at hwi;simp only at hwi;rw[HE.out.2.1] at hwi;have hwl:(wiD ⟨nm,nb,a6,p6⟩ L).length≤101:=by
     have h1:=congrArg List.length (wiD_pr ⟨nm,nb,a6,p6⟩ L HA.out);rw[List.length_map] at h1;rw[h1];have h2:=ins_length_le nm nb (L.map DF.pr);rw[List.length_map] at h2;have:=HX.out.1;exact Nat.le_trans h2 (by omega)
    go_wp2_with fail;refine hwi.mono ?_;rintro e W4 ⟨v4,rfl,hF4⟩;obtain⟨a4,c4,rfl,-⟩:=hF4.shape;have HF4:=zH hF4;clear hF4 hwi;generalize hwn:(wiD ⟨nm,nb,a6,p6⟩ L).length=wn at *;have hwn2:decide ((400:Int)<(wn:Int))=false:=by simp;omega
    by_cases hbig:65535<mb
    ·have hb1:decide ((65535:Int)<(mb:Int))=true:=by simp;omega
     have hO:=HE.out.2.2;rw[HE.out.2.1,if_pos hbig] at hO;have HO:=zH hO;clear hO hwl hwn hbig;go_wp2_with fail;go_ret2;exact .inr ⟨by rw[HO.out];exact (by decide:(10:Nat)≠0),10,by decide,rfl,HX.out.2.nil (HE.out.1.chg.nil HF4.out.chg)⟩
    ·have hb1:decide ((65535:Int)<(mb:Int))=false:=by simp;omega
     have hO:=HE.out.2.2;rw[HE.out.2.1,if_neg hbig] at hO;have HO:=zH hO;have HW:=zH hwn;have HB2:=zH hbig;clear hO hwl hwn hbig;go_wp2_with fail;go_ret2;refine .inl ⟨by rw[HO.out],_,wiD ⟨nm,nb,a6,p6⟩ L,rfl,?_,?_,?_⟩
     ·rw[HW.out];exact⟨HF4.out.own,HX.out.2.nil (HE.out.1.chg.nil HF4.out.chg),fun k hk=>Nat.le_trans (Nat.le_trans HX.out.2.size HE.out.1.chg.size) (HF4.out.new k hk)⟩
     ·refine DatR.wi ((HD.out.chg0 HE.out.1.chg).chg0 HF4.out.chg) ⟨by show nb.length≤_;rw[HE.out.2.1];exact Nat.le_of_not_lt HB2.out,?_,fun k hk=>?_⟩
      ·show Sees W4 1 (.slice a6 nb.length p6) nb.length (Bs nb);rw[HE.out.2.1];exact (HE.out.1.own.sees).chg0 HF4.out.chg
      ·have hk':k∈eyes (.slice a6 nb.length p6):=hk;rw[HE.out.2.1] at hk';exact Nat.le_trans (Nat.le_trans HBB.out HX.out.2.size) (HE.out.1.new k (eyes_own _ k hk'))
     ·rw[HO.out,wiD_pr _ _ HA.out]
   ·have hlk:=pr_none hno;have hO:=zH (oneV_no (V:=L.map DF.pr) (kd:=3) (tn:=tn) (d:=data) (.inl rfl) hlk);clear hno hlk hcp hdr;go_wp2_with fail;go_ret2;exact .inr ⟨hO.out,6,by decide,rfl,HX.out.2⟩
  ·go_wp2_with fail;refine hT.mono ?_;rintro e W3 ⟨rfl,hW⟩;subst hW;clear hT;cases bt with
   | false=>
    have hO:=zH (oneV_tn (V:=L.map DF.pr) (nm:=nm) (d:=data) hbt);clear hr hcp hdr;go_wp2_with fail;go_ret2;exact .inr ⟨hO.out,16,by decide,rfl,HX.out.2⟩
   | true=>
    rcases hr with ⟨j,x,hj,hxn,rfl⟩ | ⟨hno,rfl⟩
    ·have hlk:=pr_some HA.out hj hxn;have j0:decide ((0:Int)≤(j:Int))=true:=by simp
     have j1:decide ((j:Int)<0)=false:=by simp
     by_cases hnt:nm=tn
     ·subst hnt;have e1:((str nm).toList != (str nm).toList)=false:=by simp
      have e2:((str nm).toList==(str nm).toList)=true:=by simp
      have hjl:=(List.getElem?_eq_some_iff.1 hj).1;obtain⟨g,off,cap',hs,-,hgl,hcell⟩:=HV.out.cells (by omega);obtain⟨y0,y1,y2,y3,y4⟩:=fcs_cells rfl hcell j hjl;rw[(List.getElem?_eq_some_iff.1 hj).2] at y0 y1 y4;simp only[Value.slice.injEq,true_and] at hs;obtain⟨hs1,hs2⟩:=hs;have hxm:=HD.out x (List.mem_of_getElem? hj);obtain⟨xn,xd,xa,xc⟩:=x;unfold DF.dv at y4 hxm;simp only at y0 y1 y4 hxm hxn hlk;subst hs1;obtain⟨xl,HXL⟩:∃xl,Hid (xd.length=xl):=⟨_,rfl⟩;rw[HXL.out] at y1 y4;have HXM:=zA hxm hj;have j2:(j:Int)<(L.length:Int):=by omega
      have j3:decide ((j:Int)<(L.length:Int))=true:=by simp;omega
      have HXN:=zH hxn;have HO:=zH (oneV_mv (V:=L.map DF.pr) (d:=data) HA.out hbn hbt hlk (.inl rfl));clear hxm hj hcell hgl hs2 hjl hlk hxn;go_upto_region 14 with (fail);have hb7:Blk (W3.alloc (.cells #[.string (str xn),.int .i64 xl,.slice none 0 0,.bool true,.slice xa xl xc] 134)) W3.heap.size #[.string (str xn),.int .i64 xl,.slice none 0 0,.bool true,.slice xa xl xc] 134:=Blk.new W3 _ _;have hc7:Chg [] W3 (W3.alloc (.cells #[.string (str xn),.int .i64 xl,.slice none 0 0,.bool true,.slice xa xl xc] 134)):=(Chg.refl _ _).alloc _;have hn7:w.heap.size≤W3.heap.size:=HX.out.2.size;generalize W3.alloc (.cells #[.string (str xn),.int .i64 xl,.slice none 0 0,.bool true,.slice xa xl xc] 134)=W7 at *;have g2:=(HB.out W7 hc7).2;have hfz:=hb7.frozen 0;have hz7:W7.cell? ⟨W3.heap.size,0,none⟩=some (.string (str xn)):=hb7.cell 0;generalize hK7:W3.heap.size=K7 at *;go_upto_region 15 with (fail);have hb8:=hb7.set 0 (.string (str nm));simp only[List.setIfInBounds_toArray,List.set_cons_zero] at hb8;have hc8:Chg [] W3 (W7.setCell ⟨K7,0,none⟩ (.string (str nm))):=hc7.setCell (.inr (by rw[hK7];exact Nat.le_refl _)) _;clear hfz hz7 g2 hb7 hc7 f0 f1 f2 f3 y0 y1 y2 y3 y4;generalize W7.setCell ⟨K7,0,none⟩ (.string (str nm))=W8 at *;refine wp_region_E [] (by kernel_rfl) ?_;have hc9:Chg [] W3 W8.drew:=hc8.drew;have hb9:Blk W8.drew K7 #[.string (str nm),.int .i64 xl,.slice none 0 0,.bool true,.slice xa xl xc] 134:=hb8;have z1:=(HB.out W8.drew hc9).1;clear hc8 hb8;generalize W8.drew=W9 at *;have c0:Chg [] W9 W9:=Chg.refl _ _;have hwo:=hdr W9 hc9;have HC9:=zH hc9;clear hc9 hdr hcp hK7 hn7;refine tE 0 (.slice (some ⟨g,off,none⟩) L.length lcap) c0 (fun w4 c4=>?_) ?_;·go_simp
      refine yG ?_;refine tE 1 (.pointer (some ⟨w.heap.size,1,none⟩)) c0 (fun w4 c4=>?_) ?_;·go_simp
      refine yG ?_;refine tE 2 (.string (str nm)) c0 (fun w4 c4=>?_) ?_
      ·have z:=c4.cell_some z1 (by simp);go_simp
      refine yG ?_;refine tE 4 (.agg #[.string (str nm),.int .i64 xl,.slice none 0 0,.bool true,.slice xa xl xc]) c0 (fun w4 c4=>?_) ?_
      ·have hk:=hb9.chg0 c4;have k0:=hk.cell 0;have k1:=hk.cell 1;have k2:=hk.cell 2;have k3:=hk.cell 3;have k4:=hk.cell 4;simp only[List.getElem?_toArray,List.getElem?_cons_zero,List.getElem?_cons_succ] at k0 k1 k2 k3 k4;go_simp
      refine yG ?_;refine oE 3 ?_;go_simp;refine hwo.mono ?_;rintro e W10 ⟨v10,rfl,hF10⟩;refine⟨hF10.chg,?_⟩;refine yG ?_;obtain⟨a10,c10,rfl,-⟩:=hF10.shape;have hwl:(woD nm L).length≤L.length:=List.length_filter_le _ _;have hwi:=dwith_ok W10 _ (woD nm L) ⟨nm,xd,xa,xc⟩ hF10.own.sees (by have:=HX.out.1;omega);unfold DF.dv at hwi;simp only at hwi;rw[HXL.out] at hwi;have HF10:=zH hF10;clear hF10 hwl hwo;refine oE 5 ?_;go_simp;refine hwi.mono ?_;rintro e W11 ⟨v11,rfl,hF11⟩;refine⟨HF10.out.chg.nil hF11.chg,?_⟩;refine yG ?_;obtain⟨a11,c11,rfl,-⟩:=hF11.shape;have HF11:=zH hF11;have cE:=HF10.out.chg.nil hF11.chg;clear hF11 hwi;refine tE 6 (.slice a11 (wiD ⟨nm,xd,xa,xc⟩ (woD nm L)).length c11) cE (fun w4 c4=>?_) ?_;·go_simp
      refine yG ?_;refine tE 7 (.int .i64 0) cE (fun w4 c4=>?_) ?_;·go_simp
      refine yG ?_;refine wpAnyE_done (by kernel_rfl) ?_ _;have HCC:Hid (Chg [] W3 W11):=HC9.out.nil cE;clear cE;go_wp2_with fail;go_ret2;refine .inl ⟨by rw[HO.out],_,wiD ⟨nm,xd,xa,xc⟩ (woD nm L),rfl,⟨HF11.out.own,HX.out.2.nil HCC.out,fun k hk=>?_⟩,?_,?_⟩;·exact Nat.le_trans (Nat.le_trans (Nat.le_trans HX.out.2.size HC9.out.size) HF10.out.chg.size) (HF11.out.new k hk)
      ·refine DatR.wi ((HD.out.chg0 HCC.out).wo nm) ⟨HXM.out.1.1,HXM.out.1.2.1.chg0 HCC.out,HXM.out.1.2.2⟩
      ·rw[HO.out,wiD_pr _ _ (by rw[woD_pr];exact asc_del _ HA.out),woD_pr]
     ·have e2:((str tn).toList==(str nm).toList)=false:=by rw[str_eq];simpa using fun h=>hnt h.symm
      have e1:((str tn).toList != (str nm).toList)=true:=by simp[bne,e2]
      go_wp2_with fail;refine hft.mono ?_;rintro e W4 ⟨⟨r2,hr2,rfl⟩,hW⟩;subst hW;clear hft;rcases hr2 with ⟨j2,x2,hj2,hx2,rfl⟩ | ⟨hn2,rfl⟩
      ·have hO:=zH (oneV_to (V:=L.map DF.pr) (d:=data) (by rw[pr_some HA.out hj2 hx2];exact fun h=>by cases h) hnt);have i2:decide ((0:Int)≤(j2:Int))=true:=by simp
       clear hlk hj hxn hj2 hx2 hcp hdr;go_wp2_with fail;go_ret2;exact .inr ⟨hO.out,7,by decide,rfl,HX.out.2⟩
      ·have hno:=pr_none hn2;clear hn2;have hjl:=(List.getElem?_eq_some_iff.1 hj).1;obtain⟨g,off,cap',hs,-,hgl,hcell⟩:=HV.out.cells (by omega);obtain⟨y0,y1,y2,y3,y4⟩:=fcs_cells rfl hcell j hjl;rw[(List.getElem?_eq_some_iff.1 hj).2] at y0 y1 y4;simp only[Value.slice.injEq,true_and] at hs;obtain⟨hs1,hs2⟩:=hs;have hxm:=HD.out x (List.mem_of_getElem? hj);obtain⟨xn,xd,xa,xc⟩:=x;unfold DF.dv at y4 hxm;simp only at y0 y1 y4 hxm hxn hlk;subst hs1;obtain⟨xl,HXL⟩:∃xl,Hid (xd.length=xl):=⟨_,rfl⟩;rw[HXL.out] at y1 y4;have HXM:=zA hxm hj;have j2:(j:Int)<(L.length:Int):=by omega
       have j3:decide ((j:Int)<(L.length:Int))=true:=by simp;omega
       have HXN:=zH hxn;have HO:=zH (oneV_mv (V:=L.map DF.pr) (d:=data) HA.out hbn hbt hlk (.inr hno));clear hxm hj hcell hgl hs2 hjl hlk hxn;go_upto_region 14 with (fail);have hb7:Blk (W4.alloc (.cells #[.string (str xn),.int .i64 xl,.slice none 0 0,.bool true,.slice xa xl xc] 134)) W4.heap.size #[.string (str xn),.int .i64 xl,.slice none 0 0,.bool true,.slice xa xl xc] 134:=Blk.new W4 _ _;have hc7:Chg [] W4 (W4.alloc (.cells #[.string (str xn),.int .i64 xl,.slice none 0 0,.bool true,.slice xa xl xc] 134)):=(Chg.refl _ _).alloc _;have hn7:w.heap.size≤W4.heap.size:=HX.out.2.size;generalize W4.alloc (.cells #[.string (str xn),.int .i64 xl,.slice none 0 0,.bool true,.slice xa xl xc] 134)=W7 at *;have g2:=(HB.out W7 hc7).2;have hfz:=hb7.frozen 0;have hz7:W7.cell? ⟨W4.heap.size,0,none⟩=some (.string (str xn)):=hb7.cell 0;generalize hK7:W4.heap.size=K7 at *;go_upto_region 15 with (fail);have hb8:=hb7.set 0 (.string (str tn));simp only[List.setIfInBounds_toArray,List.set_cons_zero] at hb8;have hc8:Chg [] W4 (W7.setCell ⟨K7,0,none⟩ (.string (str tn))):=hc7.setCell (.inr (by rw[hK7];exact Nat.le_refl _)) _;clear hfz hz7 g2 hb7 hc7 f0 f1 f2 f3 y0 y1 y2 y3 y4;generalize W7.setCell ⟨K7,0,none⟩ (.string (str tn))=W8 at *;refine wp_region_E [] (by kernel_rfl) ?_;have hc9:Chg [] W4 W8.drew:=hc8.drew;have hb9:Blk W8.drew K7 #[.string (str tn),.int .i64 xl,.slice none 0 0,.bool true,.slice xa xl xc] 134:=hb8;have z1:=(HB.out W8.drew hc9).1;clear hc8 hb8;generalize W8.drew=W9 at *;have c0:Chg [] W9 W9:=Chg.refl _ _;have hwo:=hdr W9 hc9;have HC9:=zH hc9;clear hc9 hdr hcp hK7 hn7;refine tE 0 (.slice (some ⟨g,off,none⟩) L.length lcap) c0 (fun w4 c4=>?_) ?_;·go_simp
       refine yG ?_;refine tE 1 (.pointer (some ⟨w.heap.size,1,none⟩)) c0 (fun w4 c4=>?_) ?_;·go_simp
       refine yG ?_;refine tE 2 (.string (str nm)) c0 (fun w4 c4=>?_) ?_
       ·have z:=c4.cell_some z1 (by simp);go_simp
       refine yG ?_;refine tE 4 (.agg #[.string (str tn),.int .i64 xl,.slice none 0 0,.bool true,.slice xa xl xc]) c0 (fun w4 c4=>?_) ?_
       ·have hk:=hb9.chg0 c4;have k0:=hk.cell 0;have k1:=hk.cell 1;have k2:=hk.cell 2;have k3:=hk.cell 3;have k4:=hk.cell 4;simp only[List.getElem?_toArray,List.getElem?_cons_zero,List.getElem?_cons_succ] at k0 k1 k2 k3 k4;go_simp
       refine yG ?_;refine oE 3 ?_;go_simp;refine hwo.mono ?_;rintro e W10 ⟨v10,rfl,hF10⟩;refine⟨hF10.chg,?_⟩;refine yG ?_;obtain⟨a10,c10,rfl,-⟩:=hF10.shape;have hwl:(woD nm L).length≤L.length:=List.length_filter_le _ _;have hwi:=dwith_ok W10 _ (woD nm L) ⟨tn,xd,xa,xc⟩ hF10.own.sees (by have:=HX.out.1;omega);unfold DF.dv at hwi;simp only at hwi;rw[HXL.out] at hwi;have HF10:=zH hF10;clear hF10 hwl hwo;refine oE 5 ?_;go_simp;refine hwi.mono ?_;rintro e W11 ⟨v11,rfl,hF11⟩;refine⟨HF10.out.chg.nil hF11.chg,?_⟩;refine yG ?_;obtain⟨a11,c11,rfl,-⟩:=hF11.shape;have HF11:=zH hF11;have cE:=HF10.out.chg.nil hF11.chg;clear hF11 hwi;refine tE 6 (.slice a11 (wiD ⟨tn,xd,xa,xc⟩ (woD nm L)).length c11) cE (fun w4 c4=>?_) ?_;·go_simp
       refine yG ?_;refine tE 7 (.int .i64 0) cE (fun w4 c4=>?_) ?_;·go_simp
       refine yG ?_;refine wpAnyE_done (by kernel_rfl) ?_ _;have HCC:Hid (Chg [] W4 W11):=HC9.out.nil cE;clear cE;go_wp2_with fail;go_ret2;refine .inl ⟨by rw[HO.out],_,wiD ⟨tn,xd,xa,xc⟩ (woD nm L),rfl,⟨HF11.out.own,HX.out.2.nil HCC.out,fun k hk=>?_⟩,?_,?_⟩;·exact Nat.le_trans (Nat.le_trans (Nat.le_trans HX.out.2.size HC9.out.size) HF10.out.chg.size) (HF11.out.new k hk)
       ·refine DatR.wi ((HD.out.chg0 HCC.out).wo nm) ⟨HXM.out.1.1,HXM.out.1.2.1.chg0 HCC.out,HXM.out.1.2.2⟩
       ·rw[HO.out,wiD_pr _ _ (by rw[woD_pr];exact asc_del _ HA.out),woD_pr]
    ·have hlk:=pr_none hno;have hO:=zH (oneV_no (V:=L.map DF.pr) (kd:=4) (tn:=tn) (d:=data) (.inr (.inl rfl)) hlk);clear hno hlk hcp hdr;go_wp2_with fail;go_ret2;exact .inr ⟨hO.out,6,by decide,rfl,HX.out.2⟩
  ·rcases hr with ⟨j,x,hj,hxn,rfl⟩ | ⟨hno,rfl⟩
   ·have hlk:=pr_some HA.out hj hxn;have j0:decide ((0:Int)≤(j:Int))=true:=by simp
    have j1:decide ((j:Int)<0)=false:=by simp
    have HO:=zH (oneV_rm (V:=L.map DF.pr) (tn:=tn) (d:=data) hbn hlk);clear hlk hj hxn hcp;go_wp2_with fail;refine (hdr _ (Chg.refl _ _)).mono ?_;rintro e W4 ⟨v4,rfl,hF4⟩;obtain⟨a4,c4,rfl,-⟩:=hF4.shape;have HF4:=zH hF4;clear hF4 hdr;go_wp2_with fail;go_ret2;exact .inl ⟨by rw[HO.out],_,woD nm L,rfl,⟨HF4.out.own,HX.out.2.nil HF4.out.chg,fun k hk=>Nat.le_trans HX.out.2.size (HF4.out.new k hk)⟩,(HD.out.chg0 HF4.out.chg).wo nm,by rw[HO.out,woD_pr]⟩
   ·have hlk:=pr_none hno;have hO:=zH (oneV_no (V:=L.map DF.pr) (kd:=5) (tn:=tn) (d:=data) (.inr (.inr rfl)) hlk);clear hno hlk hcp hdr;go_wp2_with fail;go_ret2;exact .inr ⟨hO.out,6,by decide,rfl,HX.out.2⟩
  ·have hO:=zH (oneV_kd (V:=L.map DF.pr) (nm:=nm) (tn:=tn) (d:=data) (.inl hk));have k4:(kd==4)=false:=by simp;omega
   have k1:decide (kd<1)=true:=by simpa using hk
   clear hr hcp hdr hk;go_wp2_with fail;go_ret2;exact .inr ⟨hO.out,1,by decide,rfl,HX.out.2⟩
  ·have hO:=zH (oneV_kd (V:=L.map DF.pr) (nm:=nm) (tn:=tn) (d:=data) (.inr hk));have k4:(kd==4)=false:=by simp;omega
   have k1:decide (kd<1)=false:=by simp;omega
   have k2:decide (5<kd)=true:=by simpa using hk
   clear hr hcp hdr hk;go_wp2_with fail;go_ret2;exact .inr ⟨hO.out,1,by decide,rfl,HX.out.2⟩
end Go.Proofs.YtlbdklaggalgfaaGreatDoor
