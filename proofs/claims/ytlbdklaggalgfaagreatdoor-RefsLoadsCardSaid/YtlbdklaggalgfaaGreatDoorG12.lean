/- DkH DkJ FyJ -/
import Derived.Test.YtlbdklaggalgfaaGreatDoorG11
import Derived.Deep.RegionHeld3
set_option linter.unusedSimpArgs false
set_option linter.unusedVariables false
set_option maxHeartbeats 4000000
namespace Go.Proofs.YtlbdklaggalgfaaGreatDoor
open Go.RowKit Go.Aq Go.Aq.Fy
theorem sl_boolD:SliceTy Tryz.prog 204 4 (.bool false) 1 1:=⟨Tryz.underlying204,by kernel_rfl,rfl,by decide⟩
def FdB (w:World) (f p l:Nat) (v:Value):Prop:=Blk w f #[.pointer (some ⟨p,0,none⟩),.pointer (some ⟨l,0,none⟩),.int .i64 4,v] 126
theorem fd4 {w:World} {f p l:Nat} {v:Value} (h:FdB w f p l v):w.cell? ⟨f,0,none⟩=some (.pointer (some ⟨p,0,none⟩))∧w.cell? ⟨f,1,none⟩=some (.pointer (some ⟨l,0,none⟩))∧w.cell? ⟨f,2,none⟩=some (.int .i64 4)∧w.cell? ⟨f,3,none⟩=some v:=
 ⟨h.cell 0,h.cell 1,h.cell 2,h.cell 3⟩
theorem FdB.chg0 {w w':World} {f p l:Nat} {v:Value} (h:FdB w f p l v) (c:Chg [] w w'):FdB w' f p l v:=Blk.chg0 h c
theorem DkR.off1 {w w':World} {S:List Nat} {p n q l:Nat} {now:Nat→Sec} {cs:Array Value} {e:TypeId} (h:DkR w S p n now q) (hb:Blk w l cs e) (hcs:∀(i:Nat) x,cs[i]?≠some (.int .u8 x)) (c:Chg [l] w w') (hl:l∉S):DkR w' S p n now q:=by
 obtain⟨sure,pl,wr,vs,vp,ys,zs,h,rfl⟩:=h;simp only[List.mem_cons,List.mem_append,not_or] at hl;have sec:∀{v:Value} {b:Sec},SecV w (p::(vs.ownBlock.toList++vp.ownBlock.toList)) v b→SecV w' (p::(vs.ownBlock.toList++vp.ownBlock.toList)) v b:=fun {v b} hv=>
  ⟨hv.sees.chg c (fun k hk hk'=>by rw[List.mem_singleton.1 hk'] at hk;exact sees_notin hv.sees hb hcs hk),hv.off⟩
 have pend:∀{l:Puts} {xs:List Value},PendR w (p::(vs.ownBlock.toList++vp.ownBlock.toList)) l xs→PendR w' (p::(vs.ownBlock.toList++vp.ownBlock.toList)) l xs:=by
  intro l xs hx
  induction hx with
  | nil=>exact .nil
  | cons h1 _ ih=>exact .cons (sec h1) ih
 exact⟨sure,pl,wr,vs,vp,ys,zs,⟨h.blk.chg c (by simpa using fun e=>hl.1 e.symm),h.os.chg c (fun k hk=>by simp;rintro rfl;exact hl.2.1 hk),h.op.chg c (fun k hk=>by simp;rintro rfl;exact hl.2.2 hk),h.ne,fun k hk=>by
  obtain⟨y,h1,h2⟩:=h.rows k hk;exact⟨y,h1,sec h2⟩,pend h.pend,h.now_eq,h.ok,h.cnt⟩,rfl⟩
structure DsR (w:World) (S:List Nat) (f p l sq ps:Nat) (v:Value) (now:Nat→Sec) (q:Nat):Prop where
 fs:FdB w f p l v
 lg:LgD w l p sq ps
 dk:DkR w S p 200 now q
theorem DsR.chg0 {w w':World} {S:List Nat} {f p l sq ps:Nat} {v:Value} {now:Nat→Sec} {q:Nat} (h:DsR w S f p l sq ps v now q) (c:Chg [] w w'):DsR w' S f p l sq ps v now q:=⟨h.fs.chg0 c,h.lg.chg0 c,h.dk.chg0 c⟩
set_option maxRecDepth 100000 in
theorem dall_ok (w:World) (S:List Nat) (f p l sq ps:Nat) (v:Value) (now:Nat→Sec) (q:Nat) (h:DsR w S f p l sq ps v now q):
  Calls Tryz.prog 61 #[.pointer (some ⟨f,0,none⟩)] w fun e w'=>e=.returned (.int .i64 173)∧Chg [] w w':=by
 obtain⟨c0,c1,c2,-⟩:=fd4 (h.fs.chg0 ((Chg.refl [] w).drew));have hd:=dsectors_ok w.drew S p 200 now q (h.dk.chg0 ((Chg.refl [] w).drew));have hh:=dhome w.drew l p sq ps (h.lg.chg0 ((Chg.refl [] w).drew));have cw:Chg [] w w.drew:=(Chg.refl _ _).drew;clear h;go_enter Tryz.func61,Tryz.ntmps61;go_wp2_with fail;go_region_held3 (fun w'=>w'.cell? ⟨f,0,none⟩=some (.pointer (some ⟨p,0,none⟩))∧w'.cell? ⟨f,1,none⟩=some (.pointer (some ⟨l,0,none⟩))∧w'.cell? ⟨f,2,none⟩=some (.int .i64 4)) (first | exact⟨c0,c1,c2⟩)
  (first | (go_at_call 51;refine hd.mono ?_;rintro e w4 ⟨rfl,rfl⟩) | (go_at_call 58;refine hh.mono ?_;rintro e w3 ⟨rfl,rfl⟩))
 all_goals
  go_wp2_with fail;go_ret;exact⟨rfl,cw⟩
set_option maxRecDepth 100000 in
theorem duntable_no (w:World) (S:List Nat) (f p l sq ps:Nat) (v:Value) (now:Nat→Sec) (q:Nat) (h:DsR w S f p l sq ps v now q) (vb:Value) (hb:Sees w 1 vb 1024 (Bs (nul 1024))):
  Calls Tryz.prog 62 #[.pointer (some ⟨f,0,none⟩),vb] w fun e w'=>e=.returned (.tuple #[.slice none 0 0,.bool true])∧Chg [] w w':=by
 have hnum:=numD w vb 1024 0 2 _ hb (by decide) (by decide) (by decide) (by decide);rw[show beVal (((nul 1024).drop 0).take 2)=0 by kernel_rfl] at hnum;have hc:∃g off cap,vb=.slice (some ⟨g,off,none⟩) 1024 cap∧∀j,j<1024→w.cell? ⟨g,off+j,none⟩=some (.int .u8 0):=by
  obtain⟨g,off,cap,rfl,-,hcell⟩:=hb.at1 (by decide);refine⟨g,off,cap,rfl,fun j hj=>?_⟩;rw[hcell j hj,Bs_get _ _ (by rw[nul,List.length_replicate];exact hj)];simp only[nul,List.getElem_replicate];rfl
 obtain⟨g,off,cap,rfl,hcell⟩:=hc;have HC:=zH hcell;have HD:=zH h;clear h hb hcell;go_enter Tryz.func62,Tryz.ntmps62;go_wp2_with fail;refine hnum.mono ?_;rintro e w1 ⟨rfl,rfl⟩;clear hnum;go_wp2_with fail;go_loopg [9,10] 173 (fun gk (v9 v10:Value) wr=>∃(i:Nat) (a9:Option Addr) (c9:Nat),v9=.slice a9 i c9∧v10=.int .i64 i∧i+gk=173∧Hid (Fresh w1 wr 4 1 (.slice a9 i c9) i (List.replicate i (.bool false))));case atStart=>exact⟨0,none,0,rfl,rfl,rfl,Fresh.nil _ _ _⟩
 case round=>
  obtain⟨i,a9,c9,rfl,rfl,hik,HF⟩:=hrel;have hal:=dall_ok wr S f p l sq ps v now q (HD.out.chg0 HF.out.chg);by_cases hi:i<173
  ·have t1:decide ((i:Int)<173)=true:=decide_eq_true (by omega);have t1':decide (i<173)=true:=decide_eq_true hi;have HW:=zH (show wrap64 ((i:Int)+1)=((i+1:Nat):Int) from by rw[show (i:Int)+1=((i+1:Nat):Int) by omega];exact w64r (by omega));have HK:=zA hik hi;clear hik hi;go_wp2_with fail;refine hal.mono ?_;rintro e w2 ⟨rfl,k2⟩;have hf2:=HF.out.to k2;clear hal;go_wp2_with (at_builtin;refine wpList_appF (w0:=w1) rfl _ _ 204 rfl sl_boolD (by exact hf2.to ((Chg.refl [] w2).alloc (.cells #[.bool false] 4))) rfl (Sees.row (cs:=#[.bool false]) (by exact Blk.new w2 _ 4) (m:=1) rfl) rfl (by simp[Value.oneCell']) (by have:=HK.out.2;omega) (by have:=HK.out.2;omega) ?_;intro v5 w5 hF5 c5;obtain⟨a5,p5,rfl,-⟩:=hF5.shape);go_roundg (gk - 1);case measure=>have:=HK.out;omega
   case rel=>exact⟨i+1,a5,p5,rfl,by rw[HW.out],by have:=HK.out;omega,by show Fresh _ _ _ _ _ _ _;rw[List.replicate_succ'];exact hF5⟩
  ·have t1:decide ((i:Int)<173)=false:=decide_eq_false (by omega);have t1':decide (i<173)=false:=decide_eq_false hi;obtain rfl:i=173:=by omega
   clear hik hi;go_wp2_with fail;refine hal.mono ?_;rintro e w2 ⟨rfl,k2⟩;have k12:=HF.out.chg.nil k2;clear hal;go_wp2_with fail;refine wp_loop_once ?_;go_wp2_with fail;have K12:=zH k12;clear k12 k2 HF;go_loopg [16] 1022 (fun gk (v16:Value) wr=>∃(i:Nat),v16=.int .i64 i∧i+gk=1024∧wr=w2);case atStart=>exact⟨2,rfl,rfl,rfl⟩
   case round=>
    obtain⟨i,rfl,hik,rfl⟩:=hrel;by_cases hi:i<1024
    ·have t1:decide ((i:Int)<1024)=true:=decide_eq_true (by omega);have t1':decide (i<1024)=true:=decide_eq_true hi;have x0:=K12.out.cell_some (HC.out i hi) (by simp);have hi2:(i:Int)<1024:=by omega
     have HW:=zH (show wrap64 ((i:Int)+1)=((i+1:Nat):Int) from by rw[show (i:Int)+1=((i+1:Nat):Int) by omega];exact w64r (by omega));have HK:=zH hik;clear hik;go_wp2_with fail;go_roundg (gk - 1);case measure=>have:=HK.out;omega
     case rel=>exact⟨i+1,by first | rfl | rw[HW.out],by have:=HK.out;omega,rfl⟩
    ·have t1:decide ((i:Int)<1024)=false:=decide_eq_false (by omega);have t1':decide (i<1024)=false:=decide_eq_false hi;clear hik hi;go_wp2_with fail;go_ret2;exact⟨rfl,K12.out⟩
set_option maxRecDepth 100000 in
theorem dopenF_ok (w:World) (S:List Nat) (p q:Nat) (h:DkR w S p 200 fmt2 q) (hq:q≤1000):
  Calls Tryz.prog 19 #[.pointer (some ⟨p,0,none⟩)] w fun e w'=>∃f l,e=.returned (.tuple #[.pointer (some ⟨f,0,none⟩),.int .i64 0])∧DsR w' S f p l 1 0 (.slice none 0 0) fmt2 q∧w.heap.size≤l∧w.heap.size≤f∧l≠f∧Chg [] w w':=by
 have HH:=zA h hq;have hol:=dopenL_ok w S p q h hq;have hn1:=fun (W:World) v (hv:Sees W 1 v 256 (Bs (topB 4)))=>numD W v 256 2 2 _ hv (by decide) (by decide) (by decide) (by decide)
 rw[show beVal (((topB 4).drop 2).take 2)=4 by kernel_rfl] at hn1;have htp:=fun w'=>topD w' 4 (by decide)
 clear h hq;go_enter Tryz.func19,Tryz.ntmps19;go_wp2_with fail;refine hol.mono ?_;rintro e w1 ⟨l,rfl,hL,hl,c1⟩;have H1:=zB hL hl c1;have hh:=dhome w1 l p 1 0 hL;clear hol hL hl c1;go_wp2_with fail;refine hh.mono ?_;rintro e w2 ⟨rfl,rfl⟩;clear hh;have hr:=dread_ok w2 S p 200 fmt2 q (HH.out.1.chg0 H1.out.2.2) (by have:=HH.out.2;omega) 22 (by decide) (by decide);rw[show fmt2 22=topB 4 from rfl] at hr;go_wp2_with fail;refine hr.mono ?_;rintro e w3 ⟨a3,p3,rfl,hF3⟩;have H3:=zB (H1.out.1.chg0 hF3.chg) hF3.own.sees (H1.out.2.2.nil hF3.chg);clear hr hF3;go_wp2_with fail;refine (hn1 _ _ H3.out.2.1).mono ?_;rintro e w4 ⟨rfl,rfl⟩;clear hn1;obtain⟨f,hf⟩:∃f,w4.heap.size=f:=⟨_,rfl⟩;obtain⟨wa,hwa⟩:∃wa,w4.alloc (.cells #[.pointer (some ⟨p,0,none⟩),.pointer (some ⟨l,0,none⟩),.int .i64 4,.slice none 0 0] 126)=wa:=⟨_,rfl⟩;have hB:FdB wa f p l (.slice none 0 0):=by rw[←hwa];exact Blk.new_at w4 _ _ hf
 have ca:Chg [] w4 wa:=by rw[←hwa];exact (Chg.refl _ _).alloc _
 have hds:DsR wa S f p l 1 0 (.slice none 0 0) fmt2 q:=⟨hB,H3.out.1.chg0 ca,HH.out.1.chg0 (H3.out.2.2.nil ca)⟩;have HA:=zC hds (H3.out.2.1.chg0 ca) (H3.out.2.2.nil ca) hf;obtain⟨c0,-,c2,-⟩:=fd4 hB;clear hB ca hds;go_upto_region 8 with (fail);(try rw[hwa]);(try rw[hf]);clear hwa hf;go_wp2_with fail;refine (htp _).mono ?_;rintro e w5 ⟨a5,p5,rfl,hT⟩;have x2:=hT.chg.cell_some c2 (by simp);have HT:=zH hT;clear hT htp;go_wp2_with fail;refine (same_yes _ _ _ _ _ _ _ (HA.out.2.1.chg0 HT.out.chg) HT.out.sees rfl).mono ?_;rintro e w6 ⟨rfl,rfl⟩;go_wp2_with fail;refine (dall_ok _ S f p l 1 0 _ fmt2 q (HA.out.1.chg0 HT.out.chg)).mono ?_;rintro e w7 ⟨rfl,c7⟩;have H7:=zA (HA.out.1.chg0 (HT.out.chg.nil c7)) (HA.out.2.2.1.nil (HT.out.chg.nil c7));clear c7 c0 c2 x2;obtain⟨c0,-,c2,-⟩:=fd4 H7.out.1.fs;go_wp2_with fail;go_loopg [9,10] 4 (fun gk (v9 v10:Value) wr=>∃(i:Nat) (a9:Option Addr) (c9:Nat),v9=.slice a9 (256 * i) c9∧v10=.int .i64 i∧i+gk=4∧Hid (Fresh w7 wr 5 1 (.slice a9 (256 * i) c9) (256 * i) (Bs (nul (256 * i)))));case atStart=>exact⟨0,none,0,rfl,rfl,rfl,Fresh.nil _ _ _⟩
 case round=>
  obtain⟨i,a9,c9,rfl,rfl,hik,HF⟩:=hrel;have hW:=H7.out.1.chg0 HF.out.chg;have HWr:=zH hW;obtain⟨c0,-,c2,-⟩:=fd4 hW.fs;clear hW;by_cases hi:i<4
  ·have t1:decide ((i:Int)<4)=true:=decide_eq_true (by omega);have t1':decide (i<4)=true:=decide_eq_true hi;have HW:=zH (show wrap64 ((i:Int)+1)=((i+1:Nat):Int) from by rw[show (i:Int)+1=((i+1:Nat):Int) by omega];exact w64r (by omega));have E2:=zH (show 23+(i:Int)=((23+i:Nat):Int) by omega);have e1:wrap64 (23+(i:Int))=((23+i:Nat):Int):=by rw[show 23+(i:Int)=((23+i:Nat):Int) by omega];exact w64r (by omega)
   have HK:=zA hik hi;have hr:=dread_ok wr S p 200 fmt2 q HWr.out.dk (by have:=HH.out.2;omega) (23+i) (by omega) (by decide);rw[show fmt2 (23+i)=zsec by unfold fmt2 fmt1 setS;rw[if_neg (by omega),if_neg (by omega)]] at hr;clear hik hi;go_wp2_with fail;refine (dhome wr l p 1 0 HWr.out.lg).mono ?_;rintro e w8 ⟨rfl,rfl⟩;go_wp2_with fail;(try rw[E2.out]);refine hr.mono ?_;rintro e w9 ⟨b9,p9,rfl,hF9⟩;have hf9:=HF.out.to hF9.chg;clear hr;go_wp2_with (at_builtin;refine wpList_appF (w0:=w7) rfl _ _ 38 rfl sl_u8y hf9 rfl hF9.own.sees rfl (Bs_one _) (by have:=HK.out.2;omega) (by have:=HK.out.2;omega) ?_;intro v5 w5 hF5 c5;obtain⟨a5,p5,rfl,-⟩:=hF5.shape);go_roundg (gk - 1);case measure=>have:=HK.out;omega
   case rel=>
    refine⟨i+1,a5,p5,rfl,by first | rfl | rw[HW.out],by have:=HK.out;omega,?_⟩;have e1:nul (256 * (i+1))=nul (256 * i)++zsec:=by unfold zsec nul;rw[List.replicate_append_replicate,Nat.mul_succ]
    show Fresh _ _ _ _ _ _ _;rw[e1,Bs_append];exact hF5
  ·have t1:decide ((i:Int)<4)=false:=decide_eq_false (by omega);have t1':decide (i<4)=false:=decide_eq_false hi;obtain rfl:i=4:=by omega
   clear hik hi;go_wp2_with fail;refine (duntable_no wr S f p l 1 0 _ fmt2 q HWr.out _ HF.out.own.sees).mono ?_;rintro e w8 ⟨rfl,k8⟩;have hB:=HWr.out.fs.chg0 k8;have hB2:=Blk.set hB 3 (.slice none 0 0);have z3:w8.frozen? ⟨f,3,none⟩=false:=Blk.frozen hB 3;obtain⟨x0,-,-,x3⟩:=fd4 hB;have HZ:=zA (HWr.out.chg0 k8) (H7.out.2.nil (HF.out.chg.nil k8));have hS:=HH.out.1.lt;have hfS:f∉S:=fun hh=>by have h1:=hS f hh;have h2:=HA.out.2.2.1.size;have h3:=HA.out.2.2.2;have h4:=H3.out.2.2.size;omega
   have hlf:l≠f:=by have h1:=H3.out.1.lt;have h2:=HA.out.2.2.2;omega
   have cf:Chg [f] w8 (w8.setCell ⟨f,3,none⟩ (.slice none 0 0)):=(Chg.refl _ _).setCell (by simp) _;have hdk:=HZ.out.1.dk.off1 hB (fun i x=>by rcases i with _ | _ | _ | _ | i <;> simp) cf hfS;have hlg:LgD (w8.setCell ⟨f,3,none⟩ (.slice none 0 0)) l p 1 0:=Blk.chg HZ.out.1.lg cf (by simpa using hlf);have hcc:Chg [] w (w8.setCell ⟨f,3,none⟩ (.slice none 0 0)):=HZ.out.2.setCell (.inr (by have h2:=HA.out.2.2.2;have h4:=H3.out.2.2.size;show w.heap.size≤f;omega)) _;have HQ:=zB (And.intro hB2 (And.intro hlg hdk)) hlf hcc;clear hB hB2 c0 c2 hS hfS hlf cf hdk hlg hcc;go_wp2_with fail;go_ret2;exact⟨f,l,rfl,⟨HQ.out.1.1,HQ.out.1.2.1,HQ.out.1.2.2⟩,by have:=H1.out.2.1;omega,by have h2:=HA.out.2.2.2;have h4:=H3.out.2.2.size;omega,HQ.out.2.1,HQ.out.2.2⟩
end Go.Proofs.YtlbdklaggalgfaaGreatDoor
namespace Go.Aq.Fy
open Go.Aq Go.RowKit
structure DF where
 nm:Nm
 dat:Sec
 ao:Option Addr
 cap:Nat
def DF.dv (x:DF):Value:=.slice x.ao x.dat.length x.cap
def DF.cs (x:DF):List Value:=[.string (str x.nm),.int .i64 x.dat.length,.slice none 0 0,.bool true,x.dv]
def fcs (L:List DF):List Value:=L.flatMap DF.cs
def DF.pr (x:DF):Nm×Sec:=(x.nm,x.dat)
theorem fcs_len (L:List DF):(fcs L).length=L.length * 5:=by
 induction L with
 | nil=>rfl
 | cons a t ih=>simp only[fcs,List.flatMap_cons,List.length_append,DF.cs,List.length_cons,List.length_nil,Nat.add_mul] at ih ⊢;omega
theorem fcs_app (a b:List DF):fcs (a++b)=fcs a++fcs b:=List.flatMap_append
theorem fcs_at:∀(L:List DF) (j:Nat) (h:j<L.length),(fcs L)[j * 5]?=some (.string (str (L[j]'h).nm))∧(fcs L)[j * 5+1]?=some (.int .i64 (L[j]'h).dat.length)∧(fcs L)[j * 5+2]?=some (.slice none 0 0)∧(fcs L)[j * 5+3]?=some (.bool true)∧(fcs L)[j * 5+4]?=some (L[j]'h).dv
 | [],j,h=>by simp at h
 | a::t,0,h=>by simp[fcs,DF.cs]
 | a::t,j+1,h=>by
  have ih:=fcs_at t j (by simpa using h);have e:fcs (a::t)=a.cs++fcs t:=rfl;have e3:a.cs.length=5:=rfl;have key:∀k,(fcs (a::t))[(j+1) * 5+k]?=(fcs t)[j * 5+k]?:=fun k=>by
   rw[e,List.getElem?_append_right (by rw[e3];omega),e3,show (j+1) * 5+k - 5=j * 5+k by omega]
  have k0:=key 0;simp only[Nat.add_zero] at k0;simp only[List.getElem_cons_succ];rw[k0,key 1,key 2,key 3,key 4];exact ih
theorem fcs_cells {w:World} {g off n:Nat} {L:List DF} (hl:L.length=n) (hc:∀j,j<n * 5→w.cell? ⟨g,off+j,none⟩=(fcs L)[j]?) (j:Nat) (h:j<L.length):
  w.cell? ⟨g,off+j * 5,none⟩=some (.string (str (L[j]'h).nm))∧w.cell? ⟨g,off+j * 5+1,none⟩=some (.int .i64 (L[j]'h).dat.length)∧w.cell? ⟨g,off+j * 5+2,none⟩=some (.slice none 0 0)∧w.cell? ⟨g,off+j * 5+3,none⟩=some (.bool true)∧w.cell? ⟨g,off+j * 5+4,none⟩=some (L[j]'h).dv:=by
 obtain⟨h0,h1,h2,h3,h4⟩:=fcs_at L j h;exact⟨(hc (j * 5) (by omega)).trans h0,(hc (j * 5+1) (by omega)).trans h1,(hc (j * 5+2) (by omega)).trans h2,(hc (j * 5+3) (by omega)).trans h3,(hc (j * 5+4) (by omega)).trans h4⟩
theorem fcs_ones (L:List DF):∀u∈fcs L,u.oneCell'=true:=by
 intro u hu;simp only[fcs,List.mem_flatMap] at hu;obtain⟨r,-,hu⟩:=hu;simp only[DF.cs,List.mem_cons,List.not_mem_nil,or_false] at hu;rcases hu with rfl | rfl | rfl | rfl | rfl <;> rfl
def woD (s:Nm) (L:List DF):List DF:=L.filter fun x=>!decide (x.nm=s)
theorem woD_snoc (s:Nm) (L:List DF) (x:DF):woD s (L++[x])=woD s L++if x.nm=s then [] else [x]:=by
 unfold woD;rw[List.filter_append];by_cases h:x.nm=s <;> simp[h]
end Go.Aq.Fy
namespace Go.Proofs.YtlbdklaggalgfaaGreatDoor
open Go.RowKit Go.Aq Go.Aq.Fy
theorem sl_fileD:SliceTy Tryz.prog 124 134 (.agg #[.string ⟨#[]⟩,.int .i64 0,.slice none 0 0,.bool false,.slice none 0 0]) 5 80:=⟨Tryz.underlying124,by kernel_rfl,rfl,by decide⟩
def FindD (L:List DF) (s:Nm) (r:Int):Prop:=(∃i x,L[i]?=some x∧x.nm=s∧r=(i:Nat))∨((∀x∈L,x.nm≠s)∧r= -1)
set_option maxRecDepth 100000 in
theorem dfind_ok (w:World) (v:Value) (L:List DF) (s:Nm) (hv:Sees w 5 v L.length (fcs L)) (hl:L.length≤1000000):
  Calls Tryz.prog 77 #[v,.string (str s)] w fun e w'=>(∃r,FindD L s r∧e=.returned (.int .i64 r))∧w'=w:=by
 obtain⟨n,HN⟩:∃n,Hid (L.length=n):=⟨_,rfl⟩;rw[HN.out] at hv hl;obtain⟨ao,cap,rfl,-⟩:=hv.shape;have HV:=zH hv;clear hv;go_enter Tryz.func77,Tryz.ntmps77;go_wp2_with fail;go_loopg [5] n (fun gk (v5:Value) wr=>∃(i:Nat),v5=.int .i64 (i:Int)∧i+gk=n∧Hid (∀x∈L.take i,x.nm≠s)∧wr=w);case atStart=>exact⟨0,rfl,by omega,by simp[Hid],rfl⟩
 case round=>
  obtain⟨i,rfl,hik,HT,rfl⟩:=hrel;by_cases hin:i<n
  ·have t1:decide ((i:Int)<(n:Int))=true:=decide_eq_true (by omega);have t1':decide (i<n)=true:=decide_eq_true hin;have hil:i<L.length:=by rw[HN.out];exact hin
   obtain⟨g,off,cap',hs,-,hgl,hcell⟩:=HV.out.cells (by omega);simp only[Value.slice.injEq,true_and] at hs;obtain⟨hs1,hs2⟩:=hs;subst hs1;obtain⟨y0,-⟩:=fcs_cells HN.out hcell i hil;have htk:=List.take_succ_eq_append_getElem hil;have hgx:=List.getElem?_eq_getElem hil;have i1:(i:Int)≤1000000:=by omega
   have HI:=zB hik htk hgx;clear hik htk hgx hcell hgl hs2 hl;generalize L[i]=x at *;clear hil;have HW:=zH (show wrap64 ((i:Int)+1)=((i+1:Nat):Int) from by unfold wrap64;omega);by_cases hx:x.nm=s
   ·have e2:((str x.nm).toList==(str s).toList)=true:=by rw[str_eq];simpa using hx
    have HX:=zH hx;clear hx;go_wp2_with fail;go_ret;exact⟨⟨(i:Nat),.inl ⟨i,x,HI.out.2.2,HX.out,rfl⟩,rfl⟩,rfl⟩
   ·have e2:((str x.nm).toList==(str s).toList)=false:=by rw[str_eq];simpa using hx
    have HX:=zH hx;clear hx;go_wp2_with fail;go_roundg (gk - 1);case measure=>have:=HI.out;omega
    case rel=>
     refine⟨i+1,by first | rfl | rw[HW.out],by have:=HI.out;omega,?_,rfl⟩;show ∀x∈L.take (i+1),x.nm≠s;rw[HI.out.2.1];intro y hy;rcases List.mem_append.1 hy with h | h
     ·exact HT.out y h
     ·rw[List.mem_singleton.1 h];exact HX.out
  ·have t1:decide ((i:Int)<(n:Int))=false:=decide_eq_false (by omega);have t1':decide (i<n)=false:=decide_eq_false hin;obtain rfl:i=n:=by omega
   clear hik hin hl;go_wp2_with fail;go_ret;exact⟨⟨-1,.inr ⟨fun y hy=>HT.out y (by rw[List.take_of_length_le (by rw[HN.out];exact Nat.le_refl _)];exact hy),rfl⟩,rfl⟩,rfl⟩
set_option maxRecDepth 100000 in
theorem dwithout_ok (w:World) (v:Value) (L:List DF) (s:Nm) (hv:Sees w 5 v L.length (fcs L)) (hl:L.length≤1000000):
  Calls Tryz.prog 127 #[v,.string (str s)] w fun e w'=>∃v',e=.returned v'∧Fresh w w' 134 5 v' (woD s L).length (fcs (woD s L)):=by
 obtain⟨n,HN⟩:∃n,Hid (L.length=n):=⟨_,rfl⟩;rw[HN.out] at hv hl;obtain⟨ao,cap,rfl,-⟩:=hv.shape;have HV:=zH hv;clear hv;go_enter Tryz.func127,Tryz.ntmps127;go_wp2_with fail;go_loopg [5,6] n (fun gk (v5 v6:Value) wr=>∃(i m:Nat) (a6:Option Addr) (c6:Nat),v5=.slice a6 m c6∧v6=.int .i64 (i:Int)∧i+gk=n∧Hid (m=(woD s (L.take i)).length∧m≤i)∧Hid (Fresh w wr 134 5 (.slice a6 m c6) m (fcs (woD s (L.take i)))));case atStart=>exact⟨0,0,none,0,rfl,rfl,by omega,⟨rfl,Nat.le_refl _⟩,Fresh.nil _ _ _⟩
 case round=>
  obtain⟨i,m,a6,c6,rfl,rfl,hik,HM,HF⟩:=hrel;by_cases hin:i<n
  ·have t1:decide ((i:Int)<(n:Int))=true:=decide_eq_true (by omega);have t1':decide (i<n)=true:=decide_eq_true hin;have hil:i<L.length:=by rw[HN.out];exact hin
   obtain⟨g,off,cap',hs,-,hgl,hcell⟩:=(HV.out.chg0 HF.out.chg).cells (by omega);simp only[Value.slice.injEq,true_and] at hs;obtain⟨hs1,hs2⟩:=hs;subst hs1;obtain⟨y0,y1,y2,y3,y4⟩:=fcs_cells HN.out hcell i hil;have hds:=woD_snoc s (L.take i) L[i];rw[←List.take_succ_eq_append_getElem hil] at hds;have i1:(i:Int)≤1000000:=by omega
   have hmi:m≤i:=HM.out.2;have HW:=zH (show wrap64 ((i:Int)+1)=((i+1:Nat):Int) from by unfold wrap64;omega);have HI:=zH hik;clear hik hcell hgl hs2;generalize L[i]=x at *;clear hil;obtain⟨nm,dat,dao,dcap⟩:=x;simp only[DF.dv] at y0 y1 y2 y3 y4 hds;by_cases hx:nm=s
   ·have e2:((str nm).toList != (str s).toList)=false:=by simp[hx]
    have e2':((str nm).toList==(str s).toList)=true:=by simp[hx]
    rw[if_pos hx,List.append_nil] at hds;have HD:=zH hds;clear hx hds;go_wp2_with fail;go_roundg (gk - 1);case measure=>have:=HI.out;omega
    case rel=>exact⟨i+1,m,a6,c6,rfl,by first | rfl | rw[HW.out],by have:=HI.out;omega,by show _∧_;rw[HD.out];exact⟨HM.out.1,by omega⟩,by rw[HD.out];exact HF.out⟩
   ·have e2':((str nm).toList==(str s).toList)=false:=by rw[str_eq];simpa using hx
    have e2:((str nm).toList != (str s).toList)=true:=by simp[bne,e2']
    rw[if_neg hx] at hds;have HD:=zH hds;clear hx hds;go_wp2_with (at_builtin;refine wpList_appF (w0:=w) rfl _ _ 124 rfl sl_fileD (by exact HF.out.to ((Chg.refl [] wr).alloc (.cells #[.string (str nm),.int .i64 dat.length,.slice none 0 0,.bool true,.slice dao dat.length dcap] 134))) rfl (news:=fcs [⟨nm,dat,dao,dcap⟩]) (Sees.rowsY (m:=1) (cs:=#[.string (str nm),.int .i64 dat.length,.slice none 0 0,.bool true,.slice dao dat.length dcap]) (by exact Blk.new wr _ 134) rfl) rfl (fcs_ones _) (by omega) (by omega) ?_;intro v4 w4 hF4 c4;obtain⟨a4,p4,rfl,-⟩:=hF4.shape;have HF4:=zH hF4;clear hF4 c4);go_roundg (gk - 1);case measure=>have:=HI.out;omega
    case rel=>exact⟨i+1,m+1,a4,p4,rfl,by first | rfl | rw[HW.out],by have:=HI.out;omega,by show _∧_;rw[HD.out,List.length_append,←HM.out.1];exact⟨rfl,by omega⟩,by rw[HD.out,fcs_app];exact HF4.out⟩
  ·have t1:decide ((i:Int)<(n:Int))=false:=decide_eq_false (by omega);have t1':decide (i<n)=false:=decide_eq_false hin;have htk:L.take i=L:=List.take_of_length_le (by rw[HN.out];omega);rw[htk] at HM HF;have HZ:Hid (Fresh w wr 134 5 (.slice a6 m c6) (woD s L).length (fcs (woD s L))):=by show Fresh _ _ _ _ _ _ _;rw[←HM.out.1];exact HF.out
   clear hin hik htk;go_wp2_with fail;go_ret;exact⟨_,rfl,HZ.out⟩
end Go.Proofs.YtlbdklaggalgfaaGreatDoor
namespace Go.Aq.Fy
open Go.Aq Go.RowKit
theorem readL_length (D:DiskD) (L:LogD) (n:Nat):(readL D L n).length=n:=by simp[readL]
theorem readL_get (D:DiskD) (L:LogD) (n i:Nat) (h:i<(readL D L n).length):(readL D L n)[i]=(readAt D L i,D.now (inL L (need n - n+i))):=by simp[readL]
theorem inL_lt (L:LogD) (i:Nat) (h:0<L.ring):inL L i<2+L.ring:=by unfold inL;have:=Nat.mod_lt (L.pos+i) h;omega
end Go.Aq.Fy
namespace Go.Proofs.YtlbdklaggalgfaaGreatDoor
open Go.RowKit Go.Aq Go.Aq.Fy Go.Maps
theorem sl_put:SliceTy Tryz.prog 108 166 (.agg #[.int .i64 0,.slice none 0 0]) 2 32:=⟨Tryz.underlying108,by kernel_rfl,rfl,by decide⟩
theorem home_yes (w:World) (S:List Nat) (l p:Nat) (D:DiskD) (L:LogD) (k:Nat) (hD:DiskR w S p D) (hL:LogR w l p L) (hr:L.ring<65536) (hh:atHome D L k=true):
  Calls Tryz.prog 195 #[.pointer (some ⟨l,0,none⟩),.int .i64 k] w fun e w'=>e=.returned (.bool true)∧w'=w:=by
 have h1:=home_ok w l p L hL hr;have h2:=sectors_ok w S p D hD;obtain⟨⟨c0,c1,c2,c3⟩,-⟩:=Blk.c4b hL;simp only[atHome,Bool.and_eq_true,decide_eq_true_eq] at hh;have t1:decide (((homeL L:Nat):Int)≤(k:Int))=true:=decide_eq_true (by omega);have t1':decide (homeL L≤k)=true:=decide_eq_true hh.1;have t2:decide ((k:Int)<(D.n:Int))=true:=decide_eq_true (by omega);have t2':decide (k<D.n)=true:=decide_eq_true hh.2;generalize homeL L=q at *;generalize D.n=n at *;clear hD hL hr hh c1 c2 c3;go_enter Tryz.func195,Tryz.ntmps195;go_wp2_with fail;refine h1.mono ?_;rintro e w' ⟨rfl,rfl⟩;go_wp2_with fail;refine h2.mono ?_;rintro e w' ⟨rfl,rfl⟩;go_wp2_with fail;go_ret;exact⟨rfl,rfl⟩
set_option maxRecDepth 100000 in
theorem readL_ok (w:World) (S:List Nat) (l p:Nat) (D:DiskD) (L:LogD) (n:Nat) (hD:DiskR w S p D) (hL:LogR w l p L) (hd:D.down=false) (h0:0<L.ring) (hr:L.ring+4≤D.n) (hpos:L.pos<65536) (hn:n≤10000)
  (hs:∀k,k<D.n→(D.now k).length=256) (hh:∀i,i<n→atHome D L (readAt D L i)=true):
  Calls Tryz.prog 154 #[.pointer (some ⟨l,0,none⟩),.int .i64 n] w fun e w'=>∃v xs,e=.returned (.tuple #[v,.int .i64 0])∧Fresh w w' 166 2 v n xs∧PendR w' S (readL D L n) xs:=by
 obtain⟨⟨c0,c1,c2,c3⟩,-⟩:=Blk.c4b hL;have hle:D.n≤4096:=by obtain⟨_,_,_,_,_,_,_,hb,_⟩:=hD;exact hb.least.2
 have hnd:=need_ok w (.pointer (some ⟨l,0,none⟩)) n (by omega);have hge:n≤need n:=by unfold need;split <;> omega
 have hne:=need_le n;have e1:wrap64 ((need n:Int) - (n:Int))=((need n - n:Nat):Int):=by unfold wrap64;omega
 obtain⟨fi,hfi⟩:∃fi,need n - n=fi:=⟨_,rfl⟩;rw[hfi] at e1;have HH:=zH (And.intro hD (And.intro hL (And.intro hd (And.intro h0 (And.intro hr (And.intro hpos (And.intro hn (And.intro hs (And.intro hh (And.intro hle (And.intro hfi (show fi≤20001 by omega))))))))))));have hgetL:=readL_get D L n;have hlenL:=readL_length D L n;rw[hfi] at hgetL;have HG:=zA hgetL hlenL;generalize readL D L n=P at *;generalize need n=nd at *;clear hD hL hd h0 hr hpos hn hs hh hle hge hne hfi hgetL hlenL c1 c2 c3;go_enter Tryz.func154,Tryz.ntmps154;go_wp2_with fail;refine hnd.mono ?_;rintro e w' ⟨rfl,rfl⟩;clear hnd;go_wp2_with fail;rw[e1];clear e1;go_loopg [6,20] n (fun k (v6 v20:Value) wr=>∃(i:Nat) (xs:List Value),v20=.int .i64 (i:Int)∧i≤n∧k=n - i∧Fresh w' wr 166 2 v6 i xs∧PendR wr (v6.ownBlock.toList++S) (P.take i) xs);case atStart=>exact⟨0,[],rfl,by omega,by omega,Fresh.nil _ _ _,.nil⟩
 case round=>
  obtain⟨i,xs,rfl,hi,hk1,hF,hP⟩:=hrel;by_cases hin:i<n
  ·have t1:decide ((i:Int)<(n:Int))=true:=decide_eq_true (by omega);obtain⟨va,vc,rfl,-⟩:=hF.shape;have cr:=hF.chg;have hDr:=HH.out.1.chg cr;have hLr:LogR wr l p L:=HH.out.2.1.chg cr (by simp);have hring:L.ring<65536:=by have h1:=HH.out.2.2.2.2.1;have h2:=HH.out.2.2.2.2.2.2.2.2.2.1;omega
   have hi4:i≤10000:=by have:=HH.out.2.2.2.2.2.2.1;omega
   have hiP:i<P.length:=by rw[HG.out.2];exact hin
   have hget:P[i]?=some (readAt D L i,D.now (inL L (fi+i))):=by rw[List.getElem?_eq_getElem hiP,HG.out.1 i hiP]
   have hq64:i / 64≤i:=Nat.div_le_self _ _;have hin1:=fun w'' (c:Chg [] wr w'')=>in_ok w'' l p L (hLr.chg c (by simp)) (i / 64) (by omega) hring HH.out.2.2.2.2.2.1 HH.out.2.2.2.1
   have hrd1:=fun w'' (c:Chg [] wr w'')=>read_ok w'' S p D (inL L (i / 64)) (hDr.chg c) HH.out.2.2.1 (by have:=inL_lt L (i / 64) HH.out.2.2.2.1;have:=HH.out.2.2.2.2.1;omega)
   have hin2:=fun w'' (c:Chg [] wr w'')=>in_ok w'' l p L (hLr.chg c (by simp)) (fi+i) (by have:=HH.out.2.2.2.2.2.2.2.2.2.2.2;omega) hring HH.out.2.2.2.2.2.1 HH.out.2.2.2.1
   have hrd2:=fun w'' (c:Chg [] wr w'')=>read_ok w'' S p D (inL L (fi+i)) (hDr.chg c) HH.out.2.2.1 (by have:=inL_lt L (fi+i) HH.out.2.2.2.1;have:=HH.out.2.2.2.2.1;omega)
   have hl1:(D.now (inL L (i / 64))).length=256:=HH.out.2.2.2.2.2.2.2.1 _ (by have:=inL_lt L (i / 64) HH.out.2.2.2.1;have:=HH.out.2.2.2.2.1;omega);have hhm:=fun w'' (c:Chg [] wr w'')=>home_yes w'' S l p D L (readAt D L i) (hDr.chg c) (hLr.chg c (by simp)) hring (HH.out.2.2.2.2.2.2.2.2.1 i hin)
   have hra:readAt D L i=beVal (((D.now (inL L (i / 64))).drop (i % 64 * 2)).take 2):=rfl;have ed:=tdiv_nat i 64;have em:=tmod_nat i 64;have hm64:i % 64<64:=Nat.mod_lt _ (by decide);have ed':((i:Int)).tdiv 64=((i / 64:Nat):Int):=ed;have em':((i:Int)).tmod 64=((i % 64:Nat):Int):=em;have ewq:IntKind.i64.wrap ((i / 64:Nat):Int)=((i / 64:Nat):Int):=wIq (by unfold wrap64;omega);have ew2:wrap64 (((i % 64:Nat):Int) * 2)=((i % 64 * 2:Nat):Int):=by unfold wrap64;omega
   have efi:IntKind.i64.wrap ((fi:Int)+(i:Int))=((fi+i:Nat):Int):=wIq (by have:=HH.out.2.2.2.2.2.2.2.2.2.2.2;unfold wrap64;omega);have hwi:Hid (wrap64 ((i:Int)+1)=(i:Int)+1):=by show _=_;unfold wrap64;omega
   have y0:=cr.cell_some c0 (by simp);have hat:i % 64 * 2≤254:=by omega
   generalize inL L (i / 64)=s1 at *;generalize inL L (fi+i)=s2 at *;generalize D.now s1=b1 at *;generalize D.now s2=b2 at *;generalize readAt D L i=at1 at *;generalize i / 64=q64 at *;generalize i % 64=m64 at *;generalize hmm:m64 * 2=mm at *;have HT:=zG hk1 hF hP hget cr hra hat hl1;clear hk1 hF hP hget cr hDr hLr hring hi4 hiP hq64 hl1 hra ed em hm64 hat hmm hi;go_upto_region 6 with (fail);obtain⟨W0,hW0⟩:∃W0,wr.drew=W0:=⟨_,rfl⟩;have cd:Chg [] wr W0:=by rw[←hW0];exact (Chg.refl _ _).drew
   refine wp_region_U [] (fun _=>false) (by kernel_rfl) ?_;rw[hW0];clear hW0;have C0:Chg [] W0 W0:=Chg.refl _ _;have y0':=cd.cell_some y0 (by simp);refine tU 0 (.pointer (some ⟨l,0,none⟩)) C0 (fun w4 c4=>?_) ?_;·go_simp
   refine yG ?_;refine tU 1 (.pointer (some ⟨l,0,none⟩)) C0 (fun w4 c4=>?_) ?_;·go_simp
   refine yG ?_;refine tU 2 (.pointer (some ⟨l,0,none⟩)) C0 (fun w4 c4=>?_) ?_;·go_simp
   refine yG ?_;refine tU 3 (.pointer (some ⟨p,0,none⟩)) C0 (fun w4 c4=>?_) ?_
   ·have z:=c4.cell_some y0' (by simp);go_simp
   refine yG ?_;refine tU 4 (.pointer (some ⟨l,0,none⟩)) C0 (fun w4 c4=>?_) ?_;·go_simp
   refine yG ?_;refine tU 5 (.int .i64 i) C0 (fun w4 c4=>?_) ?_;·go_simp
   refine yG ?_;refine tU 6 (.int .i64 q64) C0 (fun w4 c4=>?_) ?_;·go_simp
   refine yG ?_;refine oU 7 ?_;go_simp;refine (hin1 W0 cd).mono ?_;rintro e w1 ⟨rfl,q1,hq1⟩;have c1:Chg [] W0 w1:=by rw[hq1];exact (Chg.refl _ _).drewN q1
   clear hq1;refine⟨c1,?_⟩;refine yG ?_;refine oU 8 ?_;go_simp;refine (hrd1 w1 (cd.nil c1)).mono ?_;rintro e w2 ⟨v1,rfl,hF1⟩;obtain⟨a1,k1,rfl,-⟩:=hF1.shape;have c2:=c1.nil hF1.chg;refine⟨c2,?_⟩;refine yG ?_;refine tU 9 (.tuple #[.slice a1 256 k1,.int .i64 0]) c2 (fun w4 c4=>?_) ?_;·go_simp
   refine yG ?_;refine tU 10 (.slice a1 256 k1) c2 (fun w4 c4=>?_) ?_;·go_simp
   refine yG ?_;refine tU 11 (.int .i64 0) c2 (fun w4 c4=>?_) ?_;·go_simp
   refine yG ?_;refine tU 12 (.slice a1 256 k1) c2 (fun w4 c4=>?_) ?_;·go_simp
   refine yG ?_;refine tU 13 (.int .i64 0) c2 (fun w4 c4=>?_) ?_;·go_simp
   refine yG ?_;refine wpAnyU_done (by kernel_rfl) ?_ _;have cw2:=cd.nil c2;have HF1:=zB hF1.own.sees cw2 trivial;clear hF1 c1 c2 C0 hin1 hrd1 y0' cd;have hrb:=readBig_ok w2 (.slice a1 256 k1) 256 mm 2 b1 HF1.out.1 (by decide) (by decide) (by have:=HT.out.2.2.2.2.2.2.1;omega) (by decide);rw[←HT.out.2.2.2.2.2.1] at hrb;go_wp2_with fail;refine hrb.mono ?_;rintro e w3 ⟨rfl,rfl⟩;clear hrb;go_wp2_with fail;refine (hhm w2 HF1.out.2.1).mono ?_;rintro e w3 ⟨rfl,hw3⟩;rw[hw3];clear hw3 w3;go_upto_region 12 with (fail);have y0':=HF1.out.2.1.cell_some y0 (by simp);obtain⟨W0,hW0⟩:∃W0,w2.drew=W0:=⟨_,rfl⟩;have cd:Chg [] w2 W0:=by rw[←hW0];exact (Chg.refl _ _).drew
   refine wp_region_U [] (fun _=>false) (by kernel_rfl) ?_;rw[hW0];clear hW0;have C0:Chg [] W0 W0:=Chg.refl _ _;have y0'':=cd.cell_some y0' (by simp);refine tU 0 (.pointer (some ⟨l,0,none⟩)) C0 (fun w4 c4=>?_) ?_;·go_simp
   refine yG ?_;refine tU 1 (.pointer (some ⟨l,0,none⟩)) C0 (fun w4 c4=>?_) ?_;·go_simp
   refine yG ?_;refine tU 2 (.pointer (some ⟨l,0,none⟩)) C0 (fun w4 c4=>?_) ?_;·go_simp
   refine yG ?_;refine tU 3 (.pointer (some ⟨p,0,none⟩)) C0 (fun w4 c4=>?_) ?_
   ·have z:=c4.cell_some y0'' (by simp);go_simp
   refine yG ?_;refine tU 4 (.pointer (some ⟨l,0,none⟩)) C0 (fun w4 c4=>?_) ?_;·go_simp
   refine yG ?_;refine tU 5 (.int .i64 fi) C0 (fun w4 c4=>?_) ?_;·go_simp
   refine yG ?_;refine tU 6 (.int .i64 i) C0 (fun w4 c4=>?_) ?_;·go_simp
   refine yG ?_;refine tU 7 (.int .i64 (fi+i:Nat)) C0 (fun w4 c4=>?_) ?_;·go_simp
   refine yG ?_;refine oU 8 ?_;go_simp;refine (hin2 W0 (HF1.out.2.1.nil cd)).mono ?_;rintro e w4 ⟨rfl,q1,hq1⟩;have c1:Chg [] W0 w4:=by rw[hq1];exact (Chg.refl _ _).drewN q1
   clear hq1;refine⟨c1,?_⟩;refine yG ?_;refine oU 9 ?_;go_simp;refine (hrd2 w4 ((HF1.out.2.1.nil cd).nil c1)).mono ?_;rintro e w5 ⟨v2,rfl,hF2⟩;obtain⟨a2,k2,rfl,-⟩:=hF2.shape;have c2:=c1.nil hF2.chg;refine⟨c2,?_⟩;refine yG ?_;refine tU 10 (.tuple #[.slice a2 256 k2,.int .i64 0]) c2 (fun w4 c4=>?_) ?_;·go_simp
   refine yG ?_;refine tU 11 (.slice a2 256 k2) c2 (fun w4 c4=>?_) ?_;·go_simp
   refine yG ?_;refine tU 12 (.int .i64 0) c2 (fun w4 c4=>?_) ?_;·go_simp
   refine yG ?_;refine tU 13 (.slice a2 256 k2) c2 (fun w4 c4=>?_) ?_;·go_simp
   refine yG ?_;refine tU 14 (.int .i64 0) c2 (fun w4 c4=>?_) ?_;·go_simp
   refine yG ?_;refine wpAnyU_done (by kernel_rfl) ?_ _;have cw5:=HF1.out.2.1.nil (cd.nil c2);have hsee2:=hF2.own.sees;have hnew2:∀k∈(Value.slice a2 256 k2).ownBlock.toList,wr.heap.size≤k:=fun k hk=>Nat.le_trans (HF1.out.2.1.nil (cd.nil c1)).size (hF2.new k hk)
   have hF5:=HT.out.2.1.to cw5;have HF5:=zC hsee2 hnew2 cw5 hF5;have hcap:i≤10000:=by have:=HH.out.2.2.2.2.2.2.1;omega
   have hbx:Blk (w5.alloc (.cells #[.int .i64 at1,.slice a2 256 k2] 166)) w5.heap.size #[.int .i64 at1,.slice a2 256 k2] 166:=Blk.new _ _ _;have hca:Chg [] w5 (w5.alloc (.cells #[.int .i64 at1,.slice a2 256 k2] 166)):=(Chg.refl [] _).alloc _;have hFa:=hF5.to hca;have hsrc:Sees (w5.alloc (.cells #[.int .i64 at1,.slice a2 256 k2] 166)) 2 (.slice (some ⟨w5.heap.size,0,none⟩) 1 1) 1 [.int .i64 at1,.slice a2 256 k2]:=Sees.blk hbx;have hone:∀u∈[Value.int .i64 at1,.slice a2 256 k2],u.oneCell'=true:=by intro u hu;simp at hu;rcases hu with rfl | rfl <;> rfl
   clear hF2 c1 c2 C0 hin2 hrd2 y0'' cd hsee2 hnew2 cw5 hF5 hhm y0 y0' hbx ewq ew2 efi ed' em';go_wp2_with (at_builtin;refine wpList_app rfl _ _ 108 rfl sl_put hFa.own rfl hsrc rfl hone (by omega) (by omega) ?_;intro v7 w7 ho7 c7 hn7);have hF7:=hFa.app ho7 c7 hn7;go_roundg (gk - 1);case measure=>have:=HT.out.1;omega
   case rel=>
    have hi1:i+1≤n:=hin;have hk1:=HT.out.1;have hin:=HH.out.1.lt;have hcr:=HT.out.2.2.2.2.1.size;have h6:=HT.out.2.1.own.lt;have c57:Chg (Value.slice va i vc).ownBlock.toList w5 w7:=hca.toS.tr c7;have hw5:=HF5.out.2.2.1.size;have hwa:=hca.size;have hlt2:=(HF5.out.1).lt (by decide);have hu:Upd ((Value.slice va i vc).ownBlock.toList++S) (v7.ownBlock.toList++S) wr w7:=⟨(HF5.out.2.2.1.toS.tr c57).mono (fun k hk=>.inl (by simp[hk])),fun k hk=>by
     rcases List.mem_append.1 hk with hk | hk
     ·rcases hn7 k hk with h1 | h1
      ·exact .inl (by simp[h1])
      ·exact .inr (by omega)
     ·exact .inl (by simp[hk])⟩
    have hsv:SecV w7 (v7.ownBlock.toList++S) (.slice a2 256 k2) b2:=by
     have hoff:Disj (eyes (.slice a2 256 k2)) (Value.slice va i vc).ownBlock.toList:=fun j hj hj'=>by
      have h1:=HF5.out.2.1 j (eyes_own _ j hj);have h2:=h6 j hj';omega
     refine⟨(HF5.out.1.chg0 hca).chg c7 hoff,fun j hj hj'=>?_⟩;have h1:=HF5.out.2.1 j (eyes_own _ j hj);have h3:=hlt2 j hj;rcases List.mem_append.1 hj' with hj' | hj'
     ·rcases hn7 j hj' with h2 | h2
      ·exact hoff j hj h2
      ·simp at h2;omega
     ·have h2:=hin j hj';omega
    have hst:P.take (i+1)=P.take i++[(at1,b2)]:=by rw[List.take_add_one,HT.out.2.2.2.1];rfl
    refine⟨i+1,xs++[.int .i64 at1,.slice a2 256 k2],by first | rfl | (rw[hwi.out];rfl),hi1,by omega,hF7,?_⟩;rw[hst];exact (HT.out.2.2.1.upd hu).snoc hsv
  ·have t1:decide ((i:Int)<(n:Int))=false:=decide_eq_false (by omega);have e:i=n:=by omega
   subst e;have htk:P.take i=P:=List.take_of_length_le (by rw[HG.out.2];exact Nat.le_refl _);rw[htk] at hP;obtain⟨va,vc,rfl,-⟩:=hF.shape;have HE:=zA hF hP;clear hF hP htk;go_wp2_with fail;go_ret2;exact⟨_,xs,rfl,HE.out.1,HE.out.2.upd ⟨Chg.refl _ _,fun k hk=>.inl (by simp[hk])⟩⟩
end Go.Proofs.YtlbdklaggalgfaaGreatDoor
