/- FgA FgC DkV DkW -/
import Derived.Test.YtlbdklaggalgfaaGreatDoorG29
set_option linter.unusedSimpArgs false
set_option linter.unusedVariables false
set_option maxHeartbeats 16000000
namespace Go.Aq.Fy
theorem lg1 {i k m:Nat} (h:i+k=m) (hi:i<m):i+1+(k - 1)=m∧k - 1<k:=by omega
theorem lg2 {i k m:Nat} (h:i+k=m) (hi:¬i<m):i=m:=by omega
end Go.Aq.Fy
namespace Go.Proofs.YtlbdklaggalgfaaGreatDoor
open Go.RowKit Go.Aq Go.Aq.Fy Go.Maps
def RowsV (w:World) (S:List Nat) (v:Value) (L:List Sec):Prop:=∃xs,Sees w 1 v L.length xs∧(∀(i:Nat) (b:Sec),L[i]?=some b→∃y,xs[i]?=some y∧Sees w 1 y b.length (Bs b)∧Disj (eyes y) S)∧Disj (eyes v) S
theorem RowsV.chg {w w':World} {S T:List Nat} {v:Value} {L:List Sec} (h:RowsV w S v L) (c:Chg T w w') (hT:∀k∈T,k∈S∨w.heap.size≤k):RowsV w' S v L:=by
 obtain⟨xs,h1,h2,h3⟩:=h;have far:∀{y:Value} {n:Nat} {ys:List Value},Sees w 1 y n ys→Disj (eyes y) S→Sees w' 1 y n ys:=fun hs hd=>hs.chg c fun k hk hk'=>by
  rcases hT k hk' with h4 | h4
  ·exact hd k hk h4
  ·have:=hs.lt (by decide) k hk;omega
 refine⟨xs,far h1 h3,fun i b hb=>?_,h3⟩;obtain⟨y,e,hs,hd⟩:=h2 i b hb;exact⟨y,e,far hs hd,hd⟩
theorem RowsV.wide {w:World} {S T:List Nat} {v:Value} {L:List Sec} (h:RowsV w S v L) (hs:∀k∈T,k∈S∨w.heap.size≤k):RowsV w T v L:=by
 obtain⟨xs,h1,h2,h3⟩:=h;have far:∀{y:Value} {n:Nat} {ys:List Value},Sees w 1 y n ys→Disj (eyes y) S→Disj (eyes y) T:=fun hy hd k hk hk'=>by
  rcases hs k hk' with h4 | h4
  ·exact hd k hk h4
  ·have:=hy.lt (by decide) k hk;omega
 refine⟨xs,h1,fun i b hb=>?_,far h1 h3⟩;obtain⟨y,e,hy,hd⟩:=h2 i b hb;exact⟨y,e,hy,far hy hd⟩
def ShotR (w:World) (S:List Nat) (v:Value) (V:View):Prop:=∃nv bv,v=.agg #[nv,bv]∧Sees w 1 nv V.length (names (V.map (·.1)))∧Disj (eyes nv) S∧RowsV w S bv (V.map (·.2))
theorem ShotR.chg {w w':World} {S T:List Nat} {v:Value} {V:View} (h:ShotR w S v V) (c:Chg T w w') (hT:∀k∈T,k∈S∨w.heap.size≤k):ShotR w' S v V:=by
 obtain⟨nv,bv,rfl,h1,h2,h3⟩:=h;exact⟨nv,bv,rfl,h1.chg c fun k hk hk'=>by
  rcases hT k hk' with h4 | h4
  ·exact h2 k hk h4
  ·have:=h1.lt (by decide) k hk;omega,h2,h3.chg c hT⟩
theorem ShotR.wide {w:World} {S T:List Nat} {v:Value} {V:View} (h:ShotR w S v V) (hs:∀k∈T,k∈S∨w.heap.size≤k):ShotR w T v V:=by
 obtain⟨nv,bv,rfl,h1,h2,h3⟩:=h;exact⟨nv,bv,rfl,h1,fun k hk hk'=>by
  rcases hs k hk' with h4 | h4
  ·exact h2 k hk h4
  ·have:=h1.lt (by decide) k hk;omega,h3.wide hs⟩
end Go.Proofs.YtlbdklaggalgfaaGreatDoor
namespace Go.Aq.Fy
open Go.Aq Go.RowKit
def FewC (cs:List ChangeD):Prop:=cs.length≤40∧∀c∈cs,c.name.length≤400∧c.tonm.length≤400∧c.data.length≤70000
end Go.Aq.Fy
namespace Go.Proofs.YtlbdklaggalgfaaGreatDoor
open Go.RowKit Go.Aq Go.Aq.Fy Go.Maps
set_option maxRecDepth 100000 in
theorem dmay_ok (w:World) (S:List Nat) (l p sq ps:Nat) (now:Nat→Sec) (q:Nat) (v:Value) (P:List (Nat×Value)) (hl:LgD w l p sq ps) (hd:DkR w S p 200 now q) (hP:PutsR w S v P):
  Calls Tryz.prog 128 #[.pointer (some ⟨l,0,none⟩),v] w fun e w'=>e=.returned (.int .i64 0)∧Chg [] w w':=by
 obtain⟨ao,cap,rfl,-⟩:=hP.row.shape;have hn4:=hP.few;have H:=zB hl hd hP;clear hl hd hP;have hom:∀W,Chg [] w W→Calls Tryz.prog 58 #[.pointer (some ⟨l,0,none⟩)] W fun e w'=>e=.returned (.int .i64 22)∧Chg [] W w':=fun W c=>(dhome W l p sq ps (H.out.1.chg0 c)).mono fun e w' ⟨h1,h2⟩=>⟨h1,h2▸Chg.refl _ _⟩
 have sec:∀W,Chg [] w W→Calls Tryz.prog 51 #[.pointer (some ⟨p,0,none⟩)] W fun e w'=>e=.returned (.int .i64 200)∧Chg [] W w':=fun W c=>(dsectors_ok W S p 200 now q (H.out.2.1.chg0 c)).mono fun e w' ⟨h1,h2⟩=>⟨h1,h2▸Chg.refl _ _⟩
 have HO:=zA hom sec;clear hom sec;go_enter Tryz.func128,Tryz.ntmps128;go_wp2_with fail;go_loopg [5] P.length (fun gk (v5:Value) wr=>∃i:Nat,v5=.int .i64 (i:Int)∧i+gk=P.length∧Hid (Chg [] w wr));case atStart=>exact⟨0,rfl,by omega,Chg.refl _ _⟩
 case round=>
  obtain⟨i,rfl,hik,HC⟩:=hrel;by_cases hi:i<P.length
  ·have t1:decide ((i:Int)<(P.length:Int))=true:=decide_eq_true (by omega);have t1':decide (i<P.length)=true:=decide_eq_true hi;have i2:(i:Int)<(P.length:Int):=by omega
   have hp1:=H.out.2.2.upd (⟨HC.out.toS,fun _ h=>.inl h⟩:Upd S S w wr);obtain⟨g,off,cap',k,a,c,b,hv,hPi,k1,k2,y0,y1,hs,hds⟩:=hp1.get hi;simp only[Value.slice.injEq,true_and] at hv;obtain⟨hv1,hv2⟩:=hv;subst hv1;have hw3:=zH (show wrap64 ((i:Int)+1)=((i+1:Nat):Int) from by unfold wrap64;omega);obtain⟨X,hne,F,x0,hF0,hFx,hX⟩:=fam0 wr;have z0:=fun x=>(lg4 (H.out.1.chg0 (HC.out.nil (hFx x)))).1
   have z1:=fun x=>(hFx x).cell_some y0 (by simp)
   have hom:=fun x=>HO.out.1 (F x) (HC.out.nil (hFx x))
   have sec:=fun x=>HO.out.2 (F x) (HC.out.nil (hFx x))
   have d1:decide ((k:Int)<22)=false:=by simp;omega
   have d2:decide ((200:Int)≤(k:Int))=false:=by simp;omega
   have HP:=zB hPi hik hi;have HY:=zH y0;have HF:=zH (fun x=>HC.out.nil (hFx x));clear hPi hik hi y0 y1 hs hds hp1 hv2 k1 k2;go_wp2_with fail;refine wp_fam F (by kernel_rfl) (by kernel_rfl) x0 hF0 ?_;(repeat (go_big_quiet_step (first | exact fam_call hFx hX (hom _) | exact fam_call hFx hX (sec _))));refine wpQuiet_nil ?_;rintro w' ⟨x1,rfl⟩;have HC1:=zH (HF.out x1);have HY1:=zH ((hFx x1).cell_some HY.out (by simp));clear z0 z1 hom sec HF;generalize F x1=w1 at *;go_wp2_with fail;obtain⟨G,hG⟩:∃G,G=gk:=⟨_,rfl⟩;have HG:=zH hG;clear hG;go_loopg [6] i (fun gk2 (v6:Value) wr2=>∃j:Nat,v6=.int .i64 (j:Int)∧j+gk2=i∧Hid (Chg [] w1 wr2));case atStart=>exact⟨0,rfl,by omega,Chg.refl _ _⟩
   case round=>
    obtain⟨j,rfl,hj,HD⟩:=hrel;by_cases hji:j<i
    ·have t2:decide ((j:Int)<(i:Int))=true:=decide_eq_true (by omega);have t2':decide (j<i)=true:=decide_eq_true hji;have hp2:=H.out.2.2.upd (⟨(HC1.out.nil HD.out).toS,fun _ h=>.inl h⟩:Upd S S w _);have hil:=HP.out.2.2;obtain⟨g',off',cap'',k',a',c',b',hv',hPj,-,-,y0',-,-,-⟩:=hp2.get (i:=j) (by omega);simp only[Value.slice.injEq,Option.some.injEq,Addr.mk.injEq,and_true,true_and] at hv';obtain⟨⟨rfl,rfl⟩,-⟩:=hv';have y2:=HD.out.cell_some HY1.out (by simp);have j2:(j:Int)<(P.length:Int):=by omega
     have hkk:((k':Int)==(k:Int))=false:=by
      have hne:k'≠k:=fun e=>by
       have h1:=(List.getElem?_eq_some_iff.1 HP.out.1);have h2:=(List.getElem?_eq_some_iff.1 hPj);have hnd:=List.pairwise_iff_getElem.1 H.out.2.2.dis j i (by rw[List.length_map];omega) (by rw[List.length_map];omega) hji;rw[List.getElem_map,List.getElem_map,h2.2,h1.2] at hnd;exact hnd e
      simp;omega
     have hw4:=zH (show wrap64 ((j:Int)+1)=((j+1:Nat):Int) from by unfold wrap64;omega);have HJ:=zA hj hji;clear hp2 hPj hj hji hil;go_wp2_with fail;go_quiet (fail);have HD9:=zH (HD.out.drewN nq);go_wp2_with fail;go_roundg (gk - 1);case measure=>have:=HJ.out;omega
     case rel=>exact⟨j+1,by first | rfl | rw[hw4.out],by have:=HJ.out;omega,HD9.out⟩
    ·have t2:decide ((j:Int)<(i:Int))=false:=decide_eq_false (by omega);have t2':decide (j<i)=false:=decide_eq_false hji;clear hj hji;go_wp2_with fail;go_roundg (G - 1);case measure=>have:=HP.out;have:=HG.out;omega
     case rel=>exact⟨i+1,by first | rfl | rw[hw3.out],by have:=HP.out;have:=HG.out;omega,HC1.out.nil HD.out⟩
  ·have t1:decide ((i:Int)<(P.length:Int))=false:=decide_eq_false (by omega);have t1':decide (i<P.length)=false:=decide_eq_false hi;clear hik hi;go_wp2_with fail;go_loopg [7] P.length (fun gk (v7:Value) wr=>∃i:Nat,v7=.int .i64 (i:Int)∧i+gk=P.length∧Hid (Chg [] w wr));case atStart=>exact⟨0,rfl,by omega,HC.out⟩
   case round=>
    obtain⟨i,rfl,hik,HC⟩:=hrel;by_cases hi:i<P.length
    ·have t1:decide ((i:Int)<(P.length:Int))=true:=decide_eq_true (by omega);have t1':decide (i<P.length)=true:=decide_eq_true hi;have i2:(i:Int)<(P.length:Int):=by omega
     have hp1:=H.out.2.2.upd (⟨HC.out.toS,fun _ h=>.inl h⟩:Upd S S w _);obtain⟨g,off,cap',k,a,c,b,hv,-,-,-,-,y1,-,-⟩:=hp1.get hi;simp only[Value.slice.injEq,true_and] at hv;obtain⟨hv1,hv2⟩:=hv;subst hv1;have hw3:=zH (show wrap64 ((i:Int)+1)=((i+1:Nat):Int) from by unfold wrap64;omega);have HP:=zA hik hi;clear hik hi hp1 hv2;go_wp2_with fail;go_roundg (gk - 1);case measure=>have:=HP.out;omega
     case rel=>exact⟨i+1,by first | rfl | rw[hw3.out],by have:=HP.out;omega,HC.out⟩
    ·have t1:decide ((i:Int)<(P.length:Int))=false:=decide_eq_false (by omega);have t1':decide (i<P.length)=false:=decide_eq_false hi;clear hik hi;obtain⟨X,hne,F,x0,hF0,hFx,hX⟩:=fam0 wr;have z1:=fun x=>(lg4 (H.out.1.chg0 (HC.out.nil (hFx x)))).2.1
     have hnd:=fun x=>(needD (F x) P.length (by omega)).mono fun e w' (h:_∧_)=>(⟨h.1,h.2▸Chg.refl _ _⟩:e=.returned (.int .i64 (need P.length))∧Chg [] (F x) w')
     have hnn:need P.length<20:=by unfold need;split <;> omega
     generalize need P.length=m at *;have d1:decide ((20:Int)<(m:Int))=false:=by simp;omega
     have HF:=zH (fun x=>HC.out.nil (hFx x));clear hnn;go_wp2_with fail;refine wp_fam F (by kernel_rfl) (by kernel_rfl) x0 hF0 ?_;(repeat (go_big_quiet_step (exact fam_call hFx hX (hnd _))));refine wpQuiet_nil ?_;rintro w' ⟨x1,rfl⟩;have HC1:=zH (HF.out x1);clear z1 hnd HF;generalize F x1=w1 at *;go_wp2_with fail;go_ret;exact⟨rfl,HC1.out⟩
set_option maxRecDepth 100000 in
theorem dboth_ok (w:World) (v:Value) (hv:Sees w 1 v 2 [.int .i64 0,.int .i64 0]):
  Calls Tryz.prog 129 #[v] w fun e w'=>e=.returned (.int .i64 0)∧w'=w:=by
 obtain⟨g,off,cap,rfl,-,-,hcell⟩:=hv.cells (by decide);go_enter Tryz.func129,Tryz.ntmps129;go_wp2_with fail;go_loopg [3] 2 (fun gk (v3:Value) wr=>∃i:Nat,v3=.int .i64 (i:Int)∧i+gk=2∧wr=w);case atStart=>exact⟨0,rfl,rfl,rfl⟩
 case round=>
  obtain⟨i,rfl,hik,rfl⟩:=hrel;by_cases hi:i<2
  ·have t1:decide ((i:Int)<2)=true:=decide_eq_true (by omega);have i2:(i:Int)<2:=by omega
   have y:wr.cell? ⟨g,off+i,none⟩=some (.int .i64 0):=by
    rw[hcell i (by omega)];have:i=0∨i=1:=by omega
    rcases this with rfl | rfl <;> rfl
   have hw3:=zH (show wrap64 ((i:Int)+1)=((i+1:Nat):Int) from by unfold wrap64;omega);have HP:=zA hik hi;clear hik hi hcell;go_wp2_with fail;go_roundg (gk - 1);case measure=>have:=HP.out;omega
   case rel=>exact⟨i+1,by first | rfl | rw[hw3.out],by have:=HP.out;omega,rfl⟩
  ·have t1:decide ((i:Int)<2)=false:=decide_eq_false (by omega);clear hik hi hcell;go_wp2_with fail;go_ret;exact⟨rfl,rfl⟩
set_option maxRecDepth 100000 in
theorem filledC (w0 w:World) (g n cap:Nat) (b:List UInt8) (hf:FreshM w0 w 5 (.slice (some ⟨g,0,none⟩) n cap) n (Bs b)) (h1:n<256):
  Calls Tryz.prog 120 #[.slice (some ⟨g,0,none⟩) n cap] w fun e w'=>∃ao cap',e=.returned (.slice ao 256 cap')∧FreshM w0 w' 5 (.slice ao 256 cap') 256 (Bs (fill b))∧Chg [g] w w':=by
 have hbl:b.length=n:=by have:=hf.own.1;rw[Bs_length] at this;omega
 obtain⟨k,hk,hk0⟩:∃k,n+k=256∧0<k:=⟨256 - n,by omega,by omega⟩;have ew:wrap64 (256 - (n:Int))=(k:Int):=by rw[show 256 - (n:Int)=(k:Int) by omega];exact w64r (by omega)
 have ew':=wIqD ew;have ee:256 - (n:Int)=(k:Int):=by omega
 have HH:=zB hbl hk hk0;have HE:=zH ee;clear hbl hk hk0 h1 ee;go_enter Tryz.func120,Tryz.ntmps120;go_wp2_with (at_builtin;refine wpList_appMZ (k:=k) _ _ 38 sl_u8y rfl rfl 3 rfl rfl Tryz.underlying3 hf rfl rfl (by first | exact ew | exact ew' | exact HE.out | rfl) HH.out.2.2 (by have:=HH.out.2.1;omega) (by have:=HH.out.2.1;omega) ?_;intro v4 w4 hF4 c4);go_ret;have e1:Bs b++List.replicate k (Value.int .u8 0)=Bs (fill b):=by
  have:k=256 - b.length:=by have:=HH.out.1;have:=HH.out.2.1;omega
  rw[fill,Bs_append,this];simp[nul,Bs,Bc]
 rw[HH.out.2.1,e1] at hF4;obtain⟨a4,p4,rfl,-⟩:=hF4.shape;exact⟨a4,p4,rfl,hF4,c4⟩
def StD (w:World) (S:List Nat) (p:Nat) (now:Nat→Sec) (q:Nat) (wr:World):Prop:=∃S' now',DkR wr S' p 200 now' q∧Upd S S' w wr∧High now' now
set_option maxRecDepth 100000 in
theorem dcommit_ok (w:World) (S:List Nat) (l p:Nat) (now:Nat→Sec) (q:Nat) (v:Value) (P:List (Nat×Value)) (hl:LgD w l p 1 0) (hd:DkR w S p 200 now q) (hS:l∉S) (hP:PutsR w S v P) (hq:q≤500):
  Calls Tryz.prog 72 #[.pointer (some ⟨l,0,none⟩),v] w (LogE w S l p now (q+11)):=by
 obtain⟨ao,cap,rfl,-⟩:=hP.row.shape;have hmay:=dmay_ok w S l p 1 0 now q _ P hl hd hP;have hn4:=hP.few;have H:=zD hl hd hS hP hq;clear hl hd hS hP hq;obtain⟨n,HN⟩:∃n,Hid (P.length=n):=⟨_,rfl⟩;rw[HN.out] at hmay hn4 ⊢;go_enter Tryz.func72,Tryz.ntmps72;go_wp2_with fail;refine hmay.mono ?_;rintro e w1 ⟨rfl,c1⟩;have HC1:=zH c1;clear hmay c1;by_cases hn0:n=0
 ·subst hn0;go_wp2_with fail;go_ret;exact⟨rfl,S,1,0,now,H.out.1.chg0 HC1.out,(H.out.2.1.chg0 HC1.out).more (by omega),⟨HC1.out.toS,fun _ h=>.inl h⟩,H.out.2.2.1,fun _ _=>rfl⟩
 ·have b0:((n:Int)==0)=false:=by simpa using hn0
  have hnd:=needD w1 n (by omega);have hm:need n=n+1:=by unfold need;rw[if_neg (by omega)];omega
  rw[hm] at hnd;have e1:wrap64 (((n+1:Nat):Int) - (n:Int))=1:=by unfold wrap64;omega
  have e1':((n+1:Nat):Int) - (n:Int)=1:=by omega
  have HN0:=zH hn0;clear hm hn0;go_wp2_with fail;refine hnd.mono ?_;rintro e w2 ⟨rfl,hW⟩;subst hW;clear hnd;go_upto_region 6 with (fail);have e5:(n:Int)+1 - (n:Int)=1:=by omega
  rw[e5];clear e1 e1' e5;have HW2:=zH (show StD w S p now q w2 from ⟨S,now,H.out.2.1.chg0 HC1.out,⟨HC1.out.toS,fun _ h=>.inl h⟩,fun _ _=>rfl⟩);have hl2:=H.out.1.chg0 HC1.out;go_wp2_with fail;go_loopg [5,8] 1 (fun gk (v5 v8:Value) wr=>∃i:Nat,v5=.int .i64 0∧v8=.int .i64 (i:Int)∧i+gk=1∧Hid (StD w S p now (q+i) wr));case atStart=>exact⟨0,rfl,rfl,rfl,HW2.out⟩
  case round=>
   obtain⟨i,rfl,rfl,hik,HI⟩:=hrel;obtain⟨S1,now1,h1,u1,g1⟩:=HI.out;have hl1:LgD wr l p 1 0:=Blk.chg H.out.1 u1.chg H.out.2.2.1;have hlS:=u1.notin H.out.2.2.1 (Blk.lt H.out.1);have hp1:=H.out.2.2.2.1.upd u1;by_cases hi:i<1
   ·obtain rfl:i=0:=by omega
    have H1:=zE h1 u1 g1 hl1 hlS hp1;clear hi h1 u1 g1 hl1 hlS hp1 HI hl2;obtain⟨G,hG⟩:∃G,G=gk:=⟨_,rfl⟩;have HG:=zH hG;have HK:=zH hik;clear hG hik;go_wp2_with fail;obtain⟨wq,hwq⟩:∃wq,wq=wr:=⟨_,rfl⟩;rw[←hwq] at H1;go_loopg [9,10] n (fun gk2 (v9 v10:Value) wr2=>∃(k:Nat) (a9:Option Addr) (c9 m9:Nat),v9=.slice a9 m9 c9∧v10=.int .i64 (k:Int)∧k+gk2=n∧Hid (m9=2 * k∧∃bs,Fresh wq wr2 5 1 (.slice a9 m9 c9) m9 (Bs bs)));case atStart=>exact⟨0,none,0,0,rfl,rfl,by omega,rfl,[],by rw[hwq];exact Fresh.nil _ _ _⟩
    case round=>
     obtain⟨k,a9,c9,m9,rfl,rfl,hk,HF⟩:=hrel;by_cases hkn:k<n
     ·have t1:decide ((k:Int)<(n:Int))=true:=decide_eq_true (by omega);have t1':decide (k<n)=true:=decide_eq_true hkn;have t2:decide ((k:Int)<64)=true:=decide_eq_true (by omega);have t2':decide (k<64)=true:=decide_eq_true (by omega);have k2:(k:Int)<(n:Int):=by omega
      obtain⟨hm9,bs,hF⟩:=HF.out;have hp2:=H1.out.2.2.2.2.2.upd (⟨hF.chg.toS,fun _ h=>.inl h⟩:Upd S1 S1 wq _);obtain⟨g,off,cap',key,a,c,b,hv,hPi,k3,k4,y0,y1,hs,hds⟩:=hp2.get (i:=k) (by rw[HN.out];exact hkn);rw[HN.out] at hv;simp only[Value.slice.injEq,true_and] at hv;obtain⟨hv1,hv2⟩:=hv;subst hv1;have hbg:=fun W=>bigD W key 2 (by decide) (by decide) (by omega)
      have hw3:=zH (show wrap64 ((k:Int)+1)=((k+1:Nat):Int) from by unfold wrap64;omega);have HP:=zB hk hkn hm9;have HF2:=zH hF;clear hk hkn hm9 hF HF hp2 hPi k3 k4 y1 hs hds hv2 hwq;go_wp2_with fail;refine (hbg _).mono ?_;rintro e w3 ⟨g3,c3,rfl,hF3⟩;have HF3:=zH hF3;have HF4:=zH (HF2.out.to hF3.chg);clear hF3 hbg y0;have hb3:m9+2≤10:=by have:=HP.out;omega
      go_wp2_with (at_builtin;refine wpList_appF (w0:=wq) rfl _ _ 38 rfl sl_u8D (by exact HF4.out) rfl (by exact HF3.out.own.sees) rfl (Bs_one _) (by omega) (by omega) ?_;intro v4 w4 hF5 c5;obtain⟨a5,p5,rfl,-⟩:=hF5.shape;have HF5:=zH hF5;clear hF5 c5);go_roundg (gk - 1);case measure=>have:=HP.out;omega
      case rel=>exact⟨k+1,a5,p5,m9+2,rfl,by first | rfl | rw[hw3.out],by have:=HP.out;omega,by have:=HP.out;omega,bs++beB key 2,by rw[Bs_append];exact HF5.out⟩
     ·have t1:decide ((k:Int)<(n:Int))=false:=decide_eq_false (by omega);have t1':decide (k<n)=false:=decide_eq_false hkn;obtain⟨hm9,bs,hF⟩:=HF.out;have hm9':m9=2 * n:=by omega
      obtain⟨g9,c9',h9,-,-,-⟩:=hF.own.pos (by have:=HN0.out;omega);simp only[Value.slice.injEq,true_and] at h9;obtain⟨h91,h92⟩:=h9;subst h91;have HF2:=zA hF hm9';clear hk hkn hm9 hm9' hF HF hwq h92;go_upto_region 14 with (fail);have g9n:=HF2.out.1.new g9 (by simp[Value.ownBlock]);have g9l:l∉g9::S1:=by
       intro hm;rcases List.mem_cons.1 hm with e | hm
       ·have:=Blk.lt H1.out.2.2.2.1;omega
       ·exact H1.out.2.2.2.2.1 hm
      have hF9:=HF2.out.1.to (w':=wr.drew) ((Chg.refl [] wr).drew);refine wp_region_E (g9::S1) (by kernel_rfl) ?_;have C0:Chg (g9::S1) wr.drew wr.drew:=Chg.refl _ _;generalize wr.drew=W0 at *;have HLC:Hid (∀w4,Chg (g9::S1) W0 w4→LgD w4 l p 1 0):=fun w4 c4=>Blk.chg (H1.out.2.2.2.1.chg0 hF9.chg) c4 g9l
      have H9:=zB hF9 g9n HF2.out.2;clear hF9 g9n g9l;refine tE 0 (.int .i64 0) C0 (fun w4 c4=>?_) ?_;·go_simp
      refine yG ?_;refine tE 1 (.pointer (some ⟨l,0,none⟩)) C0 (fun w4 c4=>?_) ?_;·go_simp
      refine yG ?_;refine tE 2 (.pointer (some ⟨l,0,none⟩)) C0 (fun w4 c4=>?_) ?_;·go_simp
      refine yG ?_;refine tE 3 (.pointer (some ⟨l,0,none⟩)) C0 (fun w4 c4=>?_) ?_;·go_simp
      refine yG ?_;refine tE 4 (.pointer (some ⟨p,0,none⟩)) C0 (fun w4 c4=>?_) ?_
      ·have z:=(lg4 (HLC.out w4 c4)).1;go_simp
      refine yG ?_;refine tE 5 (.pointer (some ⟨l,0,none⟩)) C0 (fun w4 c4=>?_) ?_;·go_simp
      refine yG ?_;refine tE 6 (.int .i64 0) C0 (fun w4 c4=>?_) ?_;·go_simp
      refine yG ?_;refine tE 8 (.slice (some ⟨g9,0,none⟩) m9 c9) C0 (fun w4 c4=>?_) ?_;·go_simp
      refine yG ?_;refine oE 7 ?_;go_simp;refine (dslot_ok W0 l p 1 0 (HLC.out W0 C0) 0 (by decide) (by decide)).mono ?_;rintro e Wa ⟨⟨ks,rfl,ks1,ks2⟩,ca⟩;refine⟨ca.toS,?_⟩;refine yG ?_;have hfd:=filledC wq Wa g9 m9 c9 bs (FreshM.of (H9.out.1.to ca)) (by have:=H9.out.2.2;omega);have HA:=zB ca ks1 ks2;clear ca ks1 ks2 C0;refine oE 9 ?_;go_simp;refine hfd.mono ?_;rintro e Wb ⟨ab,cb,rfl,hFb,cfb⟩;have cE:Chg (g9::S1) W0 Wb:=HA.out.1.toS.tr (cfb.mono fun k hk=>.inl (by rw[List.mem_singleton.1 hk];exact .head _));refine⟨cE,?_⟩;refine yG ?_;have hw:=dwrM wq Wb S1 p now1 (q+0) (H1.out.1.chg0 hFb.chg) (by have:=H.out.2.2.2.2;omega) ks (by have:=HA.out;omega) _ _ hFb H1.out.1.lt;have HB:=zA hFb.chg cE;clear hfd hFb cfb cE;refine oE 10 ?_;go_simp;refine hw.mono ?_;rintro e Wc ⟨rfl,S3,h3,u3⟩;have cE:Chg (g9::S1) W0 Wc:=HB.out.2.tr (u3.chg.mono fun k hk=>.inl (.tail _ hk));refine⟨cE,?_⟩;refine yG ?_;have HI3:Hid (StD w S p now (q+1) Wc):=⟨S3,_,h3,(H1.out.2.1.nil HB.out.1).trans u3,H1.out.2.2.1.set (by have:=HA.out;omega) _⟩;clear hw h3 u3;refine oE 11 ?_;go_simp;have cA:Chg [] Wc (Wc.alloc (.cells #[.int .i64 0,.int .i64 0] 30)):=(Chg.refl [] _).alloc _;have hbo:=dboth_ok (Wc.alloc (.cells #[.int .i64 0,.int .i64 0] 30)) (.slice (some ⟨Wc.heap.size,0,none⟩) 2 2) (Sees.row (cs:=#[.int .i64 0,.int .i64 0]) (Blk.new Wc _ _) rfl);have cE2:=cE.nil cA;refine⟨cE2,?_⟩;have HI4:Hid (StD w S p now (q+1) (Wc.alloc (.cells #[.int .i64 0,.int .i64 0] 30))):=by
       obtain⟨S4,now4,h4,u4,g4⟩:=HI3.out;exact⟨S4,now4,h4.chg0 cA,u4.nil cA,g4⟩
      generalize Wc.alloc (.cells #[.int .i64 0,.int .i64 0] 30)=Wd at *;generalize Wc.heap.size=Kd at *;clear cE cA HI3;refine yG ?_;refine oE 12 ?_;go_simp;refine hbo.mono ?_;rintro e We ⟨rfl,hWe⟩;subst hWe;refine⟨cE2,?_⟩;refine yG ?_;refine tE 13 (.int .i64 0) cE2 (fun w4 c4=>?_) ?_;·go_simp
      refine yG ?_;refine wpAnyE_done (by kernel_rfl) ?_ _;clear cE2 hbo HLC;go_wp2_with fail;go_roundg (G - 1);case measure=>have:=HG.out;have:=HK.out;omega
      case rel=>exact⟨1,rfl,rfl,by have:=HG.out;have:=HK.out;omega,HI4.out⟩
   ·obtain rfl:i=1:=by omega
    clear hi h1 u1 g1 hl1 hlS hp1 hik hl2;go_wp2_with fail;go_loopg [11] n (fun gk (v11:Value) wr=>∃i:Nat,v11=.int .i64 (i:Int)∧i+gk=n∧Hid (StD w S p now (q+1+i) wr));case atStart=>exact⟨0,rfl,by omega,HI.out⟩
    case round=>
     obtain⟨i,rfl,hik,HI⟩:=hrel;obtain⟨S1,now1,h1,u1,g1⟩:=HI.out;have hl1:LgD wr l p 1 0:=Blk.chg H.out.1 u1.chg H.out.2.2.1;have hlS:=u1.notin H.out.2.2.1 (Blk.lt H.out.1);by_cases hi:i<n
     ·have t1:decide ((i:Int)<(n:Int))=true:=decide_eq_true (by omega);have t1':decide (i<n)=true:=decide_eq_true hi;have i2:(i:Int)<(n:Int):=by omega
      have hp1:=H.out.2.2.2.1.upd u1;obtain⟨g,off,cap',k,a,c,b,hv,hPi,k1,k2,y0,y1,hs,hds⟩:=hp1.get (i:=i) (by rw[HN.out];exact hi);rw[HN.out] at hv;simp only[Value.slice.injEq,true_and] at hv;obtain⟨hv1,hv2⟩:=hv;subst hv1;have hg1:g∉S1:=hp1.off g (by show g∈(if P.length=0 then [] else [g]);rw[if_neg (by rw[HN.out];omega)];simp);have hw3:=zH (show wrap64 ((i:Int)+1)=((i+1:Nat):Int) from by unfold wrap64;omega);have e1:wrap64 (1+(i:Int))=((1+i:Nat):Int):=by unfold wrap64;omega
      have e2:IntKind.i64.wrap (1+(i:Int))=((1+i:Nat):Int):=wIqD e1;have HC:Hid (∀w4,Chg S1 wr.drew w4→w4.cell? ⟨l,0,none⟩=some (.pointer (some ⟨p,0,none⟩))∧w4.cell? ⟨g,off+i * 2+1,none⟩=some (.slice a 256 c)∧LgD w4 l p 1 0):=fun w4 c4=>by
       have cc:Chg S1 wr w4:=((Chg.refl _ wr).drew).tr c4;exact⟨(lg4 (Blk.chg hl1 cc hlS)).1,cc.cell_some y1 hg1,Blk.chg hl1 cc hlS⟩
      have hsl:=dslot_ok wr.drew l p 1 0 (hl1.chg0 ((Chg.refl [] wr).drew)) (1+i) (by omega) (by decide);have hwr:=fun (W:World) (cW:Chg [] wr.drew W) (ks:Nat) (hks:ks<22)=>dwrite_ok W S1 p 200 now1 (q+1+i) (h1.chg0 ((Chg.refl [] wr).drew.nil cW)) (by have:=H.out.2.2.2.2;omega) ks (by omega) (by decide) (.slice a 256 c) b (hs.chg0 ((Chg.refl [] wr).drew.nil cW)) hds
      have HG:=zC g1 u1 hik hi;clear y0 y1 hs hds hg1 hl1 hlS hp1 hv2 hPi k1 k2 h1 u1 g1 hik hi HI;go_upto_region 20 with (fail);refine wp_region_E S1 (by kernel_rfl) ?_;have C0:Chg S1 wr.drew wr.drew:=Chg.refl _ _;have D0:=zH (show Chg [] wr wr.drew from (Chg.refl [] wr).drew);generalize wr.drew=W0 at *;refine tE 0 (.pointer (some ⟨l,0,none⟩)) C0 (fun w4 c4=>?_) ?_;·go_simp
      refine yG ?_;refine tE 1 (.pointer (some ⟨l,0,none⟩)) C0 (fun w4 c4=>?_) ?_;·go_simp
      refine yG ?_;refine tE 2 (.pointer (some ⟨l,0,none⟩)) C0 (fun w4 c4=>?_) ?_;·go_simp
      refine yG ?_;refine tE 3 (.pointer (some ⟨p,0,none⟩)) C0 (fun w4 c4=>?_) ?_
      ·obtain⟨z0,z1,-⟩:=HC.out w4 c4;go_simp
      refine yG ?_;refine tE 4 (.pointer (some ⟨l,0,none⟩)) C0 (fun w4 c4=>?_) ?_;·go_simp
      refine yG ?_;refine tE 5 (.int .i64 1) C0 (fun w4 c4=>?_) ?_;·go_simp
      refine yG ?_;refine tE 6 (.int .i64 (i:Int)) C0 (fun w4 c4=>?_) ?_;·go_simp
      refine yG ?_;refine tE 7 (.int .i64 ((1+i:Nat):Int)) C0 (fun w4 c4=>?_) ?_;·go_simp
      refine yG ?_;refine tE 9 (.slice (some ⟨g,off,none⟩) n cap) C0 (fun w4 c4=>?_) ?_;·go_simp
      refine yG ?_;refine tE 10 (.int .i64 (i:Int)) C0 (fun w4 c4=>?_) ?_;·go_simp
      refine yG ?_;refine tE 11 (.pointer (some ⟨g,off+i * 2,none⟩)) C0 (fun w4 c4=>?_) ?_;·go_simp
      refine yG ?_;refine tE 12 (.pointer (some ⟨g,off+i * 2+1,none⟩)) C0 (fun w4 c4=>?_) ?_;·go_simp
      refine yG ?_;refine tE 13 (.slice a 256 c) C0 (fun w4 c4=>?_) ?_
      ·obtain⟨z0,z1,-⟩:=HC.out w4 c4;go_simp
      refine yG ?_;refine oE 8 ?_;go_simp;refine hsl.mono ?_;rintro e Wa ⟨⟨ks,rfl,ks1,ks2⟩,ca⟩;refine⟨ca.toS,?_⟩;refine yG ?_;have hw:=hwr Wa ca ks ks2;have HA:=zA ca ks2;clear ca ks1 ks2 hwr hsl;refine oE 14 ?_;go_simp;refine hw.mono ?_;rintro e W1 ⟨rfl,S2,h2,u2⟩;have cE:Chg S1 W0 W1:=HA.out.1.toS.tr u2.chg;refine⟨cE,?_⟩;refine yG ?_;refine tE 15 (.int .i64 0) cE (fun w4 c4=>?_) ?_;·go_simp
      refine yG ?_;refine wpAnyE_done (by kernel_rfl) ?_ _;have HN2:Hid (StD w S p now (q+1+(i+1)) W1):=⟨S2,_,h2,(HG.out.2.1.nil (D0.out.nil HA.out.1)).trans u2,HG.out.1.set (by have:=HA.out.2;omega) _⟩;clear hw h2 u2 HC C0 cE;go_wp2_with fail;go_roundg (gk - 1);case measure=>have:=HG.out.2.2;omega
      case rel=>exact⟨i+1,by first | rfl | rw[hw3.out],by have:=HG.out.2.2;omega,HN2.out⟩
     ·have t1:decide ((i:Int)<(n:Int))=false:=decide_eq_false (by omega);have t1':decide (i<n)=false:=decide_eq_false hi;obtain rfl:i=n:=by omega
      have z0:=(lg4 hl1).1;have hfl:=dfl wr S1 p now1 (q+1+i) h1 (by have:=H.out.2.2.2.2;omega);have HG:=zC g1 u1 hl1 hlS;clear h1 u1 g1 hik hi HI hl1 hlS;go_wp2_with fail;refine hfl.mono ?_;rintro e W1 ⟨rfl,S2,h2,u2⟩;have hl2:LgD W1 l p 1 0:=Blk.chg HG.out.2.2.1 u2.chg HG.out.2.2.2;have hlS2:=u2.notin HG.out.2.2.2 (Blk.lt HG.out.2.2.1);have HC:Hid (∀w4,Chg S2 W1.drew w4→LgD w4 l p 1 0):=fun w4 c4=>Blk.chg hl2 (((Chg.refl _ W1).drew).tr c4) hlS2
      have hmk:=markD W1.drew 1 0 i (by decide) (by decide) (by omega);have HG2:=zC h2 (HG.out.2.1.trans u2) hl2 hlS2;clear h2 u2 hl2 hlS2 hfl z0;go_upto_region 25 with (fail);refine wp_region_E S2 (by kernel_rfl) ?_;have C0:Chg S2 W1.drew W1.drew:=Chg.refl _ _;have D0:=zH (show Chg [] W1 W1.drew from (Chg.refl [] W1).drew);generalize W1.drew=W0 at *;refine tE 0 (.pointer (some ⟨l,0,none⟩)) C0 (fun w4 c4=>?_) ?_;·go_simp
      refine yG ?_;refine tE 1 (.pointer (some ⟨l,0,none⟩)) C0 (fun w4 c4=>?_) ?_;·go_simp
      refine yG ?_;refine tE 2 (.pointer (some ⟨l,0,none⟩)) C0 (fun w4 c4=>?_) ?_;·go_simp
      refine yG ?_;refine tE 3 (.pointer (some ⟨p,0,none⟩)) C0 (fun w4 c4=>?_) ?_
      ·have z:=(lg4 (HC.out w4 c4)).1;go_simp
      refine yG ?_;refine tE 4 (.pointer (some ⟨l,0,none⟩)) C0 (fun w4 c4=>?_) ?_;·go_simp
      refine yG ?_;refine tE 5 (.pointer (some ⟨l,0,none⟩)) C0 (fun w4 c4=>?_) ?_;·go_simp
      refine yG ?_;refine tE 6 (.pointer (some ⟨l,2,none⟩)) C0 (fun w4 c4=>?_) ?_;·go_simp
      refine yG ?_;refine tE 7 (.int .i64 1) C0 (fun w4 c4=>?_) ?_
      ·have z:=(lg4 (HC.out w4 c4)).2.2.1;go_simp
      refine yG ?_;refine tE 8 (.pointer (some ⟨l,0,none⟩)) C0 (fun w4 c4=>?_) ?_;·go_simp
      refine yG ?_;refine tE 9 (.pointer (some ⟨l,0,none⟩)) C0 (fun w4 c4=>?_) ?_;·go_simp
      refine yG ?_;refine tE 10 (.pointer (some ⟨l,3,none⟩)) C0 (fun w4 c4=>?_) ?_;·go_simp
      refine yG ?_;refine tE 11 (.int .i64 0) C0 (fun w4 c4=>?_) ?_
      ·have z:=(lg4 (HC.out w4 c4)).2.2.2;go_simp
      refine yG ?_;refine tE 12 (.int .i64 (i:Int)) C0 (fun w4 c4=>?_) ?_;·go_simp
      refine yG ?_;refine oE 13 ?_;go_simp;refine hmk.mono ?_;rintro e Wa ⟨am,cm,rfl,hFm⟩;refine⟨hFm.chg.toS,?_⟩;refine yG ?_;have hw:=dwrM W0 Wa S2 p now1 (q+1+i) (HG2.out.1.chg0 (D0.out.nil hFm.chg)) (by have:=H.out.2.2.2.2;omega) 1 (by decide) _ _ hFm (HG2.out.1.lt.chg D0.out);have HFm:=zH hFm.chg;clear hFm hmk;refine oE 14 ?_;go_simp;refine hw.mono ?_;rintro e Wb ⟨rfl,S3,h3,u3⟩;have cE:Chg S2 W0 Wb:=HFm.out.toS.tr u3.chg;refine⟨cE,?_⟩;refine yG ?_;refine tE 15 (.int .i64 0) cE (fun w4 c4=>?_) ?_;·go_simp
      refine yG ?_;refine wpAnyE_done (by kernel_rfl) ?_ _;have uA:Upd S2 S3 W1 Wb:=Upd.trans ⟨(D0.out.nil HFm.out).toS,fun _ h=>.inl h⟩ u3;have hl3:LgD Wb l p 1 0:=Blk.chg HG2.out.2.2.1 uA.chg HG2.out.2.2.2;have hlS3:=uA.notin HG2.out.2.2.2 (Blk.lt HG2.out.2.2.1);have z0:=(lg4 hl3).1;have hfl:=dfl Wb S3 p _ _ h3 (by have:=H.out.2.2.2.2;omega);have HG3:=zB (HG2.out.2.1.trans uA) hl3 hlS3;clear cE hw HC C0 h3 u3 uA hl3 hlS3;go_wp2_with fail;refine hfl.mono ?_;rintro e Wc ⟨rfl,S4,h4,u4⟩;have U4:=HG3.out.1.trans u4;have hl4:LgD Wc l p 1 0:=Blk.chg HG3.out.2.1 u4.chg HG3.out.2.2;have hlS4:=u4.notin HG3.out.2.2 (Blk.lt HG3.out.2.1);have hho:=dhomes_ok Wc S4 l p _ _ _ P hl4 h4 hlS4 (H.out.2.2.2.1.upd U4) (by have:=H.out.2.2.2.2;omega);rw[HN.out] at hho;have HG4:=zH U4;clear hfl h4 u4 U4 hl4 hlS4 z0;go_wp2_with fail;refine hho.mono ?_;rintro e Wd ⟨rfl,S5,sq,ps,now5,a1,a2,a3,a4,a5⟩;have HE:Hid (LogE w S l p now (q+11) (.returned (.int .i64 0)) Wd):=⟨rfl,S5,sq,ps,now5,a1,a2.more (by omega),(HG4.out.cons l).trans a3,a4,fun k hk=>(a5 k hk).trans ((HG.out.1.set (by decide) _) k hk)⟩;clear a1 a2 a3 a4 a5 hho;go_wp2_with fail;go_ret;exact HE.out
end Go.Proofs.YtlbdklaggalgfaaGreatDoor
