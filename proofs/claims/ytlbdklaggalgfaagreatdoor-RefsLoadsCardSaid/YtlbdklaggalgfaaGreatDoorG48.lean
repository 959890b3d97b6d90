/- FzP FzQ FzR -/
import Derived.Test.YtlbdklaggalgfaaGreatDoorG47
set_option linter.unusedSimpArgs false
set_option linter.unusedVariables false
set_option maxHeartbeats 8000000
namespace Go.Proofs.YtlbdklaggalgfaaGreatDoor
open Go.RowKit Go.Aq Go.Aq.Fy Go.Maps
theorem nul_get {n j:Nat} (h:j<n):(Bs (nul n))[j]?=some (.int .u8 0):=by simp[Bs,nul,Bc,h]
set_option maxRecDepth 100000 in
theorem trimR_ok (w:World) (ao:Option Addr) (n cap:Nat) (h:Sees w 1 (.slice ao n cap) n (Bs (nul n))) (hn:n≤1000000):
  Calls Tryz.prog 158 #[.slice ao n cap,.int .u8 0] w fun e w'=>e=.returned (.slice ao 0 cap)∧w'=w:=by
 have hS:=zH h;have hcap:n≤cap:=by obtain⟨_,_,e,h2,-⟩:=h.shape;cases e;exact h2
 have HC:=zA hcap hn;clear h hcap hn;go_enter Tryz.func158,Tryz.ntmps158;go_wp2_with fail;go_loopg [0] n (fun k (v0:Value) wr=>v0=.slice ao k cap∧Hid (k≤n)∧wr=w);case atStart=>exact⟨rfl,Nat.le_refl _,rfl⟩
 case round=>
  obtain⟨rfl,HK,rfl⟩:=hrel;by_cases hk:0<gk
  ·have t0:decide ((0:Int)<(gk:Int))=true:=by simp;omega
   have t0':decide (0<gk)=true:=by simp;omega
   obtain⟨gk1,hgk⟩:∃k1,gk=k1+1:=⟨gk - 1,by omega⟩;subst hgk;obtain⟨g,off,cp,e,-,hc⟩:=hS.out.at1 (by have:=HK.out;omega);cases e;have z0:=hc gk1 (by have:=HK.out;omega);rw[nul_get (by have:=HK.out;omega)] at z0;have e1:wrap64 (((gk1+1:Nat):Int) - 1)=(gk1:Int):=by have h1:=HC.out.2;have h2:=HK.out;unfold wrap64;omega
   have e1':wrap64 ((gk1:Int)+1 - 1)=(gk1:Int):=by have h1:=HC.out.2;have h2:=HK.out;unfold wrap64;omega
   have e1c:wrap64 (gk1:Int)=(gk1:Int):=by have h1:=HC.out.2;have h2:=HK.out;unfold wrap64;omega
   have e1cw:=wIq e1c;have e1w:=wIq e1;have e1w':=wIq e1';have s1:(gk1:Int)<((gk1+1:Nat):Int):=by omega
   have s1':(gk1:Int)<(gk1:Int)+1:=by omega
   have s2:(gk1:Int)≤(cap:Int):=by have h1:=HC.out.1;have h2:=HK.out;omega
   have s3:gk1<gk1+1:=by omega
   have s4:¬cap=0:=by have h1:=HC.out.1;have h2:=HK.out;omega
   have HK1:=zH (show gk1≤n by have:=HK.out;omega);clear hc hk;go_wp2_with fail;go_roundg gk1;case measure=>exact Nat.lt_succ_self _
   case rel=>exact⟨by first | rfl | simp[Addr.add],HK1.out,rfl⟩
  ·have h0:gk=0:=by omega
   subst h0;clear hk;go_wp2_with fail;go_ret;exact⟨rfl,rfl⟩
set_option maxRecDepth 100000 in
theorem trimL_ok (w:World) (ao:Option Addr) (cap:Nat):
  Calls Tryz.prog 157 #[.slice ao 0 cap,.int .u8 0] w fun e w'=>e=.returned (.slice none 0 0)∧w'=w:=by
 go_enter Tryz.func157,Tryz.ntmps157;go_wp2_with fail;go_loopg [0] 0 (fun k (v0:Value) wr=>v0=.slice ao 0 cap∧wr=w);case atStart=>exact⟨rfl,rfl⟩
 case round=>
  obtain⟨rfl,rfl⟩:=hrel;go_wp2_with fail;go_ret;exact⟨rfl,rfl⟩
set_option maxRecDepth 100000 in
theorem trim_ok (w:World) (v:Value) (n:Nat) (h:Sees w 1 v n (Bs (nul n))) (hn:n≤1000000):
  Calls Tryz.prog 101 #[v,.string ⟨#[0]⟩] w fun e w'=>e=.returned (.slice none 0 0)∧Chg [] w w':=by
 obtain⟨ao,cap,rfl,-⟩:=h.shape;by_cases h0:n=0
 ·subst h0;clear h hn;go_enter Tryz.func101,Tryz.ntmps101;go_wp2_with fail;go_ret;exact⟨rfl,Chg.refl _ _⟩
 ·have t0:((n:Int)==0)=false:=by simp;omega
  have hr:=fun w' (c:Chg [] w w')=>trimR_ok w' ao n cap (h.chg0 c) hn
  have hl:=fun w'=>trimL_ok w' ao cap
  have hix:∀w,(Instr.index 9 (.string ⟨#[0]⟩) (.int .i64 0)).run Tryz.prog w=.ok (.int .u8 0) w:=fun w=>by kernel_rfl
  clear h hn;go_enter Tryz.func101,Tryz.ntmps101;go_upto_region 6 with (fail);obtain⟨W0,hW0⟩:∃W0,w.drew=W0:=⟨_,rfl⟩;have cd:Chg [] w W0:=by rw[←hW0];exact (Chg.refl _ _).drew
  refine wp_region_U [] (fun _=>false) (by kernel_rfl) ?_;rw[hW0];clear hW0;have C0:Chg [] W0 W0:=Chg.refl _ _;refine tU 0 (.slice ao n cap) C0 (fun w4 c4=>?_) ?_;·go_simp
  refine yG ?_;refine tU 1 (.string ⟨#[0]⟩) C0 (fun w4 c4=>?_) ?_;·go_simp
  refine yG ?_;refine tU 2 (.int .u8 0) C0 (fun w4 c4=>?_) ?_;·go_simp
  refine yG ?_;refine tU 4 (.string ⟨#[0]⟩) C0 (fun w4 c4=>?_) ?_;·go_simp
  refine yG ?_;refine tU 5 (.int .u8 0) C0 (fun w4 c4=>?_) ?_;·go_simp
  refine yG ?_;refine oU 3 ?_;go_simp;refine (hr W0 cd).mono ?_;rintro e w1 ⟨rfl,hw1⟩;obtain rfl:W0=w1:=hw1.symm;refine⟨C0,?_⟩;refine yG ?_;refine oU 6 ?_;go_simp;refine (hl W0).mono ?_;rintro e w1 ⟨rfl,hw1⟩;obtain rfl:W0=w1:=hw1.symm;refine⟨C0,?_⟩;refine yG ?_;refine tU 7 (.slice none 0 0) C0 (fun w4 c4=>?_) ?_;·go_simp
  refine yG ?_;refine wpAnyU_done (by kernel_rfl) ?_ _;clear hr hl C0;go_wp2_with fail;go_ret;exact⟨rfl,cd⟩
end Go.Proofs.YtlbdklaggalgfaaGreatDoor
namespace Go.Aq.Fy
open Go.Aq
theorem insK_last {α:Type} (s:Nm) (x:α):∀{l:List (Nm×α)},(∀p∈l,p.1<s)→insK s x l=l++[(s,x)]
 | [],_=>rfl
 | (k,y)::l,h=>by
  have hk:=h (k,y) (.head _);simp only at hk;unfold insK;rw[if_neg (fun e=>by rw[e] at hk;exact List.lt_irrefl _ hk),if_neg (fun hh=>List.lt_irrefl _ (List.lt_trans hk hh)),insK_last s x fun p hp=>h p (.tail _ hp)];rfl
def lastN (L:Files) (i:Nat):Nm:=if i=0 then [] else ((L[i - 1]?).map (·.1)).getD []
theorem lastN_lt {all:Nat} {L:Files} (h:FilesOk all L) {i:Nat} (hi:i<L.length):lastN L i<(L[i]'hi).1∧∀p∈L.take i,p.1<(L[i]'hi).1:=by
 have hasc:=List.pairwise_iff_getElem.1 h.asc;refine⟨?_,fun p hp=>?_⟩
 ·unfold lastN;split
  ·have h1:=h.name _ (List.getElem_mem hi);have h2:(L[i]'hi).1≠[]:=by
    unfold nameOk at h1;simp only[Bool.and_eq_true,decide_eq_true_eq] at h1;exact h1.1.2
   cases hh:(L[i]'hi).1 with
   | nil=>exact absurd hh h2
   | cons a b=>exact List.nil_lt_cons _ _
  ·rename_i hi0;rw[List.getElem?_eq_getElem (by omega)];exact hasc (i - 1) i (by omega) hi (by omega)
 ·obtain⟨j,hj,rfl⟩:=List.getElem_of_mem hp;simp only[List.length_take] at hj;rw[List.getElem_take];exact hasc j i (by omega) hi (by omega)
theorem lastN_succ {L:Files} {i:Nat} (hi:i<L.length):lastN L (i+1)=(L[i]'hi).1:=by
 unfold lastN;rw[if_neg (by omega),show i+1 - 1=i from rfl,List.getElem?_eq_getElem hi];rfl
theorem blks_take {L:Files} {i:Nat} (hi:i<L.length):blks (L.take (i+1))=blks (L.take i)++(L[i]'hi).2.blocks:=by
 unfold blks;rw[List.take_succ_eq_append_getElem hi,List.flatMap_append];simp
theorem blks_split {all:Nat} {L:Files} (h:FilesOk all L) {i:Nat} (hi:i<L.length):(L[i]'hi).2.blocks.Nodup∧∀k∈(L[i]'hi).2.blocks,k∉blks (L.take i):=by
 have h1:(blks (L.take (i+1))).Nodup:=by
  have h2:=h.nodup;have e:blks L=blks (L.take (i+1))++blks (L.drop (i+1)):=by
   unfold blks;rw[←List.flatMap_append,List.take_append_drop]
  rw[e] at h2;exact (List.nodup_append.1 h2).1
 rw[blks_take hi] at h1;obtain⟨_,h3,h4⟩:=List.nodup_append.1 h1;exact⟨h3,fun k hk hh=>h4 k hh k hk rfl⟩
end Go.Aq.Fy
namespace Go.Proofs.YtlbdklaggalgfaaGreatDoor
open Go.RowKit Go.Aq Go.Aq.Fy Go.Maps
theorem leq_bool (a b:List UInt8):(Op.bytesLess (str a).toList (str b).toList || (str a).toList==(str b).toList)=decide (a≤b):=by
 have h:Op.bytesLess (str a).toList (str b).toList=decide (a<b):=by rw[Proofs.bytesLess_eq,str_toList,str_toList]
 have h2:=str_eq a b;have h3:(decide (a<b) || decide (a=b))=decide (a≤b):=by
  rw[Bool.eq_iff_iff];simp only[Bool.or_eq_true,decide_eq_true_eq];exact List.le_iff_lt_or_eq.symm
 rw[←h3,←h,←h2]
theorem leq_str (a b:List UInt8) (t:TypeId) (w:World):(binOp BinOp.leq t (.string (str a)) (.string (str b))).run Tryz.prog w=.ok (.bool (decide (a≤b))) w:=by rw[←leq_bool];simp[binOp,Op.stringOp]
def ParseEnd (w:World) (S:List Nat) (L:Files) (e:Ending) (w':World):Prop:=
 ∃m,e=.returned (.tuple #[.map (some m),.bool true])∧FilesR w' (m::S) m L∧w.heap.size≤m∧Chg [] w w'
set_option maxRecDepth 100000 in
theorem parse_ok (w:World) (S:List Nat) (hS:In w S) (v:Value) (n z all:Nat) (L:Files) (hL:FilesOk all L) (ha:all≤4096) (hv:Sees w 1 v n (Bs (tableB L++nul z))) (hl:n≤1000000):
  Calls Tryz.prog 42 #[v,.int .i64 all] w (ParseEnd w S L):=by
 obtain⟨ao,cap,rfl,-⟩:=hv.shape;have hn0:(tableB L++nul z).length=n:=by have:=hv.len;rw[Bs_length] at this;omega
 have hey:∀k∈eyes (.slice ao n cap),k<w.heap.size:=hv.lt (by decide);obtain⟨N,hN⟩:∃N,L.length=N:=⟨_,rfl⟩;have hfew:=hL.few;rw[hN] at hfew;have e0:tableB L++nul z=beB N 2++(L.flatMap rowB++nul z):=by unfold tableB;rw[hN,List.append_assoc]
 have HH:=zH (And.intro hS (And.intro hL (And.intro ha (And.intro hv (And.intro hl (And.intro hn0 (And.intro hey (And.intro hN (And.intro hfew e0)))))))));clear hS hL ha hv hl hn0 hey hN e0;go_enter Tryz.func42,Tryz.ntmps42;go_upto_region 2 with (fail);obtain⟨w1,hw1⟩:∃w1,w.alloc (.cells #[.slice ao n cap,.bool false] 180)=w1:=⟨_,rfl⟩;obtain⟨p,hp⟩:∃p,w.heap.size=p:=⟨_,rfl⟩;have hbp:Blk w1 p #[.slice ao n cap,.bool false] 180:=by rw[←hw1,←hp];exact Blk.new _ _ _
 have k1:Chg [] w w1:=by rw[←hw1];exact (Chg.refl [] w).alloc _
 rw[hw1,hp];have hR1:RdR w1 p p (beB N 2++(L.flatMap rowB++nul z)):=by
  refine⟨_,hbp,?_,fun hh=>?_,fun k hk=>?_⟩;·rw[←HH.out.2.2.2.2.2.2.2.2.2,HH.out.2.2.2.2.2.1];exact HH.out.2.2.2.1.chg0 k1
  ·have:=HH.out.2.2.2.2.2.2.1 p hh;omega
  ·have:=HH.out.2.2.2.2.2.2.1 k hk;omega
 have hnb:=number_ok w1 p p N 2 _ (by decide) (by decide) (show N<256^2 by omega) hR1 (by rw[←HH.out.2.2.2.2.2.2.2.2.2,HH.out.2.2.2.2.2.1];exact HH.out.2.2.2.2.1);have hpl:=hbp.lt;have H1:=zB k1 hp hpl;clear hw1 hbp k1 hp hR1 hpl;go_wp2_with fail;refine hnb.mono ?_;rintro e w2 ⟨rfl,hR2,c2⟩;clear hnb;obtain⟨w3,hw3⟩:∃w3,w2.alloc (.map #[] 0)=w3:=⟨_,rfl⟩;obtain⟨ml,hml⟩:∃ml,w2.heap.size=ml:=⟨_,rfl⟩;have rm:(Instr.makeMap 93 none).run Tryz.prog w2=.ok (.map (some ml)) w3:=by rw[←hw3,←hml];kernel_rfl
 have k3:Chg [] w2 w3:=by rw[←hw3];exact (Chg.refl [] w2).alloc _
 have hM3:MapS Tryz.prog 9 w3 ml []:=by rw[←hw3,←hml];exact MapS.made _ _ _
 obtain⟨w4,hw4⟩:∃w4,w3.alloc (.map #[] 0)=w4:=⟨_,rfl⟩;obtain⟨mu,hmu⟩:∃mu,w3.heap.size=mu:=⟨_,rfl⟩;have rm2:(Instr.makeMap 181 none).run Tryz.prog w3=.ok (.map (some mu)) w4:=by rw[←hw4,←hmu];kernel_rfl
 have k4:Chg [] w3 w4:=by rw[←hw4];exact (Chg.refl [] w3).alloc _
 have hU4:UsedR w4 mu []:=by
  have:=MapF.new Tryz.prog 3 w3;rw[hw4,hmu] at this;exact⟨_,this,fun k=>by simp⟩
 have hlm:ml<mu:=by have h1:=hM3.lt;omega
 have hpm:p<ml:=by have h1:=H1.out.2.2;have h2:=c2.size;omega
 have cw4:Chg [] w w4:=(H1.out.1.trans c2 (fun t ht=>.inr (by have:=H1.out.2.1;simp at ht;omega))).nil (k3.nil k4);have H4:=zF (hR2.chg (k3.nil k4) (by simp)) (hM3.chg0 k4) hU4 hlm hpm cw4 H1.out.2.1;have t1:decide ((400:Int)<(N:Int))=false:=by simp;omega
 have t1':decide (400<N)=false:=by simp;omega
 clear hw3 hml k3 hM3 hw4 hmu k4 hU4 hlm hpm cw4 hR2 c2;go_wp2_with fail;go_loopg [10,11,12,23] N (fun k (v10 v11 v12 v23:Value) wr=>∃(i:Nat),v23=.int .i64 i∧v10=.string (str (lastN L i))∧Hid (i+k=N∧FilesR wr (ml::p::mu::S) ml (L.take i)∧RdR wr p p ((L.drop i).flatMap rowB++nul z)∧UsedR wr mu (blks (L.take i))∧Chg [] w wr));case atStart=>
  obtain⟨h1,h2,h3,h4,h5,h6,h7⟩:=H4.out;exact⟨0,rfl,rfl,Nat.zero_add _,⟨[],h2,Two.nil⟩,h1,h3,h6⟩
 case round=>
  obtain⟨i,rfl,rfl,HJ⟩:=hrel;by_cases hi:i<N
  ·have t0:decide ((i:Int)<(N:Int))=true:=by simp;omega
   have t0':decide (i<N)=true:=by simp;omega
   obtain⟨hik,hF,hR,hU,cw⟩:=HJ.out;have hil:i<L.length:=by rw[HH.out.2.2.2.2.2.2.2.1];exact hi
   obtain⟨x,hx⟩:∃x,L[i]'hil=x:=⟨_,rfl⟩;obtain⟨s,x⟩:=x;have hdr:L.drop i=(s,x)::L.drop (i+1):=by rw[List.drop_eq_getElem_cons hil,hx]
   have htk:L.take (i+1)=L.take i++[(s,x)]:=by rw[List.take_succ_eq_append_getElem hil,hx]
   have hmem:(s,x)∈L:=by rw[←hx];exact List.getElem_mem hil
   have hL:=HH.out.2.1;have hbt:=blks_take hil;have hsp:=blks_split hL hil;have hlt:=lastN_lt hL hil;rw[hx] at hbt hsp hlt;simp only at hbt hsp hlt;obtain⟨rr,hrr⟩:∃rr,(L.drop (i+1)).flatMap rowB++nul z=rr:=⟨_,rfl⟩;have hR':RdR wr p p (rowB (s,x)++rr):=by have h:=hR;rw[hdr,List.flatMap_cons,List.append_assoc,hrr] at h;exact h
   have hrl:(rowB (s,x)++rr).length≤1000000:=by
    have h1:=HH.out.2.2.2.2.1;have h2:=HH.out.2.2.2.2.2.1;have h3:=HH.out.2.2.2.2.2.2.2.2.2;have h4:L.flatMap rowB=(L.take i).flatMap rowB++(rowB (s,x)++(L.drop (i+1)).flatMap rowB):=by
     rw[←List.flatMap_cons,←hdr,←List.flatMap_append,List.take_append_drop]
    rw[h3,h4] at h2;rw[←hrr];simp only[List.length_append] at h2 ⊢;omega
   have hxl:=hL.size _ hmem;have hpl:p<wr.heap.size:=by have h1:=H4.out;have h2:=h1.2.1.lt;have h3:=hF.lt;omega
   have hsl:=nameOk_len (hL.name _ hmem);have hfo:=file_ok wr p p mu all (blks (L.take i)) s x rr hR' (by omega) hpl hU (by have:=H4.out;omega) hrl (by have:=H4.out;omega) (Nat.le_refl _) (hL.name _ hmem) hxl.1 hxl.2 (fun k hk=>hL.bound k (by unfold blks;exact List.mem_flatMap.2 ⟨_,hmem,hk⟩)) HH.out.2.2.1 hsp.1 hsp.2;have hle:=fun w=>leq_str s (lastN L i) 9 w
   have hlb:=leq_bool s (lastN L i);rw[show decide (s≤lastN L i)=false by simp;exact hlt.1] at hle hlb;have e2:wrap64 ((i:Int)+1)=((i+1:Nat):Int):=by unfold wrap64;omega
   have e2w:=wIq e2;have hzf:=zeroFile;have HQ:=zH (And.intro (lin5 hik hi) (And.intro hF (And.intro hU (And.intro cw (And.intro htk (And.intro hrr (And.intro hbt (And.intro hlt.2 (And.intro hsl hpl)))))))));have hla:lastN L (i+1)=s:=by rw[lastN_succ hil,hx]
   clear hik hF hR hU cw hil hx hdr htk hmem hL hbt hsp hlt hrr hR' hrl hxl hpl hsl;go_wp2_with fail;refine hfo.mono ?_;rintro e w5 ⟨v,rfl,hS5,hn5,hR5,hU5,c5⟩;clear hfo;obtain⟨av,qv,rfl,-⟩:=hS5.shape;go_upto_region 9 with (fail);obtain⟨w6,hw6⟩:∃w6,w5.alloc (.cells #[.int .i64 x.size,.slice av x.blocks.length qv] 103)=w6:=⟨_,rfl⟩;obtain⟨A0,hA0⟩:∃A0,w5.heap.size=A0:=⟨_,rfl⟩;have hb6:Blk w6 A0 #[.int .i64 x.size,.slice av x.blocks.length qv] 103:=by rw[←hw6,←hA0];exact Blk.new _ _ _
   have k6:Chg [] w5 w6:=by rw[←hw6];exact (Chg.refl [] w5).alloc _
   rw[hw6,hA0];obtain⟨⟨y0,y1⟩,f0,f1⟩:=hb6.c2;obtain⟨hi1,hF,hU,cw,htk,hrr,hbt,hlt,hsl,hpl⟩:=HQ.out;have h4:=H4.out;have hpm:∀t∈[p,mu],t∈ml::p::mu::S:=fun t ht=>by simp at ht ⊢;rcases ht with h | h <;> simp[h]
   have hFl:=hF.lt;have hF6:=(hF.chg c5 (fun t ht=>.inl (hpm t ht)) (by simp;omega)).chg0 k6;have hR6:=hR5.chg k6 (by simp);have hU6:=hU5.chg k6 (by simp);have hV:FileV w6 (ml::p::mu::S) x (.agg #[.int .i64 x.size,.slice av x.blocks.length qv]):=by
    refine⟨_,rfl,hS5.chg0 k6,fun t ht hh=>?_⟩;have h1:=hn5 t ht;have h2:=hU.lt;rcases List.mem_cons.1 hh with e | hh
    ·omega
    ·rcases List.mem_cons.1 hh with e | hh
     ·omega
     ·rcases List.mem_cons.1 hh with e | hh
      ·omega
      ·have h3:=HH.out.1 t hh;have h5:=cw.size;omega
   obtain⟨w7,r7,hF7,c7⟩:=hF6.put s (Nat.le_trans hsl (by decide)) (by simp) (by rw[List.length_take];omega) hV;rw[insK_last s x hlt,←htk] at hF7;obtain⟨vr,hbr,hsr,hpr,hBr⟩:=hR6;obtain⟨⟨-,z1⟩,-⟩:=hbr.c2;have hR7:RdR w7 p p rr:=RdR.chg ⟨vr,hbr,hsr,hpr,hBr⟩ c7 (fun t ht=>by simp at ht;omega);have hU7:=hU6.chg c7 (by simp;omega);rw[←hbt] at hU7;have cw7:Chg [] w w7:=((cw.trans c5 (fun t ht=>.inr (by have:=hpm t ht;have h1:=h4.2.2.2.2.2.2;simp at ht;omega))).nil k6).trans c7 (fun t ht=>.inr (by simp at ht;omega));have H7:=zD hi1 hF7 (by rw[hrr];exact hR7:RdR w7 p p ((L.drop (i+1)).flatMap rowB++nul z)) hU7 cw7;clear hw6 hA0 hb6 k6 hi1 hF hU cw htk hrr hbt hlt hsl hpl h4 hpm hFl hF6 hU6 hV hF7 c7 hbr hsr hpr hBr hR7 hU7 cw7 hS5 hn5 hR5 hU5 c5;go_wp2_with fail;go_roundg (gk - 1);case measure=>exact H7.out.1.2
   case rel=>
    obtain⟨h1,h2,h3,h4,h5⟩:=H7.out;exact⟨i+1,by simp,by rw[hla],h1.1,h2,h3,h4,h5⟩
  ·have t0:decide ((i:Int)<(N:Int))=false:=by simp;omega
   have t0':decide (i<N)=false:=by simp;omega
   obtain⟨hik,hF,hR,hU,cw⟩:=HJ.out;have hLl:=HH.out.2.2.2.2.2.2.2.1;rw[List.drop_eq_nil_of_le (by omega),List.flatMap_nil,List.nil_append] at hR;rw[List.take_of_length_le (by omega)] at hF;obtain⟨vr,hbr,hsr,hpr,hBr⟩:=hR;rw[show (nul z).length=z by simp[nul]] at hsr;have hz:z≤1000000:=by have h1:=HH.out.2.2.2.2.1;have h2:=HH.out.2.2.2.2.2.1;have h3:(nul z).length=z:=(by simp[nul]);rw[List.length_append] at h2;omega
   have htr:=fun w' (c:Chg [] wr w')=>trim_ok w' vr z (hsr.chg0 c) hz
   obtain⟨ar,qr,rfl,-⟩:=hsr.shape;obtain⟨⟨z0,z1⟩,-⟩:=hbr.c2;have HE:=zB hF cw H4.out;clear hik hF hU cw hLl hbr hsr hpr hBr hz hi;go_wp2_with fail;refine (htr wr (Chg.refl _ _)).mono ?_;rintro e w8 ⟨rfl,c8⟩;clear htr;go_wp2_with fail;refine bodyPost_ret (results_tmp2 rfl _ _ _) rfl ?_;obtain⟨hF,cw,h1,h2,h3,h4,h5,h6,h7⟩:=HE.out;refine⟨ml,rfl,(hF.chg0 c8).wide (fun t ht=>.inl (by simp at ht ⊢;rcases ht with h | h <;> simp[h])),by omega,cw.nil c8⟩
end Go.Proofs.YtlbdklaggalgfaaGreatDoor
namespace Go.Aq.Fy
open Go.Aq Go.RowKit
theorem topB_mt {m:Nat} (h:m<65536):beVal (((topB m).drop 2).take 2)=m:=by
 unfold topB;rw[fill_part 2 2 (by simp[beB_length])];have:([65,70]++beB m 2).drop 2=beB m 2:=rfl;rw[this,List.take_of_length_le (by rw[beB_length];omega)];exact beVal_beB (by omega)
def wholeT (F:FsD):Sec:=tableB F.files++nul (F.mt * 256 - (tableB F.files).length)
theorem wholeT_len {q:Nat} {F:FsD} (h:FInv q F):(wholeT F).length=F.mt * 256:=by
 have:=h.tlen;unfold wholeT nul;simp only[List.length_append,List.length_replicate];omega
theorem wholeT_piece {q:Nat} {F:FsD} (h:FInv q F) {i:Nat} (hi:i<F.mt):F.disk.now (homeL F.log+1+i)=((wholeT F).drop (256 * i)).take 256∧(wholeT F).take (256 * (i+1))=(wholeT F).take (256 * i)++F.disk.now (homeL F.log+1+i):=by
 have h1:F.disk.now (homeL F.log+1+i)=((wholeT F).drop (256 * i)).take 256:=by
  rw[h.lies.tab i hi,sectors_get h.tlen hi];rfl
 refine⟨h1,?_⟩;rw[h1,Nat.mul_add,Nat.mul_one,List.take_add]
theorem fo_num {q:Nat} {F:FsD} (h:FInv q F) (hq:q<2^47):F.mt<65536∧1≤F.mt∧F.mt≤200∧homeL F.log≤4096∧homeL F.log<F.disk.n∧(∀i,i<F.mt→homeL F.log+1+i<F.disk.n∧wrap64 (((homeL F.log+1:Nat):Int)+(i:Int))=((homeL F.log+1+i:Nat):Int)∧wrap64 ((i:Int)+1)=((i+1:Nat):Int))∧wrap64 ((homeL F.log:Int)+1)=((homeL F.log+1:Nat):Int)∧1≤allF F∧allF F≤4096∧F.log.ring<65536:=by
 have g:=h.geo;have h1:=g.n;have h2:=g.mt;have h3:=g.first;have h4:F.log.ring+2≤homeL F.log+0:=by unfold homeL;omega
 refine⟨by omega,by omega,by omega,by omega,by omega,fun i hi=>⟨by omega,by unfold wrap64;omega,by unfold wrap64;omega⟩,by unfold wrap64;omega,?_,?_,by omega⟩;·unfold allF firstF;omega
 ·unfold allF;omega
theorem small_of {q:Nat} {F:FsD} (h:FInv q F):F.log.ring+4≤F.disk.n∧0<F.log.ring∧F.mt≤200∧firstF F<F.disk.n∧F.disk.n≤4096:=by
 have g:=h.geo;have h1:=g.n;have h2:=g.mt;have h3:=g.first;have h4:=g.ring;have h5:homeL F.log=2+F.log.ring:=rfl;refine⟨by omega,h4,h2.2,?_,h1⟩;unfold firstF;exact h3
theorem lf6 {i k m:Nat} (h:i+k=m) (hi:i<m) (hm:m≤200):256 * i+256≤100000∧(i+1+(k - 1)=m∧k - 1<k):=by omega
theorem e7_of {n:Nat} (h:n≤4096):wrap64 ((n:Int)+1)=((n+1:Nat):Int):=by unfold wrap64;omega
theorem lf7 {i:Nat} (h:256 * i+256≤100000):(256 * i+256) * 1≤140737488355328∧256 * i+256≤9223372036854775807:=by omega
theorem lf8 {m:Nat} (h:m≤200):256 * m≤1000000:=by omega
theorem lf9 {i k m:Nat} (h:i+k=m) (hi:¬i<m):i=m:=by omega
end Go.Aq.Fy
namespace Go.Proofs.YtlbdklaggalgfaaGreatDoor
open Go.RowKit Go.Aq Go.Aq.Fy Go.Maps
structure FsN (w:World) (Sd:List Nat) (f d l:Nat) (mv:Value) (F:FsD):Prop where
 blk:Blk w f #[.pointer (some ⟨d,0,none⟩),.pointer (some ⟨l,0,none⟩),.int .i64 F.mt,mv] 95
 disk:DiskR w Sd d F.disk
 log:LogR w l d F.log
 small:F.log.ring+4≤F.disk.n∧0<F.log.ring∧F.mt≤200∧firstF F<F.disk.n∧F.disk.n≤4096
theorem FsN.chg0 {w w':World} {Sd:List Nat} {f d l:Nat} {mv:Value} {F:FsD} (h:FsN w Sd f d l mv F) (c:Chg [] w w'):FsN w' Sd f d l mv F:=
 ⟨h.blk.chg0 c,h.disk.chg c,h.log.chg c (by simp),h.small⟩
theorem firstFz (w:World) (Sd:List Nat) (f d l:Nat) (mv:Value) (F:FsD) (h:FsN w Sd f d l mv F):
  Calls Tryz.prog 73 #[.pointer (some ⟨f,0,none⟩)] w fun e w'=>e=.returned (.int .i64 (firstF F))∧∃q,w'=w.drewN q:=by
 obtain⟨⟨-,c1,c2,-⟩,-⟩:=Blk.c4b h.blk;have hs:=h.small;have hom:=fun q=>home_ok (w.drewN q) l d F.log (h.log.chg ((Chg.refl [] w).drewN q) (by simp)) (by omega)
 have hh:homeL F.log≤4096:=by unfold homeL;omega
 have e1:wrap64 ((homeL F.log:Int)+1)=((homeL F.log+1:Nat):Int):=by unfold wrap64;omega
 have e2:wrap64 (((homeL F.log+1:Nat):Int)+(F.mt:Int))=((firstF F:Nat):Int):=by unfold wrap64 firstF;omega
 generalize firstF F=r at *;generalize homeL F.log=q at *;generalize q+1=q1 at *;have e1w:=wIq e1;have e2w:=wIq e2;clear h hs hh;go_enter Tryz.func73,Tryz.ntmps73;go_wp2_with fail;go_quiet ((exact Calls.quiet_of_same (hom _)));go_wp2_with fail;go_ret;exact⟨ret_int (by first | assumption | rfl),nq,rfl⟩
theorem all_any (w:World) (Sd:List Nat) (f d l:Nat) (mv:Value) (F:FsD) (h:FsN w Sd f d l mv F):
  Calls Tryz.prog 41 #[.pointer (some ⟨f,0,none⟩)] w fun e w'=>e=.returned (.int .i64 (allF F))∧∃q,w'=w.drewN q:=by
 obtain⟨⟨c0,-,-,-⟩,-⟩:=Blk.c4b h.blk;have hs:=h.small;have hsec:=sectors_ok w Sd d F.disk h.disk;have hfi:=firstFz w Sd f d l mv F h;have e1:wrap64 ((F.disk.n:Int) - (firstF F:Int))=((allF F:Nat):Int):=by unfold wrap64 allF;omega
 generalize firstF F=r at *;generalize allF F=q at *;generalize F.disk.n=n at *;have e1w:=wIq e1;clear h hs;go_enter Tryz.func41,Tryz.ntmps41;go_wp2_with fail;refine hsec.mono ?_;rintro e w1 ⟨rfl,rfl⟩;go_wp2_with fail;refine hfi.mono ?_;rintro e w1 ⟨rfl,nq,rfl⟩;go_wp2_with fail;go_ret;exact⟨ret_int (by first | assumption | rfl),nq,rfl⟩
def FOpenEnd (w:World) (S:List Nat) (p:Nat) (R:DiskD×Nat) (F:FsD) (e:Ending) (w':World):Prop:=
 (R.2=0∧∃f l bf S',e=.returned (.tuple #[.pointer (some ⟨f,0,none⟩),.int .i64 0])∧FsR w' S' [] f p l bf F∧Upd S (f::l::bf::S') w w')∨
 (R.2≠0∧e=.returned (.tuple #[.pointer none,.int .i64 R.2])∧∃S',DiskR w' S' p R.1∧Upd S S' w w')
set_option maxRecDepth 100000 in
theorem fopen_ok (w:World) (S:List Nat) (p:Nat) (D:DiskD) (L:LogD) (F:FsD) (q:Nat) (hD:DiskR w S p D) (hup:D.down=false) (hpd:D.pend=[]) (hof:headOf (D.now 0)=L) (hb:D.now 0=headB L.ring L.seq L.pos)
  (hr:1≤L.ring∧L.ring+4≤D.n∧L.pos<L.ring∧L.seq<281474976710655) (hlen:∀k,(D.now k).length=256) (hh:∀i,i<markedN D L→atHome D L (readAt D L i)=true)
  (hF:(runP D (redoP D L)).2=0→F.disk=(runP D (redoP D L)).1∧F.log=(if markedN D L=0 then L else nextL L (markedN D L))∧FInv q F) (hq:q<2^47):
  Calls Tryz.prog 15 #[.pointer (some ⟨p,0,none⟩)] w (FOpenEnd w S p (runP D (redoP D L)) F):=by
 have hop:=openL_ok w S p D L hD hup (by rw[hpd];simp) hof hb hr.1 hr.2.1 hr.2.2.1 hr.2.2.2 (fun k _=>hlen k) hh;obtain⟨RR,hRR⟩:∃RR,runP D (redoP D L)=RR:=⟨_,rfl⟩;obtain⟨LN,hLN⟩:∃LN,(if markedN D L=0 then L else nextL L (markedN D L))=LN:=⟨_,rfl⟩;rw[hRR,hLN] at hop hF;rw[hRR];have HF:=zH hF;clear hD hup hpd hof hb hr hlen hh hF hRR hLN;go_enter Tryz.func15,Tryz.ntmps15;go_wp2_with fail;refine hop.mono ?_;rintro e w1 (⟨h0,l,d,S1,rfl,hD1,hL1,hl1,hU1⟩ | ⟨hc,rfl,S1,hD1,hU1⟩)
 ·clear hop;obtain⟨e1,e2,hI⟩:=HF.out h0;rw[←e1] at hD1;rw[←e2] at hL1;obtain⟨n1,n2,n3,n4,n5,n6,n7,n8,n9,n10⟩:=fo_num hI hq;have hup:=hI.rest.up;have hrl:=hI.rest.len;have hho:=home_ok w1 l p F.log hL1 n10;have hrd:=read_ok w1 S1 p F.disk (homeL F.log) hD1 hup n5;rw[hI.lies.top] at hrd;have htop:=fun w'=>top_any w' F.mt n1
  have hreads:=fun w' (c:Chg [] w1 w') i (hi:i<F.mt)=>read_ok w' S1 p F.disk (homeL F.log+1+i) (hD1.chg c) hup (n6 i hi).1
  have hhome:=fun w' (c:Chg [] w1 w')=>home_ok w' l p F.log (hL1.chg c (by simp)) n10
  obtain⟨hm,hhm⟩:∃hm,homeL F.log=hm:=⟨_,rfl⟩;obtain⟨mt,hmt⟩:∃mt,F.mt=mt:=⟨_,rfl⟩;have tm:=topB_mt n1;have HH:=zH (And.intro h0 (And.intro hI (And.intro n6 (And.intro n7 (And.intro n8 (And.intro n9 (And.intro hD1 (And.intro hL1 (And.intro hl1 hU1)))))))));rw[hhm] at hho hrd hreads hhome;rw[hmt] at htop hrd tm hreads;rw[hhm] at n4;rw[hmt] at n1 n2 n3;have E7:=zH (e7_of n4);clear h0 e1 e2 hI hup hrl n5 n6 n7 n8 n9 n10 hD1 hL1 hl1 hU1;go_wp2_with fail;refine hho.mono ?_;rintro e w2 ⟨rfl,hw2⟩;obtain rfl:w1=w2:=hw2.symm;clear hho;go_wp2_with fail;refine hrd.mono ?_;rintro e w2 ⟨v2,rfl,hF2⟩;obtain⟨a2,k2,rfl,-⟩:=hF2.shape;have r1:=readBig_ok w2 (.slice a2 256 k2) 256 2 2 (topB mt) hF2.own.sees (by decide) (by decide) (by decide) (by decide);rw[tm] at r1;have H2:=zH hF2;clear hrd hF2 tm;go_wp2_with fail;refine r1.mono ?_;rintro e w3 ⟨rfl,hw3⟩;obtain rfl:w2=w3:=hw3;clear r1;go_upto_region 9 with (fail);obtain⟨w3,hw3⟩:∃w3,w2.alloc (.cells #[.pointer (some ⟨p,0,none⟩),.pointer (some ⟨l,0,none⟩),.int .i64 mt,.map none] 95)=w3:=⟨_,rfl⟩;obtain⟨f,hf⟩:∃f,w2.heap.size=f:=⟨_,rfl⟩;have hb3:Blk w3 f #[.pointer (some ⟨p,0,none⟩),.pointer (some ⟨l,0,none⟩),.int .i64 mt,.map none] 95:=by rw[←hw3,←hf];exact Blk.new _ _ _
  have k3:Chg [] w2 w3:=by rw[←hw3];exact (Chg.refl [] w2).alloc _
  rw[hw3,hf];have c13:Chg [] w1 w3:=H2.out.chg.nil k3;have hN3:FsN w3 S1 f p l (.map none) F:=by
   obtain⟨h0,hI,n6,n7,n8,n9,hD1,hL1,hl1,hU1⟩:=HH.out;exact⟨by rw[hmt];exact hb3,hD1.chg c13,hL1.chg c13 (by simp),small_of hI⟩
  have hal:=fun w' (c:Chg [] w3 w')=>all_any w' S1 f p l (.map none) F (hN3.chg0 c)
  have ht4:=htop w3;have h1f:w1.heap.size≤f:=by rw[←hf];exact H2.out.chg.size
  have hs3:=H2.out.own.sees.chg0 k3;have H3:=zC hN3 c13 h1f (show f<w3.heap.size from hb3.lt);have tal:decide ((allF F:Int)<1)=false:=by have:=HH.out.2.2.2.2.1;simp;omega
  have tal':decide (allF F<1)=false:=by have:=HH.out.2.2.2.2.1;simp;omega
  have tm1:decide ((mt:Int)<1)=false:=by simp;omega
  have tm1':decide (mt<1)=false:=by simp;omega
  have tm2:decide ((200:Int)<(mt:Int))=false:=by simp;omega
  have tm2':decide (200<mt)=false:=by simp;omega
  obtain⟨al,hale⟩:∃al,allF F=al:=⟨_,rfl⟩;rw[hale] at tal tal' hal;clear hw3 hf hb3 k3 hN3 htop c13 h1f;go_wp2_with fail;refine ht4.mono ?_;rintro e w4 ⟨v4,rfl,hF4⟩;obtain⟨a4,k4,rfl,-⟩:=hF4.shape;have heq:=equal_any w4 (.slice a2 256 k2) (.slice a4 256 k4) 256 256 (topB mt) (topB mt) (hs3.chg0 hF4.chg) hF4.sees;rw[decide_eq_true rfl] at heq;have ha4:=hal w4 hF4.chg;have H4:=zH hF4.chg;clear ht4 hF4 hs3;go_wp2_with fail;refine heq.mono ?_;rintro e w5 ⟨rfl,hw5⟩;obtain rfl:w5=w4:=hw5;clear heq;go_wp2_with fail;refine ha4.mono ?_;rintro e w6 ⟨rfl,nq,hw6⟩;have c46:Chg [] w5 w6:=by rw[hw6];exact (Chg.refl [] w5).drewN nq
  have H6:=zH (H4.out.nil c46);clear ha4 hw6 c46;go_wp2_with fail;go_loopg [11,12,13,14,65] mt (fun k (v11 v12 v13 v14 v65:Value) wr=>∃(i:Nat),v65=.int .i64 i∧Hid (i+k=mt∧Fresh w6 wr 5 1 v11 (256 * i) (Bs ((wholeT F).take (256 * i)))));case atStart=>
   exact⟨0,rfl,Nat.zero_add _,Fresh.nil _ _ _⟩
  case round=>
   obtain⟨i,rfl,HJ⟩:=hrel;have hF11:=HJ.out.2;obtain⟨a11,k11,rfl,-⟩:=hF11.shape;by_cases hi:i<mt
   ·have t0:decide ((i:Int)<(mt:Int))=true:=by simp;omega
    have t0':decide (i<mt)=true:=by simp;omega
    have cr:Chg [] w1 wr:=(H3.out.2.1.nil H6.out).nil hF11.chg;have hri:=hreads wr cr i hi;have hhr:=hhome wr cr;obtain⟨m1,m2,m3⟩:=HH.out.2.2.1 i (by rw[hmt];exact hi);obtain⟨hp1,hp2⟩:=wholeT_piece HH.out.2.1 (i:=i) (by rw[hmt];exact hi);rw[hhm] at m2 hp1 hp2;have m2':wrap64 ((hm:Int)+1+(i:Int))=((hm+1+i:Nat):Int):=m2;have e7:=E7.out;have e7w:=wIq e7;have m2w:=wIq m2';have m3w:=wIq m3;have hlf:=lf6 HJ.out.1 hi n3;have hlf1:=hlf.1;have HQ:=zA hlf.2 hp2;clear hi cr m1 hp1 hp2 hlf;go_wp2_with fail;refine hhr.mono ?_;rintro e w7 ⟨rfl,hw7⟩;obtain rfl:w7=wr:=hw7;clear hhr;go_wp2_with fail;refine hri.mono ?_;rintro e w8 ⟨v8,rfl,hF8⟩;obtain⟨a8,k8,rfl,-⟩:=hF8.shape;clear hri;have hFa:=hF11.to hF8.chg;go_wp2_with (first
     | (at_builtin;refine wpList_appF rfl _ _ 38 rfl sl_u8y hFa rfl hF8.own.sees rfl (Bs_one _) (lf7 hlf1).1 (lf7 hlf1).2 ?_;intro v9 w9 hF9 c9)
     | fail)
    have H9:=zH hF9;clear hFa hF8 hF11 c9 hF9 m2 m2' m2w m3 m3w e7 e7w;go_roundg (gk - 1);case measure=>exact HQ.out.1.2
    case rel=>
     have h9:=H9.out;have e9:Bs ((wholeT F).take (256 * i))++Bs (F.disk.now (hm+1+i))=Bs ((wholeT F).take (256 * (i+1))):=by rw[HQ.out.2];exact (List.map_append).symm
     rw[e9] at h9;exact⟨i+1,by simp,HQ.out.1.1,h9⟩
   ·have t0:decide ((i:Int)<(mt:Int))=false:=by simp;omega
    have t0':decide (i<mt)=false:=by simp;omega
    have him:i=mt:=lf9 HJ.out.1 hi;have cr:Chg [] w3 wr:=H6.out.nil hF11.chg;have har:=hal wr cr;have H11:=zB him hF11 cr;clear him cr hF11 hi;go_wp2_with fail;refine har.mono ?_;rintro e w7 ⟨rfl,nq7,hw7⟩;have c7:Chg [] wr w7:=by rw[hw7];exact (Chg.refl [] wr).drewN nq7
    obtain⟨him,hF11,cr⟩:=H11.out;have hI:=HH.out.2.1;have hwl:=wholeT_len hI;have hS7:Sees w7 1 (.slice a11 (256 * i) k11) (256 * i) (Bs (tableB F.files++nul (F.mt * 256 - (tableB F.files).length))):=by
     have h1:=hF11.own.sees.chg0 c7;rw[List.take_of_length_le (by rw[hwl,hmt,him];omega)] at h1;exact h1
    have hin:In w7 (f::l::S1):=by
     have hN7:=H3.out.1.chg0 (cr.nil c7);intro k hk;simp only[List.mem_cons] at hk;rcases hk with rfl | rfl | hk
     ·exact hN7.blk.lt
     ·exact Blk.lt hN7.log
     ·exact hN7.disk.lt k hk
    have hpa:=parse_ok w7 (f::l::S1) hin _ (256 * i) _ al F.files (by rw[←hale];exact hI.files) (by rw[←hale];exact HH.out.2.2.2.2.2.1) hS7 (by rw[him];exact lf8 n3);have H7:=zA (cr.nil c7) (show w3.heap.size≤w7.heap.size from (cr.nil c7).size);clear har hw7 c7 him hF11 cr hI hwl hS7 hin;go_wp2_with fail;refine hpa.mono ?_;rintro e w8 ⟨m,rfl,hM8,hm8,c8⟩;clear hpa;have hN8:=H3.out.1.chg0 (H7.out.1.nil c8);obtain⟨⟨x0,x1,x2,x3⟩,g0,g1,g2,g3⟩:=Blk.c4b hN8.blk;have H8:=zC hM8 hm8 c8 hN8;clear hM8 hm8 c8 hN8;go_wp2_with fail;refine bodyPost_ret (results_tmp2 rfl _ _ _) rfl ?_;obtain⟨hM8,hm8,c8,hN8⟩:=H8.out;obtain⟨h0,hI,-,-,-,-,hD1,hL1,hl1,hU1⟩:=HH.out;obtain⟨hN3,c13,h1f,hf3⟩:=H3.out;have hl1':=Blk.lt hL1;have hsz7:=H7.out.2;have cS:Chg [f] w8 (w8.setCell ⟨f,3,none⟩ (.map (some m))):=(Chg.refl _ _).setCell (by simp) _;have hb9:=hN8.blk.set 3 (.map (some m));simp only[List.setIfInBounds_toArray,List.set_cons_zero,List.set_cons_succ] at hb9;have hfS:f∉S1:=fun hh=>by have:=hD1.lt f hh;omega
    have hfl:f≠l:=by omega
    have hfm:f≠m:=by omega
    have hlm:l≠m:=by omega
    have hmS:m∉S1:=fun hh=>by have h1:=hD1.lt m hh;have:=c13.size;omega
    have c18:Chg [] w1 w8:=(c13.nil H7.out.1).nil c8;refine .inl ⟨h0,f,l,m,S1,rfl,⟨hb9,hN8.disk.off1 hN8.blk (fun i x=>by rcases i with _ | _ | _ | _ | i <;> simp) cS hfS,hN8.log.chg cS (by simp;exact fun e=>hfl e.symm),?_,⟨hfl,hfm,hlm,hfS,hl1,hmS⟩,fun _ h=>by simp at h,hN8.small⟩,⟨?_,fun k hk=>?_⟩⟩;·exact (hM8.chg cS (fun k hk=>.inl (by simp at hk;simp[hk])) (by simp;exact fun e=>hfm e.symm)).wide (fun k hk=>.inl (by simp at hk ⊢;rcases hk with h | h | h | h <;> simp[h]))
    ·exact (hU1.chg.nil c18).trans cS (fun t ht=>.inr (by simp at ht;have:=hU1.chg.size;omega))
    ·have hwz:=hU1.chg.size;simp only[List.mem_cons] at hk;rcases hk with rfl | rfl | rfl | hk
     ·exact .inr (by omega)
     ·exact hU1.new _ (by simp)
     ·exact .inr (by have:=c13.size;omega)
     ·exact hU1.new _ (by simp[hk])
 ·have t1:((RR.2:Int)==0)=false:=by simp;omega
  have t1':(RR.2==0)=false:=by simp;omega
  have H1:=zB hc hD1 hU1;clear hc hD1 hU1 hop;go_wp2_with fail;refine bodyPost_ret (results_tmp2 rfl _ _ _) rfl ?_;exact .inr ⟨H1.out.1,rfl,S1,H1.out.2.1,H1.out.2.2⟩
end Go.Proofs.YtlbdklaggalgfaaGreatDoor
