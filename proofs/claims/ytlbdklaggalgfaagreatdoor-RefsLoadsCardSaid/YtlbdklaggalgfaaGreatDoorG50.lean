/- EkG FgE Made18 OpenS FsOpen0 FsOpen EkH Laid -/
import Derived.Test.YtlbdklaggalgfaaGreatDoorG49
import Derived.ProofKit
import Derived.OpenShut
import Derived.ShutString
import Derived.Deep.Slices
import Derived.Deep.Fields
import Derived.Test.YtlbdklaggalgfaaGreatDoorCards
import Derived.Lib.LaidTab
import Derived.Lib.LaidU8
import Derived.PinnedBridge
import Derived.ShapedOpen
set_option linter.unusedSimpArgs false
set_option linter.unusedVariables false
set_option maxHeartbeats 8000000
namespace Go.Proofs.YtlbdklaggalgfaaGreatDoor
open Go.RowKit Go.Aq.Fy Go.Maps
open Go.Aq hiding Own
def TwinE (w:World) (cs:List ChangeD) (e:Ending) (w':World):Prop:=
 Chg [] w w'∧((fewB cs=false∧e=.returned (.pointer none))∨(fewB cs=true∧∃f p,e=.returned (.pointer (some ⟨f,0,none⟩))∧EndR w f p 300 (endD cs) w'))
set_option maxRecDepth 100000 in
theorem dtwin_ok (w:World) (v:Value) (cs:List ChangeD) (xs:List Value) (hv:Sees w 4 v cs.length xs) (hx:CellsC w cs xs):
  Calls Tryz.prog 6 #[.int .i64 200,.int .i64 20,.int .i64 4,v] w (TwinE w cs):=by
 have hnew:=dnew_ok w 200 (by decide) (by decide);obtain⟨ao,cap,rfl,-⟩:=hv.shape;obtain⟨n,hn⟩:∃n,cs.length=n:=⟨_,rfl⟩;rw[hn];have HV:=zB hv hx hn;clear hv hx hn;go_enter Tryz.func6,Tryz.ntmps6;go_wp2_with fail;refine hnew.mono ?_;rintro e w1 ⟨p,S,rfl,hD,c1,hS1⟩;have hfm:=dfmtF_ok w1 S p 0 hD (by decide);have H1:=zA c1 hS1;clear hnew hD c1 hS1;go_wp2_with fail;refine hfm.mono ?_;rintro e w2 ⟨rfl,S2,hD2,u2⟩;have hop:=dopenF_ok w2 S2 p (0+7) hD2 (by decide);have c12:Chg [] w w2:=H1.out.1.trans u2.chg (fun k hk=>.inr (H1.out.2 k hk));have hS2:∀k∈S2,w.heap.size≤k:=fun k hk=>by
  rcases u2.new k hk with h | h
  ·exact H1.out.2 k h
  ·have:=H1.out.1.size;omega
 have H2:=zB c12 hS2 hD2.lt;clear hfm hD2 u2 c12 hS2;go_wp2_with fail;refine hop.mono ?_;rintro e w3 ⟨f,l,rfl,hds,hl3,hf3,hlf,c3⟩;have c13:=H2.out.1.nil c3;have hfw:=fewX_ok w3 cs (.slice ao cs.length cap) xs (HV.out.1.chg0 c13) (HV.out.2.1.chg0 c13);rw[HV.out.2.2] at hfw;have hlS:l∉S2:=fun h=>by have:=H2.out.2.2 l h;omega
 have hfS:f∉S2:=fun h=>by have:=H2.out.2.2 f h;omega
 have H3:=zF c13 hds hlS hfS hlf hl3 hf3;clear hop hds hl3 hf3 hlf c3 c13 hlS hfS;go_wp2_with fail;refine hfw.mono ?_;rintro e w4 ⟨rfl,c4⟩;have H4:=zH (H3.out.1.nil c4);have HC4:=zH c4;clear hfw c4;obtain⟨fb,hfb⟩:∃fb,fewB cs=fb:=⟨_,rfl⟩;rw[hfb];have HFB:=zH hfb;clear hfb;cases fb with
 | false=>
  go_wp2_with fail;go_ret;exact⟨H4.out,.inl ⟨HFB.out,rfl⟩⟩
 | true=>
  have hfc:=fewB_few HFB.out;have hpl:=dplain_ok w4 cs (.slice ao cs.length cap) xs (HV.out.1.chg0 H4.out) (HV.out.2.1.chg0 H4.out) (by have:=hfc.1;omega);rw[HV.out.2.2] at hpl;have HFC:=zH hfc;clear hfc;go_wp2_with fail;refine hpl.mono ?_;rintro e w5 ⟨v5,rfl,hF5⟩;obtain⟨a5,c5,rfl,-⟩:=hF5.shape;have hdo:=ddo_ok w5 S2 f p l fmt2 (0+7) (.slice a5 cs.length c5) cs xs (H3.out.2.1.chg0 (HC4.out.nil hF5.chg)) H3.out.2.2.2.1 H3.out.2.2.1 (fun e=>H3.out.2.2.2.2.1 e.symm) (by decide) (by rw[HV.out.2.2];exact hF5.own.sees) (HV.out.2.1.chg0 (H4.out.nil hF5.chg)) HFC.out;rw[HV.out.2.2] at hdo;have H5:=zA (H4.out.nil hF5.chg) (HC4.out.nil hF5.chg);clear hpl hF5;go_wp2_with fail;refine hdo.mono ?_;rintro e w6 ⟨⟨er,rfl⟩,hE⟩;have HE:=zH hE;clear hdo hE;go_wp2_with fail;go_ret;have hsz:=H2.out.1.size;rcases HE.out with ⟨hno,c6⟩ | ⟨hgood,hend,c6⟩
  ·have e0:endD cs=[]:=by unfold endD;exact if_neg hno
   refine⟨H5.out.1.nil c6,.inr ⟨HFB.out,f,p,rfl,?_⟩⟩;rw[e0];have hd:=H3.out.2.1.chg0 (H5.out.2.nil c6);exact⟨S2,l,1,0,.slice none 0 0,[],fmt2,hd.fs,hd.lg,hd.dk.more (by decide),Sees.nil _ _,by decide,rfl,fun j x hx=>by simp at hx⟩
  ·have e0:endD cs=(allV [] cs).1:=by unfold endD;exact if_pos hgood
   refine⟨H5.out.1.trans c6 (fun k hk=>.inr ?_),.inr ⟨HFB.out,f,p,rfl,?_⟩⟩
   ·rcases List.mem_cons.1 hk with rfl | hk
    ·have:=H3.out.2.2.2.2.2.2;omega
    ·rcases List.mem_cons.1 hk with rfl | hk
     ·have:=H3.out.2.2.2.2.2.1;omega
     ·exact H2.out.2.1 k hk
   ·rw[e0];obtain⟨a,b,c,d,e,g,h,h1,h2,h3,h4⟩:=hend;exact⟨a,b,c,d,e,g,h,h1,h2,h3.more (by decide),h4⟩
end Go.Proofs.YtlbdklaggalgfaaGreatDoor
namespace Go.Aq.Fy
open Go.Aq Go.RowKit
theorem F0_tw (n r m:Nat) (k k':Int):Tw (F0 n r m k) (F0 n r m k'):=⟨rfl,rfl,rfl,rfl,rfl⟩
theorem FewC.facts {cs:List ChangeD} (h:FewC cs):(∀c∈cs,c.name.length≤1048576∧c.tonm.length≤1048576∧c.data.length≤1000000)∧cs.length≤1000:=
 ⟨fun c hc=>by obtain⟨h1,h2,h3⟩:=h.2 c hc;omega,by have:=h.1;omega⟩
structure MadeF (q n r m:Nat) (css:List (List ChangeD)) (F:FsD):Prop where
 inv:FInv q F
 falls:F.disk.falls=0
 secs:F.disk.n=n
 ring:F.log.ring=r
 mt:F.mt=m
 twin:Tw F (dosF (F0 n r m 0) css)
 inv0:FInv q (dosF (F0 n r m 0) css)
 falls0:(dosF (F0 n r m 0) css).disk.falls=0
theorem MadeF.start {n r m:Nat} (hb:fmtOk n (r:Int) (m:Int)) (hn:n≤4096) (k:Int):MadeF 1 n r m [] (F0 n r m k):=
 ⟨fmt_inv hb hn k,rfl,rfl,rfl,rfl,F0_tw n r m k 0,fmt_inv hb hn 0,rfl⟩
theorem MadeF.step {q n r m:Nat} {css:List (List ChangeD)} {F:FsD} (h:MadeF q n r m css F) (hq:q<2^47) (c:List ChangeD):MadeF (q+1) n r m (css++[c]) (doF F c).1:=by
 obtain⟨a1,a2,a3,a4,a5,-⟩:=do_law h.inv hq h.falls c;obtain⟨b1,b2,-,-,-,-⟩:=do_law h.inv0 hq h.falls0 c;refine⟨a1,a2,a3.trans h.secs,a5.trans h.ring,a4.trans h.mt,?_,?_,?_⟩ <;> rw[dosF_snoc];·exact (h.twin.doF h.inv h.inv0 h.falls h.falls0 c).1
 ·exact b1
 ·exact b2
theorem MadeF.up {q n r m:Nat} {css:List (List ChangeD)} {F:FsD} (h:MadeF q n r m css F) (hq:q≤40):MadeF 40 n r m css F:=by
 have up:∀{q':Nat} {G:FsD},FInv q' G→q'≤40→FInv 40 G:=fun k hk=>⟨k.geo,k.rest,by have:=k.seq;omega,k.lies,k.un,k.tlen,k.files⟩
 exact⟨up h.inv hq,h.falls,h.secs,h.ring,h.mt,h.twin,up h.inv0 hq,h.falls0⟩
end Go.Aq.Fy
namespace Go.Proofs.YtlbdklaggalgfaaGreatDoor
open Go.RowKit Go.Aq Go.Aq.Fy Go.Maps
def ListsC (w:World) (v:Value) (css:List (List ChangeD)):Prop:=∃ys,Sees w 1 v css.length ys∧∀(i:Nat) (cs:List ChangeD),css[i]?=some cs→∃y xs,ys[i]?=some y∧Sees w 4 y cs.length xs∧CellsC w cs xs
theorem ListsC.chg0 {w w':World} {v:Value} {css:List (List ChangeD)} (h:ListsC w v css) (c:Chg [] w w'):ListsC w' v css:=by
 obtain⟨ys,h1,h2⟩:=h;refine⟨ys,h1.chg0 c,fun i cs hc=>?_⟩;obtain⟨y,xs,e,h3,h4⟩:=h2 i cs hc;exact⟨y,xs,e,h3.chg0 c,h4.chg0 c⟩
theorem FsR.none {w:World} {Sd X:List Nat} {f d l bf:Nat} {F:FsD} (h:FsR w Sd [] f d l bf F) (h0:F.files=[]) (ha:Disj X (f::l::bf::Sd)):FsR w Sd X f d l bf F:=by
 refine⟨h.blk,h.disk,h.log,?_,h.ne,ha,h.small⟩;obtain⟨k,h1,h2⟩:=h.files;rw[h0] at h2 ⊢;refine⟨k,h1,?_⟩;cases k with
 | nil=>exact trivial
 | cons a b=>cases h2
def MadeS (w:World) (n r m:Nat) (cs:List ChangeD) (e:Ending) (w':World):Prop:=
 Chg [] w w'∧∃(f d l bf:Nat) (Sd:List Nat) (F:FsD) (k:Int),e=.returned (.pointer (some ⟨f,0,none⟩))∧F=(doF (F0 n r m k) cs).1∧FsR w' Sd [] f d l bf F∧(∀k∈f::l::bf::Sd,w.heap.size≤k)∧FewC cs
set_option maxRecDepth 100000 in
theorem made18_ok (w:World) (n r m:Nat) (hb:fmtOk n (r:Int) (m:Int)) (hn:4≤n∧n≤300) (v:Value) (xs:List Value) (cs:List ChangeD) (hv:Sees w 4 v cs.length xs) (hx:CellsC w cs xs) (Pf:Bool→Prop)
  (hfew:∀w',Chg [] w w'→Calls Tryz.prog 7 #[v] w' fun e w''=>∃fw:Bool,e=.returned (.bool fw)∧(Pf fw∧(fw=true→FewC cs))∧Chg [] w' w''):
  Calls Tryz.prog 5 #[.int .i64 n,.int .i64 r,.int .i64 m,v] w fun e w'=>(Pf true∧MadeS w n r m cs e w')∨(Pf false∧e=.returned (.pointer none)∧Chg [] w w'):=by
 have hnew:=new_ok w n (by omega) (by omega);obtain⟨ao,cap,rfl,-⟩:=hv.shape;have t1:decide ((400:Int)<(n:Int))=false:=by simp;omega
 have t1':decide (400<n)=false:=by simp;omega
 have HH:=zD hb hn hv hx hfew;obtain⟨cl,hcl⟩:∃cl,cs.length=cl:=⟨_,rfl⟩;rw[hcl];have HCL:=zH hcl;clear hb hn hv hx hfew hcl;go_enter Tryz.func5,Tryz.ntmps5;go_wp2_with fail;refine hnew.mono ?_;rintro e w1 ⟨p,S,rfl,hD,c1,hS1⟩;have hfm:=format_ok w1 S p (newD n) hD ⟨rfl,rfl,rfl,fun _=>zsec_len⟩ rfl r m HH.out.1;clear hnew hD;go_wp2_with fail;refine hfm.mono ?_;rintro e w2 ⟨rfl,S2,k2,hD2,hU2⟩;have hI2:=fmt_inv HH.out.1 (by have:=HH.out.2.1;omega) k2;have hop:=reopen_ok (q:=1) w2 S2 p (F0 n r m k2) hD2 hI2 (by decide);have H2:=zC c1 hS1 hU2 hI2;clear hfm hD2 hI2 hU2 c1 hS1;go_wp2_with fail;refine hop.mono ?_;rintro e w3 ⟨f,l,bf,S3,rfl,hF3,hU3⟩;have c23:Chg [] w w2:=by
  obtain⟨c1,hS1,hU2,-⟩:=H2.out;exact c1.trans hU2.chg (fun t ht=>.inr (hS1 t ht))
 have hnew2:∀k∈S2,w.heap.size≤k:=fun k hk=>by
  obtain⟨c1,hS1,hU2,-⟩:=H2.out;rcases hU2.new k hk with h | h
  ·exact hS1 k h
  ·have:=c1.size;omega
 have c3:Chg [] w w3:=c23.trans hU3.chg (fun t ht=>.inr (hnew2 t ht));have hnew3:∀k∈f::l::bf::S3,w.heap.size≤k:=fun k hk=>by
  rcases hU3.new k hk with h | h
  ·exact hnew2 k h
  ·have:=c23.size;omega
 have hf3:=HH.out.2.2.2.2 w3 c3;rw[HCL.out] at hf3;have H3:=zB hF3 c3 hnew3;clear hop hF3 hU3 c23 hnew2 c3 hnew3;go_wp2_with fail;refine hf3.mono ?_;rintro e w4 ⟨fw,rfl,hfw,c4⟩;clear hf3;cases fw with
 | false=>
  have HC4:=zA hfw.1 (H3.out.2.1.nil c4);clear hfw c4;go_wp2_with fail;go_ret;exact .inr ⟨HC4.out.1,rfl,HC4.out.2⟩
 | true=>
  have hF:=hfw.2 rfl;have HPF:=zH hfw.1;have c34:=H3.out.2.1.nil c4;have hdo:=do_okX (q:=1) w4 S3 [] f p l bf (F0 n r m k2) (H3.out.1.chg0 c4) (by simp) H2.out.2.2.2 (by decide) cs hF.facts.1 hF.facts.2 _ xs (HH.out.2.2.1.chg0 c34) (HH.out.2.2.2.1.chg0 c34);rw[HCL.out] at hdo;have H4:=zA hF c34;clear hfw hF c4 c34;go_wp2_with fail;refine hdo.mono ?_;rintro e w5 ⟨rfl,Sd5,bf5,hF5,hU5⟩;have H5:=zA hF5 hU5;clear hdo hF5 hU5;go_wp2_with fail;go_ret;obtain⟨hF5,hU5⟩:=H5.out;refine .inl ⟨HPF.out,H4.out.2.trans hU5.chg (fun t ht=>.inr (H3.out.2.2 t ht)),f,p,l,bf5,Sd5,_,k2,rfl,rfl,hF5,fun k hk=>?_,H4.out.1⟩;rcases hU5.new k hk with h | h
  ·exact H3.out.2.2 k h
  ·have:=H4.out.2.size;omega
end Go.Proofs.YtlbdklaggalgfaaGreatDoor
namespace Go.Aq
section
open Go.ChangeShapes Go.WideShapes Go.ChangeAt Go.RowKit
open Go.ChangeMaps (open_string shut_string)
theorem flatMap_len {α:Type} (f:α→List Value) (C:Nat) (hf:∀a,(f a).length=C):∀xs:List α,(xs.flatMap f).length=xs.length * C
 | []=>by simp
 | a::xs=>by rw[List.flatMap_cons,List.length_append,hf,flatMap_len f C hf xs,List.length_cons,Nat.add_mul];omega
theorem flatMap_get {α:Type} (f:α→List Value) (C:Nat) (hf:∀a,(f a).length=C) (hC:0<C):∀(xs:List α) (j:Nat),j<xs.length * C→(xs.flatMap f)[j]?=(xs[j / C]?).bind fun a=>(f a)[j % C]?
 | [],j,h=>by simp at h
 | a::xs,j,h=>by
  rw[List.flatMap_cons,List.getElem?_append];split
  ·rename_i hlt;rw[hf] at hlt;rw[Nat.div_eq_of_lt hlt,Nat.mod_eq_of_lt hlt];rfl
  ·rename_i hge;rw[hf] at hge ⊢;have hge':C≤j:=by omega
   have hlt:j - C<xs.length * C:=by simp only[List.length_cons,Nat.add_mul] at h;omega
   rw[flatMap_get f C hf hC xs (j - C) hlt];have e1:j / C=(j - C) / C+1:=by
    conv=>lhs;rw[show j=(j - C)+C by omega]
    rw[Nat.add_div_right _ hC]
   have e2:j % C=(j - C) % C:=by
    conv=>lhs;rw[show j=(j - C)+C by omega]
    rw[Nat.add_mod_right]
   rw[e1,e2];rfl
section
variable {H:Type} {enc:TypeId×Value→H} {P:Program} {W:World} {base:Nat} {t e:TypeId} {v:Value} {d:DataW H} {ps:List MemPlace}
end
end
section
open Go.ChangeShapes Go.WideShapes Go.ChangeAt Go.RowKit
section
variable {H:Type} {enc:TypeId×Value→H} {P:Program} {W:World}
theorem bytes_of_trod {t e:TypeId} {n:Nat} {c:Value} {cs:List Value} {y:DataW H×List MemPlace} (hc1:cs=[c]) (ht:P.underlying t=some (.slice e)) (he:P.underlying e=some (.int .u8)) (hc:P.cellsOf e=1) (h:DataW.trod enc P W 0 (fun _=>true) true n t cs=some y):
  ∃l:List UInt8,Sees W 1 c l.length (Bs l)∧l.length≤9223372036854775807:=by
 subst hc1;rcases open_ints ht he hc h with ⟨hcs,_⟩ | ⟨x,len0,cap0,zs,hcs,_,hl,hm,hz,_,hcell,hwz⟩
 ·simp only[List.cons.injEq,and_true] at hcs;subst hcs;exact⟨[],Sees.nil _ _,Nat.zero_le _⟩
 ·simp only[List.cons.injEq,and_true] at hcs;subst hcs;simp only[if_true] at hz;have hlen:((zs.take len0).map fun z=>UInt8.ofNat z.toNat).length=len0:=by simp;omega
  refine⟨(zs.take len0).map fun z=>UInt8.ofNat z.toNat,?_,by rw[hlen];simp only[maxLen] at hm;omega⟩;rw[hlen];refine⟨by simp[Bs];omega,some x,cap0,rfl,hl,by simp,?_⟩;intro ad had j u hu;cases had;have hj:j<len0:=by
   have:=(List.getElem?_eq_some_iff.1 hu).1;simp[Bs] at this;omega
  rw[hcell j (by omega)];have hjz:j<zs.length:=by omega
  have hb:=bounds_u8 (hwz (zs[j]'hjz) (List.getElem_mem _));simp[Bs,Bc,hj,hjz] at hu;rw[←hu];simp[List.getD,hjz];omega
theorem open_list_r {t e:TypeId} {v:Value} {d:DataW H} {ps:List MemPlace} {α:Type} [Inhabited α] {n0:Nat} (f:α→List Value) (C:Nat) (R:α→Prop) (ht:P.underlying t=some (.slice e)) (hC:P.cellsOf e=C) (hf:∀a,(f a).length=C) (hC0:0<C)
  (hel:∀(n:Nat) (cs:List Value) (y:DataW H×List MemPlace),cs.length=C→DataW.trod enc P W 0 (fun _=>true) true n e cs=some y→∃a,f a=cs∧R a)
  (h:DataW.trod enc P W 0 (fun _=>true) true n0 t [v]=some (d,ps)):
  ∃xs:List α,Sees W C v xs.length (xs.flatMap f)∧xs.length≤9223372036854775807∧∀x∈xs,R x:=by
 rcases Go.Deep.open_slice ht h with ⟨hcs,hx⟩ | ⟨x,len0,cap0,m,n,D,Pl,hcs,_,hl,hm,hmm,hx,hi⟩
 ·simp at hcs;subst hcs;exact⟨[],Sees.nil _ _,Nat.zero_le _,by simp⟩
 ·simp at hcs;subst hcs;simp only[if_true] at hmm;subst hmm;have hch:∀i,i<len0→∃b:α,(∀j,j<C→W.cell? (x.add (i * C+j))=(f b)[j]?)∧R b:=fun i hil=>by
   obtain⟨cs',h1,h2⟩:=hi i (by omega);rw[hC] at h1;obtain⟨_,hlen,hcell⟩:=World.cells?_some h1;obtain⟨b,rfl,hR⟩:=hel n cs' _ hlen h2;exact⟨b,fun j hj=>by rw[←Go.Deep.add_add];exact hcell j hj,hR⟩
  obtain⟨g,hg⟩:=Go.Deep.choose_lt hch;have hlg:((List.range len0).map g).length=len0:=by simp
  refine⟨(List.range len0).map g,⟨?_,some x,m,by rw[hlg],by rw[hlg];simpa using hl,by simp,?_⟩,by simp only[maxLen] at hm;simp;omega,fun y hy=>?_⟩;·exact flatMap_len f C hf _
  ·intro ad had j u hu;cases had;have hlenf:((List.map g (List.range len0)).flatMap f).length=len0 * C:=by rw[flatMap_len f C hf];simp
   have hj:j<len0 * C:=by
    have:=(List.getElem?_eq_some_iff.1 hu).1;omega
   have hq:j / C<len0:=(Nat.div_lt_iff_lt_mul hC0).2 hj;have hjm:j % C<C:=Nat.mod_lt _ hC0;have hgc:=(hg (j / C) hq).1 (j % C) hjm;rw[Nat.mul_comm,Nat.div_add_mod] at hgc;rw[hgc,←hu];have:=flatMap_get f C hf hC0 ((List.range len0).map g) j (by simpa using hj);rw[this];simp[hq]
  ·obtain⟨i,hi',rfl⟩:=List.mem_map.1 hy;exact (hg i (List.mem_range.1 hi')).2
end
end
end Go.Aq
namespace Go.Proofs.YtlbdklaggalgfaaGreatDoor
open Go.RowKit Go.Aq Go.Aq.Fy
open Go.ChangeShapes Go.WideShapes Go.ChangeAt
def chL (x:ChangeD×Value):List Value:=[.int .i64 x.1.kind,.string (str x.1.name),.string (str x.1.tonm),x.2]
instance:Inhabited ChangeD:=⟨⟨0,[],[],[]⟩⟩
section
variable {H:Type} {enc:TypeId×Value→H} {W:World} {base:Nat} {v:Value} {d:DataW H} {ps:List MemPlace}
set_option maxRecDepth 100000 in
theorem change_cells {n:Nat} {cs:List Value} {y:DataW H×List MemPlace} (hlen:cs.length=4) (ht:DataW.trod enc Tryz.prog W 0 (fun _=>true) true n 60 cs=some y):
  ∃x:ChangeD×Value,chL x=cs∧Sees W 1 x.2 x.1.data.length (Bs x.1.data):=by
 obtain⟨xs,n',_,_,_,hxl,hf⟩:=DataW.trod_struct Tryz.underlying60 ht;have k1:Tryz.prog.cellsOf 9=1:=by kernel_rfl
 have k2:Tryz.prog.cellsOf 3=1:=by kernel_rfl
 have k3:Tryz.prog.cellsOf 38=1:=by kernel_rfl
 match cs,hlen with
 | [c0,c1,c2,c3],_=>
  have f0:=hf 0 _ rfl;have f1:=hf 1 _ rfl;have f2:=hf 2 _ rfl;have f3:=hf 3 _ rfl;rw[List.getElem?_eq_getElem (by rw[hxl];decide)] at f0 f1 f2 f3;obtain⟨i0,e0,_,w0⟩:=DataW.trod_int Tryz.underlying3 f0;obtain⟨s1,e1,_,b1⟩:=DataW.trod_string Tryz.underlying9 f1;obtain⟨s2,e2,_,b2⟩:=DataW.trod_string Tryz.underlying9 f2;simp[k1,k2] at e0 e1 e2;obtain⟨lp,hp,bp⟩:=bytes_of_trod (c:=c3) (by simp[k3]) Tryz.underlying38 Tryz.underlying5 (by kernel_rfl) f3;subst e0 e1 e2;exact⟨(⟨i0,s1.data.toList,s2.data.toList,lp⟩,c3),rfl,hp⟩
theorem cells_of:∀xs:List (ChangeD×Value),(∀x∈xs,Sees W 1 x.2 x.1.data.length (Bs x.1.data))→CellsC W (xs.map (·.1)) (xs.flatMap chL)
 | [],_=>.nil
 | x::l,h=>.cons (h x (.head _)) (cells_of l fun y hy=>h y (.tail _ hy))
set_option maxRecDepth 100000 in
theorem changes_c {n:Nat} (h:DataW.trod enc Tryz.prog W 0 (fun _=>true) true n 22 [v]=some (d,ps)):∃(cs:List ChangeD) (xs:List Value),Sees W 4 v cs.length xs∧CellsC W cs xs:=by
 obtain⟨xs,h1,-,h3⟩:=open_list_r chL 4 (fun x=>Sees W 1 x.2 x.1.data.length (Bs x.1.data)) Tryz.underlying22 (by kernel_rfl) (fun _=>rfl) (by decide) (fun n cs y hlen ht=>change_cells hlen ht) h;exact⟨xs.map (·.1),xs.flatMap chL,by rw[List.length_map];exact h1,cells_of xs h3⟩
def SeesC (W:World) (v:Value) (cs:List ChangeD):Prop:=∃xs,Sees W 4 v cs.length xs∧CellsC W cs xs
set_option maxRecDepth 100000 in
theorem open_changes (hv:Value.okWide Tryz.prog W .any base 22 v) (h:DataW.Trod enc Tryz.prog W 0 (fun _=>true) true 22 v d ps):∃cs,SeesC W v cs:=by
 obtain⟨ao,len,cap,rfl⟩:=okWide_slice Tryz.underlying22 hv;obtain⟨fuel,hf⟩:=h;obtain⟨cs,xs,h1,h2⟩:=changes_c hf;exact⟨cs,xs,h1,h2⟩
end
end Go.Proofs.YtlbdklaggalgfaaGreatDoor
namespace Go.Aq.Fy
theorem endD_asc (cs:List ChangeD):Asc (endD cs):=by
 unfold endD;split;·exact (allV_asc cs asc_nil).1
 ·exact asc_nil
theorem endD_len (cs:List ChangeD):∀s d,lookK s (endD cs)=some d→d.length≤65535:=by
 intro s d h;unfold endD at h;split at h
 ·have hI:=fmt_inv fmt0 (by decide) 0;have hw:=WorkOk.start hI.files;obtain⟨s1,s2,s3⟩:=all_step (F:=F0 200 20 4 0) cs hw;have hv0:viewW (bytesB (F0 200 20 4 0)) ⟨(F0 200 20 4 0).files,[]⟩=[]:=rfl;rw[hv0] at s2;have hA:AllF (allW (F0 200 20 4 0) ⟨(F0 200 20 4 0).files,[]⟩ cs).1:=AllF.all cs rfl;rw[hA.view s1.asc2] at s2;rw[←s2] at h;exact (s1.sub s d h).2
 ·cases h
end Go.Aq.Fy
namespace Go.Proofs.YtlbdklaggalgfaaGreatDoor
section
open Go.RowKit Go.Aq.Fy Go.Maps
open Go.Aq hiding Own
theorem EndR.chg0 {w0 w w':World} {f p q:Nat} {V:View} (h:EndR w0 f p q V w) (c:Chg [] w w'):EndR w0 f p q V w':=by
 obtain⟨S,l,sq,ps,v,M,now,h1,h2,h3,h4,h5,h6,h7⟩:=h;refine⟨S,l,sq,ps,v,M,now,h1.chg0 c,h2.chg0 c,h3.chg0 c,h4.chg0 c,h5,h6,fun j x hx=>?_⟩;obtain⟨d,e1,e2,e3,e4,e5,e6,e7⟩:=h7 j x hx;exact⟨d,e1,e2,e3,e4,e5,e6.chg0 c,e7⟩
set_option maxRecDepth 100000 in
theorem loads_any (w:World) (hT:Tabs w) (v:Value) (cs:List ChangeD) (xs:List Value) (hv:Sees w 4 v cs.length xs) (hx:CellsC w cs xs):
  Calls Tryz.prog 3 #[v] w fun e w'=>e=.returned (.bool true)∧Chg [] w w':=by
 obtain⟨ao,cap,rfl,-⟩:=hv.shape;have hf1:=first_any w hT;have HV:=zB hT hv hx;clear hT hv hx;obtain⟨n,hn⟩:∃n,cs.length=n:=⟨_,rfl⟩;rw[hn];have HN:=zH hn;clear hn;go_enter Tryz.func3,Tryz.ntmps3;go_wp2_with fail;refine hf1.mono ?_;rintro e w1 ⟨rfl,c1⟩;have hmd:=made18_ok w1 200 20 4 fmt0 (by decide) (.slice ao cs.length cap) xs cs (HV.out.2.1.chg0 c1) (HV.out.2.2.chg0 c1) (fun b=>fewB cs=b) (fun w' c=>(fewX_ok w' cs (.slice ao cs.length cap) xs (HV.out.2.1.chg0 (c1.nil c)) (HV.out.2.2.chg0 (c1.nil c))).mono fun e w'' h=>⟨fewB cs,h.1,⟨rfl,fewB_few⟩,h.2⟩);rw[HN.out] at hmd;have HC1:=zH c1;clear hf1 c1;go_wp2_with fail;refine hmd.mono ?_;rintro e w2 (⟨hb,c2,f,d,l,bf,Sd,F,k,rfl,hF,hFs,hnew,hfc⟩ | ⟨hb,rfl,c2⟩)
 ·have htw:=dtwin_ok w2 (.slice ao cs.length cap) cs xs (HV.out.2.1.chg0 (HC1.out.nil c2)) (HV.out.2.2.chg0 (HC1.out.nil c2));rw[HN.out] at htw;have HM:=zC hb (HC1.out.nil c2) hF hFs;clear hmd hb c2 hF hFs hnew hfc;go_wp2_with fail;refine htw.mono ?_;rintro e w3 ⟨c3,⟨hb3,-⟩ | ⟨-,f3,p3,rfl,hE3⟩⟩;·exact absurd (HM.out.1.symm.trans hb3) (by decide)
  ·have hfw:=fewX_ok w3 cs (.slice ao cs.length cap) xs (HV.out.2.1.chg0 (HM.out.2.1.nil c3)) (HV.out.2.2.chg0 (HM.out.2.1.nil c3));rw[HN.out,HM.out.1] at hfw;have H3:=zB c3 (HM.out.2.1.nil c3) hE3;clear htw c3 hE3;go_wp2_with fail;refine hfw.mono ?_;rintro e w4 ⟨rfl,c4⟩;have c24:=H3.out.1.nil c4;have hI:=(do_law (fmt_inv fmt0 (by decide) k) (by decide) rfl cs).1;rw[←HM.out.2.2.1] at hI;have hve:viewF F=endD cs:=by rw[HM.out.2.2.1];exact do_end k cs
   have hlb:∀d,lookK [114,101,102,115] (endD cs)=some d→d.length≤200000:=fun d hd=>by have:=endD_len cs _ d hd;omega
   have hpl:=pload_ok w4 (HV.out.1.chg (H3.out.2.1.nil c4)) Sd [] f d l bf F (HM.out.2.2.2.chg0 c24) hI (by rw[hve];exact hlb);rw[hve] at hpl;have hll:(loadL (lookK [114,101,102,115] (endD cs))).1.length≤1000000:=by
    cases ho:lookK [114,101,102,115] (endD cs) with
    | none=>show (0:Nat)≤_;omega
    | some b=>exact dec_lenK b (hlb b ho)
   have hde:=fun (W:World) (c:Chg [] w3 W)=>dload_ok w2 W f3 p3 300 (endD cs) (H3.out.2.2.chg0 c) (by decide) (endD_asc cs) hlb
   unfold LdE at hpl hde;generalize (loadL (lookK [114,101,102,115] (endD cs))).1=rl at *;generalize (loadL (lookK [114,101,102,115] (endD cs))).2=er at *;have HDE:=zC hde hll c4 (H3.out.2.1.nil c4);clear hfw c4 c24 hI hve hlb hll hde;go_wp2_with fail;refine hpl.mono ?_;rintro e w5 ⟨va,rfl,ha,c5⟩;obtain⟨aa,ca,rfl,-⟩:=ha.shape;have hd5:=HDE.out.1 w5 (HDE.out.2.2.1.nil c5);have H5:=zA ha (HDE.out.2.2.2.nil c5);clear hpl ha c5;go_wp2_with fail;refine hd5.mono ?_;rintro e w6 ⟨vb,rfl,hb,c6⟩;obtain⟨ab,cb,rfl,-⟩:=hb.shape;have hf6:=first_any w6 (HV.out.1.chg (H5.out.2.nil c6));have H6:=zB hb c6 (H5.out.2.nil c6);clear hd5 hb c6;go_wp2_with fail;refine hf6.mono ?_;rintro e w7 ⟨rfl,c7⟩;have hpr:=plainR_any w7 (.slice aa rl.length ca) rl ((H5.out.1.chg0 H6.out.2.1).chg0 c7) HDE.out.2.1;have H7:=zH c7;clear hf6 c7;go_wp2_with fail;refine hpr.mono ?_;rintro e w8 ⟨v8,rfl,hF8⟩;obtain⟨a8,c8,rfl,-⟩:=hF8.shape;have hsm:=sameR_any w8 (.slice a8 rl.length c8) (.slice ab rl.length cb) rl rl hF8.own.sees ((H6.out.1.chg0 H7.out).chg0 hF8.chg) HDE.out.2.1 HDE.out.2.1;rw[decide_eq_true (rfl:rl=rl)] at hsm;have H8:=zH hF8.chg;clear hpr hF8;go_wp2_with fail;refine hsm.mono ?_;rintro e w9 ⟨rfl,c9⟩;have H9:=zH (((H6.out.2.2.nil H7.out).nil H8.out).nil c9);clear hsm c9;go_wp2_with fail;go_ret;exact⟨by simp,H9.out⟩
 ·have htw:=dtwin_ok w2 (.slice ao cs.length cap) cs xs (HV.out.2.1.chg0 (HC1.out.nil c2)) (HV.out.2.2.chg0 (HC1.out.nil c2));rw[HN.out] at htw;have HM:=zA hb (HC1.out.nil c2);clear hmd hb c2;go_wp2_with fail;refine htw.mono ?_;rintro e w3 ⟨c3,⟨hb3,rfl⟩ | ⟨hb3,-⟩⟩
  ·have c13:=HM.out.2.nil c3;have hf2:=first_any w3 (HV.out.1.chg c13);have H3:=zH c13;clear htw c3 c13;go_wp2_with fail;refine hf2.mono ?_;rintro e w4 ⟨rfl,c4⟩;have HC4:=zH (H3.out.nil c4);clear hf2 c4;go_wp2_with fail;go_ret;exact⟨rfl,HC4.out⟩
  ·exact absurd (HM.out.1.symm.trans hb3) (by decide)
theorem loads_walk (v:Value) (cs:List ChangeD) {w:World} (s:SeesC w v cs) (hT:Tabs w):
  Calls Tryz.prog 3 #[v] w fun e w'=>e=.returned (.bool true)∧Chg [] w w':=by
 obtain⟨xs,h1,h2⟩:=s;exact loads_any w hT v cs xs h1 h2
end
section
open Go.ChangeShapes Go.WideShapes Go.ChangeAt Go.RowKit Go.Aq Go.Aq.Wd
theorem u8x:U8Extra Tryz.prog Tryz.lays260_ren:=
 ⟨by kernel_rfl,by kernel_rfl,by kernel_rfl,by kernel_rfl,by kernel_rfl,by kernel_rfl,by kernel_rfl⟩
def db64:List Int:=[0,1,56,2,57,49,28,3,61,58,42,50,38,29,17,4,62,47,59,36,45,43,51,22,53,39,33,30,24,18,12,5,63,55,48,27,60,41,37,16,46,35,44,21,52,32,23,11,54,26,40,15,34,20,31,10,25,14,19,9,13,8,7,6]
def laidL:List (String×DataW Unit):=[("math/bits.deBruijn32tab",Rows.laid_math_bits_deBruijn32tab),("math/bits.deBruijn64tab",Rows.laid_math_bits_deBruijn64tab),("internal/strconv.uint64pow10",Rows.laid_internal_strconv_uint64pow10),("unicode/utf8.acceptRanges",Rows.laid_unicode_utf8_acceptRanges),("unicode/utf8.first",Rows.laid_unicode_utf8_first)]
theorem tabs_of {W:World} (h:laidMet Tryz.prog laidL W) (hS:W.ShapedOpen Tryz.prog):Tabs W:=by
 have h1:=Lib.laidMet.reads h (n:= "unicode/utf8.first") (d:=Rows.laid_unicode_utf8_first) (by simp[laidL]);have h2:=Lib.laidMet.reads h (n:= "unicode/utf8.acceptRanges") (d:=Rows.laid_unicode_utf8_acceptRanges) (by simp[laidL]);have h3:=Lib.laidMet.reads h (n:= "math/bits.deBruijn64tab") (d:=Rows.laid_math_bits_deBruijn64tab) (by simp[laidL]);refine⟨?_,?_,?_⟩
 ·refine utf8Tabs_of_reads Tryz.lays260 u8x ?_ ?_;·rw[←Pinned.utf8First_eq];exact h1
  ·have e:Rows.laid_unicode_utf8_acceptRanges=Lib.acceptData:=by kernel_rfl
   rw[←e];exact h2
 ·exact cell_of_shapedOpen_int (zero:=#[.int .i64 0]) (t:=3) hS (of_decide_eq_true (by kernel_rfl)) (by kernel_rfl) rfl (by kernel_rfl) (by kernel_rfl) Tryz.underlying3
 ·have e:(Rows.laid_math_bits_deBruijn64tab:DataW Unit)=Lib.tabData .u8 db64:=by kernel_rfl
  rw[e] at h3;obtain⟨g,t,cs,fuel,p,hg,hty,hvar,hd⟩:=h3;obtain rfl:=Option.some.inj ((show Tryz.prog.globalNamed "math/bits.deBruijn64tab" =some 5 by kernel_rfl).symm.trans hg);obtain rfl:=Option.some.inj ((show (Tryz.prog.globals[5]?).map (·.type)=some 309 by kernel_rfl).symm.trans hty);have hcs:=Lib.cells_of_tab Tryz.underlying309 Tryz.underlying5 (by kernel_rfl) (by kernel_rfl) hd;have:=World.var?_cell hg hvar 15;rw[this,←Array.getElem?_toList,hcs];rfl
def lit1:DataW Unit→Value
 | .lit (.int k z)=>.int k z
 | _=>undef
def flat1:DataW Unit→List Value
 | .agg l=>l.map lit1
 | _=>[]
def flat2:DataW Unit→List Value
 | .agg l=>l.flatMap flat1
 | _=>[]
def setCells (cs:List Value):Obj→Obj
 | .cells _ t fz=>.cells cs.toArray t fz
 | o=>o
noncomputable def laidWorld (os:Os):World:=
 { World.holding Tryz.prog os ⟨#[],#[],[]⟩ with heap:=((((((World.holding Tryz.prog os ⟨#[],#[],[]⟩).heap.modify 4 (setCells (flat1 Rows.laid_math_bits_deBruijn32tab))).modify 5 (setCells (flat1 Rows.laid_math_bits_deBruijn64tab))).modify
   3 (setCells (flat1 Rows.laid_internal_strconv_uint64pow10))).modify 2 (setCells (flat2 Rows.laid_unicode_utf8_acceptRanges))).modify 1 (setCells (flat1 Rows.laid_unicode_utf8_first))) }
end
end Go.Proofs.YtlbdklaggalgfaaGreatDoor
