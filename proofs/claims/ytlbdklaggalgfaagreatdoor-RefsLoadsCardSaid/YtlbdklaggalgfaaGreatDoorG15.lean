/- FyR FyS Fp1 -/
import Derived.Test.YtlbdklaggalgfaaGreatDoorG14
set_option linter.unusedSimpArgs false
set_option linter.unusedVariables false
set_option maxHeartbeats 2000000
namespace Go.Proofs.YtlbdklaggalgfaaGreatDoor
open Go.RowKit Go.Aq Go.Aq.Fy Go.Maps
theorem idxSF (w:World) (s:List UInt8) (j:Nat) (h:j<s.length):(Instr.index 9 (.string (str s)) (.int .i64 (j:Int))).run Tryz.prog w=.ok (.int .u8 ((s[j]'h).toNat:Int)) w:=by
 have hsz:=str_size s;rw[run_index_string w 9 (str s) .i64 j Tryz.underlying9,dif_pos ⟨by omega,by omega⟩];have e:(str s)[(j:Int).toNat]'(by omega)=s[j]'h:=by simp[str,ByteArray.getElem_eq_getElem_data]
 rw[e]
def chOk (c:UInt8):Bool:=decide (33≤c.toNat)&&decide (c.toNat≤126)
theorem nameOk_bad {l:Nm} {i:Nat} (h:i<l.length) (hc:chOk (l[i]'h)=false):nameOk l=false:=by
 have:(l.all fun c=>decide (33≤c.toNat)&&decide (c.toNat≤126))=false:=by
  rw[List.all_eq_false];exact⟨_,List.getElem_mem h,by unfold chOk at hc;rw[hc];simp⟩
 unfold nameOk;rw[this];rfl
theorem nameOk_good {l:Nm} (h:∀j (hj:j<l.length),chOk (l[j]'hj)=true):nameOk l=(decide (l≠[])&&decide (l.length≤80)):=by
 have:(l.all fun c=>decide (33≤c.toNat)&&decide (c.toNat≤126))=true:=by
  rw[List.all_eq_true];intro c hc;obtain⟨j,hj,rfl⟩:=List.getElem_of_mem hc;exact h j hj
 unfold nameOk;rw[this];rfl
set_option maxRecDepth 100000 in
theorem name_ok (w:World) (l:Nm) (hl:l.length≤1000000000):
  Calls Tryz.prog 103 #[.string (str l)] w fun e w'=>e=.returned (.bool (nameOk l))∧Chg [] w w':=by
 have hsz:=str_size l;go_enter Tryz.func103,Tryz.ntmps103;go_wp2_with fail;go_loopg [6] l.length (fun k vn wr=>∃i:Nat,vn=.int .i64 i∧i+k=l.length∧(∀j (hj:j<l.length),j<i→chOk (l[j]'hj)=true)∧Chg [] w wr);case atStart=>exact⟨0,rfl,by omega,fun j _ h=>absurd h (Nat.not_lt_zero _),Chg.refl _ _⟩
 case round=>
  obtain⟨i,rfl,hk,hall,hc⟩:=hrel;by_cases hi:i<l.length
  ·have hx:=idxSF wr l i hi;have t0:decide ((i:Int)<(l.length:Int))=true:=by simp;omega
   have HH:=zB hk hall hc;obtain⟨c,hcc⟩:∃c,l[i]'hi=c:=⟨_,rfl⟩;rw[hcc] at hx;have HC:=zH hcc;have HI:=zH hi;clear hk hall hc hcc;by_cases h1:c.toNat<33
   ·have t1:decide ((c.toNat:Int)<33)=true:=by simp;omega
    have e1:=zH (nameOk_bad HI.out (by rw[HC.out];unfold chOk;rw[decide_eq_false (by omega)];rfl));clear h1;go_wp2_with fail;go_ret;exact⟨by rw[e1.out];rfl,HH.out.2.2⟩
   ·have t1:decide ((c.toNat:Int)<33)=false:=by simp;omega
    by_cases h2:126<c.toNat
    ·have t2:decide ((126:Int)<(c.toNat:Int))=true:=by simp;omega
     have e1:=zH (nameOk_bad HI.out (by rw[HC.out];unfold chOk;rw[show decide (c.toNat≤126)=false from decide_eq_false (by omega)];simp));clear h1 h2;go_wp2_with fail;go_ret;exact⟨by rw[e1.out];rfl,HH.out.2.2⟩
    ·have t2:decide ((126:Int)<(c.toNat:Int))=false:=by simp;omega
     have e1:=zH (show chOk (l[i]'HI.out)=true by rw[HC.out];unfold chOk;simp;omega);clear h1 h2;have e2:IntKind.i64.wrap ((i:Int)+1)=((i+1:Nat):Int):=wIq (by unfold wrap64;have:=HI.out;omega);have e2':wrap64 ((i:Int)+1)=((i+1:Nat):Int):=by unfold wrap64;have:=HI.out;omega
     go_wp2_with fail;go_roundg (gk - 1);case measure=>have:=HH.out.1;omega
     case rel=>
      refine⟨i+1,by simp,by have:=HH.out.1;omega,fun j hj hji=>?_,HH.out.2.2⟩;by_cases h3:j<i;·exact HH.out.2.1 j hj h3
      ·have h4:j=i:=by omega
       subst h4;exact e1.out
  ·have t0:decide ((i:Int)<(l.length:Int))=false:=by simp;omega
   have e1:=zH (nameOk_good fun j hj=>hall j hj (by omega));have HC:=zH hc;clear hall hc;by_cases hn:l=[]
   ·have z:(str l).toList=[]:=by rw[str_toList];exact hn
    have z2:nameOk l=false:=by rw[hn];rfl
    have Z2:=zH z2;clear z2 e1 hn;go_wp2_with fail;go_ret;exact⟨by rw[Z2.out];rfl,HC.out⟩
   ·have z:¬(str l).toList=[]:=by rw[str_toList];exact hn
    have HN:=zH hn;clear hn;go_wp2_with fail;go_ret;refine⟨?_,HC.out⟩;rw[e1.out];show Ending.returned (.bool (!(str l).toList.isEmpty&&decide ((l.length:Int)≤80)))=_;rw[str_toList];congr 2;rw[show l.isEmpty=false by cases l;(exact absurd rfl HN.out);rfl,decide_eq_true HN.out];simp only[Bool.not_false,Bool.true_and,decide_eq_decide];omega
structure FsR (w:World) (Sd X:List Nat) (f d l bf:Nat) (F:FsD):Prop where
 blk:Blk w f #[.pointer (some ⟨d,0,none⟩),.pointer (some ⟨l,0,none⟩),.int .i64 F.mt,.map (some bf)] 95
 disk:DiskR w Sd d F.disk
 log:LogR w l d F.log
 files:FilesR w (X++f::l::bf::Sd) bf F.files
 ne:f≠l∧f≠bf∧l≠bf∧f∉Sd∧l∉Sd∧bf∉Sd
 away:Disj X (f::l::bf::Sd)
 small:F.log.ring+4≤F.disk.n∧0<F.log.ring∧F.mt≤200∧firstF F<F.disk.n∧F.disk.n≤4096
section
variable {w w':World} {Sd X:List Nat} {f d l bf:Nat} {F:FsD}
theorem FsR.lt (h:FsR w Sd X f d l bf F):In w (f::l::bf::Sd):=by
 intro k hk;simp only[List.mem_cons] at hk;rcases hk with rfl | rfl | rfl | hk
 ·exact h.blk.lt
 ·exact Blk.lt h.log
 ·exact h.files.lt
 ·exact h.disk.lt k hk
theorem FsR.chg0 (h:FsR w Sd X f d l bf F) (c:Chg [] w w'):FsR w' Sd X f d l bf F:=
 ⟨h.blk.chg0 c,h.disk.chg c,h.log.chg c (by simp),h.files.chg0 c,h.ne,h.away,h.small⟩
end
theorem first_ok (w:World) (Sd X:List Nat) (f d l bf:Nat) (F:FsD) (h:FsR w Sd X f d l bf F):
  Calls Tryz.prog 73 #[.pointer (some ⟨f,0,none⟩)] w fun e w'=>e=.returned (.int .i64 (firstF F))∧∃q,w'=w.drewN q:=by
 obtain⟨⟨-,c1,c2,-⟩,-⟩:=Blk.c4b h.blk;have hs:=h.small;have hom:=fun q=>home_ok (w.drewN q) l d F.log (h.log.chg ((Chg.refl [] w).drewN q) (by simp)) (by omega)
 have hh:homeL F.log≤4096:=by unfold homeL;omega
 have e1:wrap64 ((homeL F.log:Int)+1)=((homeL F.log+1:Nat):Int):=by unfold wrap64;omega
 have e2:wrap64 (((homeL F.log+1:Nat):Int)+(F.mt:Int))=((firstF F:Nat):Int):=by unfold wrap64 firstF;omega
 generalize firstF F=r at *;generalize homeL F.log=q at *;generalize q+1=q1 at *;have e1w:=wIq e1;have e2w:=wIq e2;clear h hs hh;go_enter Tryz.func73,Tryz.ntmps73;go_wp2_with fail;go_quiet ((exact Calls.quiet_of_same (hom _)));go_wp2_with fail;go_ret;exact⟨ret_int (by first | assumption | rfl),nq,rfl⟩
theorem all_ok (w:World) (Sd X:List Nat) (f d l bf:Nat) (F:FsD) (h:FsR w Sd X f d l bf F):
  Calls Tryz.prog 41 #[.pointer (some ⟨f,0,none⟩)] w fun e w'=>e=.returned (.int .i64 (allF F))∧∃q,w'=w.drewN q:=by
 obtain⟨⟨c0,-,-,-⟩,-⟩:=Blk.c4b h.blk;have hs:=h.small;have hsec:=sectors_ok w Sd d F.disk h.disk;have hfi:=first_ok w Sd X f d l bf F h;have e1:wrap64 ((F.disk.n:Int) - (firstF F:Int))=((allF F:Nat):Int):=by unfold wrap64 allF;omega
 generalize firstF F=r at *;generalize allF F=q at *;generalize F.disk.n=n at *;have e1w:=wIq e1;clear h hs;go_enter Tryz.func41,Tryz.ntmps41;go_wp2_with fail;refine hsec.mono ?_;rintro e w1 ⟨rfl,rfl⟩;go_wp2_with fail;refine hfi.mono ?_;rintro e w1 ⟨rfl,nq,rfl⟩;go_wp2_with fail;go_ret;exact⟨ret_int (by first | assumption | rfl),nq,rfl⟩
theorem FilesR.look {w:World} {S:List Nat} {b:Nat} {L:Files} (h:FilesR w S b L) (s:Nm) (hs:s.length≤1048576):
  ∃(n:Nat) (ao:Option Addr) (m cap:Nat),
  ((Instr.lookup 93 (.map (some b)) (.string (str s)) false).run Tryz.prog w=.ok (.agg #[.int .i64 n,.slice ao m cap]) w∧
  (Instr.lookup 93 (.map (some b)) (.string (str s)) true).run Tryz.prog w=.ok (.tuple #[.agg #[.int .i64 n,.slice ao m cap],.bool (hasF L s)]) w)∧
  n=((lookK s L).getD ⟨0,[]⟩).size∧m=((lookK s L).getD ⟨0,[]⟩).blocks.length∧FileV w S ((lookK s L).getD ⟨0,[]⟩) (.agg #[.int .i64 n,.slice ao m cap]):=by
 obtain⟨l,hM,h2⟩:=h;obtain⟨l1,l2⟩:=hM.look keyS Tryz.underlying93 (zeroFile w) s hs;unfold hasF;rcases h2.look s with ⟨e1,e2⟩ | ⟨x,y,e1,e2,hv⟩
 ·rw[e2] at l1 l2;rw[e1];exact⟨0,none,0,0,⟨l1,l2⟩,rfl,rfl,_,rfl,Sees.nil _ _,by simp[eyes,Disj]⟩
 ·rw[e2] at l1 l2;rw[e1];obtain⟨v,rfl,hv1,hv2⟩:=hv;obtain⟨ao,cap,rfl,-⟩:=hv1.shape;exact⟨_,ao,_,cap,⟨l1,l2⟩,rfl,rfl,_,rfl,hv1,hv2⟩
end Go.Proofs.YtlbdklaggalgfaaGreatDoor
namespace Go.Aq.Fy
open Go.Aq Go.RowKit
structure Rest (D:DiskD):Prop where
 pend:D.pend=[]
 dur:D.dur=D.now
 up:D.down=false
 len:∀k,(D.now k).length=256
def OkP (n:Nat) (l:Puts):Prop:=∀p∈l,p.1<n∧p.2.length=256
theorem OkP.nil (n:Nat):OkP n []:=fun _ h=>absurd h (by simp)
theorem OkP.app {n:Nat} {l m:Puts} (h:OkP n l) (h':OkP n m):OkP n (l++m):=fun p hp=>(List.mem_append.1 hp).elim (h p) (h' p)
theorem setAll_cons (f:Nat→Sec) (p:Nat×Sec) (l:Puts):setAll f (p::l)=setAll (setS f p.1 p.2) l:=rfl
theorem setAll_app (f:Nat→Sec) (l m:Puts):setAll f (l++m)=setAll (setAll f l) m:=by simp[setAll,List.foldl_append]
theorem setS_len {f:Nat→Sec} {k:Nat} {b:Sec} (h:∀j,(f j).length=256) (hb:b.length=256):∀j,(setS f k b j).length=256:=fun j=>by
 unfold setS;split;·exact hb
 ·exact h j
theorem setAll_len {n:Nat}:∀{l:Puts} {f:Nat→Sec},(∀j,(f j).length=256)→OkP n l→∀j,(setAll f l j).length=256
 | [],f,h,_=>h
 | p::l,f,h,ho=>by
  rw[setAll_cons];exact setAll_len (setS_len h (ho p (.head _)).2) fun q hq=>ho q (.tail _ hq)
theorem setAll_out {l:Puts} {j:Nat}:∀{f:Nat→Sec},(∀p∈l,p.1≠j)→setAll f l j=f j:=by
 induction l with
 | nil=>intro f _;rfl
 | cons p l ih=>
  intro f h;rw[setAll_cons,ih fun q hq=>h q (.tail _ hq)];unfold setS;rw[if_neg (fun e=>h p (.head _) e.symm)]
theorem setAll_in {l:Puts} {j:Nat} {b:Sec}:∀{f:Nat→Sec},(∃p∈l,p.1=j)→(∀p∈l,p.1=j→p.2=b)→setAll f l j=b:=by
 induction l with
 | nil=>rintro f ⟨p,hp,_⟩;cases hp
 | cons p l ih=>
  intro f hx h;rw[setAll_cons];by_cases hl:∃q∈l,q.1=j;·exact ih hl fun q hq=>h q (.tail _ hq)
  ·obtain⟨q,hq,e⟩:=hx;rcases List.mem_cons.1 hq with rfl | hq
   ·rw[setAll_out fun r hr e'=>hl ⟨r,hr,e'⟩];unfold setS;rw[if_pos e.symm,h q (.head _) e]
   ·exact absurd ⟨q,hq,e⟩ hl
theorem setAll_or {l:Puts} {j:Nat}:∀{f:Nat→Sec},setAll f l j=f j∨∃p∈l,p.1=j∧setAll f l j=p.2:=by
 induction l with
 | nil=>intro f;exact .inl rfl
 | cons p l ih=>
  intro f;rw[setAll_cons];rcases ih (f:=setS f p.1 p.2) with h | ⟨q,hq,h1,h2⟩
  ·by_cases e:p.1=j;·exact .inr ⟨p,.head _,e,by rw[h];unfold setS;rw[if_pos e.symm]⟩
   ·left;rw[h];unfold setS;rw[if_neg (fun e'=>e e'.symm)]
  ·exact .inr ⟨q,.tail _ hq,h1,h2⟩
theorem crashS_sub (m:Sec):∀(l:Puts) (i:Nat) (f:Nat→Sec),∃s,s.Sublist l∧crashS m i f l=setAll f s
 | [],i,f=>⟨[],.slnil,rfl⟩
 | (k,b)::l,i,f=>by
  unfold crashS;split
  ·obtain⟨s,h1,h2⟩:=crashS_sub m l (i+1) (setS f k b);exact⟨(k,b)::s,.cons_cons _ h1,h2⟩
  ·obtain⟨s,h1,h2⟩:=crashS_sub m l (i+1) f;exact⟨s,.cons _ h1,h2⟩
theorem writeD_good {D:DiskD} (hu:D.down=false) {p:Nat×Sec} (hp:p.1<D.n∧p.2.length=256):writeD D p.1 p.2=putD D p.1 p.2:=by
 unfold writeD;rw[hu];simp only[Bool.false_eq_true,if_false];rw[if_neg (by omega),if_neg (by omega)]
theorem eachD_calm:∀(l:Puts) (D:DiskD),D.down=false→D.falls=0→OkP D.n l→
  ∃k,eachD D l=({ D with writes:=k,pend:=D.pend++l,now:=setAll D.now l },0)
 | [],D,hu,hf,ho=>⟨D.writes,by simp[eachD,setAll]⟩
 | p::l,D,hu,hf,ho=>by
  have e:writeD D p.1 p.2=({ D with writes:=wrap64 (D.writes+1),pend:=D.pend++[(p.1,p.2)],now:=setS D.now p.1 p.2 },0):=by
   rw[writeD_good hu (ho p (.head _))];unfold putD;rw[if_pos hf]
  unfold eachD;rw[e];simp only[if_true];obtain⟨k,hk⟩:=eachD_calm l { D with writes:=wrap64 (D.writes+1),pend:=D.pend++[(p.1,p.2)],now:=setS D.now p.1 p.2 } hu hf fun q hq=>ho q (.tail _ hq)
  refine⟨k,?_⟩;rw[hk];simp[setAll_cons,List.append_assoc]
theorem writesD_calm (l:Puts) (D:DiskD) (h:Rest D) (hf:D.falls=0) (ho:OkP D.n l):
  ∃k,writesD D l=({ D with writes:=k,now:=setAll D.now l,dur:=setAll D.now l },0):=by
 obtain⟨k,hk⟩:=eachD_calm l D h.up hf ho;refine⟨k,?_⟩;unfold writesD;rw[hk];simp only[if_true];unfold flushD;simp only[h.up,Bool.false_eq_true,if_false,h.pend,List.nil_append,h.dur]
theorem Rest.after {D:DiskD} (h:Rest D) {n:Nat} {l:Puts} (ho:OkP n l) (k:Int) (q:Nat) (m:Sec):Rest { D with writes:=k,now:=setAll D.now l,dur:=setAll D.now l,falls:=q,mask:=m }:=
 ⟨h.pend,rfl,h.up,setAll_len h.len ho⟩
theorem runP_calm:∀(L:List Puts) (D:DiskD),Rest D→D.falls=0→(∀l∈L,OkP D.n l)→
  ∃k,runP D L=({ D with writes:=k,now:=setAll D.now L.flatten,dur:=setAll D.now L.flatten },0)
 | [],D,h,hf,ho=>⟨D.writes,by have:=h.dur;obtain⟨_,_,_,_,_,_,_,_⟩:=D;simp_all [runP,setAll]⟩
 | l::L,D,h,hf,ho=>by
  obtain⟨k,hk⟩:=writesD_calm l D h hf (ho l (.head _));unfold runP;rw[hk];simp only[if_true];obtain⟨k2,hk2⟩:=runP_calm L { D with writes:=k,now:=setAll D.now l,dur:=setAll D.now l } (h.after (ho l (.head _)) k D.falls D.mask) hf fun q hq=>ho q (.tail _ hq)
  refine⟨k2,?_⟩;rw[hk2];simp[setAll_app,List.flatten_cons]
def Cut (f:Nat→Sec) (L:List Puts) (g:Nat→Sec):Prop:=∃a l b s,L=a++l::b∧s.Sublist l∧g=setAll (setAll f a.flatten) s
theorem eachD_fall:∀(l:Puts) (D:DiskD),D.down=false→OkP D.n l→
  (∃k q,eachD D l=({ D with writes:=k,pend:=D.pend++l,now:=setAll D.now l,falls:=q },0)∧(D.falls=0→q=0))∨
  ∃k s,s.Sublist (D.pend++l)∧eachD D l=({ D with writes:=k,pend:=[],now:=setAll D.dur s,dur:=setAll D.dur s,falls:=0,down:=true },12)
 | [],D,hu,ho=>.inl ⟨D.writes,D.falls,by simp[eachD,setAll],id⟩
 | p::l,D,hu,ho=>by
  have hw:=writeD_good hu (ho p (.head _));have ho':OkP D.n l:=fun q hq=>ho q (.tail _ hq)
  unfold eachD;rw[hw];by_cases h0:D.falls=0
  ·have e:putD D p.1 p.2=({ D with writes:=wrap64 (D.writes+1),pend:=D.pend++[(p.1,p.2)],now:=setS D.now p.1 p.2 },0):=by unfold putD;rw[if_pos h0]
   rw[e];simp only[if_true];rcases eachD_fall l { D with writes:=wrap64 (D.writes+1),pend:=D.pend++[(p.1,p.2)],now:=setS D.now p.1 p.2 } hu ho' with ⟨k,q,h1,h2⟩ | ⟨k,s,h1,h2⟩
   ·exact .inl ⟨k,q,by rw[h1];simp[setAll_cons],h2⟩
   ·exact .inr ⟨k,s,by simpa using h1,by rw[h2]⟩
  ·by_cases h1:D.falls=1
   ·have e:putD D p.1 p.2=(crashD { D with writes:=wrap64 (D.writes+1),pend:=D.pend++[(p.1,p.2)],falls:=0 } D.mask,12):=by unfold putD;rw[if_neg h0,if_pos h1]
    rw[e];simp only[show ¬((12:Nat)=0) by decide,if_false];right;obtain⟨s,h2,h3⟩:=crashS_sub D.mask (D.pend++[(p.1,p.2)]) 0 D.dur;refine⟨wrap64 (D.writes+1),s,h2.trans ?_,?_⟩;·exact List.Sublist.append_left (List.singleton_sublist.2 (.head _)) _
    ·unfold crashD;simp only[hu,Bool.false_eq_true,if_false,h3]
   ·have e:putD D p.1 p.2=({ D with writes:=wrap64 (D.writes+1),pend:=D.pend++[(p.1,p.2)],falls:=D.falls - 1,now:=setS D.now p.1 p.2 },0):=by unfold putD;rw[if_neg h0,if_neg h1]
    rw[e];simp only[if_true];rcases eachD_fall l { D with writes:=wrap64 (D.writes+1),pend:=D.pend++[(p.1,p.2)],falls:=D.falls - 1,now:=setS D.now p.1 p.2 } hu ho' with ⟨k,q,h2,h3⟩ | ⟨k,s,h2,h3⟩
    ·exact .inl ⟨k,q,by rw[h2];simp[setAll_cons],fun h=>absurd h h0⟩
    ·exact .inr ⟨k,s,by simpa using h2,by rw[h3]⟩
theorem runP_fall:∀(L:List Puts) (D:DiskD),Rest D→(∀l∈L,OkP D.n l)→
  (∃k q,runP D L=({ D with writes:=k,now:=setAll D.now L.flatten,dur:=setAll D.now L.flatten,falls:=q },0)∧(D.falls=0→q=0))∨
  ∃k g,Cut D.now L g∧runP D L=({ D with writes:=k,pend:=[],now:=g,dur:=g,falls:=0,down:=true },12)
 | [],D,h,ho=>.inl ⟨D.writes,D.falls,by have:=h.dur;obtain⟨_,_,_,_,_,_,_,_⟩:=D;simp_all [runP,setAll],id⟩
 | l::L,D,h,ho=>by
  unfold runP writesD;rcases eachD_fall l D h.up (ho l (.head _)) with ⟨k,q,h1,h2⟩ | ⟨k,s,h1,h2⟩
  ·have e:(if (eachD D l).2=0 then flushD (eachD D l).1 else eachD D l)=({ D with writes:=k,now:=setAll D.now l,dur:=setAll D.now l,falls:=q },0):=by
    rw[h1];unfold flushD;simp only[if_true,h.up,Bool.false_eq_true,if_false,h.pend,List.nil_append,h.dur]
   rw[e];simp only[if_true];rcases runP_fall L { D with writes:=k,now:=setAll D.now l,dur:=setAll D.now l,falls:=q } (h.after (ho l (.head _)) k q D.mask) fun q hq=>ho q (.tail _ hq) with ⟨k2,q2,h3,h4⟩ | ⟨k2,g,⟨a,m,b,s,hL,hs,hg⟩,h4⟩
   ·exact .inl ⟨k2,q2,by rw[h3];simp[setAll_app,List.flatten_cons],fun hz=>h4 (h2 hz)⟩
   ·exact .inr ⟨k2,g,⟨l::a,m,b,s,by rw[hL];rfl,hs,by rw[hg,List.flatten_cons,setAll_app]⟩,by rw[h4]⟩
  ·right;have e:(if (eachD D l).2=0 then flushD (eachD D l).1 else eachD D l)=({ D with writes:=k,pend:=[],now:=setAll D.dur s,dur:=setAll D.dur s,falls:=0,down:=true },12):=by
    rw[h2];simp
   rw[e];simp only[show ¬((12:Nat)=0) by decide,if_false];refine⟨k,setAll D.dur s,⟨[],l,L,s,rfl,by simpa[h.pend] using h1,by rw[h.dur];rfl⟩,rfl⟩
theorem Cut.len {f g:Nat→Sec} {L:List Puts} {n:Nat} (h:Cut f L g) (hf:∀k,(f k).length=256) (ho:∀l∈L,OkP n l):∀k,(g k).length=256:=by
 obtain⟨a,l,b,s,rfl,hs,rfl⟩:=h;refine setAll_len (n:=n) (setAll_len (n:=n) hf fun p hp=>?_) fun p hp=>ho l (by simp) p (hs.subset hp)
 obtain⟨m,hm,hp⟩:=List.mem_flatten.1 hp;exact ho m (by simp[hm]) p hp
end Go.Aq.Fy
