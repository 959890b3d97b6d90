/- Fp7 DkP DkK DkL -/
import Derived.Test.YtlbdklaggalgfaaGreatDoorG17
import Derived.Deep.CutBlock
set_option linter.unusedSimpArgs false
set_option linter.unusedVariables false
set_option maxHeartbeats 16000000
namespace Go.Aq.Fy
open Go.Aq Go.RowKit
def fmtD (n r m:Nat) (k:Int):DiskD:={ newD n with writes:=k,now:=fmtG (fun _=>zsec) r m,dur:=fmtG (fun _=>zsec) r m }
def F0 (n r m:Nat) (k:Int):FsD:=⟨fmtD n r m k,⟨r,1,0⟩,m,[]⟩
theorem fmtG_eq (f:Nat→Sec) (r m:Nat):fmtG f r m=setAll f ([(0,headB r 1 0),(1,zsec)]++fmtL r m):=by unfold fmtG;rw[setAll_app]
theorem fmt_mem {r m:Nat} {p:Nat×Sec}:p∈[(0,headB r 1 0),(1,zsec)]++fmtL r m↔p=(0,headB r 1 0)∨p=(1,zsec)∨p=(2+r,topB m)∨∃i,i<m∧p=(3+r+i,zsec):=by
 unfold fmtL;simp only[List.mem_append,List.mem_cons,List.not_mem_nil,or_false,List.mem_map,List.mem_range];constructor
 ·rintro ((h | h) | h | ⟨i,h1,h2⟩);·exact .inl h
  ·exact .inr (.inl h)
  ·exact .inr (.inr (.inl h))
  ·exact .inr (.inr (.inr ⟨i,h1,h2.symm⟩))
 ·rintro (h | h | h | ⟨i,h1,h2⟩);·exact .inl (.inl h)
  ·exact .inl (.inr h)
  ·exact .inr (.inl h)
  ·exact .inr (.inr ⟨i,h1,h2.symm⟩)
theorem fmt_get {f:Nat→Sec} {r m j:Nat} {b:Sec} (hm:(j,b)∈[(0,headB r 1 0),(1,zsec)]++fmtL r m):fmtG f r m j=b:=by
 rw[fmtG_eq];refine setAll_in ⟨_,hm,rfl⟩ fun p hp e=>?_
 rcases fmt_mem.1 hm with h | h | h | ⟨i,h1,h⟩ <;> rcases fmt_mem.1 hp with h' | h' | h' | ⟨i',h1',h'⟩ <;> (subst h';cases h) <;> simp only at e ⊢ <;> first | rfl | omega
theorem fmt_ok {n r m:Nat} (hb:fmtOk n (r:Int) (m:Int)):OkP n ([(0,headB r 1 0),(1,zsec)]++fmtL r m):=fun p hp=>by
 unfold fmtOk at hb;rcases fmt_mem.1 hp with rfl | rfl | rfl | ⟨i,h1,rfl⟩
 ·exact⟨by simp only;omega,headB_length _ _ _⟩
 ·exact⟨by simp only;omega,zsec_len⟩
 ·exact⟨by simp only;omega,topB_len _⟩
 ·exact⟨by simp only;omega,zsec_len⟩
theorem nul_app (a b:Nat):nul a++nul b=nul (a+b):=by unfold nul;rw[List.replicate_append_replicate]
theorem pieceT_nil {m i:Nat} (hi:i<m):pieceT m [] i=zsec:=by
 have e:tableB []=nul 2:=by unfold tableB;decide
 unfold pieceT;rw[e,nul_app,show (nul 2).length=2 from rfl,show 2+(m * 256 - 2)=m * 256 by omega];unfold zsec nul;rw[List.drop_replicate,List.take_replicate];congr 1;omega
theorem zsec_mark (s p n:Nat):zsec≠markB s p n:=fun e=>by
 have:=congrArg (fun l:Sec=>l.take 1) e;have h2:(markB s p n).take 1=[65]:=by unfold markB;rw[fill_take 1 (by simp)];rfl
 have h1:zsec.take 1=[0]:=by decide
 have h3:zsec.take 1=(markB s p n).take 1:=this;rw[h1,h2] at h3;exact absurd h3 (by decide)
theorem fmt_inv {n r m:Nat} (hb:fmtOk n (r:Int) (m:Int)) (hn:n≤4096) (k:Int):FInv 1 (F0 n r m k):=by
 have hb':=hb;unfold fmtOk at hb';have ht:(tableB []).length=2:=by decide
 have hu:∀j b,(j,b)∈[(0,headB r 1 0),(1,zsec)]++fmtL r m→(F0 n r m k).disk.now j=b:=fun j b h=>fmt_get h
 refine⟨⟨hn,?_,?_,?_,?_⟩,⟨rfl,rfl,rfl,fun j=>?_⟩,Nat.le_refl _,⟨?_,?_,fun i hi=>?_⟩,fun j _ e=>?_,?_,FilesOk.nil _⟩;·show 0<r;omega
 ·show 0<r;omega
 ·show 1≤m∧m≤200;omega
 ·show 2+r+1+m<n;omega
 ·show (fmtG (fun _=>zsec) r m j).length=256;rw[fmtG_eq];exact setAll_len (fun _=>zsec_len) (fmt_ok hb) j
 ·exact hu 0 _ (fmt_mem.2 (.inl rfl))
 ·exact hu (2+r) _ (fmt_mem.2 (.inr (.inr (.inl rfl))))
 ·replace hi:i<m:=hi;have h1:(F0 n r m k).disk.now (2+r+1+i)=zsec:=hu _ _ (fmt_mem.2 (.inr (.inr (.inr ⟨i,hi,by rw[show 2+r+1+i=3+r+i by omega]⟩))));show (F0 n r m k).disk.now (2+r+1+i)=(sectorsB m []).getD i [];rw[h1,sectors_get (m:=m) (fs:=[]) (by rw[ht];omega) hi,pieceT_nil hi]
 ·have h1:(F0 n r m k).disk.now 1=zsec:=hu 1 _ (fmt_mem.2 (.inr (.inl rfl)));rw[h1] at e;exact zsec_mark _ _ _ e
 ·show (tableB []).length≤m * 256;rw[ht];omega
theorem open_same {q:Nat} {F:FsD} (h:FInv q F) (hq:q<2^47):headOf (F.disk.now 0)=F.log∧F.disk.now 0=headB F.log.ring F.log.seq F.log.pos∧(1≤F.log.ring∧F.log.ring+4≤F.disk.n∧F.log.pos<F.log.ring∧F.log.seq<281474976710655)∧markedN F.disk F.log=0∧runP F.disk (redoP F.disk F.log)=(F.disk,0):=by
 have g:=h.geo;have g1:=g.n;have g2:=g.mt;have g3:=g.first;have g4:=g.ring;have g5:=g.pos;have g6:=h.seq;unfold homeL at g3;have hm:=unmarked_n h.un;have hr:redoP F.disk F.log=[]:=by unfold redoP;simp only[hm,if_true]
 refine⟨?_,h.lies.head,⟨by omega,by omega,g5,by omega⟩,hm,by rw[hr];rfl⟩;rw[h.lies.head];exact head_of (by omega) (by omega) (by omega)
structure Tw (F G:FsD):Prop where
 n:F.disk.n=G.disk.n
 now:F.disk.now=G.disk.now
 log:F.log=G.log
 mt:F.mt=G.mt
 files:F.files=G.files
theorem Tw.symm {F G:FsD} (h:Tw F G):Tw G F:=⟨h.n.symm,h.now.symm,h.log.symm,h.mt.symm,h.files.symm⟩
theorem Tw.trans {F G H:FsD} (h:Tw F G) (k:Tw G H):Tw F H:=⟨h.n.trans k.n,h.now.trans k.now,h.log.trans k.log,h.mt.trans k.mt,h.files.trans k.files⟩
theorem Tw.first {F G:FsD} (h:Tw F G):firstF F=firstF G:=by unfold firstF;rw[h.log,h.mt]
theorem Tw.bytes {F G:FsD} (h:Tw F G):bytesB F=bytesB G:=by
 funext x;unfold bytesB;rw[h.first,h.now]
theorem Tw.view {F G:FsD} (h:Tw F G):viewF F=viewF G:=by unfold viewF;rw[h.first,h.now,h.files]
theorem Tw.one {F G:FsD} (h:Tw F G) (w:WorkD) (c:ChangeD):oneW F w c=oneW G w c:=by
 have:bytesW F w c.name=bytesW G w c.name:=by unfold bytesW;rw[h.bytes]
 unfold oneW;rw[this]
theorem Tw.allW {F G:FsD} (h:Tw F G):∀(l:List ChangeD) (w:WorkD),allW F w l=allW G w l
 | [],w=>rfl
 | c::l,w=>by
  unfold Go.Aq.Fy.allW;rw[h.one w c,h.allW l]
theorem Tw.free {F G:FsD} (h:Tw F G):freeF F=freeF G:=by unfold freeF allF;rw[h.first,h.n,h.files]
theorem Tw.prep {F G:FsD} (h:Tw F G) (l:List ChangeD):prepF F l=prepF G l:=by
 unfold prepF;simp only[h.allW l,h.free,h.files,h.mt,h.log,h.first]
theorem do_calm {q:Nat} {F:FsD} (h:FInv q F) (hf:F.disk.falls=0) (l:List ChangeD):
  (∃e,e≠0∧prepF F l=(e,[],[],F.log)∧doF F l=(F,e))∨
  ∃st fs lg k,prepF F l=(0,st,fs,lg)∧doF F l=(⟨{ F.disk with writes:=k,now:=setAll F.disk.now st.flatten,dur:=setAll F.disk.now st.flatten },lg,F.mt,fs⟩,0):=by
 rcases prep_plan h l with ⟨e,h1,h2,h3⟩ | ⟨h1,bl,fs,h2,h3,h4,h5⟩
 ·left;refine⟨e,h2,h1,?_⟩;unfold doF;simp only[h1];rw[if_pos h2]
 ·right;obtain⟨k,hk⟩:=runP_calm _ _ h.rest hf (h3.stagesOk h);refine⟨_,_,_,k,h2,?_⟩;unfold doF;simp only[h2];rw[if_neg (by simp),hk];simp only[if_true]
theorem Tw.doF {q q':Nat} {F G:FsD} (h:Tw F G) (hF:FInv q F) (hG:FInv q' G) (hf:F.disk.falls=0) (hg:G.disk.falls=0) (l:List ChangeD):Tw (doF F l).1 (doF G l).1∧(doF F l).2=(doF G l).2:=by
 have hp:=h.prep l;rcases do_calm hF hf l with ⟨e,e0,e1,e2⟩ | ⟨st,fs,lg,k,e1,e2⟩ <;> rcases do_calm hG hg l with ⟨e',e0',e1',e2'⟩ | ⟨st',fs',lg',k',e1',e2'⟩ <;> rw[e1,e1'] at hp <;> rw[e2,e2']
 ·simp only[Prod.mk.injEq] at hp;exact⟨h,hp.1⟩
 ·simp only[Prod.mk.injEq] at hp;exact absurd hp.1 e0
 ·simp only[Prod.mk.injEq] at hp;exact absurd hp.1.symm e0'
 ·simp only[Prod.mk.injEq] at hp;obtain⟨-,rfl,rfl,rfl⟩:=hp;exact⟨⟨h.n,by simp only[h.now],rfl,h.mt,rfl⟩,rfl⟩
theorem do_law {q:Nat} {F:FsD} (h:FInv q F) (hq:q<2^47) (hf:F.disk.falls=0) (l:List ChangeD):
  FInv (q+1) (doF F l).1∧(doF F l).1.disk.falls=0∧(doF F l).1.disk.n=F.disk.n∧(doF F l).1.mt=F.mt∧(doF F l).1.log.ring=F.log.ring∧
  (((doF F l).2≠0∧(doF F l).1=F∧((doF F l).2=(allV (viewF F) l).2∨((allV (viewF F) l).2=0∧((doF F l).2=8∨(doF F l).2=9))))∨
   ((doF F l).2=0∧(allV (viewF F) l).2=0∧viewF (doF F l).1=(allV (viewF F) l).1∧∀s,lookK s (allW F ⟨F.files,[]⟩ l).1.fresh=none→lookK s (doF F l).1.files=lookK s (allW F ⟨F.files,[]⟩ l).1.files)):=by
 rcases do_any h hq l with ⟨e,h1,h2,h3⟩ | ⟨h1,bl,fs,hp,h4,h5,h6 | ⟨D,-,-,-,-,-,-,h7,-⟩⟩
 ·rw[h1];exact⟨h.more,hf,rfl,rfl,rfl,.inl ⟨h2,rfl,h3⟩⟩
 ·obtain⟨D,h6,hn,hr,hN,hfa⟩:=h6;rw[h6];have hlr:(logF F fs).ring=F.log.ring:=by unfold logF;split <;> rfl
  refine⟨new_inv h hp hn hr hN,hfa hf,hn,rfl,hlr,.inr ⟨rfl,h1,?_,h4⟩⟩;show viewG (firstF ⟨D,logF F fs,F.mt,fs⟩) D.now fs=_;rw[logF_first];exact h5 _ hN.2.2.1 hN.2.2.2
 ·exact absurd hf h7
def dosF (F:FsD) (cs:List (List ChangeD)):FsD:=cs.foldl (fun F c=>(doF F c).1) F
theorem dosF_snoc (F:FsD) (cs:List (List ChangeD)) (c:List ChangeD):dosF F (cs++[c])=(doF (dosF F cs) c).1:=by unfold dosF;rw[List.foldl_append];rfl
theorem woD_pr (s:Nm) (L:List DF):(woD s L).map DF.pr=delK s (L.map DF.pr):=by
 unfold woD delK;rw[List.filter_map];rfl
def wiD (x:DF) (L:List DF):List DF:=(woD x.nm L).takeWhile (fun y=>decide (y.nm<x.nm))++x::(woD x.nm L).dropWhile (fun y=>decide (y.nm<x.nm))
theorem del_all {α:Type} {s:Nm} {l:List (Nm×α)} (h:∀p∈l,s<p.1):delK s l=l:=by
 unfold delK;refine List.filter_eq_self.2 fun p hp=>?_
 have:=h p hp;have:p.1≠s:=fun e=>by rw[e] at this;exact List.lt_irrefl _ this
 simp[this]
theorem up_all {α:Type} {s:Nm} {l:List (Nm×α)} (h:∀p∈l,s<p.1):l.takeWhile (fun p=>decide (p.1<s))=[]∧l.dropWhile (fun p=>decide (p.1<s))=l:=by
 cases l with
 | nil=>exact⟨rfl,rfl⟩
 | cons p l=>
  have h1:=h p (.head _);have h2:¬p.1<s:=fun h2=>List.lt_irrefl _ (List.lt_trans h1 h2)
  simp[List.takeWhile,List.dropWhile,h2]
theorem ins_split {α:Type} (s:Nm) (v:α):∀{l:List (Nm×α)},Asc l→insK s v l=(delK s l).takeWhile (fun p=>decide (p.1<s))++(s,v)::(delK s l).dropWhile (fun p=>decide (p.1<s))
 | [],_=>rfl
 | (k,x)::l,h=>by
  obtain⟨h1,h2⟩:=List.pairwise_cons.1 h;have hd:delK s ((k,x)::l)=if k=s then delK s l else (k,x)::delK s l:=by
   unfold delK;by_cases e:k=s <;> simp[e]
  unfold insK;rw[hd];by_cases e:k=s
  ·subst e;rw[if_pos rfl,if_pos rfl,del_all h1,(up_all h1).1,(up_all h1).2];rfl
  ·rw[if_neg e,if_neg e];by_cases h3:s<k
   ·have h4:∀p∈l,s<p.1:=fun p hp=>List.lt_trans h3 (h1 p hp)
    have h5:¬k<s:=fun h5=>List.lt_irrefl _ (List.lt_trans h3 h5)
    rw[if_pos h3,del_all h4];simp[List.takeWhile,List.dropWhile,h5]
   ·have h5:k<s:=nlt_of e h3;rw[if_neg h3,ins_split s v h2];simp[List.takeWhile,List.dropWhile,h5]
theorem wiD_pr (x:DF) (L:List DF) (h:Asc (L.map DF.pr)):(wiD x L).map DF.pr=insK x.nm x.dat (L.map DF.pr):=by
 rw[ins_split _ _ h,←woD_pr,List.takeWhile_map,List.dropWhile_map];unfold wiD;rw[List.map_append,List.map_cons];rfl
theorem mapK_ins {α β:Type} (f:α→β) (s:Nm) (v:α):∀l:List (Nm×α),mapK (fun _ x=>f x) (insK s v l)=insK s (f v) (mapK (fun _ x=>f x) l)
 | []=>rfl
 | (k,x)::l=>by
  have ih:=mapK_ins f s v l;unfold mapK at ih ⊢;simp only[insK,List.map_cons];split;·rfl
  ·split;·rfl
   ·rw[List.map_cons,ih]
theorem mapK_del {α β:Type} (f:α→β) (s:Nm) (l:List (Nm×α)):mapK (fun _ x=>f x) (delK s l)=delK s (mapK (fun _ x=>f x) l):=by
 unfold mapK delK;rw[List.filter_map];rfl
def freshF (V:View):Files:=mapK (fun _ b=>⟨b.length,[]⟩) V
theorem freshF_look (V:View) (s:Nm):lookK s (freshF V)=(lookK s V).map fun b=>⟨b.length,[]⟩:=mapK_look _ _ _
def AllF (W:WorkD):Prop:=W.files=freshF W.fresh
theorem AllF.view {W:WorkD} (h:AllF W) (ha:Asc W.fresh) (R:FileD→Sec):viewW R W=W.fresh:=by
 refine asc_ext (mapK_asc (by rw[h];exact mapK_asc ha)) ha fun s=>?_
 rw[view_look,h,freshF_look];cases lookK s W.fresh <;> rfl
theorem AllF.one {F:FsD} {W:WorkD} (h:AllF W) (c:ChangeD):AllF (oneW F W c).1:=by
 obtain⟨fs,V⟩:=W;have e:fs=freshF V:=h;subst e;unfold oneW;have tell:∀b,AllF (tellW ⟨freshF V,V⟩ c.name b).1:=fun b=>by
  unfold tellW;split;·rfl
  ·show insK _ _ (freshF V)=freshF (insK _ _ V);exact (mapK_ins (fun b:Sec=>(⟨b.length,[]⟩:FileD)) _ _ _).symm
 have gone:∀s V,AllF (goneW ⟨freshF V,V⟩ s):=fun s V=>(mapK_del (fun b:Sec=>(⟨b.length,[]⟩:FileD)) s V).symm
 split;·rfl
 ·split;·exact tell _
  ·split;·rfl
   ·split
    ·split;·exact tell _
     ·rfl
    ·split
     ·unfold renameW;simp only;rw[freshF_look];cases hx:lookK c.name V with
      | none=>rfl
      | some b=>
       show AllF (if c.name=c.tonm then _ else if hasF (freshF V) c.tonm then _ else _:WorkD×Nat).1;split;·rfl
       ·split;·rfl
        ·have:insK c.tonm (⟨b.length,[]⟩:FileD) (freshF V)=freshF (insK c.tonm b V):=(mapK_ins (fun b:Sec=>(⟨b.length,[]⟩:FileD)) _ _ _).symm;show AllF (goneW ⟨insK c.tonm ⟨b.length,[]⟩ (freshF V),insK c.tonm b V⟩ c.name);rw[this];exact gone _ _
     ·split;·rfl
      ·split;·exact gone _ _
       ·rfl
theorem AllF.all {F:FsD}:∀(l:List ChangeD) {W:WorkD},AllF W→AllF (allW F W l).1
 | [],_,h=>h
 | c::l,W,h=>by
  unfold allW;split;·exact AllF.all l (h.one c)
  ·exact h.one c
def tabN (V:View):Nat:=2+(V.map fun p=>5+p.1.length+2 * cnt p.2.length).sum
theorem tab_len (G:Files):(tableB G).length=2+(G.map fun p=>5+p.1.length+2 * p.2.blocks.length).sum:=by
 unfold tableB;rw[List.length_append,beB_length];congr 1
 induction G with
 | nil=>rfl
 | cons p G ih=>
  have hb:∀ks:List Nat,(ks.flatMap fun k=>beB k 2).length=2 * ks.length:=fun ks=>by
   induction ks with
   | nil=>rfl
   | cons k ks ih=>rw[List.flatMap_cons,List.length_append,beB_length,ih,List.length_cons];omega
  rw[List.flatMap_cons,List.length_append,ih,List.map_cons,List.sum_cons];congr 1;unfold rowB;simp only[List.length_append,List.length_cons,beB_length,hb];omega
def Roomy (V:View):Prop:=needW V≤173∧tabN V≤1024
theorem free0 (k:Int):freeF (F0 200 20 4 k)=List.range 173:=by
 unfold freeF;exact List.filter_eq_self.2 fun _ _=>rfl
theorem fmt0:fmtOk 200 ((20:Nat):Int) ((4:Nat):Int):=by unfold fmtOk;decide
theorem do_room (k:Int) (cs:List ChangeD):(doF (F0 200 20 4 k) cs).2=0↔(allV [] cs).2=0∧Roomy (allV [] cs).1:=by
 have hI:=fmt_inv fmt0 (by decide) k;have hw:=WorkOk.start hI.files;obtain⟨s1,s2,s3⟩:=all_step (F:=F0 200 20 4 k) cs hw;have hv0:viewW (bytesB (F0 200 20 4 k)) ⟨(F0 200 20 4 k).files,[]⟩=[]:=rfl;rw[hv0] at s2 s3;have hA:AllF (allW (F0 200 20 4 k) ⟨(F0 200 20 4 k).files,[]⟩ cs).1:=AllF.all cs rfl;rw[hA.view s1.asc2] at s2;have hprep:(doF (F0 200 20 4 k) cs).2=0↔(prepF (F0 200 20 4 k) cs).1=0:=by
  rcases do_calm hI rfl cs with ⟨e,h0,h1,h2⟩ | ⟨st,fs,lg,k',h1,h2⟩
  ·rw[h1,h2]
  ·rw[h1,h2]
 rw[hprep,←s2,←s3];unfold prepF;generalize hr:allW (F0 200 20 4 k) ⟨(F0 200 20 4 k).files,[]⟩ cs=r at *;by_cases h0:r.2=0
 ·simp only[h0,ne_eq,not_true_eq_false,if_false,true_and];rw[free0];by_cases h1:needW r.1.fresh≤173
  ·rw[if_neg (by simp;omega)];have hp:PlaceOk (allF (F0 200 20 4 k)) r.1.fresh (freeF (F0 200 20 4 k)) r.1.files:=PlaceOk.start hI.files s1 (by rw[free0];simpa using h1);obtain⟨p1,p2,p3,-⟩:=place_ok (first:=0) hp;rw[free0] at p1 p2 p3;have ht:(tableB (placeF r.1.fresh (List.range 173) r.1.files)).length=tabN r.1.fresh:=by
    rw[tab_len];unfold tabN;congr 1;have e:mapK (fun _ x=>x.blocks.length) (placeF r.1.fresh (List.range 173) r.1.files)=mapK (fun _ b=>cnt b.length) r.1.fresh:=by
     refine asc_ext (mapK_asc p1.asc) (mapK_asc s1.asc2) fun s=>?_
     rw[mapK_look,mapK_look];cases hs:lookK s r.1.fresh with
     | none=>rw[p2 s hs,hA,freshF_look,hs];rfl
     | some b=>obtain⟨ks,q1,q2,-⟩:=p3 s b hs;rw[q1];simp[q2]
    have e2:=congrArg (fun l:List (Nm×Nat)=>l.map fun p=>5+p.1.length+2 * p.2) e;unfold mapK at e2;simp only[List.map_map] at e2;exact congrArg List.sum e2
   by_cases h2:tabN r.1.fresh≤1024
   ·rw[if_neg (by rw[ht];show ¬4 * 256<_;omega)];rw[if_neg];·exact⟨fun _=>⟨h1,h2⟩,fun _=>rfl⟩
    ·have hd:=differ_len (homeL (F0 200 20 4 k).log+1) (sectorsB (F0 200 20 4 k).mt (F0 200 20 4 k).files) (sectorsB (F0 200 20 4 k).mt (placeF r.1.fresh (List.range 173) r.1.files));rw[sectors_len hI.tlen] at hd;have hd':(differB (homeL (F0 200 20 4 k).log+1) (sectorsB (F0 200 20 4 k).mt (F0 200 20 4 k).files) (sectorsB (F0 200 20 4 k).mt (placeF r.1.fresh (List.range 173) r.1.files))).length≤4:=hd;generalize (differB _ _ _).length=m at *;show ¬20<need m;unfold need;split <;> omega
   ·rw[if_pos (by rw[ht];show 4 * 256<_;omega)];exact⟨fun h=>absurd h (show ¬(8:Nat)=0 by decide),fun h=>absurd h.2 h2⟩
  ·rw[if_pos (by simp;omega)];exact⟨fun h=>absurd h (show ¬(8:Nat)=0 by decide),fun h=>absurd h.1 h1⟩
 ·simp only[h0,ne_eq,not_false_eq_true,if_true,false_and]
open Classical in
noncomputable def endD (cs:List ChangeD):View:=if (allV [] cs).2=0∧Roomy (allV [] cs).1 then (allV [] cs).1 else []
theorem do_end (k:Int) (cs:List ChangeD):viewF (doF (F0 200 20 4 k) cs).1=endD cs:=by
 have hI:=fmt_inv fmt0 (by decide) k;have hr:=do_room k cs;have hv0:viewF (F0 200 20 4 k)=[]:=rfl;obtain⟨-,-,-,-,-,h⟩:=do_law hI (by decide) rfl cs;unfold endD;rcases h with ⟨h1,h2,-⟩ | ⟨h1,h2,h3,-⟩
 ·rw[if_neg (fun h=>h1 (hr.2 h)),h2,hv0]
 ·rw[if_pos (hr.1 h1),h3,hv0]
end Go.Aq.Fy
namespace Go.Aq
open Go.RowKit
theorem Sees.sliced {w:World} {sz n cap l h:Nat} {ao:Option Addr} {xs:List Value} (hv:Sees w sz (.slice ao n cap) n xs) (h1:l≤h) (h2:h≤n):Sees w sz (Go.sliced ao l h cap sz) (h - l) ((xs.drop (l * sz)).take ((h - l) * sz)):=by
 obtain⟨k1,a,c,k2,k3,k4,k5⟩:=hv;injection k2 with e1 e2 e3;subst e1 e3;have hm:l * sz+(h - l) * sz=h * sz:=by rw[←Nat.add_mul];congr 1;omega
 have hhn:h * sz≤n * sz:=Nat.mul_le_mul_right _ h2;refine⟨by rw[List.length_take,List.length_drop,k1];omega,_,_,rfl,by omega,fun e=>?_,fun ad had j u hu=>?_⟩
 ·split at e;·have:=k4 e;omega
  ·cases ao with
   | none=>have:=k4 rfl;omega
   | some a=>cases e
 ·rw[List.getElem?_take] at hu;split at hu
  ·next hj=>
   rw[List.getElem?_drop] at hu;split at had
   ·next e=>
    have hl:h - l=0:=by omega
    rw[hl,Nat.zero_mul] at hj;omega
   ·cases ao with
    | none=>cases had
    | some a=>
     simp only[Option.map_some,Option.some.injEq] at had;subst had;have:=k5 a rfl _ u hu;have e:(a.add (l * sz)).add j=a.add (l * sz+j):=by
      unfold Addr.add;by_cases hm:l * sz=0 <;> by_cases hn:j=0 <;> simp[hm,hn,Nat.add_assoc]
     rw[e];exact this
  ·cases hu
end Go.Aq
namespace Go.Proofs.YtlbdklaggalgfaaGreatDoor
open Go.RowKit Go.Aq Go.Aq.Fy Go.Maps
set_option maxRecDepth 100000 in
theorem dname_ok (w:World) (l:Nm) (hl:l.length≤1000000000):
  Calls Tryz.prog 125 #[.string (str l)] w fun e w'=>e=.returned (.bool (nameOk l))∧w'=w:=by
 have hsz:=str_size l;go_enter Tryz.func125,Tryz.ntmps125;go_wp2_with fail;go_loopg [3] l.length (fun k vn wr=>∃i:Nat,vn=.int .i64 i∧i+k=l.length∧(∀j (hj:j<l.length),j<i→chOk (l[j]'hj)=true)∧wr=w);case atStart=>exact⟨0,rfl,by omega,fun j _ h=>absurd h (Nat.not_lt_zero _),rfl⟩
 case round=>
  obtain⟨i,rfl,hk,hall,rfl⟩:=hrel;by_cases hi:i<l.length
  ·have hx:=idxSF wr l i hi;have t0:decide ((i:Int)<(l.length:Int))=true:=by simp;omega
   have t0':decide (i<l.length)=true:=by simp;omega
   have HH:=zA hk hall;obtain⟨c,hcc⟩:∃c,l[i]'hi=c:=⟨_,rfl⟩;rw[hcc] at hx;have HC:=zH hcc;have HI:=zH hi;clear hk hall hcc;by_cases h1:c.toNat<33
   ·have t1:decide ((c.toNat:Int)<33)=true:=by simp;omega
    have e1:=zH (nameOk_bad HI.out (by rw[HC.out];unfold chOk;rw[decide_eq_false (by omega)];rfl));clear h1;go_wp2_with fail;go_ret;exact⟨by rw[e1.out];rfl,rfl⟩
   ·have t1:decide ((c.toNat:Int)<33)=false:=by simp;omega
    by_cases h2:126<c.toNat
    ·have t2:decide ((126:Int)<(c.toNat:Int))=true:=by simp;omega
     have e1:=zH (nameOk_bad HI.out (by rw[HC.out];unfold chOk;rw[show decide (c.toNat≤126)=false from decide_eq_false (by omega)];simp));clear h1 h2;go_wp2_with fail;go_ret;exact⟨by rw[e1.out];rfl,rfl⟩
    ·have t2:decide ((126:Int)<(c.toNat:Int))=false:=by simp;omega
     have e1:=zH (show chOk (l[i]'HI.out)=true by rw[HC.out];unfold chOk;simp;omega);clear h1 h2;have e2':wrap64 ((i:Int)+1)=((i+1:Nat):Int):=by unfold wrap64;have:=HI.out;omega
     go_wp2_with fail;go_roundg (gk - 1);case measure=>have:=HH.out.1;have:=HI.out;omega
     case rel=>
      refine⟨i+1,by first | rfl | rw[e2'] | simp,by have:=HH.out.1;have:=HI.out;omega,fun j hj hji=>?_,rfl⟩;by_cases h3:j<i;·exact HH.out.2 j hj h3
      ·have h4:j=i:=by omega
       subst h4;exact e1.out
  ·have t0:decide ((i:Int)<(l.length:Int))=false:=by simp;omega
   have t0':decide (i<l.length)=false:=by simp;omega
   have e1:=zH (nameOk_good fun j hj=>hall j hj (by omega));clear hall;by_cases hn:l.length<1
   ·have z:decide ((1:Int)≤(l.length:Int))=false:=by simp;omega
    have z2:nameOk l=false:=by
     rw[List.eq_nil_of_length_eq_zero (show l.length=0 by omega)];rfl
    have Z2:=zH z2;clear z2 e1 hn;go_wp2_with fail;go_ret;exact⟨by rw[Z2.out];rfl,rfl⟩
   ·have z:decide ((1:Int)≤(l.length:Int))=true:=by simp;omega
    have HN:=zH hn;obtain⟨b,hb⟩:∃b,decide ((l.length:Int)≤80)=b:=⟨_,rfl⟩;have e3:b=nameOk l:=by
     rw[e1.out,←hb];have:decide (l≠[])=true:=decide_eq_true (fun h=>by have:=HN.out;rw[h] at this;exact this (by decide));rw[this,Bool.true_and];simp only[decide_eq_decide];omega
    have E3:=zH e3;clear hn e3 hk;go_wp2_with fail;go_ret;exact⟨by rw[←E3.out];rfl,rfl⟩
end Go.Proofs.YtlbdklaggalgfaaGreatDoor
namespace Go.Aq.Fy
def plD (s:Nm) (d:List DF):Nat:=(d.takeWhile fun y=>decide (y.nm<s)).length
theorem plD_at {s:Nm}:∀{d:List DF} {i:Nat},i≤d.length→(∀y∈d.take i,y.nm<s)→(∀h:i<d.length,¬(d[i]'h).nm<s)→plD s d=i
 | [],i,h,_,_=>by
  have:i=0:=by simpa using h
  rw[this];rfl
 | y::d,0,_,_,h3=>by
  have h4:¬y.nm<s:=h3 (by simp);unfold plD;simp[List.takeWhile,h4]
 | y::d,i+1,h1,h2,h3=>by
  have h4:y.nm<s:=h2 y (by simp);have ih:=plD_at (s:=s) (d:=d) (i:=i) (by simpa using h1) (fun z hz=>h2 z (by simp[hz])) (fun h=>h3 (by simpa using h));unfold plD at ih ⊢;simp[List.takeWhile,h4,ih]
theorem tw_plD (s:Nm):∀d:List DF,(d.takeWhile fun y=>decide (y.nm<s))=d.take (plD s d)∧(d.dropWhile fun y=>decide (y.nm<s))=d.drop (plD s d)
 | []=>⟨rfl,rfl⟩
 | y::d=>by
  obtain⟨h1,h2⟩:=tw_plD s d;unfold plD at h1 h2 ⊢;by_cases h:y.nm<s
  ·simp only[List.takeWhile,List.dropWhile,h,decide_true,List.length_cons,List.take_succ_cons,List.drop_succ_cons];exact⟨congrArg _ h1,h2⟩
  ·simp[List.takeWhile,List.dropWhile,h]
theorem wiD_at (x:DF) (L:List DF):wiD x L=(woD x.nm L).take (plD x.nm (woD x.nm L))++[x]++(woD x.nm L).drop (plD x.nm (woD x.nm L)):=by
 unfold wiD;obtain⟨h1,h2⟩:=tw_plD x.nm (woD x.nm L);rw[h1,h2];simp
theorem fcs_take (L:List DF) (i:Nat) (h:i≤L.length):fcs (L.take i)=(fcs L).take (i * 5):=by
 have e:=congrArg fcs (List.take_append_drop i L);rw[fcs_app] at e;have h1:(fcs (L.take i)).length=i * 5:=by rw[fcs_len,List.length_take];congr 1;omega
 rw[←e,←h1,List.take_left]
theorem fcs_drop (L:List DF) (i:Nat) (h:i≤L.length):fcs (L.drop i)=(fcs L).drop (i * 5):=by
 have e:=congrArg fcs (List.take_append_drop i L);rw[fcs_app] at e;have h1:(fcs (L.take i)).length=i * 5:=by rw[fcs_len,List.length_take];congr 1;omega
 rw[←e,←h1,List.drop_left]
end Go.Aq.Fy
namespace Go.Proofs.YtlbdklaggalgfaaGreatDoor
open Go.RowKit Go.Aq Go.Aq.Fy Go.Maps
theorem d_take {w:World} {ao:Option Addr} {n cap i:Nat} {d:List DF} (h:Sees w 5 (.slice ao n cap) n (fcs d)) (hd:d.length=n) (hi:i≤n):Sees w 5 (.slice ao i cap) i (fcs (d.take i)):=by
 have:=h.sliced (Nat.zero_le i) hi;rw[Nat.zero_mul,List.drop_zero,Nat.sub_zero] at this;rw[fcs_take d i (by omega)];have e:Go.sliced ao 0 i cap 5=.slice ao i cap:=by unfold Go.sliced;cases ao <;> simp[Addr.add]
 rw[←e];exact this
theorem d_drop {w:World} {ao:Option Addr} {n cap i:Nat} {d:List DF} (h:Sees w 5 (.slice ao n cap) n (fcs d)) (hd:d.length=n) (hi:i≤n):Sees w 5 (.slice (if cap=i then ao else ao.map fun x=>x.add (i * 5)) (n - i) (cap - i)) (n - i) (fcs (d.drop i)):=by
 have:=h.sliced hi (Nat.le_refl n);rw[fcs_drop d i (by omega)]
 rwa [List.take_of_length_le] at this
 rw[List.length_drop,h.len,←Nat.sub_mul];exact Nat.le_refl _
set_option maxRecDepth 100000 in
theorem dwith_ok (w:World) (v:Value) (L:List DF) (x:DF) (hv:Sees w 5 v L.length (fcs L)) (hl:L.length≤1000000):
  Calls Tryz.prog 126 #[v,.agg #[.string (str x.nm),.int .i64 x.dat.length,.slice none 0 0,.bool true,x.dv]] w fun e w'=>∃v',e=.returned v'∧Fresh w w' 134 5 v' (wiD x L).length (fcs (wiD x L)):=by
 obtain⟨xx,hxx⟩:∃xx,x=xx:=⟨_,rfl⟩;obtain⟨nm,dat,dao,dcap⟩:=x;unfold DF.dv;simp only;have HXX:Hid (xx=⟨nm,dat,dao,dcap⟩):=hxx.symm;rw[hxx];clear hxx;have hW:wiD xx L=(woD nm L).take (plD nm (woD nm L))++[xx]++(woD nm L).drop (plD nm (woD nm L)):=by
  rw[wiD_at,HXX.out]
 obtain⟨dl,hdl⟩:∃dl,dat.length=dl:=⟨_,rfl⟩;rw[hdl];have HSX:Hid (∀w':World,Sees (w'.alloc (.cells #[.string (str nm),.int .i64 dl,.slice none 0 0,.bool true,.slice dao dl dcap] 134)) 5 (.slice (some ⟨w'.heap.size,0,none⟩) 1 1) 1 (fcs [xx])):=fun w'=>by
  rw[HXX.out];show Sees _ _ _ _ [.string (str nm),.int .i64 dat.length,.slice none 0 0,.bool true,.slice dao dat.length dcap];rw[hdl];exact Sees.rowsY (m:=1) (cs:=#[.string (str nm),.int .i64 dl,.slice none 0 0,.bool true,.slice dao dl dcap]) (Blk.new w' _ _) rfl
 have hbx:Blk (w.alloc (.cells #[.string (str nm),.int .i64 dl,.slice none 0 0,.bool true,.slice dao dl dcap] 134)) w.heap.size #[.string (str nm),.int .i64 dl,.slice none 0 0,.bool true,.slice dao dl dcap] 134:=Blk.new w _ _;have hcx:Chg [] w (w.alloc (.cells #[.string (str nm),.int .i64 dl,.slice none 0 0,.bool true,.slice dao dl dcap] 134)):=(Chg.refl _ _).alloc _;have hwo:=dwithout_ok (w.alloc (.cells #[.string (str nm),.int .i64 dl,.slice none 0 0,.bool true,.slice dao dl dcap] 134)) v L nm (hv.chg0 hcx) hl;obtain⟨lo,lcap,rfl,-⟩:=hv.shape;have hdn:(woD nm L).length≤L.length:=List.length_filter_le _ _;obtain⟨ln,hln⟩:∃ln,L.length=ln:=⟨_,rfl⟩;rw[hln] at hwo hdn hl;rw[hln];clear hv hln hdl;go_enter Tryz.func126,Tryz.ntmps126;go_upto_region 1 with (fail);generalize w.alloc (.cells #[.string (str nm),.int .i64 dl,.slice none 0 0,.bool true,.slice dao dl dcap] 134)=wa at *;generalize w.heap.size=K at *;have f0:wa.cell? ⟨K,0,none⟩=some (.string (str nm)):=hbx.cell 0;have HA:=zA hbx hcx;have HW:=zH hW;clear hbx hcx hW;go_wp2_with fail;refine hwo.mono ?_;rintro e w1 ⟨v1,rfl,hF⟩;generalize woD nm L=d at *;obtain⟨n,HN⟩:∃n,Hid (d.length=n):=⟨_,rfl⟩;rw[HN.out] at hF hdn;obtain⟨ao,cap,rfl,hnc⟩:=hF.shape;have hn6:n≤1000000:=by omega
 have HB:Hid (∀w',Chg [] w1 w'→Blk w' K #[.string (str nm),.int .i64 dl,.slice none 0 0,.bool true,.slice dao dl dcap] 134):=fun w' c=>(HA.out.1.chg0 hF.chg).chg0 c
 have HS:Hid (∀w',Chg [] w1 w'→Sees w' 5 (.slice ao n cap) n (fcs d)):=fun w' c=>hF.own.sees.chg0 c
 have HR0:Hid (∀i w' v',plD nm d=i→Fresh w1 w' 134 5 v' (i+1+(n - i)) (fcs (d.take i)++fcs [xx]++fcs (d.drop i))→Fresh w w' 134 5 v' (wiD xx L).length (fcs (wiD xx L))):=by
  intro i w' v' hp h;have e1:=HW.out;rw[hp] at e1;have e2:fcs (wiD xx L)=fcs (d.take i)++fcs [xx]++fcs (d.drop i):=by rw[e1,fcs_app,fcs_app]
  have e3:(wiD xx L).length=i+1+(n - i):=by
   have a:=h.own.len;rw[←e2,fcs_len] at a;exact Nat.eq_of_mul_eq_mul_right (by decide) a
  rw[e2,e3];exact⟨h.own,HA.out.2.nil (hF.chg.nil h.chg),fun k hk=>Nat.le_trans (Nat.le_trans HA.out.2.size hF.chg.size) (h.new k hk)⟩
 clear hF f0 hwo hdn hl
 go_upto_block 0 with fail
 go_cut [5] from 10 to 25 (fun s wx=>∃i:Nat,s=.int .i64 (i:Int)∧Hid (i≤n∧plD nm d=i)∧Hid (Chg [] w1 wx));case first=>
  go_wp2_with fail;go_loopg [5] n (fun k v5 wr=>∃i:Nat,v5=.int .i64 (i:Int)∧i+k=n∧Hid (∀y∈d.take i,y.nm<nm)∧Hid (Chg [] w1 wr));case atStart=>exact⟨0,rfl,by omega,fun y hy=>by simp at hy,Chg.refl _ _⟩
  case round=>
   obtain⟨i,rfl,hik,HM,hc⟩:=hrel;have z0:wr.cell? ⟨K,0,none⟩=some (.string (str nm)):=(HB.out _ hc.out).cell 0;by_cases hi:i<n
   ·have t1:decide ((i:Int)<(n:Int))=true:=by simp;omega
    have t1':decide (i<n)=true:=by simp;omega
    have hil:i<d.length:=by rw[HN.out];exact hi
    obtain⟨g,off,cap',hs,-,hgl,hcell⟩:=(HS.out _ hc.out).cells (by omega);simp only[Value.slice.injEq,true_and] at hs;obtain⟨hs1,hs2⟩:=hs;subst hs1;obtain⟨y0,-⟩:=fcs_cells HN.out hcell i hil;have hT:=List.take_succ_eq_append_getElem hil;have hpl:=fun (h:¬(d[i]'hil).nm<nm)=>plD_at (s:=nm) (Nat.le_of_lt hil) HM.out (fun _=>h)
    have hlt:Op.bytesLess (str (d[i]'hil).nm).toList (str nm).toList=decide ((d[i]'hil).nm<nm):=by rw[Proofs.bytesLess_eq,str_toList,str_toList]
    have hw:=zH (show wrap64 ((i:Int)+1)=((i+1:Nat):Int) from by unfold wrap64;omega);have i1:(i:Int)≤1000000:=by omega
    generalize hz:d[i]=z at *;obtain⟨zn,zd,za,zc⟩:=z;simp only at y0 hlt hpl;by_cases hc0:zn<nm
    ·simp only[hc0,decide_true] at hlt;have HG:Hid (∀y∈d.take (i+1),y.nm<nm):=by
      intro y hy;rw[hT] at hy;rcases List.mem_append.1 hy with hy | hy
      ·exact HM.out y hy
      ·rw[List.mem_singleton.1 hy];exact hc0
     have HP:=zA hik hi;clear hT hpl hc0 HM hcell hgl hs2 hz hil hik;go_wp2_with fail;go_quiet (fail);have HC9:=zH (hc.out.drewN nq);go_wp2_with fail;go_roundg (gk - 1);case measure=>have:=HP.out;omega
     case rel=>exact⟨i+1,by first | rfl | rw[hw.out],by have:=HP.out;omega,HG,HC9.out⟩
    ·have hp:=hpl hc0;simp only[hc0,decide_false] at hlt;have HP:=zA (Nat.le_of_lt hi) hp;clear hT hpl hc0 HM hcell hgl hs2 hz hil hik hp;go_wp2_with fail;go_quiet (fail);have HC9:=zH (hc.out.drewN nq);go_wp2_with fail;go_meet;exact⟨i,rfl,HP.out,HC9.out⟩
   ·have t1:decide ((i:Int)<(n:Int))=false:=by simp;omega
    have t1':decide (i<n)=false:=by simp;omega
    have hp:plD nm d=i:=plD_at (by rw[HN.out];omega) HM.out (fun h=>absurd h (by rw[HN.out];exact hi));have HP:=zA (show i≤n by omega) hp;clear hik hi HM hp;go_wp2_with fail;go_quiet (fail);have HC9:=zH (hc.out.drewN nq);go_wp2_with fail;go_meet;exact⟨i,rfl,HP.out,HC9.out⟩
 case rest=>
  obtain⟨i,rfl,hI,hc⟩:=hcut;go_upto_region 5 with (fail);obtain⟨ax,ha2⟩:∃ax,(if cap=i then ao else ao.map fun x=>x.add (i * 5))=ax:=⟨_,rfl⟩;refine wp_region_E [] (by kernel_rfl) ?_;have c0:Chg [] wc.drew wc.drew:=Chg.refl _ _;have D9:Hid (Chg [] w1 wc.drew):=hc.out.drew;have HS1:Hid (∀w',Chg [] wc.drew w'→Sees w' 5 (.slice ao i cap) i (fcs (d.take i))):=fun w' c=>d_take (HS.out w' (D9.out.nil c)) HN.out hI.out.1
  have HS2:Hid (∀w',Chg [] wc.drew w'→Sees w' 5 (.slice ax (n - i) (cap - i)) (n - i) (fcs (d.drop i))):=fun w' c=>by rw[←ha2];exact d_drop (HS.out w' (D9.out.nil c)) HN.out hI.out.1
  have HK9:Hid (∀w',Chg [] wc.drew w'→Blk w' K #[.string (str nm),.int .i64 dl,.slice none 0 0,.bool true,.slice dao dl dcap] 134):=fun w' c=>(HB.out w' (D9.out.nil c))
  have HRES:Hid (∀w' v',Fresh wc.drew w' 134 5 v' (i+1+(n - i)) (fcs (d.take i)++fcs [xx]++fcs (d.drop i))→Fresh w w' 134 5 v' (wiD xx L).length (fcs (wiD xx L))):=fun w' v' h=>HR0.out i w' v' hI.out.2 ⟨h.own,D9.out.nil h.chg,fun k hk=>Nat.le_trans D9.out.size (h.new k hk)⟩
  have HBB:Hid (i≤n∧n≤1000000):=⟨hI.out.1,hn6⟩;have i0:(0:Int)≤(i:Int):=by omega
  have i1:(i:Int)≤(n:Int):=by have:=hI.out.1;omega
  have i2:(i:Int)≤(cap:Int):=by have:=hI.out.1;omega
  generalize wc.drew=W0 at *;clear D9 hn6;refine tE 1 (.slice ao n cap) c0 (fun w4 c4=>?_) ?_;·go_simp
  refine yG ?_;refine tE 2 (.int .i64 (i:Int)) c0 (fun w4 c4=>?_) ?_;·go_simp
  refine yG ?_;refine tE 3 (.slice ao i cap) c0 (fun w4 c4=>?_) ?_;·go_simp
  refine yG ?_;refine tE 5 (.agg #[.string (str nm),.int .i64 dl,.slice none 0 0,.bool true,.slice dao dl dcap]) c0 (fun w4 c4=>?_) ?_
  ·have hk:=HK9.out w4 c4;have z0:=hk.cell 0;have z1:=hk.cell 1;have z2:=hk.cell 2;have z3:=hk.cell 3;have z4:=hk.cell 4;simp only[List.getElem?_toArray,List.getElem?_cons_zero,List.getElem?_cons_succ] at z0 z1 z2 z3 z4;go_simp
  refine yG ?_;refine tE 8 (.slice ao n cap) c0 (fun w4 c4=>?_) ?_;·go_simp
  refine yG ?_;refine tE 9 (.int .i64 (i:Int)) c0 (fun w4 c4=>?_) ?_;·go_simp
  refine yG ?_;refine tE 10 (.slice ax (n - i) (cap - i)) c0 (fun w4 c4=>?_) ?_
  ·rw[←ha2];go_simp
  refine yG ?_;have HC0:=zH c0;clear c0 ha2;refine wpAnyE_two 0 6 rfl rfl (by kernel_rfl) (by rfl) (by rfl) ?_ ?_
  ·have cB1:Hid (Chg [] W0 (W0.alloc (.cells #[] 134))):=(Chg.refl [] _).alloc _;have F1:Hid (Fresh W0 (W0.alloc (.cells #[] 134)) 134 5 (.slice (some ⟨W0.heap.size,0,none⟩) 0 0) 0 []):=⟨Aq.Own.made _ _ _,HC0.out.nil cB1.out,fun k hk=>by simp[Value.ownBlock] at hk;rw[hk];exact HC0.out.size⟩;have C1:=zH (HC0.out.nil cB1.out);go_simp;refine⟨C1.out,?_⟩;generalize W0.heap.size=KK1 at *;generalize W0.alloc (.cells #[] 134)=w1 at *;clear cB1;refine yG ?_;refine wpAnyE_two 4 6 rfl rfl (by kernel_rfl) (by rfl) (by rfl) ?_ ?_
   ·refine wp_app _ _ 124 (by rfl) sl_fileD (v:=(.slice (some ⟨KK1,0,none⟩) 0 0)) (n:=0) (xs:=[]) F1.out.own (by rfl) (vx:=(.slice ao i cap)) (m:=i) (news:=fcs (d.take i)) (HS1.out _ C1.out) (by rfl) (fcs_ones _) (by have:=HBB.out;omega) (by have:=HBB.out;omega) ?_;intro v2 w2 o2 e2 n2;have F2:Hid (Fresh W0 w2 134 5 v2 i (fcs (d.take i))):=by have h:=F1.out.app o2 e2 n2;first | exact h | (rw[Nat.zero_add] at h;exact h)
    have C2:=zH F2.out.chg;obtain⟨a2,p2,hv2,-⟩:=F2.out.shape;subst hv2;clear o2 e2 n2;refine⟨C2.out,?_⟩;refine yG ?_;refine oE 6 ?_;have cB3:Hid (Chg [] w2 (w2.alloc (.cells #[.string (str nm),.int .i64 dl,.slice none 0 0,.bool true,.slice dao dl dcap] 134))):=(Chg.refl [] _).alloc _;have S3:Hid (Sees (w2.alloc (.cells #[.string (str nm),.int .i64 dl,.slice none 0 0,.bool true,.slice dao dl dcap] 134)) 5 (.slice (some ⟨w2.heap.size,0,none⟩) 1 1) 1 (fcs [xx])):=HSX.out _;have F3:=zH (F2.out.to cB3.out);have C3:=zH (C2.out.nil cB3.out);go_simp;refine⟨C3.out,?_⟩;generalize w2.heap.size=KK3 at *;generalize w2.alloc (.cells #[.string (str nm),.int .i64 dl,.slice none 0 0,.bool true,.slice dao dl dcap] 134)=w3 at *;clear cB3;refine yG ?_;refine oE 7 ?_;refine wp_app _ _ 124 (by rfl) sl_fileD (v:=(.slice a2 i p2)) (n:=i) (xs:=(fcs (d.take i))) F3.out.own (by rfl) (vx:=(.slice (some ⟨KK3,0,none⟩) 1 1)) (m:=1) (news:=fcs [xx]) S3.out (by rfl) (fcs_ones _) (by have:=HBB.out;omega) (by have:=HBB.out;omega) ?_;intro v4 w4 o4 e4 n4;have F4:Hid (Fresh W0 w4 134 5 v4 (i+1) (fcs (d.take i)++fcs [xx])):=by have h:=F3.out.app o4 e4 n4;first | exact h | (rw[Nat.zero_add] at h;exact h)
    have C4:=zH F4.out.chg;obtain⟨a4,p4,hv4,-⟩:=F4.out.shape;subst hv4;clear o4 e4 n4;refine⟨C4.out,?_⟩;refine yG ?_;refine oE 11 ?_;refine wp_app _ _ 124 (by rfl) sl_fileD (v:=(.slice a4 (i+1) p4)) (n:=(i+1)) (xs:=(fcs (d.take i)++fcs [xx])) F4.out.own (by rfl) (vx:=(.slice ax (n - i) (cap - i))) (m:=(n - i)) (news:=fcs (d.drop i)) (HS2.out _ C4.out) (by rfl) (fcs_ones _) (by have:=HBB.out;omega) (by have:=HBB.out;omega) ?_;intro v5 w5 o5 e5 n5;have F5:Hid (Fresh W0 w5 134 5 v5 (i+1+(n - i)) (fcs (d.take i)++fcs [xx]++fcs (d.drop i))):=by have h:=F4.out.app o5 e5 n5;first | exact h | (rw[Nat.zero_add] at h;exact h)
    have C5:=zH F5.out.chg;obtain⟨a5,p5,hv5,-⟩:=F5.out.shape;subst hv5;clear o5 e5 n5;refine⟨C5.out,?_⟩;refine yG ?_;refine tE 12 (.slice a5 (i+1+(n - i)) p5) C5.out (fun w4 c4=>?_) ?_;·go_simp
    refine yG ?_;refine wpAnyE_done (by kernel_rfl) ?_ _;have HF:=zH (HRES.out _ _ F5.out);go_wp2_with fail;go_ret;exact⟨_,rfl,HF.out⟩
   ·have cB6:Hid (Chg [] w1 (w1.alloc (.cells #[.string (str nm),.int .i64 dl,.slice none 0 0,.bool true,.slice dao dl dcap] 134))):=(Chg.refl [] _).alloc _;have S6:Hid (Sees (w1.alloc (.cells #[.string (str nm),.int .i64 dl,.slice none 0 0,.bool true,.slice dao dl dcap] 134)) 5 (.slice (some ⟨w1.heap.size,0,none⟩) 1 1) 1 (fcs [xx])):=HSX.out _;have N6:Hid (KK1<w1.heap.size):=F1.out.own.lt _ (by simp[Value.ownBlock]);have F6:=zH (F1.out.to cB6.out);have C6:=zH (C1.out.nil cB6.out);go_simp;refine⟨C6.out,?_⟩;generalize w1.heap.size=KK6 at *;generalize w1.alloc (.cells #[.string (str nm),.int .i64 dl,.slice none 0 0,.bool true,.slice dao dl dcap] 134)=w6 at *;clear cB6;refine yG ?_;refine oE 4 ?_;refine wp_app _ _ 124 (by rfl) sl_fileD (v:=(.slice (some ⟨KK1,0,none⟩) 0 0)) (n:=0) (xs:=[]) F6.out.own (by rfl) (vx:=(.slice ao i cap)) (m:=i) (news:=fcs (d.take i)) (HS1.out _ C6.out) (by rfl) (fcs_ones _) (by have:=HBB.out;omega) (by have:=HBB.out;omega) ?_;intro v7 w7 o7 e7 n7;have F7:Hid (Fresh W0 w7 134 5 v7 i (fcs (d.take i))):=by have h:=F6.out.app o7 e7 n7;first | exact h | (rw[Nat.zero_add] at h;exact h)
    have C7:=zH F7.out.chg;have S7:=zH (S6.out.chg e7 (fun k hk hm=>by simp[eyes] at hk;simp[Value.ownBlock] at hm;have:=N6.out;omega));obtain⟨a7,p7,hv7,-⟩:=F7.out.shape;subst hv7;clear o7 e7 n7;refine⟨C7.out,?_⟩;refine yG ?_;refine oE 7 ?_;refine wp_app _ _ 124 (by rfl) sl_fileD (v:=(.slice a7 i p7)) (n:=i) (xs:=(fcs (d.take i))) F7.out.own (by rfl) (vx:=(.slice (some ⟨KK6,0,none⟩) 1 1)) (m:=1) (news:=fcs [xx]) S7.out (by rfl) (fcs_ones _) (by have:=HBB.out;omega) (by have:=HBB.out;omega) ?_;intro v8 w8 o8 e8 n8;have F8:Hid (Fresh W0 w8 134 5 v8 (i+1) (fcs (d.take i)++fcs [xx])):=by have h:=F7.out.app o8 e8 n8;first | exact h | (rw[Nat.zero_add] at h;exact h)
    have C8:=zH F8.out.chg;obtain⟨a8,p8,hv8,-⟩:=F8.out.shape;subst hv8;clear o8 e8 n8;refine⟨C8.out,?_⟩;refine yG ?_;refine oE 11 ?_;refine wp_app _ _ 124 (by rfl) sl_fileD (v:=(.slice a8 (i+1) p8)) (n:=(i+1)) (xs:=(fcs (d.take i)++fcs [xx])) F8.out.own (by rfl) (vx:=(.slice ax (n - i) (cap - i))) (m:=(n - i)) (news:=fcs (d.drop i)) (HS2.out _ C8.out) (by rfl) (fcs_ones _) (by have:=HBB.out;omega) (by have:=HBB.out;omega) ?_;intro v9 w9 o9 e9 n9;have F9:Hid (Fresh W0 w9 134 5 v9 (i+1+(n - i)) (fcs (d.take i)++fcs [xx]++fcs (d.drop i))):=by have h:=F8.out.app o9 e9 n9;first | exact h | (rw[Nat.zero_add] at h;exact h)
    have C9:=zH F9.out.chg;obtain⟨a9,p9,hv9,-⟩:=F9.out.shape;subst hv9;clear o9 e9 n9;refine⟨C9.out,?_⟩;refine yG ?_;refine tE 12 (.slice a9 (i+1+(n - i)) p9) C9.out (fun w4 c4=>?_) ?_;·go_simp
    refine yG ?_;refine wpAnyE_done (by kernel_rfl) ?_ _;have HF:=zH (HRES.out _ _ F9.out);go_wp2_with fail;go_ret;exact⟨_,rfl,HF.out⟩
  ·have cB10:Hid (Chg [] W0 (W0.alloc (.cells #[.string (str nm),.int .i64 dl,.slice none 0 0,.bool true,.slice dao dl dcap] 134))):=(Chg.refl [] _).alloc _;have S10:Hid (Sees (W0.alloc (.cells #[.string (str nm),.int .i64 dl,.slice none 0 0,.bool true,.slice dao dl dcap] 134)) 5 (.slice (some ⟨W0.heap.size,0,none⟩) 1 1) 1 (fcs [xx])):=HSX.out _;have C10:=zH (HC0.out.nil cB10.out);go_simp;refine⟨C10.out,?_⟩;generalize W0.heap.size=KK10 at *;generalize W0.alloc (.cells #[.string (str nm),.int .i64 dl,.slice none 0 0,.bool true,.slice dao dl dcap] 134)=w10 at *;clear cB10;refine yG ?_;refine oE 0 ?_;have cB11:Hid (Chg [] w10 (w10.alloc (.cells #[] 134))):=(Chg.refl [] _).alloc _;have F11:Hid (Fresh W0 (w10.alloc (.cells #[] 134)) 134 5 (.slice (some ⟨w10.heap.size,0,none⟩) 0 0) 0 []):=⟨Aq.Own.made _ _ _,C10.out.nil cB11.out,fun k hk=>by simp[Value.ownBlock] at hk;rw[hk];exact C10.out.size⟩;have N11:Hid (KK10<w10.heap.size):=S10.out.lt (by decide) _ (by simp[eyes]);have S11:=zH (S10.out.chg0 cB11.out);have C11:=zH (C10.out.nil cB11.out);go_simp;refine⟨C11.out,?_⟩;generalize w10.heap.size=KK11 at *;generalize w10.alloc (.cells #[] 134)=w11 at *;clear cB11;refine yG ?_;refine oE 4 ?_;refine wp_app _ _ 124 (by rfl) sl_fileD (v:=(.slice (some ⟨KK11,0,none⟩) 0 0)) (n:=0) (xs:=[]) F11.out.own (by rfl) (vx:=(.slice ao i cap)) (m:=i) (news:=fcs (d.take i)) (HS1.out _ C11.out) (by rfl) (fcs_ones _) (by have:=HBB.out;omega) (by have:=HBB.out;omega) ?_;intro v12 w12 o12 e12 n12;have F12:Hid (Fresh W0 w12 134 5 v12 i (fcs (d.take i))):=by have h:=F11.out.app o12 e12 n12;first | exact h | (rw[Nat.zero_add] at h;exact h)
   have C12:=zH F12.out.chg;have S12:=zH (S11.out.chg e12 (fun k hk hm=>by simp[eyes] at hk;simp[Value.ownBlock] at hm;have:=N11.out;omega));obtain⟨a12,p12,hv12,-⟩:=F12.out.shape;subst hv12;clear o12 e12 n12;refine⟨C12.out,?_⟩;refine yG ?_;refine oE 7 ?_;refine wp_app _ _ 124 (by rfl) sl_fileD (v:=(.slice a12 i p12)) (n:=i) (xs:=(fcs (d.take i))) F12.out.own (by rfl) (vx:=(.slice (some ⟨KK10,0,none⟩) 1 1)) (m:=1) (news:=fcs [xx]) S12.out (by rfl) (fcs_ones _) (by have:=HBB.out;omega) (by have:=HBB.out;omega) ?_;intro v13 w13 o13 e13 n13;have F13:Hid (Fresh W0 w13 134 5 v13 (i+1) (fcs (d.take i)++fcs [xx])):=by have h:=F12.out.app o13 e13 n13;first | exact h | (rw[Nat.zero_add] at h;exact h)
   have C13:=zH F13.out.chg;obtain⟨a13,p13,hv13,-⟩:=F13.out.shape;subst hv13;clear o13 e13 n13;refine⟨C13.out,?_⟩;refine yG ?_;refine oE 11 ?_;refine wp_app _ _ 124 (by rfl) sl_fileD (v:=(.slice a13 (i+1) p13)) (n:=(i+1)) (xs:=(fcs (d.take i)++fcs [xx])) F13.out.own (by rfl) (vx:=(.slice ax (n - i) (cap - i))) (m:=(n - i)) (news:=fcs (d.drop i)) (HS2.out _ C13.out) (by rfl) (fcs_ones _) (by have:=HBB.out;omega) (by have:=HBB.out;omega) ?_;intro v14 w14 o14 e14 n14;have F14:Hid (Fresh W0 w14 134 5 v14 (i+1+(n - i)) (fcs (d.take i)++fcs [xx]++fcs (d.drop i))):=by have h:=F13.out.app o14 e14 n14;first | exact h | (rw[Nat.zero_add] at h;exact h)
   have C14:=zH F14.out.chg;obtain⟨a14,p14,hv14,-⟩:=F14.out.shape;subst hv14;clear o14 e14 n14;refine⟨C14.out,?_⟩;refine yG ?_;refine tE 12 (.slice a14 (i+1+(n - i)) p14) C14.out (fun w4 c4=>?_) ?_;·go_simp
   refine yG ?_;refine wpAnyE_done (by kernel_rfl) ?_ _;have HF:=zH (HRES.out _ _ F14.out);go_wp2_with fail;go_ret;exact⟨_,rfl,HF.out⟩
end Go.Proofs.YtlbdklaggalgfaaGreatDoor
