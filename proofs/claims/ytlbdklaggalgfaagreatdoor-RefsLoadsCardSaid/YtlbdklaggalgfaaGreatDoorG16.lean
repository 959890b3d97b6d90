/- Fp2 Fp3 Fp4 -/
import Derived.Test.YtlbdklaggalgfaaGreatDoorG15
set_option linter.unusedSimpArgs false
set_option linter.unusedVariables false
namespace Go.Aq.Fy
section
open Go.Aq Go.RowKit
section
variable {α β:Type}
theorem ins_perm {s:Nm} {v:α}:∀{l:List (Nm×α)},Asc l→(insK s v l).Perm ((s,v)::delK s l)
 | [],_=>.refl _
 | (k,x)::l,h=>by
  obtain⟨h1,h2⟩:=List.pairwise_cons.1 h;have hd:∀(p:Nm×α) (l:List (Nm×α)),delK s (p::l)=if p.1=s then delK s l else p::delK s l:=fun p l=>by
   unfold delK;by_cases e:p.1=s;·rw[List.filter_cons_of_neg (by simp[e]),if_pos e]
   ·rw[List.filter_cons_of_pos (by simp[e]),if_neg e]
  rw[hd];unfold insK;by_cases e:k=s
  ·subst e;simp only[if_true];have:delK k l=l:=List.filter_eq_self.2 fun p hp=>by
    have h3:=h1 p hp;have:p.1≠k:=fun e=>by simp only[e] at h3;exact List.lt_irrefl _ h3
    simp[this]
   rw[this]
  ·simp only[if_neg e];split
   ·rename_i hlt;have:delK s l=l:=List.filter_eq_self.2 fun p hp=>by
     have h3:=List.lt_trans hlt (h1 p hp);have:p.1≠s:=fun e=>by rw[e] at h3;exact List.lt_irrefl _ h3
     simp[this]
    rw[this]
   ·exact ((ins_perm h2).cons _).trans (List.Perm.swap _ _ _)
theorem del_perm {s:Nm} {v:α}:∀{l:List (Nm×α)},Asc l→lookK s l=some v→l.Perm ((s,v)::delK s l)
 | [],_,h=>by cases h
 | (k,x)::l,ha,h=>by
  obtain⟨h1,h2⟩:=List.pairwise_cons.1 ha;unfold lookK at h;unfold delK;by_cases e:k=s
  ·subst e;simp only[if_true,Option.some.injEq] at h;subst h;rw[List.filter_cons_of_neg (by simp)];have:l.filter (fun p=>!decide (p.1=k))=l:=List.filter_eq_self.2 fun p hp=>by
    have h3:=h1 p hp;have:p.1≠k:=fun e=>by simp only[e] at h3;exact List.lt_irrefl _ h3
    simp[this]
   rw[this]
  ·rw[if_neg e] at h;rw[List.filter_cons_of_pos (by simp[e])];exact ((del_perm h2 h).cons _).trans (List.Perm.swap _ _ _)
def mapK (f:Nm→α→β) (l:List (Nm×α)):List (Nm×β):=l.map fun p=>(p.1,f p.1 p.2)
theorem mapK_look (f:Nm→α→β) (s:Nm):∀l:List (Nm×α),lookK s (mapK f l)=(lookK s l).map (f s)
 | []=>rfl
 | (k,x)::l=>by
  unfold mapK lookK;simp only[List.map_cons];by_cases e:k=s;·simp[e]
  ·simp only[if_neg e];exact mapK_look f s l
theorem mapK_asc {f:Nm→α→β} {l:List (Nm×α)} (h:Asc l):Asc (mapK f l):=List.pairwise_map.2 h
theorem mapK_len (f:Nm→α→β) (l:List (Nm×α)):(mapK f l).length=l.length:=by simp[mapK]
end
def blks (l:Files):List Nat:=l.flatMap fun p=>p.2.blocks
theorem usedF_iff {l:Files} {k:Nat}:usedF l k=true↔k∈blks l:=by
 unfold usedF blks;simp[List.any_eq_true,List.mem_flatMap]
theorem blks_perm {l m:Files} (h:l.Perm m):(blks l).Perm (blks m):=h.flatMap_right _
theorem blks_cons (p:Nm×FileD) (l:Files):blks (p::l)=p.2.blocks++blks l:=rfl
theorem blks_del (s:Nm) (l:Files):(blks (delK s l)).Sublist (blks l):=by
 induction l with
 | nil=>exact .slnil
 | cons p l ih=>
  unfold delK at ih ⊢;by_cases e:p.1=s
  ·rw[List.filter_cons_of_neg (by simp[e]),blks_cons];exact ih.trans (List.sublist_append_right _ _)
  ·rw[List.filter_cons_of_pos (by simp[e]),blks_cons,blks_cons];exact ih.append_left _
structure FilesOk (all:Nat) (l:Files):Prop where
 asc:Asc l
 few:l.length≤400
 name:∀p∈l,nameOk p.1=true
 size:∀p∈l,p.2.size≤65535∧p.2.blocks.length=cnt p.2.size
 bound:∀k∈blks l,k<all
 nodup:(blks l).Nodup
theorem FilesOk.nil (all:Nat):FilesOk all []:=⟨asc_nil,by simp,by simp,by simp,by simp[blks],by simp[blks]⟩
structure WorkOk (used:List Nat) (W:WorkD):Prop where
 asc:Asc W.files
 asc2:Asc W.fresh
 sub:∀s b,lookK s W.fresh=some b→lookK s W.files=some ⟨b.length,[]⟩∧b.length≤65535
 old:∀s x,lookK s W.files=some x→lookK s W.fresh=none→x.size≤65535∧x.blocks.length=cnt x.size
 name:∀p∈W.files,nameOk p.1=true
 few:W.files.length≤400
 nodup:(blks W.files).Nodup
 used:∀k∈blks W.files,k∈used
theorem WorkOk.start {all:Nat} {l:Files} (h:FilesOk all l):WorkOk (blks l) ⟨l,[]⟩:=
 ⟨h.asc,asc_nil,fun s b e=>absurd e (by simp[lookK]),fun s x hx _=>h.size _ (look_mem hx),h.name,h.few,h.nodup,fun k hk=>hk⟩
abbrev View:=List (Nm×Sec)
def viewW (R:FileD→Sec) (W:WorkD):View:=mapK (fun s x=>match lookK s W.fresh with | some b=>b | none=>R x) W.files
def tellV (v:View) (s:Nm) (b:Sec):View×Nat:=if 65535<b.length∨((lookK s v).isSome=false∧400≤v.length) then (v,10) else (insK s b v,0)
def renameV (v:View) (s t:Nm):View×Nat:=
 match lookK s v with
 | none=>(v,6)
 | some b=>if s=t then (v,0) else if (lookK t v).isSome then (v,7) else (delK s (insK t b v),0)
def oneV (v:View) (c:ChangeD):View×Nat:=
 if nameOk c.name=false∨(c.kind=4∧nameOk c.tonm=false) then (v,16)
 else if c.kind=2∨(c.kind=1∧(lookK c.name v).isSome=false) then tellV v c.name c.data
 else if c.kind=1 then (v,7)
 else if c.kind=3 then (match lookK c.name v with | some b=>tellV v c.name (b++c.data) | none=>(v,6))
 else if c.kind=4 then renameV v c.name c.tonm
 else if c.kind≠5 then (v,1)
 else if (lookK c.name v).isSome then (delK c.name v,0) else (v,6)
def allV:View→List ChangeD→View×Nat
 | v,[]=>(v,0)
 | v,c::l=>if (oneV v c).2=0 then allV (oneV v c).1 l else oneV v c
theorem view_look (R:FileD→Sec) (W:WorkD) (s:Nm):lookK s (viewW R W)=(lookK s W.files).map fun x=>match lookK s W.fresh with | some b=>b | none=>R x:=mapK_look _ _ _
theorem view_has (R:FileD→Sec) (W:WorkD) (s:Nm):(lookK s (viewW R W)).isSome=hasF W.files s:=by rw[view_look];simp[hasF]
theorem view_len (R:FileD→Sec) (W:WorkD):(viewW R W).length=W.files.length:=mapK_len _ _
def Step (used:List Nat) (R:FileD→Sec) (W:WorkD) (r:WorkD×Nat) (v:View×Nat):Prop:=WorkOk used r.1∧viewW R r.1=v.1∧r.2=v.2
theorem Step.same {used:List Nat} {R:FileD→Sec} {W:WorkD} (h:WorkOk used W) (e:Nat):Step used R W (W,e) (viewW R W,e):=⟨h,rfl,rfl⟩
theorem tell_step {used:List Nat} {R:FileD→Sec} {W:WorkD} (h:WorkOk used W) (s:Nm) (b:Sec) (hs:nameOk s=true):Step used R W (tellW W s b) (tellV (viewW R W) s b):=by
 unfold tellW tellV;rw[view_has,view_len];split;·exact Step.same h 10
 ·rename_i hc;simp only[not_or,not_and,Nat.not_lt,Nat.not_le] at hc;obtain⟨hc1,hc2⟩:=hc;have hv:viewW R ⟨insK s ⟨b.length,[]⟩ W.files,insK s b W.fresh⟩=insK s b (viewW R W):=by
   refine asc_ext (mapK_asc (asc_ins _ _ h.asc)) (asc_ins _ _ (mapK_asc h.asc)) fun t=>?_
   rw[view_look];by_cases e:t=s;·subst e;simp[look_ins_same]
   ·simp only[look_ins_ne e,view_look]
  refine⟨⟨asc_ins _ _ h.asc,asc_ins _ _ h.asc2,fun t c ht=>?_,fun t x ht hn=>?_,fun p hp=>?_,?_,?_,?_⟩,hv,rfl⟩
  ·by_cases e:t=s
   ·subst e;simp only[look_ins_same,Option.some.injEq] at ht;subst ht;simp only[look_ins_same];exact⟨trivial,hc1⟩
   ·simp only[look_ins_ne e] at ht ⊢;exact h.sub t c ht
  ·by_cases e:t=s;·subst e;simp only[look_ins_same] at hn;cases hn
   ·simp only[look_ins_ne e] at ht hn;exact h.old t x ht hn
  ·rcases mem_ins hp with rfl | hp
   ·exact hs
   ·exact h.name p hp
  ·show (insK s _ W.files).length≤400;cases hl:lookK s W.files with
   | none=>
    rw[ins_length_new _ _ hl];have:=hc2 (by unfold hasF;rw[hl];rfl);omega
   | some x=>rw[ins_length_old _ _ h.asc (by rw[hl];simp)];exact h.few
  ·refine ((blks_perm (ins_perm h.asc)).nodup_iff).2 ?_;rw[blks_cons];exact (blks_del s W.files).nodup h.nodup
  ·intro k hk;have hk':=(blks_perm (ins_perm h.asc)).mem_iff.1 hk;rw[blks_cons] at hk';simp only[List.nil_append] at hk';exact h.used k ((blks_del s W.files).subset hk')
theorem gone_step {used:List Nat} {R:FileD→Sec} {W:WorkD} (h:WorkOk used W) (s:Nm):Step used R W (goneW W s,0) (delK s (viewW R W),0):=by
 have hv:viewW R (goneW W s)=delK s (viewW R W):=by
  refine asc_ext (mapK_asc (asc_del _ h.asc)) (asc_del _ (mapK_asc h.asc)) fun t=>?_
  rw[view_look];unfold goneW;by_cases e:t=s;·subst e;simp[look_del_same]
  ·simp only[look_del_ne e,view_look]
 refine⟨⟨asc_del _ h.asc,asc_del _ h.asc2,fun t c ht=>?_,fun t x ht hn=>?_,fun p hp=>h.name p (mem_del hp).1,Nat.le_trans (del_length_le _ _) h.few,(blks_del s W.files).nodup h.nodup,fun k hk=>h.used k ((blks_del s W.files).subset hk)⟩,hv,rfl⟩
 ·unfold goneW at ht ⊢;by_cases e:t=s;·subst e;simp only[look_del_same] at ht;cases ht
  ·simp only[look_del_ne e] at ht ⊢;exact h.sub t c ht
 ·unfold goneW at ht hn;by_cases e:t=s;·subst e;simp only[look_del_same] at ht;cases ht
  ·simp only[look_del_ne e] at ht hn;exact h.old t x ht hn
theorem rename_step {used:List Nat} {R:FileD→Sec} {W:WorkD} (h:WorkOk used W) (s t:Nm) (ht:nameOk t=true):Step used R W (renameW W s t) (renameV (viewW R W) s t):=by
 unfold renameW renameV;rw[view_look,view_has];cases hx:lookK s W.files with
 | none=>exact Step.same h 6
 | some x=>
  simp only[Option.map_some];by_cases hst:s=t;·rw[if_pos hst,if_pos hst];exact Step.same h 0
  ·rw[if_neg hst,if_neg hst];cases hq:hasF W.files t with
   | true=>simp only[if_true];exact Step.same h 7
   | false=>
    simp only[Bool.false_eq_true,if_false];have hn:lookK t W.files=none:=by unfold hasF at hq;exact Option.isNone_iff_eq_none.1 (by simpa using hq)
    have hfn:lookK t W.fresh=none:=by
     cases hf:lookK t W.fresh with
     | none=>rfl
     | some b=>rw[(h.sub t b hf).1] at hn;cases hn
    have hp:(blks (delK s (insK t x W.files))).Perm (blks W.files):=by
     have e1:lookK s (insK t x W.files)=some x:=by rw[look_ins_ne hst];exact hx
     have p1:=blks_perm (del_perm (asc_ins t x h.asc) e1);have p2:=blks_perm (ins_perm (s:=t) (v:=x) h.asc);rw[blks_cons] at p1 p2;have p3:delK t W.files=W.files:=List.filter_eq_self.2 fun p hp=>by
      have:=look_none.1 hn p hp;simp[this]
     rw[p3] at p2;exact (List.perm_append_left_iff _).1 (p1.symm.trans p2)
    have mk:∀fr:List (Nm×Sec),fr=(match lookK s W.fresh with | some b=>insK t b W.fresh | none=>W.fresh)→Step used R W (goneW ⟨insK t x W.files,fr⟩ s,0) (delK s (insK t (match lookK s W.fresh with | some b=>b | none=>R x) (viewW R W)),0):=by
     intro fr hfr;have hasc:Asc fr:=by
      rw[hfr];split;·exact asc_ins _ _ h.asc2
      ·exact h.asc2
     have hlt:∀r,r≠t→lookK r fr=lookK r W.fresh:=fun r hr=>by
      rw[hfr];split;·exact look_ins_ne hr _ _
      ·rfl
     have hlt2:lookK t fr=lookK s W.fresh:=by
      rw[hfr];split;·rename_i b hb;rw[look_ins_same,hb]
      ·rename_i hb;rw[hfn,hb]
     refine⟨⟨asc_del _ (asc_ins _ _ h.asc),asc_del _ hasc,fun r c hr=>?_,fun r y hr hn2=>?_,fun p hp=>?_,?_,hp.nodup_iff.2 h.nodup,fun k hk=>h.used k (hp.mem_iff.1 hk)⟩,?_,rfl⟩
     ·unfold goneW at hr ⊢;by_cases e:r=s;·subst e;simp only[look_del_same] at hr;cases hr
      ·simp only[look_del_ne e] at hr ⊢;by_cases e2:r=t
       ·subst e2;rw[hlt2] at hr;rw[look_ins_same];obtain⟨h1,h2⟩:=h.sub s c hr;rw[hx] at h1;exact⟨h1,h2⟩
       ·rw[hlt r e2] at hr;rw[look_ins_ne e2];exact h.sub r c hr
     ·unfold goneW at hr hn2;by_cases e:r=s;·subst e;simp only[look_del_same] at hr;cases hr
      ·simp only[look_del_ne e] at hr hn2;by_cases e2:r=t
       ·subst e2;rw[hlt2] at hn2;rw[look_ins_same] at hr;cases hr;exact h.old s _ hx hn2
       ·rw[hlt r e2] at hn2;rw[look_ins_ne e2] at hr;exact h.old r y hr hn2
     ·rcases mem_ins (mem_del hp).1 with rfl | hp
      ·exact ht
      ·exact h.name p hp
     ·have h1:=(del_perm (asc_ins t x h.asc) (show lookK s (insK t x W.files)=some x by rw[look_ins_ne hst];exact hx)).length_eq;have h2:=ins_length_new t x hn;have h3:=h.few;simp only[List.length_cons] at h1;show (delK s (insK t x W.files)).length≤400;omega
     ·refine asc_ext (mapK_asc (asc_del _ (asc_ins _ _ h.asc))) (asc_del _ (asc_ins _ _ (mapK_asc h.asc))) fun r=>?_
      rw[view_look];unfold goneW;by_cases e:r=s;·subst e;simp[look_del_same]
      ·simp only[look_del_ne e];by_cases e2:r=t;·subst e2;simp only[look_ins_same,hlt2,Option.map_some]
       ·simp only[look_ins_ne e2,hlt r e2,view_look]
    have:=mk _ rfl;cases hf:lookK s W.fresh with
    | none=>rw[hf] at this;exact this
    | some b=>rw[hf] at this;exact this
theorem one_step {F:FsD} {used:List Nat} {W:WorkD} (h:WorkOk used W) (c:ChangeD):Step used (bytesB F) W (oneW F W c) (oneV (viewW (bytesB F) W) c):=by
 unfold oneW oneV;rw[view_has];split;·exact Step.same h 16
 ·rename_i hn;have hnm:nameOk c.name=true:=by
   cases hc:nameOk c.name with
   | true=>rfl
   | false=>exact absurd (.inl hc) hn
  split;·exact tell_step h _ _ hnm
  ·split;·exact Step.same h 7
   ·split
    ·unfold hasF;rw[view_look];cases hx:lookK c.name W.files with
     | none=>simp only[Option.isSome_none,Bool.false_eq_true,if_false,Option.map_none];exact Step.same h 6
     | some x=>
      simp only[Option.isSome_some,if_true,Option.map_some];have:bytesW F W c.name=(match lookK c.name W.fresh with | some b=>b | none=>bytesB F x):=by unfold bytesW;rw[hx];cases lookK c.name W.fresh <;> rfl
      rw[this];exact tell_step h _ _ hnm
    ·split
     ·rename_i h4;exact rename_step h _ _ (by
       cases hc:nameOk c.tonm with
       | true=>rfl
       | false=>exact absurd (.inr ⟨h4,hc⟩) hn)
     ·split;·exact Step.same h 1
      ·split;·exact gone_step h _
       ·exact Step.same h 6
theorem all_step {F:FsD} {used:List Nat}:∀(l:List ChangeD) {W:WorkD},WorkOk used W→Step used (bytesB F) W (allW F W l) (allV (viewW (bytesB F) W) l)
 | [],W,h=>Step.same h 0
 | c::l,W,h=>by
  obtain⟨h1,h2,h3⟩:=one_step (F:=F) h c;unfold allW allV;rw[←h3];split;·rw[←h2];exact all_step l h1
  ·exact⟨h1,h2,h3⟩
end
section
open Go.Aq Go.RowKit
theorem cnt_le (n:Nat):n≤cnt n * 256:=by unfold cnt;omega
theorem nodup_get {α:Type} {l:List α} (h:l.Nodup) {i j:Nat} (hi:i<l.length) (hj:j<l.length) (e:l[i]=l[j]):i=j:=by
 have hp:=List.pairwise_iff_getElem.1 h;rcases Nat.lt_trichotomy i j with h1 | h1 | h1
 ·exact absurd e (hp i j hi hj h1)
 ·exact h1
 ·exact absurd e.symm (hp j i hj hi h1)
theorem nodup_of_get {α:Type} {l:List α} (h:∀i j (hi:i<l.length) (hj:j<l.length),l[i]=l[j]→i=j):l.Nodup:=
 List.pairwise_iff_getElem.2 fun i j hi hj hij e=>by have:=h i j hi hj e;omega
theorem setAll_each {l:Puts} {f:Nat→Sec} (h:(l.map (·.1)).Nodup):∀p∈l,setAll f l p.1=p.2:=by
 intro p hp;refine setAll_in ⟨p,hp,rfl⟩ fun q hq e=>?_
 have:q=p:=by
  obtain⟨i,hi,rfl⟩:=List.getElem_of_mem hq;obtain⟨j,hj,rfl⟩:=List.getElem_of_mem hp;have:=nodup_get h (i:=i) (j:=j) (by simpa using hi) (by simpa using hj) (by simpa using e);subst this;rfl
 rw[this]
theorem flat_pieces {g:Nat→Sec}:∀(ks:List Nat) (B:Sec),B.length=256 * ks.length→(∀i (h:i<ks.length),g (ks[i]'h)=(B.drop (256 * i)).take 256)→ks.flatMap g=B
 | [],B,h,_=>by
  have:B=[]:=List.eq_nil_of_length_eq_zero (by simpa using h);simp[this]
 | k::ks,B,h,hg=>by
  simp only[List.length_cons] at h;have h0:=hg 0 (by simp);simp only[List.getElem_cons_zero,Nat.mul_zero,List.drop_zero] at h0;rw[List.flatMap_cons,h0,flat_pieces ks (B.drop 256) (by simp;omega) fun i hi=>by
   have:=hg (i+1) (by simp;omega);simp only[List.getElem_cons_succ] at this;rw[this,List.drop_drop];congr 2;omega]
  exact List.take_append_drop _ _
theorem blockP_keys (first:Nat) (b:Sec) (ks:List Nat):(blockP first b ks).map (·.1)=ks.map (first+·):=by
 unfold blockP;refine List.ext_getElem (by simp) fun i h1 h2=>by simp
theorem blockP_mem {first:Nat} {b:Sec} {ks:List Nat} {i:Nat} (h:i<ks.length):(first+ks[i]'h,((b++nul (cnt b.length * 256 - b.length)).drop (256 * i)).take 256)∈blockP first b ks:=by
 unfold blockP;rw[List.mem_mapIdx];exact⟨i,h,rfl⟩
theorem placeP_keys (first:Nat):∀(r:List (Nm×Sec)) (free:List Nat),(placeP first r free).map (·.1)=(free.take (needW r)).map (first+·)
 | [],free=>by simp[placeP,needW]
 | (s,b)::r,free=>by
  unfold placeP;rw[List.map_append,blockP_keys,placeP_keys first r,←List.map_append];congr 1;rw[show needW ((s,b)::r)=cnt b.length+needW r by simp[needW],List.take_add]
theorem placeP_ok {first all:Nat}:∀{r:List (Nm×Sec)} {free:List Nat},(∀k∈free,k<all)→OkP (first+all) (placeP first r free)
 | [],free,_=>OkP.nil _
 | (s,b)::r,free,h=>by
  unfold placeP;refine OkP.app (fun p hp=>?_) (placeP_ok fun k hk=>h k (List.mem_of_mem_drop hk));unfold blockP at hp;rw[List.mem_mapIdx] at hp;obtain⟨i,hi,rfl⟩:=hp;have h1:=h _ (List.mem_of_mem_take (List.getElem_mem hi));have h2:=cnt_le b.length;have h3:i<cnt b.length:=by simp only[List.length_take] at hi;omega
  refine⟨by simp only;omega,?_⟩;simp only[List.length_take,List.length_drop,List.length_append,nul,List.length_replicate];omega
structure PlaceOk (all:Nat) (r:List (Nm×Sec)) (free:List Nat) (l:Files):Prop where
 asc:Asc l
 asc2:Asc r
 sub:∀s b,lookK s r=some b→lookK s l=some ⟨b.length,[]⟩∧b.length≤65535
 old:∀s x,lookK s l=some x→lookK s r=none→x.size≤65535∧x.blocks.length=cnt x.size
 name:∀p∈l,nameOk p.1=true
 few:l.length≤400
 nodup:(blks l++free).Nodup
 bound:∀k∈blks l++free,k<all
 room:needW r≤free.length
theorem PlaceOk.start {F:FsD} {W:WorkD} (hF:FilesOk (allF F) F.files) (h:WorkOk (blks F.files) W) (hn:needW W.fresh≤(freeF F).length):PlaceOk (allF F) W.fresh (freeF F) W.files:=by
 have hfr:∀k∈freeF F,k<allF F∧k∉blks F.files:=fun k hk=>by
  unfold freeF at hk;obtain⟨h1,h2⟩:=List.mem_filter.1 hk;refine⟨List.mem_range.1 h1,fun h3=>?_⟩;rw[usedF_iff.2 h3] at h2;cases h2
 refine⟨h.asc,h.asc2,h.sub,h.old,h.name,h.few,List.nodup_append.2 ⟨h.nodup,List.Pairwise.filter _ List.nodup_range,fun a ha b hb e=>?_⟩,fun k hk=>?_,hn⟩;·subst e;exact (hfr a hb).2 (h.used a ha)
 ·rcases List.mem_append.1 hk with hk | hk
  ·exact hF.bound k (h.used k hk)
  ·exact (hfr k hk).1
theorem place_ok {all first:Nat}:∀{r:List (Nm×Sec)} {free:List Nat} {l:Files},PlaceOk all r free l→FilesOk all (placeF r free l)∧(∀s,lookK s r=none→lookK s (placeF r free l)=lookK s l)∧
  (∀s b,lookK s r=some b→∃ks,lookK s (placeF r free l)=some ⟨b.length,ks⟩∧ks.length=cnt b.length∧∀p∈blockP first b ks,p∈placeP first r free)∧(∀k∈blks (placeF r free l),k∈blks l∨k∈free)
 | [],free,l,h=>⟨⟨h.asc,h.few,h.name,fun p hp=>h.old p.1 p.2 (look_of_mem h.asc hp) rfl,fun k hk=>h.bound k (List.mem_append_left _ hk),(List.nodup_append.1 h.nodup).1⟩,fun _ _=>rfl,fun _ _ e=>absurd e (by simp[lookK]),fun k hk=>.inl (by simpa[placeF] using hk)⟩
 | (s,b)::r,free,l,h=>by
  obtain⟨a1,a2⟩:=List.pairwise_cons.1 h.asc2;have hsr:lookK s r=none:=look_none.2 fun p hp e=>by
   have:=a1 p hp;simp only[e] at this;exact List.lt_irrefl _ this
  have hsl:=h.sub s b (by simp[lookK]);have hroom:cnt b.length+needW r≤free.length:=by have:=h.room;simpa[needW] using this
  have hlt:(free.take (cnt b.length)).length=cnt b.length:=by simp;omega
  have hperm:(insK s ⟨b.length,free.take (cnt b.length)⟩ l).Perm ((s,⟨b.length,free.take (cnt b.length)⟩)::delK s l):=ins_perm h.asc;have hbl:(blks (insK s ⟨b.length,free.take (cnt b.length)⟩ l)).Perm (free.take (cnt b.length)++blks l):=by
   have p1:=blks_perm hperm;have p2:=blks_perm (del_perm h.asc hsl.1);rw[blks_cons] at p1 p2;exact p1.trans (List.Perm.append_left _ p2.symm)
  have hall:(blks (insK s ⟨b.length,free.take (cnt b.length)⟩ l)++free.drop (cnt b.length)).Perm (blks l++free):=by
   refine (hbl.append_right _).trans ?_;rw[List.append_assoc];refine (List.perm_append_comm_assoc _ _ _).trans ?_;rw[List.take_append_drop]
  have hp:PlaceOk all r (free.drop (cnt b.length)) (insK s ⟨b.length,free.take (cnt b.length)⟩ l):=by
   refine⟨asc_ins _ _ h.asc,a2,fun t c ht=>?_,fun t x ht hn=>?_,fun p hp=>?_,?_,hall.nodup_iff.2 h.nodup,fun k hk=>h.bound k (hall.mem_iff.1 hk),by simp;omega⟩
   ·have e:t≠s:=fun e=>by rw[e,hsr] at ht;cases ht
    rw[look_ins_ne e];exact h.sub t c (by unfold lookK;rw[if_neg (Ne.symm e)];exact ht)
   ·by_cases e:t=s
    ·subst e;rw[look_ins_same] at ht;cases ht;exact⟨hsl.2,hlt⟩
    ·rw[look_ins_ne e] at ht;exact h.old t x ht (by unfold lookK;rw[if_neg (Ne.symm e)];exact hn)
   ·rcases mem_ins hp with rfl | hp
    ·have:=h.name _ (look_mem hsl.1);exact this
    ·exact h.name p hp
   ·rw[ins_length_old _ _ h.asc (by rw[hsl.1];simp)];exact h.few
  obtain⟨i1,i2,i3,i4⟩:=place_ok (first:=first) hp;refine⟨i1,fun t ht=>?_,fun t c ht=>?_,fun k hk=>?_⟩
  ·unfold lookK at ht;split at ht;·cases ht
   ·rename_i e;show lookK t (placeF r _ _)=_;rw[i2 t ht,look_ins_ne (Ne.symm e)]
  ·unfold lookK at ht;split at ht
   ·rename_i e;subst e;cases ht;refine⟨free.take (cnt b.length),?_,hlt,fun p hp=>?_⟩
    ·show lookK s (placeF r _ _)=_;rw[i2 s hsr,look_ins_same]
    ·unfold placeP;exact List.mem_append_left _ hp
   ·obtain⟨ks,k1,k2,k3⟩:=i3 t c ht;exact⟨ks,k1,k2,fun p hp=>by unfold placeP;exact List.mem_append_right _ (k3 p hp)⟩
  ·have h1:=i4 k hk;have h2:k∈blks (insK s ⟨b.length,free.take (cnt b.length)⟩ l)++free.drop (cnt b.length):=List.mem_append.2 h1;exact List.mem_append.1 (hall.mem_iff.1 h2)
theorem placed_bytes {first:Nat} {b:Sec} {ks:List Nat} {g:Nat→Sec} (hk:ks.length=cnt b.length) (hg:∀p∈blockP first b ks,g p.1=p.2):(ks.flatMap fun k=>g (first+k)).take b.length=b:=by
 have h:=cnt_le b.length;rw[flat_pieces (g:=fun k=>g (first+k)) ks (b++nul (cnt b.length * 256 - b.length)) (by simp[nul];omega) fun i hi=>hg _ (blockP_mem hi)];simp
theorem beVal_fold (l:List UInt8):∀a:Nat,l.foldl (fun n x=>n * 256+x.toNat) a=a * 256^l.length+beVal l:=by
 induction l with
 | nil=>intro a;simp[beVal]
 | cons x l ih=>
  intro a;unfold beVal;simp only[List.foldl_cons,List.length_cons];rw[ih,ih (0 * 256+x.toNat)];rw[Nat.pow_succ,Nat.add_mul,Nat.add_mul,Nat.zero_mul,Nat.mul_assoc,Nat.mul_comm 256];omega
theorem beVal_cons (x:UInt8) (l:List UInt8):beVal (x::l)=x.toNat * 256^l.length+beVal l:=by
 have:=beVal_fold l (0 * 256+x.toNat);unfold beVal at this ⊢;simp only[List.foldl_cons];rw[this];simp
theorem beB_succ (n k:Nat):beB n (k+1)=UInt8.ofNat (n / 2^(8 * k))::beB n k:=by
 unfold beB leBy;rw[List.range_succ,List.map_append,List.reverse_append];rfl
theorem beVal_beB_mod (n:Nat):∀k,beVal (beB n k)=n % 256^k
 | 0=>by simp[beB,leBy,beVal,Nat.mod_one]
 | k+1=>by
  rw[beB_succ,beVal_cons,beB_length,beVal_beB_mod n k];have e:2^(8 * k)=256^k:=by rw[Nat.pow_mul]
  rw[e];have h2:(UInt8.ofNat (n / 256^k)).toNat=n / 256^k % 256:=by simp
  rw[h2,Nat.pow_succ,Nat.mod_mul,Nat.mul_comm (256^k)];omega
theorem beVal_beB {n k:Nat} (h:n<256^k):beVal (beB n k)=n:=by rw[beVal_beB_mod,Nat.mod_eq_of_lt h]
theorem fill_len4 {b:Sec} (h:b.length≤256):(fill b).length=256:=by unfold fill nul;simp;omega
theorem fill_take {b:Sec} (n:Nat) (h:n≤b.length):(fill b).take n=b.take n:=by unfold fill;rw[List.take_append_of_le_length h]
theorem fill_part {b:Sec} (i n:Nat) (h:i+n≤b.length):((fill b).drop i).take n=(b.drop i).take n:=by
 unfold fill;rw[List.drop_append_of_le_length (by omega),List.take_append_of_le_length (by simp;omega)]
theorem headB_length (r s p:Nat):(headB r s p).length=256:=fill_len4 (by simp[beB_length])
theorem markB_length (s p n:Nat):(markB s p n).length=256:=fill_len4 (by simp[beB_length])
theorem mark_seq {s p n:Nat}:((markB s p n).drop 2).take 6=beB s 6:=by
 unfold markB;rw[fill_part _ _ (by simp[beB_length])];rw[List.append_assoc,List.append_assoc,List.drop_append_of_le_length (by simp)];simp[beB_length]
theorem mark_ne {s s' p p' n n':Nat} (h:s<2^48) (h':s'<2^48) (hne:s≠s'):markB s p n≠markB s' p' n':=fun e=>by
 have:=congrArg (fun b:Sec=>beVal ((b.drop 2).take 6)) e;simp only[mark_seq] at this;rw[beVal_beB (by simpa using h),beVal_beB (by simpa using h')] at this;exact hne this
theorem head_of {r s p:Nat} (hr:r<65536) (hs:s<2^48) (hp:p<65536):headOf (headB r s p)=⟨r,s,p⟩:=by
 unfold headOf headB;rw[fill_part _ _ (by simp[beB_length]),fill_part _ _ (by simp[beB_length]),fill_part _ _ (by simp[beB_length])];have e1:((([65,81]++beB r 2++beB s 6++beB p 2:Sec).drop 2).take 2)=beB r 2:=by
  rw[List.append_assoc,List.append_assoc,List.drop_append_of_le_length (by simp)];simp[beB_length]
 have e2:((([65,81]++beB r 2++beB s 6++beB p 2:Sec).drop 4).take 6)=beB s 6:=by
  rw[List.append_assoc,List.drop_append_of_le_length (by simp[beB_length]),List.drop_eq_nil_of_le (by simp[beB_length])];simp[beB_length]
 have e3:((([65,81]++beB r 2++beB s 6++beB p 2:Sec).drop 10).take 2)=beB p 2:=by
  rw[List.drop_append_of_le_length (by simp[beB_length]),List.drop_eq_nil_of_le (by simp[beB_length])];simp[beB_length,List.take_of_length_le]
 rw[e1,e2,e3,beVal_beB (by simpa using hr),beVal_beB (by simpa using hs),beVal_beB (by simpa using hp)]
def Unmarked (g:Nat→Sec) (L:LogD):Prop:=∀k,k<65536→g 1≠markB L.seq L.pos k
theorem val2_lt (b:Sec):beVal ((b.drop 10).take 2)<65536:=by
 have h1:=beVal_lt ((b.drop 10).take 2);have h2:((b.drop 10).take 2).length≤2:=by simp;omega
 have h3:256^((b.drop 10).take 2).length≤256^2:=Nat.pow_le_pow_right (by decide) h2;omega
theorem unmarked_n {D:DiskD} {L:LogD} (h:Unmarked D.now L):markedN D L=0:=by
 unfold markedN;simp only;rw[if_neg fun e=>h _ (val2_lt _) e.1]
theorem need_eq {n:Nat} (h:0<n):need n=n+(n+63) / 64:=by
 unfold need;rw[if_neg (by omega)];omega
theorem inL_inj {L:LogD} {i j:Nat} (hi:i<L.ring) (hj:j<L.ring) (h:inL L i=inL L j):i=j:=by
 unfold inL at h;have h1:(L.pos+i) % L.ring=(L.pos+j) % L.ring:=by omega
 rcases Nat.lt_trichotomy i j with hlt | he | hlt
 ·have:=Nat.sub_mod_eq_zero_of_mod_eq h1.symm;rw[show L.pos+j - (L.pos+i)=j - i by omega,Nat.mod_eq_of_lt (by omega)] at this;omega
 ·exact he
 ·have:=Nat.sub_mod_eq_zero_of_mod_eq h1;rw[show L.pos+i - (L.pos+j)=i - j by omega,Nat.mod_eq_of_lt (by omega)] at this;omega
theorem descs_len (l:Puts) (d:Nat):(descs l d).length=d:=by simp[descs]
theorem chg_len (L:LogD) (l:Puts):(changeL L l).length=(l.length+63) / 64+l.length:=by simp[changeL,descs_len]
theorem chg_key {L:LogD} {l:Puts} {q:Nat×Sec} (h:q∈changeL L l):∃i,i<(l.length+63) / 64+l.length∧q.1=inL L i:=by
 unfold changeL at h;obtain⟨i,hi,rfl⟩:=List.mem_mapIdx.1 h;exact⟨i,by simpa[descs_len] using hi,rfl⟩
theorem pairs_len (m:Puts):(m.flatMap fun p=>beB p.1 2).length=m.length * 2:=by
 induction m with
 | nil=>rfl
 | cons p m ih=>simp[beB_length,ih];omega
theorem chg_ok {L:LogD} {l:Puts} {n:Nat} (hr:0<L.ring) (hn:L.ring+4≤n) (h:∀p∈l,p.2.length=256):OkP n (changeL L l):=by
 intro q hq;obtain⟨i,hi,e⟩:=chg_key hq;refine⟨by rw[e];unfold inL;have:=Nat.mod_lt (L.pos+i) hr;omega,?_⟩;unfold changeL at hq;obtain⟨j,hj,rfl⟩:=List.mem_mapIdx.1 hq;simp only[List.length_append,descs_len,List.length_map] at hj;by_cases hlt:j<(l.length+63) / 64
 ·simp only[List.getElem_append_left (show j<(descs l ((l.length+63) / 64)).length by rw[descs_len];exact hlt)];simp only[descs,List.getElem_map,List.getElem_range];refine fill_len4 ?_;rw[pairs_len];simp;omega
 ·simp only[List.getElem_append_right (show (descs l ((l.length+63) / 64)).length≤j by rw[descs_len];omega),List.getElem_map];exact h _ (List.getElem_mem _)
theorem chg_nodup {L:LogD} {t:Puts} (h0:0<t.length) (h:need t.length≤L.ring):((changeL L t).map (·.1)).Nodup:=by
 have k:∀i (hi:i<((changeL L t).map (·.1)).length),((changeL L t).map (·.1))[i]=inL L i:=fun i hi=>by simp[changeL]
 refine nodup_of_get fun i j hi hj e=>?_
 rw[k i hi,k j hj] at e;simp only[List.length_map,chg_len] at hi hj;rw[need_eq h0] at h;exact inL_inj (by omega) (by omega) e
end
end Go.Aq.Fy
