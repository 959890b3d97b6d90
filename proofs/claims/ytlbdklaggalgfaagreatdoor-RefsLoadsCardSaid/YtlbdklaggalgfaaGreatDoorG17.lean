/- Fp5 Fp6 FzM -/
import Derived.Test.YtlbdklaggalgfaaGreatDoorG16
set_option linter.unusedSimpArgs false
set_option linter.unusedVariables false
set_option maxHeartbeats 4000000
namespace Go.Aq.Fy
section
open Go.Aq Go.RowKit
theorem sub_one {α:Type} {s:List α} {p:α} (h:s.Sublist [p]):s=[]∨s=[p]:=by
 cases h with
 | cons _ h=>exact .inl (List.sublist_nil.1 h)
 | cons_cons _ h=>exact .inr (by rw[List.sublist_nil.1 h])
structure Lies (L:LogD) (mt:Nat) (fs:Files) (g:Nat→Sec):Prop where
 head:g 0=headB L.ring L.seq L.pos
 top:g (homeL L)=topB mt
 tab:∀i,i<mt→g (homeL L+1+i)=(sectorsB mt fs).getD i []
structure Geo (N:Nat) (L:LogD) (M:Nat):Prop where
 n:N≤4096
 ring:0<L.ring
 pos:L.pos<L.ring
 mt:1≤M∧M≤200
 first:homeL L+1+M<N
structure FInv (q:Nat) (F:FsD):Prop where
 geo:Geo F.disk.n F.log F.mt
 rest:Rest F.disk
 seq:F.log.seq≤q
 lies:Lies F.log F.mt F.files F.disk.now
 un:Unmarked F.disk.now F.log
 tlen:(tableB F.files).length≤F.mt * 256
 files:FilesOk (allF F) F.files
def pieceT (m:Nat) (fs:Files) (i:Nat):Sec:=((tableB fs++nul (m * 256 - (tableB fs).length)).drop (256 * i)).take 256
theorem sectorsB_fit {m:Nat} {fs:Files} (h:(tableB fs).length≤m * 256):sectorsB m fs=(List.range m).map (pieceT m fs):=by
 unfold sectorsB;rw[if_neg (by omega)];rfl
theorem sectors_len {m:Nat} {fs:Files} (h:(tableB fs).length≤m * 256):(sectorsB m fs).length=m:=by rw[sectorsB_fit h];simp
theorem sectors_get {m i:Nat} {fs:Files} (h:(tableB fs).length≤m * 256) (hi:i<m):(sectorsB m fs).getD i []=pieceT m fs i:=by
 rw[sectorsB_fit h];simp[List.getD,hi]
theorem piece_len {m i:Nat} {fs:Files} (h:(tableB fs).length≤m * 256) (hi:i<m):(pieceT m fs i).length=256:=by
 unfold pieceT nul;simp only[List.length_take,List.length_drop,List.length_append,List.length_replicate];omega
theorem differ_mem {b:Nat} {old new:List Sec} {p:Nat×Sec}:p∈differB b old new↔∃i,i<old.length∧old.getD i []≠new.getD i []∧p=(b+i,new.getD i []):=by
 unfold differB;simp only[List.mem_map,List.mem_filter,List.mem_range,decide_eq_true_eq];exact⟨fun⟨i,⟨h1,h2⟩,h3⟩=>⟨i,h1,h2,h3.symm⟩,fun⟨i,h1,h2,h3⟩=>⟨i,⟨h1,h2⟩,h3.symm⟩⟩
theorem differ_nodup (b:Nat) (old new:List Sec):((differB b old new).map (·.1)).Nodup:=by
 unfold differB;rw[List.map_map];refine List.pairwise_map.2 ((List.Pairwise.filter _ List.nodup_range).imp fun {i j} h e=>h ?_);simp only[Function.comp] at e;omega
theorem differ_len (b:Nat) (old new:List Sec):(differB b old new).length≤old.length:=by
 unfold differB;rw[List.length_map];exact Nat.le_trans (List.length_filter_le _ _) (by simp)
def diffF (F:FsD) (fs:Files):Puts:=differB (homeL F.log+1) (sectorsB F.mt F.files) (sectorsB F.mt fs)
structure Plan (F:FsD) (bl:Puts) (fs:Files):Prop where
 keys:∀p∈bl,∃k,k∈freeF F∧p.1=firstF F+k
 nodup:(bl.map (·.1)).Nodup
 len:OkP F.disk.n bl
 room:need (diffF F fs).length≤F.log.ring
 tlen:(tableB fs).length≤F.mt * 256
 ok:FilesOk (allF F) fs
def stagesF (F:FsD) (bl:Puts) (fs:Files):List Puts:=(if bl=[] then [] else [bl])++commitP F.log (diffF F fs)
def logF (F:FsD) (fs:Files):LogD:=if diffF F fs=[] then F.log else nextL F.log (diffF F fs).length
def Keeps (F:FsD) (g:Nat→Sec):Prop:=∀k∈blks F.files,g (firstF F+k)=F.disk.now (firstF F+k)
def Has (bl:Puts) (g:Nat→Sec):Prop:=∀p∈bl,g p.1=p.2
def Old (F:FsD) (g:Nat→Sec):Prop:=Lies F.log F.mt F.files g∧Unmarked g F.log∧Keeps F g
def New (F:FsD) (bl:Puts) (fs:Files) (g:Nat→Sec):Prop:=Lies (logF F fs) F.mt fs g∧Unmarked g (logF F fs)∧Keeps F g∧Has bl g
structure Mrk (F:FsD) (bl:Puts) (fs:Files) (g:Nat→Sec):Prop where
 head:g 0=headB F.log.ring F.log.seq F.log.pos
 mark:g 1=markB F.log.seq F.log.pos (diffF F fs).length
 top:g (homeL F.log)=topB F.mt
 ring:Has (changeL F.log (diffF F fs)) g
 tab:∀i,i<F.mt→g (homeL F.log+1+i)=(sectorsB F.mt fs).getD i []∨(homeL F.log+1+i,(sectorsB F.mt fs).getD i [])∈diffF F fs
 keeps:Keeps F g
 has:Has bl g
section
variable {q:Nat} {F:FsD} {bl:Puts} {fs:Files}
theorem Plan.tkey (h:Plan F bl fs) (hF:FInv q F) {p:Nat×Sec} (hp:p∈diffF F fs):∃i,i<F.mt∧p=(homeL F.log+1+i,(sectorsB F.mt fs).getD i []):=by
 obtain⟨i,h1,h2,h3⟩:=differ_mem.1 hp;rw[sectors_len hF.tlen] at h1;exact⟨i,h1,h3⟩
theorem Plan.tok (h:Plan F bl fs) (hF:FInv q F):OkP F.disk.n (diffF F fs):=fun p hp=>by
 obtain⟨i,h1,rfl⟩:=h.tkey hF hp;have:=hF.geo.first;exact⟨by simp only;omega,by simp only;rw[sectors_get h.tlen h1];exact piece_len h.tlen h1⟩
theorem Plan.bkey (h:Plan F bl fs) {p:Nat×Sec} (hp:p∈bl):firstF F≤p.1∧∀k∈blks F.files,p.1≠firstF F+k:=by
 obtain⟨k,h1,h2⟩:=h.keys p hp;refine⟨by omega,fun j hj e=>?_⟩;have:k=j:=by omega
 subst this;unfold freeF at h1;have h3:=(List.mem_filter.1 h1).2;rw[usedF_iff.2 hj] at h3;cases h3
theorem Plan.stagesOk (h:Plan F bl fs) (hF:FInv q F):∀l∈stagesF F bl fs,OkP F.disk.n l:=by
 have hg:=hF.geo.first;have hr:=hF.geo.ring;intro l hl;unfold stagesF at hl;rcases List.mem_append.1 hl with hl | hl
 ·split at hl;·cases hl
  ·rw[List.mem_singleton.1 hl];exact h.len
 ·unfold commitP at hl;split at hl;·cases hl
  ·simp only[List.mem_cons,List.not_mem_nil,or_false] at hl;unfold homeL at hg;rcases hl with rfl | rfl | rfl | rfl
   ·exact chg_ok hr (by omega) fun p hp=>(h.tok hF p hp).2
   ·intro p hp;rw[List.mem_singleton.1 hp];exact⟨by simp only;omega,markB_length _ _ _⟩
   ·exact h.tok hF
   ·intro p hp;unfold headL at hp;rw[List.mem_singleton.1 hp];exact⟨by simp only;omega,headB_length _ _ _⟩
theorem old_blocks (h:Plan F bl fs) (hF:FInv q F) {s:Puts} (hs:s.Sublist bl) {g:Nat→Sec} (hg:Old F g):Old F (setAll g s):=by
 have hh:∀j,j<firstF F→setAll g s j=g j:=fun j hj=>setAll_out fun p hp e=>by have:=(h.bkey (hs.subset hp)).1;omega
 have hlt:homeL F.log+F.mt<firstF F:=by unfold firstF;omega
 have h2:2≤homeL F.log:=by unfold homeL;omega
 obtain⟨⟨l1,l2,l3⟩,u,k⟩:=hg;refine⟨⟨?_,?_,fun i hi=>?_⟩,fun n hn=>?_,fun j hj=>?_⟩;·rw[hh 0 (by omega)];exact l1
 ·rw[hh _ (by omega)];exact l2
 ·rw[hh _ (by omega)];exact l3 i hi
 ·rw[hh 1 (by omega)];exact u n hn
 ·rw[setAll_out fun p hp=>(h.bkey (hs.subset hp)).2 j hj];exact k j hj
theorem old_ring (h:Plan F bl fs) (hF:FInv q F) {s:Puts} (hs:∀p∈s,2≤p.1∧p.1<homeL F.log) {g:Nat→Sec} (hg:Old F g):Old F (setAll g s):=by
 have hh:∀j,(j<2∨homeL F.log≤j)→setAll g s j=g j:=fun j hj=>setAll_out fun p hp e=>by have:=hs p hp;omega
 obtain⟨⟨l1,l2,l3⟩,u,k⟩:=hg;refine⟨⟨?_,?_,fun i hi=>?_⟩,fun n hn=>?_,fun j hj=>?_⟩;·rw[hh 0 (by omega)];exact l1
 ·rw[hh _ (by omega)];exact l2
 ·rw[hh _ (by omega)];exact l3 i hi
 ·rw[hh 1 (by omega)];exact u n hn
 ·rw[hh _ (by unfold firstF;omega)];exact k j hj
theorem has_low (h:Plan F bl fs) {s:Puts} (hs:∀p∈s,p.1<firstF F) {g:Nat→Sec} (hg:Has bl g):Has bl (setAll g s):=fun p hp=>by
 rw[setAll_out fun r hr e=>by have h1:=hs r hr;have h2:=(h.bkey hp).1;omega];exact hg p hp
theorem keeps_low {s:Puts} (hs:∀p∈s,p.1<firstF F) {g:Nat→Sec} (hg:Keeps F g):Keeps F (setAll g s):=fun k hk=>by
 rw[setAll_out fun r hr e=>by have h1:=hs r hr;omega];exact hg k hk
theorem ring_key (hF:FInv q F) {t:Puts} {p:Nat×Sec} (hp:p∈changeL F.log t):2≤p.1∧p.1<homeL F.log:=by
 obtain⟨i,hi,e⟩:=chg_key hp;rw[e];unfold inL homeL;have:=Nat.mod_lt (F.log.pos+i) hF.geo.ring;omega
theorem mrk_tab (h:Plan F bl fs) (hF:FInv q F) {s:Puts} (hs:s.Sublist (diffF F fs)) {g:Nat→Sec} (hg:Mrk F bl fs g):Mrk F bl fs (setAll g s):=by
 have hk:∀p∈s,∃i,i<F.mt∧p=(homeL F.log+1+i,(sectorsB F.mt fs).getD i []):=fun p hp=>h.tkey hF (hs.subset hp)
 have hlow:∀p∈s,p.1<firstF F:=fun p hp=>by obtain⟨i,hi,rfl⟩:=hk p hp;unfold firstF;simp only;omega
 have hh:∀j,j≤homeL F.log→setAll g s j=g j:=fun j hj=>setAll_out fun p hp e=>by obtain⟨i,hi,rfl⟩:=hk p hp;simp only at e;omega
 have h2:2≤homeL F.log:=by unfold homeL;omega
 refine⟨?_,?_,?_,fun p hp=>?_,fun i hi=>?_,keeps_low hlow hg.keeps,has_low h hlow hg.has⟩;·rw[hh 0 (by omega)];exact hg.head
 ·rw[hh 1 (by omega)];exact hg.mark
 ·rw[hh _ (by omega)];exact hg.top
 ·rw[hh _ (by have:=(ring_key hF hp).2;omega)];exact hg.ring p hp
 ·rcases setAll_or (l:=s) (j:=homeL F.log+1+i) (f:=g) with e | ⟨p,hp,e1,e2⟩
  ·rw[e];exact hg.tab i hi
  ·left;rw[e2];obtain⟨j,hj,rfl⟩:=hk p hp;simp only at e1 ⊢;have:j=i:=by omega
   subst this;rfl
theorem mrk_new (h:Plan F bl fs) (hF:FInv q F) (hq:q<2^47) (ht:diffF F fs≠[]) {g:Nat→Sec} (hg:Mrk F bl fs g):New F bl fs (setAll (setAll g (diffF F fs)) (headL (nextL F.log (diffF F fs).length))):=by
 have hm:=mrk_tab h hF (List.Sublist.refl _) hg;have hall:∀i,i<F.mt→setAll g (diffF F fs) (homeL F.log+1+i)=(sectorsB F.mt fs).getD i []:=fun i hi=>by
  rcases hg.tab i hi with e | e
  ·rcases setAll_or (l:=diffF F fs) (j:=homeL F.log+1+i) (f:=g) with e' | ⟨p,hp,e1,e2⟩
   ·rw[e',e]
   ·obtain⟨j,hj,rfl⟩:=h.tkey hF hp;simp only at e1 e2;have:j=i:=by omega
    subst this;exact e2
  ·exact setAll_each (differ_nodup _ _ _) _ e
 have hlog:logF F fs=nextL F.log (diffF F fs).length:=if_neg ht;have h2:2≤homeL F.log:=by unfold homeL;omega
 have ho:∀j,j≠0→setAll (setAll g (diffF F fs)) (headL (nextL F.log (diffF F fs).length)) j=setAll g (diffF F fs) j:=fun j hj=>setAll_out fun p hp e=>by
  unfold headL at hp;rw[List.mem_singleton.1 hp] at e;exact hj e.symm
 have hlow:∀p∈headL (nextL F.log (diffF F fs).length),p.1<firstF F:=fun p hp=>by unfold headL at hp;rw[List.mem_singleton.1 hp];unfold firstF;simp only;omega
 refine⟨⟨?_,?_,fun i hi=>?_⟩,fun n hn=>?_,keeps_low hlow hm.keeps,has_low h hlow hm.has⟩;·rw[hlog];exact setAll_in ⟨_,List.mem_singleton.2 rfl,rfl⟩ fun p hp _=>by rw[List.mem_singleton.1 hp]
 ·rw[hlog,show homeL (nextL F.log (diffF F fs).length)=homeL F.log from rfl,ho _ (by omega)];exact hm.top
 ·rw[hlog,show homeL (nextL F.log (diffF F fs).length)=homeL F.log from rfl,ho _ (by omega)];exact hall i hi
 ·rw[hlog,ho 1 (by omega),hm.mark];have:=hF.seq;exact mark_ne (by omega) (by show F.log.seq+1<_;omega) (by show F.log.seq≠F.log.seq+1;omega)
theorem old_mrk (h:Plan F bl fs) (hF:FInv q F) {g:Nat→Sec} (hg:Old F g) (hb:Has bl g) (hc:Has (changeL F.log (diffF F fs)) g):Mrk F bl fs (setAll g [(1,markB F.log.seq F.log.pos (diffF F fs).length)]):=by
 have ho:∀j,j≠1→setAll g [(1,markB F.log.seq F.log.pos (diffF F fs).length)] j=g j:=fun j hj=>setAll_out fun p hp e=>by
  rw[List.mem_singleton.1 hp] at e;exact hj e.symm
 have h2:2≤homeL F.log:=by unfold homeL;omega
 have hlow:∀p∈[(1,markB F.log.seq F.log.pos (diffF F fs).length)],p.1<firstF F:=fun p hp=>by rw[List.mem_singleton.1 hp];unfold firstF;simp only;omega
 refine⟨?_,setAll_in ⟨_,List.mem_singleton.2 rfl,rfl⟩ fun p hp _=>by rw[List.mem_singleton.1 hp],?_,fun p hp=>?_,fun i hi=>?_,keeps_low hlow hg.2.2,has_low h hlow hb⟩;·rw[ho 0 (by omega)];exact hg.1.head
 ·rw[ho _ (by omega)];exact hg.1.top
 ·rw[ho _ (by have:=(ring_key hF hp).1;omega)];exact hc p hp
 ·rw[ho _ (by omega),hg.1.tab i hi];by_cases e:(sectorsB F.mt F.files).getD i []=(sectorsB F.mt fs).getD i [];·exact .inl e
  ·exact .inr (differ_mem.2 ⟨i,by rw[sectors_len hF.tlen];exact hi,e,rfl⟩)
theorem stages_new (h:Plan F bl fs) (hF:FInv q F) (hq:q<2^47):New F bl fs (setAll F.disk.now (stagesF F bl fs).flatten):=by
 have h0:Old F F.disk.now:=⟨hF.lies,hF.un,fun _ _=>rfl⟩;have hb:(if bl=[] then [] else [bl]:List Puts).flatten=bl:=by split <;> simp_all
 have h1:=old_blocks h hF (List.Sublist.refl _) h0;have h2:Has bl (setAll F.disk.now bl):=fun p hp=>setAll_each h.nodup p hp
 unfold stagesF;rw[List.flatten_append,hb,setAll_app];generalize setAll F.disk.now bl=g at *;by_cases ht:diffF F fs=[]
 ·unfold commitP;rw[if_pos ht];have hlog:logF F fs=F.log:=if_pos ht;refine⟨⟨?_,?_,fun i hi=>?_⟩,?_,h1.2.2,h2⟩;·rw[hlog];exact h1.1.head
  ·rw[hlog];exact h1.1.top
  ·rw[hlog];show g _=_;rw[h1.1.tab i hi];by_cases e:(sectorsB F.mt F.files).getD i []=(sectorsB F.mt fs).getD i [];·exact e
   ·have:(homeL F.log+1+i,(sectorsB F.mt fs).getD i [])∈diffF F fs:=differ_mem.2 ⟨i,by rw[sectors_len hF.tlen];exact hi,e,rfl⟩;rw[ht] at this;cases this
  ·rw[hlog];exact h1.2.1
 ·unfold commitP;rw[if_neg ht];simp only[List.flatten_cons,List.flatten_nil,List.append_nil,setAll_app];have h3:=old_ring h hF (fun p hp=>ring_key hF hp) h1 (s:=changeL F.log (diffF F fs));have h4:Has bl (setAll g (changeL F.log (diffF F fs))):=has_low h (fun p hp=>by have:=(ring_key hF hp).2;unfold firstF;omega) h2;have h5:Has (changeL F.log (diffF F fs)) (setAll g (changeL F.log (diffF F fs))):=fun p hp=>setAll_each (chg_nodup (List.length_pos_iff.2 ht) h.room) p hp
  exact mrk_new h hF hq ht (old_mrk h hF h3 h4 h5)
theorem stages_cut (h:Plan F bl fs) (hF:FInv q F) (hq:q<2^47) {g:Nat→Sec} (hc:Cut F.disk.now (stagesF F bl fs) g):Old F g∨(diffF F fs≠[]∧(Mrk F bl fs g∨New F bl fs g)):=by
 obtain⟨a,l,b,s,hL,hs,rfl⟩:=hc;have h0:Old F F.disk.now:=⟨hF.lies,hF.un,fun _ _=>rfl⟩;have hb0:(if bl=[] then [] else [bl]:List Puts).flatten=bl:=by split <;> simp_all
 have h1:=old_blocks h hF (List.Sublist.refl _) h0;have h2:Has bl (setAll F.disk.now bl):=fun p hp=>setAll_each h.nodup p hp
 unfold stagesF at hL;rcases List.append_eq_append_iff.1 hL with ⟨c,rfl,e2⟩ | ⟨c,e1,e2⟩
 ·
  rw[List.flatten_append,hb0,setAll_app];generalize setAll F.disk.now bl=g at *;by_cases ht:diffF F fs=[]
  ·unfold commitP at e2;rw[if_pos ht] at e2;cases c <;> cases e2
  ·unfold commitP at e2;rw[if_neg ht] at e2;have h3:=old_ring h hF (fun p hp=>ring_key hF hp) h1 (s:=changeL F.log (diffF F fs));have h4:Has bl (setAll g (changeL F.log (diffF F fs))):=has_low h (fun p hp=>by have:=(ring_key hF hp).2;unfold firstF;omega) h2;have h5:Has (changeL F.log (diffF F fs)) (setAll g (changeL F.log (diffF F fs))):=fun p hp=>setAll_each (chg_nodup (List.length_pos_iff.2 ht) h.room) p hp
   have h6:=old_mrk h hF h3 h4 h5
   match c,e2 with
   | [],e2=>
    simp only[List.nil_append,List.cons.injEq] at e2;obtain⟨rfl,-⟩:=e2;left;exact old_ring h hF (fun p hp=>ring_key hF (hs.subset hp)) h1
   | [c1],e2=>
    simp only[List.cons_append,List.nil_append,List.cons.injEq] at e2;obtain⟨rfl,rfl,-⟩:=e2;simp only[List.flatten_cons,List.flatten_nil,List.append_nil];rcases sub_one hs with rfl | rfl
    ·left;exact h3
    ·exact .inr ⟨ht,.inl h6⟩
   | [c1,c2],e2=>
    simp only[List.cons_append,List.nil_append,List.cons.injEq] at e2;obtain⟨rfl,rfl,rfl,-⟩:=e2;simp only[List.flatten_cons,List.flatten_nil,List.append_nil,setAll_app];exact .inr ⟨ht,.inl (mrk_tab h hF hs h6)⟩
   | [c1,c2,c3],e2=>
    simp only[List.cons_append,List.nil_append,List.cons.injEq] at e2;obtain⟨rfl,rfl,rfl,rfl,-⟩:=e2;simp only[List.flatten_cons,List.flatten_nil,List.append_nil,setAll_app];have h7:=mrk_new h hF hq ht h6;have h8:=mrk_tab h hF (List.Sublist.refl _) h6;unfold headL at hs;rcases sub_one hs with rfl | rfl
    ·exact .inr ⟨ht,.inl h8⟩
    ·exact .inr ⟨ht,.inr h7⟩
   | c1::c2::c3::c4::c5,e2=>
    simp only[List.cons_append,List.cons.injEq] at e2;obtain⟨-,-,-,-,e2⟩:=e2;cases c5 <;> cases e2
 ·
  split at e1
  ·rename_i hbn;obtain⟨rfl,rfl⟩:a=[]∧c=[]:=by simpa using e1.symm
   subst hbn;simp only[List.nil_append] at e2;by_cases ht:diffF F fs=[]
   ·unfold commitP at e2;rw[if_pos ht] at e2;cases e2
   ·unfold commitP at e2;rw[if_neg ht] at e2;simp only[List.cons.injEq] at e2;obtain⟨rfl,-⟩:=e2;left;exact old_ring h hF (fun p hp=>ring_key hF (hs.subset hp)) h0
  ·match a,e1 with
   | [],e1=>
    simp only[List.nil_append] at e1;subst e1;simp only[List.cons_append,List.cons.injEq] at e2;obtain⟨rfl,-⟩:=e2;left;exact old_blocks h hF hs h0
   | [a1],e1=>
    simp only[List.cons_append,List.nil_append,List.cons.injEq] at e1;obtain⟨rfl,rfl⟩:=e1;simp only[List.nil_append] at e2;simp only[List.flatten_cons,List.flatten_nil,List.append_nil];by_cases ht:diffF F fs=[]
    ·unfold commitP at e2;rw[if_pos ht] at e2;cases e2
    ·unfold commitP at e2;rw[if_neg ht] at e2;simp only[List.cons.injEq] at e2;obtain⟨rfl,-⟩:=e2;left;exact old_ring h hF (fun p hp=>ring_key hF (hs.subset hp)) h1
   | a1::a2::a3,e1=>simp at e1
end
end
section
open Go.Aq Go.RowKit
def bytesG (first:Nat) (g:Nat→Sec) (x:FileD):Sec:=(x.blocks.flatMap fun k=>g (first+k)).take x.size
theorem bytesB_G (F:FsD) (x:FileD):bytesB F x=bytesG (firstF F) F.disk.now x:=rfl
def viewG (first:Nat) (g:Nat→Sec) (fs:Files):View:=mapK (fun _ x=>bytesG first g x) fs
def viewF (F:FsD):View:=viewG (firstF F) F.disk.now F.files
theorem view_start (F:FsD):viewW (bytesB F) ⟨F.files,[]⟩=viewF F:=rfl
theorem bytesG_eq {first:Nat} {g g':Nat→Sec} {x:FileD} (h:∀k∈x.blocks,g (first+k)=g' (first+k)):bytesG first g x=bytesG first g' x:=by
 unfold bytesG;congr 1
 induction hb:x.blocks with
 | nil=>rfl
 | cons k l ih=>
  rw[hb] at h;have:∀(l:List Nat),(∀k∈l,g (first+k)=g' (first+k))→(l.flatMap fun k=>g (first+k))=l.flatMap fun k=>g' (first+k):=by
   intro l hl
   induction l with
   | nil=>rfl
   | cons k l ih=>rw[List.flatMap_cons,List.flatMap_cons,hl k (.head _),ih fun j hj=>hl j (.tail _ hj)]
  exact this _ h
theorem firstF_le {q:Nat} {F:FsD} (h:FInv q F):firstF F+allF F=F.disk.n:=by
 have:=h.geo.first;unfold allF firstF;omega
theorem prep_plan {q:Nat} {F:FsD} (h:FInv q F) (l:List ChangeD):
  (∃e,prepF F l=(e,[],[],F.log)∧e≠0∧(e=(allV (viewF F) l).2∨((allV (viewF F) l).2=0∧(e=8∨e=9))))∨
  ((allV (viewF F) l).2=0∧∃bl fs,prepF F l=(0,stagesF F bl fs,fs,logF F fs)∧Plan F bl fs∧
   (∀s,lookK s (allW F ⟨F.files,[]⟩ l).1.fresh=none→lookK s fs=lookK s (allW F ⟨F.files,[]⟩ l).1.files)∧
   ∀g,Keeps F g→Has bl g→viewG (firstF F) g fs=(allV (viewF F) l).1):=by
 obtain⟨hW,hv,he⟩:=all_step (F:=F) l (WorkOk.start h.files);rw[view_start] at hv he;generalize hr:allW F ⟨F.files,[]⟩ l=r at *;unfold prepF;simp only[hr];by_cases h1:r.2≠0
 ·rw[if_pos h1];exact .inl ⟨_,rfl,h1,.inl he⟩
 ·have h1':r.2=0:=by omega
  rw[if_neg h1];have e0:(allV (viewF F) l).2=0:=by rw[←he];exact h1'
  by_cases h2:(freeF F).length<needW r.1.fresh
  ·rw[if_pos h2];exact .inl ⟨8,rfl,by decide,.inr ⟨e0,.inl rfl⟩⟩
  ·rw[if_neg h2];by_cases h3:F.mt * 256<(tableB (placeF r.1.fresh (freeF F) r.1.files)).length
   ·rw[if_pos h3];exact .inl ⟨8,rfl,by decide,.inr ⟨e0,.inl rfl⟩⟩
   ·rw[if_neg h3];by_cases h4:F.log.ring<need (differB (homeL F.log+1) (sectorsB F.mt F.files) (sectorsB F.mt (placeF r.1.fresh (freeF F) r.1.files))).length
    ·rw[if_pos h4];exact .inl ⟨9,rfl,by decide,.inr ⟨e0,.inr rfl⟩⟩
    ·rw[if_neg h4];have hp:=PlaceOk.start h.files hW (Nat.not_lt.1 h2);obtain⟨p1,p2,p3,p4⟩:=place_ok (first:=firstF F) hp;have hfl:=firstF_le h;refine .inr ⟨e0,placeP (firstF F) r.1.fresh (freeF F),placeF r.1.fresh (freeF F) r.1.files,rfl,⟨fun p hp=>?_,?_,?_,Nat.not_lt.1 h4,Nat.not_lt.1 h3,p1⟩,p2,fun g hk hb=>?_⟩
     ·have h5:p.1∈(placeP (firstF F) r.1.fresh (freeF F)).map (·.1):=List.mem_map_of_mem hp;rw[placeP_keys] at h5;obtain⟨k,h6,h7⟩:=List.mem_map.1 h5;exact⟨k,List.mem_of_mem_take h6,h7.symm⟩
     ·rw[placeP_keys];have h5:((freeF F).take (needW r.1.fresh)).Nodup:=(List.take_sublist _ _).nodup (List.Pairwise.filter _ List.nodup_range);exact List.pairwise_map.2 (h5.imp fun {a b} hab e=>hab (by omega))
     ·rw[←hfl];refine placeP_ok fun k hk=>?_
      unfold freeF at hk;exact List.mem_range.1 (List.mem_filter.1 hk).1
     ·rw[←hv];refine asc_ext (mapK_asc p1.asc) (mapK_asc hW.asc) fun s=>?_
      unfold viewG;rw[mapK_look,view_look];cases hf:lookK s r.1.fresh with
      | none=>
       rw[p2 s hf];cases hx:lookK s r.1.files with
       | none=>rfl
       | some x=>
        simp only[Option.map_some,bytesB_G];rw[bytesG_eq fun k hk'=>hk k (hW.used k (List.mem_flatMap.2 ⟨(s,x),look_mem hx,hk'⟩))]
      | some b=>
       obtain⟨ks,k1,k2,k3⟩:=p3 s b hf;rw[k1,(hW.sub s b hf).1];simp only[Option.map_some];congr 1;exact placed_bytes k2 fun p hp=>hb p (k3 p hp)
theorem new_inv {q:Nat} {F:FsD} {bl:Puts} {fs:Files} (h:FInv q F) (hp:Plan F bl fs) {D:DiskD} (hn:D.n=F.disk.n) (hr:Rest D) (hg:New F bl fs D.now):FInv (q+1) ⟨D,logF F fs,F.mt,fs⟩:=by
 have e1:(logF F fs).ring=F.log.ring:=by unfold logF;split <;> rfl
 have e2:(logF F fs).pos<F.log.ring:=by
  unfold logF;split;·exact h.geo.pos
  ·exact Nat.mod_lt _ h.geo.ring
 have e3:(logF F fs).seq≤q+1:=by
  have:=h.seq;unfold logF;split;·omega
  ·show F.log.seq+1≤_;omega
 have e4:homeL (logF F fs)=homeL F.log:=by unfold homeL;rw[e1]
 have e5:allF ⟨D,logF F fs,F.mt,fs⟩=allF F:=by unfold allF firstF;simp only[e4,hn]
 refine⟨⟨by rw[hn];exact h.geo.n,by rw[e1];exact h.geo.ring,by rw[e1];exact e2,h.geo.mt,by rw[e4,hn];exact h.geo.first⟩,hr,e3,hg.1,hg.2.1,hp.tlen,by rw[e5];exact hp.ok⟩
theorem logF_first {F:FsD} {fs:Files} (D:DiskD) (m:Files):firstF ⟨D,logF F fs,F.mt,m⟩=firstF F:=by
 unfold firstF homeL logF;split <;> rfl
theorem do_any {q:Nat} {F:FsD} (h:FInv q F) (hq:q<2^47) (l:List ChangeD):
  (∃e,doF F l=(F,e)∧e≠0∧(e=(allV (viewF F) l).2∨((allV (viewF F) l).2=0∧(e=8∨e=9))))∨
  ((allV (viewF F) l).2=0∧∃bl fs,Plan F bl fs∧
   (∀s,lookK s (allW F ⟨F.files,[]⟩ l).1.fresh=none→lookK s fs=lookK s (allW F ⟨F.files,[]⟩ l).1.files)∧
   (∀g,Keeps F g→Has bl g→viewG (firstF F) g fs=(allV (viewF F) l).1)∧
   ((∃D,doF F l=(⟨D,logF F fs,F.mt,fs⟩,0)∧D.n=F.disk.n∧Rest D∧New F bl fs D.now∧(F.disk.falls=0→D.falls=0))∨
    ∃D,doF F l=({ F with disk:=D },12)∧D.n=F.disk.n∧D.pend=[]∧D.dur=D.now∧D.falls=0∧D.down=true∧F.disk.falls≠0∧(∀k,(D.now k).length=256)∧(Old F D.now∨(diffF F fs≠[]∧(Mrk F bl fs D.now∨New F bl fs D.now))))):=by
 rcases prep_plan h l with ⟨e,h1,h2,h3⟩ | ⟨h1,bl,fs,h2,h3,h4,h5⟩
 ·left;refine⟨e,?_,h2,h3⟩;unfold doF;simp only[h1];rw[if_pos h2]
 ·right;refine⟨h1,bl,fs,h3,h4,h5,?_⟩;have hok:=h3.stagesOk h;unfold doF;simp only[h2];rw[if_neg (by simp)];by_cases hf:F.disk.falls=0
  ·obtain⟨k,hk⟩:=runP_calm _ _ h.rest hf hok;left;rw[hk];simp only[if_true];refine⟨_,rfl,rfl,⟨h.rest.pend,rfl,h.rest.up,?_⟩,stages_new h3 h hq,fun e=>e⟩;refine setAll_len (n:=F.disk.n) h.rest.len fun p hp=>?_
   obtain⟨m,hm,hp⟩:=List.mem_flatten.1 hp;exact hok m hm p hp
  ·rcases runP_fall _ _ h.rest hok with ⟨k,f,hk,-⟩ | ⟨k,g,hc,hk⟩
   ·left;rw[hk];simp only[if_true];refine⟨_,rfl,rfl,⟨h.rest.pend,rfl,h.rest.up,?_⟩,stages_new h3 h hq,fun e=>absurd e hf⟩;refine setAll_len (n:=F.disk.n) h.rest.len fun p hp=>?_
    obtain⟨m,hm,hp⟩:=List.mem_flatten.1 hp;exact hok m hm p hp
   ·right;rw[hk];simp only[show ¬((12:Nat)=0) by decide,if_false];exact⟨_,rfl,rfl,rfl,rfl,rfl,rfl,hf,hc.len h.rest.len hok,stages_cut h3 h hq hc⟩
theorem FInv.more {q:Nat} {F:FsD} (h:FInv q F):FInv (q+1) F:=⟨h.geo,h.rest,by have:=h.seq;omega,h.lies,h.un,h.tlen,h.files⟩
def fmtL (r m:Nat):Puts:=(2+r,topB m)::(List.range m).map fun i=>(3+r+i,zsec)
def fmtG (f:Nat→Sec) (r m:Nat):Nat→Sec:=setAll (setAll f [(0,headB r 1 0),(1,zsec)]) (fmtL r m)
theorem put_calm {D:DiskD} (h:D.falls=0) (k:Nat) (b:Sec):putD D k b=({ D with writes:=wrap64 (D.writes+1),pend:=D.pend++[(k,b)],now:=setS D.now k b },0):=by
 unfold putD;rw[if_pos h]
theorem zsec_len:zsec.length=256:=by unfold zsec nul;exact List.length_replicate
theorem topB_len (m:Nat):(topB m).length=256:=fill_len4 (by simp[beB_length])
def fmtOk (n:Nat) (ring mt:Int):Prop:=1≤mt∧mt≤200∧1≤ring∧ring+mt+4≤n
theorem fmt_num {n r m:Nat} (hb:fmtOk n (r:Int) (m:Int)) (hle:n≤4096):∃x1 x2 x3 x4:Int,wrap64 ((n:Int) - 2)=x1∧wrap64 (x1 - (r:Int))=x2∧wrap64 (x2 - 1)=x3∧wrap64 (x3 - (m:Int))=x4∧decide (x4<1)=false∧wrap64 (2+(r:Int))=((2+r:Nat):Int)∧wrap64 (3+(r:Int))=((3+r:Nat):Int):=by
 unfold fmtOk at hb;refine⟨(n:Int) - 2,(n:Int) - 2 - r,(n:Int) - 2 - r - 1,(n:Int) - 2 - r - 1 - m,?_,?_,?_,?_,decide_eq_false (by omega),?_,?_⟩ <;> unfold wrap64 <;> omega
theorem lf1 {a i n m r:Nat} (h:a≤1+i) (h8:i≤m) (hb:fmtOk n (r:Int) (m:Int)):a≤999999:=by unfold fmtOk at hb;omega
theorem lf2 {i k m:Nat} (h:i+k=m) (hi:i<m):i+1+(k - 1)=m∧k - 1<k:=by omega
theorem lf3 {a i:Nat} (h:a≤1+i):a+1≤1+(i+1):=by omega
theorem lf4 {i k m:Nat} (h:i+k=m) (hi:¬i<m):i=m:=by omega
theorem lf5 {n m r:Nat} (hb:fmtOk n (r:Int) (m:Int)):2+r<n∧∀j,j<m→3+r+j<n:=by unfold fmtOk at hb;exact⟨by omega,fun j hj=>by omega⟩
theorem fmt_wrap {n r m i:Nat} (hb:fmtOk n (r:Int) (m:Int)) (hle:n≤4096) (hi:i<m):wrap64 (((3+r:Nat):Int)+(i:Int))=((3+r+i:Nat):Int)∧wrap64 ((i:Int)+1)=((i+1:Nat):Int)∧3+r+i<n:=by
 unfold fmtOk at hb;refine⟨?_,?_,by omega⟩ <;> unfold wrap64 <;> omega
end
end Go.Aq.Fy
namespace Go.Proofs.YtlbdklaggalgfaaGreatDoor
open Go.RowKit Go.Aq Go.Aq.Fy Go.Maps
theorem Bs_zsec:Bs zsec=List.replicate 256 (.int .u8 0):=by unfold zsec nul Bs;rw[List.map_replicate];rfl
theorem cast3 (r i:Nat):((3+r+i:Nat):Int)=3+(r:Int)+(i:Int):=by rw[Int.natCast_add,Int.natCast_add];rfl
set_option maxRecDepth 100000 in
theorem format_ok (w:World) (S:List Nat) (p:Nat) (D:DiskD) (hD:DiskR w S p D) (hrest:Go.Aq.Fy.Rest D) (hfl:D.falls=0) (r m:Nat) (hb:fmtOk D.n (r:Int) (m:Int)):
  Calls Tryz.prog 14 #[.pointer (some ⟨p,0,none⟩),.int .i64 r,.int .i64 m] w fun e w'=>e=.returned (.int .i64 0)∧∃S' k,DiskR w' S' p { D with writes:=k,now:=fmtG D.now r m,dur:=fmtG D.now r m }∧Upd S S' w w':=by
 have hsec:=sectors_ok w S p D hD;have hle:D.n≤4096:=by obtain⟨_,_,_,_,_,_,_,hb,_⟩:=hD;exact hb.least.2
 unfold fmtOk at hb;have hfm:=formatL_ok w S p D r hD hrest.up (by rw[hrest.pend];simp) (by omega) (by omega) (by omega);obtain⟨k1,hk1⟩:=writesD_calm [(0,headB r 1 0),(1,zsec)] D hrest hfl (fun q hq=>by
  simp only[List.mem_cons,List.not_mem_nil,or_false] at hq;rcases hq with rfl | rfl
  ·exact⟨by simp only;omega,headB_length _ _ _⟩
  ·exact⟨by simp only;omega,zsec_len⟩)
 rw[hk1] at hfm;obtain⟨g1,hg1⟩:∃g1,setAll D.now [(0,headB r 1 0),(1,zsec)]=g1:=⟨_,rfl⟩;rw[hg1] at hfm;obtain⟨D1,hD1⟩:∃D1:DiskD,{ D with writes:=k1,now:=g1,dur:=g1 }=D1:=⟨_,rfl⟩;simp only[hD1] at hfm;have hD1f:D1.falls=0∧D1.down=false∧D1.n=D.n∧D1.pend=[]:=by rw[←hD1];exact⟨hfl,hrest.up,rfl,hrest.pend⟩
 obtain⟨n,hn⟩:∃n,D.n=n:=⟨_,rfl⟩;rw[hn] at hsec hb hle;have hb0:=hb;have t1:decide ((m:Int)<1)=false:=decide_eq_false (by omega);have t2:decide ((200:Int)<(m:Int))=false:=decide_eq_false (by omega);have t3:decide ((r:Int)<1)=false:=decide_eq_false (by omega);have t4:decide ((n:Int)<(r:Int))=false:=decide_eq_false (by omega);have t1':decide (m<1)=false:=decide_eq_false (by omega);have t2':decide (200<m)=false:=decide_eq_false (by omega);have t3':decide (r<1)=false:=decide_eq_false (by omega);have t4':decide (n<r)=false:=decide_eq_false (by omega);have htop:=fun w=>top_any w m (by omega)
 obtain⟨x1,x2,x3,x4,e1,e2,e3,e4,t5,e5,e6⟩:=fmt_num (show fmtOk n (r:Int) (m:Int) from hb0) hle;have e1w:=wIq e1;have e2w:=wIq e2;have e3w:=wIq e3;have e4w:=wIq e4;have e5w:=wIq e5;have e6w:=wIq e6;have HH:=zG hb hle hn hD1 hD1f hg1 hrest (show fmtOk n (r:Int) (m:Int) from hb0);clear hb hb0 hle hn hD1 hD1f hg1 hrest hk1 hfl hD;go_enter Tryz.func14,Tryz.ntmps14;go_wp2_with fail;refine hsec.mono ?_;rintro e w1 ⟨rfl,hw1⟩;obtain rfl:w=w1:=hw1.symm;go_wp2_with fail;refine hsec.mono ?_;rintro e w1 ⟨rfl,hw1⟩;obtain rfl:w=w1:=hw1.symm;clear hsec;go_wp2_with fail;refine hfm.mono ?_;rintro e w1 ⟨rfl,S1,hR1,hU1⟩;clear hfm t1 t2 t3 t4 t5 e1 e2 e3 e4 e1w e2w e3w e4w t1' t2' t3' t4';have H1:=zA hR1 hU1;clear hR1 hU1;go_wp2_with fail;refine (htop _).mono ?_;rintro e w2 ⟨vt,rfl,hFt⟩;clear htop;have hSt:=hFt.sees;obtain⟨at_,ct,rfl,-⟩:=hFt.shape;have hb0:=HH.out.2.2.2.2.2.2.2;have hSec:SecV w2 S1 (.slice at_ 256 ct) (topB m):=⟨hSt,fun k hk hk'=>by
  have h1:=hFt.new k (eyes_own _ k hk);have h2:=H1.out.1.lt k hk';omega⟩
 have hpn:D1.pend.length≤999999:=by rw[HH.out.2.2.2.2.1.2.2.2];simp
 have hkn:2+r<D1.n:=by rw[HH.out.2.2.2.2.1.2.2.1,HH.out.2.2.1];have:=hb0;unfold fmtOk at this;omega
 have hw1:=write_ok w2 S1 p D1 (2+r) (topB m) (.slice at_ 256 ct) (H1.out.1.chg hFt.chg) HH.out.2.2.2.2.1.2.1 hkn hpn hSec;rw[put_calm HH.out.2.2.2.2.1.1] at hw1;have CF:=zH hFt.chg;clear hSt hFt hSec hpn hkn hb0;go_wp2_with fail;refine hw1.mono ?_;rintro e w3 ⟨rfl,S3,hR3,hU3⟩;have H3:=zA hR3 ((H1.out.2.nil CF.out).trans hU3);clear hw1 hR3 hU3 e5 e5w;go_wp2_with fail;go_loopg [9,10,54] m (fun k (v9 v10 v54:Value) wr=>∃(i:Nat) (S':List Nat) (Di:DiskD),v54=.int .i64 i∧Hid (i+k=m∧DiskR wr S' p Di∧Upd S S' w wr∧Di.falls=0∧Di.down=false∧Di.n=D.n∧Di.pend.length≤1+i∧eachD D1 (fmtL r m)=eachD Di ((fmtL r m).drop (i+1))));case atStart=>
  refine⟨0,S3,_,rfl,Nat.zero_add _,H3.out.1,H3.out.2,HH.out.2.2.2.2.1.1,HH.out.2.2.2.2.1.2.1,HH.out.2.2.2.2.1.2.2.1,by simp only[List.length_append,HH.out.2.2.2.2.1.2.2.2];simp,?_⟩;show eachD D1 ((2+r,topB m)::_)=_;have hkn:2+r<D1.n:=by rw[HH.out.2.2.2.2.1.2.2.1,HH.out.2.2.1];have:=HH.out.2.2.2.2.2.2.2;unfold fmtOk at this;omega
  have e:writeD D1 (2+r) (topB m)=putD D1 (2+r) (topB m):=writeD_good HH.out.2.2.2.2.1.2.1 (p:=(2+r,topB m)) ⟨hkn,topB_len m⟩;simp only[eachD,e,put_calm HH.out.2.2.2.2.1.1,if_true];rfl
 case round=>
  obtain⟨i,S',Di,rfl,HI⟩:=hrel;by_cases hi:i<m
  ·have t0:decide ((i:Int)<(m:Int))=true:=by simp;omega
   have t0':decide (i<m)=true:=by simp;omega
   obtain⟨e7,e8,hn7⟩:=fmt_wrap HH.out.2.2.2.2.2.2.2 HH.out.2.1 hi;have e7':wrap64 (3+(r:Int)+(i:Int))=3+(r:Int)+(i:Int):=by
    have:=e7;simpa using this
   have e7w:=wIq e7';have e8w:=wIq e8;have HI2:=zA hi hn7;clear e7 hn7 hi;go_wp2_with (at_make;refine wpList_mk rfl _ _ 38 rfl sl_u8y rfl .i64 .i64 256 rfl rfl rfl rfl (by decide) (by decide) ?_;intro w4 h1 h2 h3);obtain⟨hik,hR,hU,hfl,hdn,hDn,hpn,hea⟩:=HI.out;have hSec:SecV w4 S' (.slice (some ⟨wr.heap.size,0,none⟩) 256 256) zsec:=⟨by rw[Bs_zsec];exact h1.sees,fun k hk hk'=>by
    have h4:=hR.lt k hk';have h5:k=wr.heap.size:=by simpa[eyes] using hk
    omega⟩
   have hb0:=HH.out.2.2.2.2.2.2.2;have hpn':Di.pend.length≤999999:=lf1 hpn (Nat.le_of_lt HI2.out.1) hb0;have hkn:3+r+i<Di.n:=by rw[hDn,HH.out.2.2.1];exact HI2.out.2
   have hwr:=write_ok w4 S' p Di (3+r+i) zsec _ (hR.chg h2) hdn hkn hpn' hSec;rw[put_calm hfl,cast3] at hwr;have e:writeD Di (3+r+i) zsec=putD Di (3+r+i) zsec:=writeD_good hdn (p:=(3+r+i,zsec)) ⟨hkn,zsec_len⟩;have hdr:(fmtL r m).drop (i+1)=(3+r+i,zsec)::(fmtL r m).drop (i+1+1):=by
    have hl:i+1<(fmtL r m).length:=by have:=HI2.out.1;simp[fmtL];omega
    rw[List.drop_eq_getElem_cons hl];congr 1;simp[fmtL]
   have hst:eachD Di ((fmtL r m).drop (i+1))=eachD { Di with writes:=wrap64 (Di.writes+1),pend:=Di.pend++[(3+r+i,zsec)],now:=setS Di.now (3+r+i) zsec } ((fmtL r m).drop (i+1+1)):=by
    rw[hdr];simp only[eachD,e,put_calm hfl,if_true]
   have HJ:=zG (lf2 hik HI2.out.1) (hU.nil h2) hfl hdn hDn hpn hst hea;clear hik hR hU hdn hDn hpn hea h1 h2 h3 hSec hb0 hpn' hkn e hdr hst hfl HI;go_wp2_with fail;refine hwr.mono ?_;rintro e w5 ⟨rfl,S5,hR5,hU5⟩;have H5:=zA hR5 hU5;clear hwr hR5 hU5;go_wp2_with fail;go_roundg (gk - 1);case measure=>exact HJ.out.1.2
   case rel=>
    obtain⟨q1,q2,q3,q4,q5,q6,q7,q8⟩:=HJ.out;exact⟨i+1,S5,_,by simp,q1.1,H5.out.1,q2.trans H5.out.2,q3,q4,q5,by simp only[List.length_append,List.length_cons,List.length_nil];exact lf3 q6,by rw[q8,q7]⟩
  ·have t0:decide ((i:Int)<(m:Int))=false:=by simp;omega
   have t0':decide (i<m)=false:=by simp;omega
   obtain⟨hik,hR,hU,hfl,hdn,hDn,hpn,hea⟩:=HI.out;have him:i=m:=lf4 hik hi;have hdz:(fmtL r m).drop (i+1)=[]:=List.drop_eq_nil_of_le (by rw[him];simp[fmtL]);rw[hdz] at hea;have hok:OkP D1.n (fmtL r m):=fun q hq=>by
    have hb0:=HH.out.2.2.2.2.2.2.2;obtain⟨l1,l2⟩:=lf5 hb0;rw[HH.out.2.2.2.2.1.2.2.1,HH.out.2.2.1];unfold fmtL at hq;rcases List.mem_cons.1 hq with rfl | hq
    ·exact⟨l1,topB_len m⟩
    ·obtain⟨j,hj,rfl⟩:=List.mem_map.1 hq;have hj':=List.mem_range.1 hj;exact⟨l2 j hj',zsec_len⟩
   obtain⟨k2,hk2⟩:=eachD_calm (fmtL r m) D1 HH.out.2.2.2.2.1.2.1 HH.out.2.2.2.2.1.1 hok;have hDi:Di={ D1 with writes:=k2,pend:=D1.pend++fmtL r m,now:=setAll D1.now (fmtL r m) }:=by
    rw[hk2] at hea;have:=congrArg Prod.fst hea;exact this.symm
   have hflu:=flush_ok wr S' p Di hR hdn (Nat.le_trans (lf1 hpn (Nat.le_of_eq him) HH.out.2.2.2.2.2.2.2) (by decide));have hfd:(flushD Di).1={ D with writes:=k2,now:=fmtG D.now r m,dur:=fmtG D.now r m }:=by
    unfold flushD;rw[hdn];simp only[Bool.false_eq_true,if_false];rw[hDi,←HH.out.2.2.2.1];simp only[HH.out.2.2.2.2.2.2.1.pend,HH.out.2.2.2.2.2.2.1.up,List.nil_append,fmtG,HH.out.2.2.2.2.2.1]
   rw[hfd] at hflu;have HZ:=zH hU;clear hik hR hU hfl hdn hDn hpn hea him hdz hok hk2 hDi hfd hi HI;go_wp2_with fail;refine hflu.mono ?_;rintro e w5 ⟨rfl,S5,hR5,hU5⟩;go_wp2_with fail;go_ret;exact⟨rfl,S5,k2,hR5,HZ.out.trans hU5⟩
end Go.Proofs.YtlbdklaggalgfaaGreatDoor
