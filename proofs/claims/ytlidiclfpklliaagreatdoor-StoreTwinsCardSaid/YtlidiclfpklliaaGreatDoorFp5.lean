/- Files on a disk: what stands there, before, within and behind a change: plain. No statement of the seat is proved here. -/
import Derived.Test.YtlidiclfpklliaaGreatDoorG15
set_option linter.unusedSimpArgs false
set_option linter.unusedVariables false
namespace Go.Aq.Fy
open Go.Aq Go.RowKit
theorem sub_one {α:Type} {s:List α} {p:α} (h:s.Sublist [p]):s=[]∨s=[p]:=by
 cases h with
 | cons _ h=>exact .inl (List.sublist_nil.1 h)
 | cons_cons _ h=>exact .inr (by rw[List.sublist_nil.1 h])
structure Lies (L:LogD) (mt:Nat) (fs:Files) (g:Nat→Sec):Prop where
 head:g 0=headB L.ring L.seq L.pos
 top:g (homeL L)=topB mt
 tab:∀i,i<mt→g (homeL L+1+i)=(sectorsB mt fs).getD i []
structure Geo (N:Nat) (L:LogD) (M:Nat):Prop where
 n:N≤4096
 ring:0<L.ring
 pos:L.pos<L.ring
 mt:1≤M∧M≤200
 first:homeL L+1+M<N
structure FInv (q:Nat) (F:FsD):Prop where
 geo:Geo F.disk.n F.log F.mt
 rest:Rest F.disk
 seq:F.log.seq≤q
 lies:Lies F.log F.mt F.files F.disk.now
 un:Unmarked F.disk.now F.log
 tlen:(tableB F.files).length≤F.mt * 256
 files:FilesOk (allF F) F.files
def pieceT (m:Nat) (fs:Files) (i:Nat):Sec:=((tableB fs++nul (m * 256 - (tableB fs).length)).drop (256 * i)).take 256
theorem sectorsB_fit {m:Nat} {fs:Files} (h:(tableB fs).length≤m * 256):sectorsB m fs=(List.range m).map (pieceT m fs):=by
 unfold sectorsB
 rw[if_neg (by omega)]
 rfl
theorem sectors_len {m:Nat} {fs:Files} (h:(tableB fs).length≤m * 256):(sectorsB m fs).length=m:=by rw[sectorsB_fit h];simp
theorem sectors_get {m i:Nat} {fs:Files} (h:(tableB fs).length≤m * 256) (hi:i<m):(sectorsB m fs).getD i []=pieceT m fs i:=by
 rw[sectorsB_fit h]
 simp[List.getD,hi]
theorem piece_len {m i:Nat} {fs:Files} (h:(tableB fs).length≤m * 256) (hi:i<m):(pieceT m fs i).length=256:=by
 unfold pieceT nul
 simp only[List.length_take,List.length_drop,List.length_append,List.length_replicate]
 omega
theorem differ_mem {b:Nat} {old new:List Sec} {p:Nat×Sec}:p∈differB b old new↔∃i,i<old.length∧old.getD i []≠new.getD i []∧p=(b+i,new.getD i []):=by
 unfold differB
 simp only[List.mem_map,List.mem_filter,List.mem_range,decide_eq_true_eq]
 exact⟨fun⟨i,⟨h1,h2⟩,h3⟩=>⟨i,h1,h2,h3.symm⟩,fun⟨i,h1,h2,h3⟩=>⟨i,⟨h1,h2⟩,h3.symm⟩⟩
theorem differ_nodup (b:Nat) (old new:List Sec):((differB b old new).map (·.1)).Nodup:=by
 unfold differB
 rw[List.map_map]
 refine List.pairwise_map.2 ((List.Pairwise.filter _ List.nodup_range).imp fun {i j} h e=>h ?_)
 simp only[Function.comp] at e
 omega
theorem differ_len (b:Nat) (old new:List Sec):(differB b old new).length≤old.length:=by
 unfold differB
 rw[List.length_map]
 exact Nat.le_trans (List.length_filter_le _ _) (by simp)
def diffF (F:FsD) (fs:Files):Puts:=differB (homeL F.log+1) (sectorsB F.mt F.files) (sectorsB F.mt fs)
structure Plan (F:FsD) (bl:Puts) (fs:Files):Prop where
 keys:∀p∈bl,∃k,k∈freeF F∧p.1=firstF F+k
 nodup:(bl.map (·.1)).Nodup
 len:OkP F.disk.n bl
 room:need (diffF F fs).length≤F.log.ring
 tlen:(tableB fs).length≤F.mt * 256
 ok:FilesOk (allF F) fs
def stagesF (F:FsD) (bl:Puts) (fs:Files):List Puts:=(if bl=[] then [] else [bl])++commitP F.log (diffF F fs)
def logF (F:FsD) (fs:Files):LogD:=if diffF F fs=[] then F.log else nextL F.log (diffF F fs).length
def Keeps (F:FsD) (g:Nat→Sec):Prop:=∀k∈blks F.files,g (firstF F+k)=F.disk.now (firstF F+k)
def Has (bl:Puts) (g:Nat→Sec):Prop:=∀p∈bl,g p.1=p.2
def Old (F:FsD) (g:Nat→Sec):Prop:=Lies F.log F.mt F.files g∧Unmarked g F.log∧Keeps F g
def New (F:FsD) (bl:Puts) (fs:Files) (g:Nat→Sec):Prop:=Lies (logF F fs) F.mt fs g∧Unmarked g (logF F fs)∧Keeps F g∧Has bl g
structure Mrk (F:FsD) (bl:Puts) (fs:Files) (g:Nat→Sec):Prop where
 head:g 0=headB F.log.ring F.log.seq F.log.pos
 mark:g 1=markB F.log.seq F.log.pos (diffF F fs).length
 top:g (homeL F.log)=topB F.mt
 ring:Has (changeL F.log (diffF F fs)) g
 tab:∀i,i<F.mt→g (homeL F.log+1+i)=(sectorsB F.mt fs).getD i []∨(homeL F.log+1+i,(sectorsB F.mt fs).getD i [])∈diffF F fs
 keeps:Keeps F g
 has:Has bl g
section
variable {q:Nat} {F:FsD} {bl:Puts} {fs:Files}
theorem Plan.tkey (h:Plan F bl fs) (hF:FInv q F) {p:Nat×Sec} (hp:p∈diffF F fs):∃i,i<F.mt∧p=(homeL F.log+1+i,(sectorsB F.mt fs).getD i []):=by
 obtain⟨i,h1,h2,h3⟩:=differ_mem.1 hp
 rw[sectors_len hF.tlen] at h1
 exact⟨i,h1,h3⟩
theorem Plan.tok (h:Plan F bl fs) (hF:FInv q F):OkP F.disk.n (diffF F fs):=fun p hp=>by
 obtain⟨i,h1,rfl⟩:=h.tkey hF hp
 have:=hF.geo.first
 exact⟨by simp only;omega,by simp only;rw[sectors_get h.tlen h1];exact piece_len h.tlen h1⟩
theorem Plan.bkey (h:Plan F bl fs) {p:Nat×Sec} (hp:p∈bl):firstF F≤p.1∧∀k∈blks F.files,p.1≠firstF F+k:=by
 obtain⟨k,h1,h2⟩:=h.keys p hp
 refine⟨by omega,fun j hj e=>?_⟩
 have:k=j:=by omega
 subst this
 unfold freeF at h1
 have h3:=(List.mem_filter.1 h1).2
 rw[usedF_iff.2 hj] at h3
 cases h3
theorem Plan.stagesOk (h:Plan F bl fs) (hF:FInv q F):∀l∈stagesF F bl fs,OkP F.disk.n l:=by
 have hg:=hF.geo.first
 have hr:=hF.geo.ring
 intro l hl
 unfold stagesF at hl
 rcases List.mem_append.1 hl with hl | hl
 ·split at hl
  ·cases hl
  ·rw[List.mem_singleton.1 hl];exact h.len
 ·unfold commitP at hl
  split at hl
  ·cases hl
  ·simp only[List.mem_cons,List.not_mem_nil,or_false] at hl
   unfold homeL at hg
   rcases hl with rfl | rfl | rfl | rfl
   ·exact chg_ok hr (by omega) fun p hp=>(h.tok hF p hp).2
   ·intro p hp;rw[List.mem_singleton.1 hp];exact⟨by simp only;omega,markB_length _ _ _⟩
   ·exact h.tok hF
   ·intro p hp;unfold headL at hp;rw[List.mem_singleton.1 hp];exact⟨by simp only;omega,headB_length _ _ _⟩
theorem old_blocks (h:Plan F bl fs) (hF:FInv q F) {s:Puts} (hs:s.Sublist bl) {g:Nat→Sec} (hg:Old F g):Old F (setAll g s):=by
 have hh:∀j,j<firstF F→setAll g s j=g j:=fun j hj=>setAll_out fun p hp e=>by have:=(h.bkey (hs.subset hp)).1;omega
 have hlt:homeL F.log+F.mt<firstF F:=by unfold firstF;omega
 have h2:2≤homeL F.log:=by unfold homeL;omega
 obtain⟨⟨l1,l2,l3⟩,u,k⟩:=hg
 refine⟨⟨?_,?_,fun i hi=>?_⟩,fun n hn=>?_,fun j hj=>?_⟩
 ·rw[hh 0 (by omega)];exact l1
 ·rw[hh _ (by omega)];exact l2
 ·rw[hh _ (by omega)];exact l3 i hi
 ·rw[hh 1 (by omega)];exact u n hn
 ·rw[setAll_out fun p hp=>(h.bkey (hs.subset hp)).2 j hj];exact k j hj
theorem old_ring (h:Plan F bl fs) (hF:FInv q F) {s:Puts} (hs:∀p∈s,2≤p.1∧p.1<homeL F.log) {g:Nat→Sec} (hg:Old F g):Old F (setAll g s):=by
 have hh:∀j,(j<2∨homeL F.log≤j)→setAll g s j=g j:=fun j hj=>setAll_out fun p hp e=>by have:=hs p hp;omega
 obtain⟨⟨l1,l2,l3⟩,u,k⟩:=hg
 refine⟨⟨?_,?_,fun i hi=>?_⟩,fun n hn=>?_,fun j hj=>?_⟩
 ·rw[hh 0 (by omega)];exact l1
 ·rw[hh _ (by omega)];exact l2
 ·rw[hh _ (by omega)];exact l3 i hi
 ·rw[hh 1 (by omega)];exact u n hn
 ·rw[hh _ (by unfold firstF;omega)];exact k j hj
theorem has_low (h:Plan F bl fs) {s:Puts} (hs:∀p∈s,p.1<firstF F) {g:Nat→Sec} (hg:Has bl g):Has bl (setAll g s):=fun p hp=>by
 rw[setAll_out fun r hr e=>by have h1:=hs r hr;have h2:=(h.bkey hp).1;omega]
 exact hg p hp
theorem keeps_low {s:Puts} (hs:∀p∈s,p.1<firstF F) {g:Nat→Sec} (hg:Keeps F g):Keeps F (setAll g s):=fun k hk=>by
 rw[setAll_out fun r hr e=>by have h1:=hs r hr;omega]
 exact hg k hk
theorem ring_key (hF:FInv q F) {t:Puts} {p:Nat×Sec} (hp:p∈changeL F.log t):2≤p.1∧p.1<homeL F.log:=by
 obtain⟨i,hi,e⟩:=chg_key hp
 rw[e]
 unfold inL homeL
 have:=Nat.mod_lt (F.log.pos+i) hF.geo.ring
 omega
theorem mrk_tab (h:Plan F bl fs) (hF:FInv q F) {s:Puts} (hs:s.Sublist (diffF F fs)) {g:Nat→Sec} (hg:Mrk F bl fs g):Mrk F bl fs (setAll g s):=by
 have hk:∀p∈s,∃i,i<F.mt∧p=(homeL F.log+1+i,(sectorsB F.mt fs).getD i []):=fun p hp=>h.tkey hF (hs.subset hp)
 have hlow:∀p∈s,p.1<firstF F:=fun p hp=>by obtain⟨i,hi,rfl⟩:=hk p hp;unfold firstF;simp only;omega
 have hh:∀j,j≤homeL F.log→setAll g s j=g j:=fun j hj=>setAll_out fun p hp e=>by obtain⟨i,hi,rfl⟩:=hk p hp;simp only at e;omega
 have h2:2≤homeL F.log:=by unfold homeL;omega
 refine⟨?_,?_,?_,fun p hp=>?_,fun i hi=>?_,keeps_low hlow hg.keeps,has_low h hlow hg.has⟩
 ·rw[hh 0 (by omega)];exact hg.head
 ·rw[hh 1 (by omega)];exact hg.mark
 ·rw[hh _ (by omega)];exact hg.top
 ·rw[hh _ (by have:=(ring_key hF hp).2;omega)];exact hg.ring p hp
 ·rcases setAll_or (l:=s) (j:=homeL F.log+1+i) (f:=g) with e | ⟨p,hp,e1,e2⟩
  ·rw[e];exact hg.tab i hi
  ·left
   rw[e2]
   obtain⟨j,hj,rfl⟩:=hk p hp
   simp only at e1 ⊢
   have:j=i:=by omega
   subst this
   rfl
theorem mrk_new (h:Plan F bl fs) (hF:FInv q F) (hq:q<2^47) (ht:diffF F fs≠[]) {g:Nat→Sec} (hg:Mrk F bl fs g):New F bl fs (setAll (setAll g (diffF F fs)) (headL (nextL F.log (diffF F fs).length))):=by
 have hm:=mrk_tab h hF (List.Sublist.refl _) hg
 have hall:∀i,i<F.mt→setAll g (diffF F fs) (homeL F.log+1+i)=(sectorsB F.mt fs).getD i []:=fun i hi=>by
  rcases hg.tab i hi with e | e
  ·rcases setAll_or (l:=diffF F fs) (j:=homeL F.log+1+i) (f:=g) with e' | ⟨p,hp,e1,e2⟩
   ·rw[e',e]
   ·obtain⟨j,hj,rfl⟩:=h.tkey hF hp
    simp only at e1 e2
    have:j=i:=by omega
    subst this
    exact e2
  ·exact setAll_each (differ_nodup _ _ _) _ e
 have hlog:logF F fs=nextL F.log (diffF F fs).length:=if_neg ht
 have h2:2≤homeL F.log:=by unfold homeL;omega
 have ho:∀j,j≠0→setAll (setAll g (diffF F fs)) (headL (nextL F.log (diffF F fs).length)) j=setAll g (diffF F fs) j:=fun j hj=>setAll_out fun p hp e=>by
  unfold headL at hp
  rw[List.mem_singleton.1 hp] at e
  exact hj e.symm
 have hlow:∀p∈headL (nextL F.log (diffF F fs).length),p.1<firstF F:=fun p hp=>by unfold headL at hp;rw[List.mem_singleton.1 hp];unfold firstF;simp only;omega
 refine⟨⟨?_,?_,fun i hi=>?_⟩,fun n hn=>?_,keeps_low hlow hm.keeps,has_low h hlow hm.has⟩
 ·rw[hlog];exact setAll_in ⟨_,List.mem_singleton.2 rfl,rfl⟩ fun p hp _=>by rw[List.mem_singleton.1 hp]
 ·rw[hlog,show homeL (nextL F.log (diffF F fs).length)=homeL F.log from rfl,ho _ (by omega)];exact hm.top
 ·rw[hlog,show homeL (nextL F.log (diffF F fs).length)=homeL F.log from rfl,ho _ (by omega)];exact hall i hi
 ·rw[hlog,ho 1 (by omega),hm.mark]
  have:=hF.seq
  exact mark_ne (by omega) (by show F.log.seq+1<_;omega) (by show F.log.seq≠F.log.seq+1;omega)
theorem old_mrk (h:Plan F bl fs) (hF:FInv q F) {g:Nat→Sec} (hg:Old F g) (hb:Has bl g) (hc:Has (changeL F.log (diffF F fs)) g):Mrk F bl fs (setAll g [(1,markB F.log.seq F.log.pos (diffF F fs).length)]):=by
 have ho:∀j,j≠1→setAll g [(1,markB F.log.seq F.log.pos (diffF F fs).length)] j=g j:=fun j hj=>setAll_out fun p hp e=>by
  rw[List.mem_singleton.1 hp] at e
  exact hj e.symm
 have h2:2≤homeL F.log:=by unfold homeL;omega
 have hlow:∀p∈[(1,markB F.log.seq F.log.pos (diffF F fs).length)],p.1<firstF F:=fun p hp=>by rw[List.mem_singleton.1 hp];unfold firstF;simp only;omega
 refine⟨?_,setAll_in ⟨_,List.mem_singleton.2 rfl,rfl⟩ fun p hp _=>by rw[List.mem_singleton.1 hp],?_,fun p hp=>?_,fun i hi=>?_,keeps_low hlow hg.2.2,has_low h hlow hb⟩
 ·rw[ho 0 (by omega)];exact hg.1.head
 ·rw[ho _ (by omega)];exact hg.1.top
 ·rw[ho _ (by have:=(ring_key hF hp).1;omega)];exact hc p hp
 ·rw[ho _ (by omega),hg.1.tab i hi]
  by_cases e:(sectorsB F.mt F.files).getD i []=(sectorsB F.mt fs).getD i []
  ·exact .inl e
  ·exact .inr (differ_mem.2 ⟨i,by rw[sectors_len hF.tlen];exact hi,e,rfl⟩)
theorem stages_new (h:Plan F bl fs) (hF:FInv q F) (hq:q<2^47):New F bl fs (setAll F.disk.now (stagesF F bl fs).flatten):=by
 have h0:Old F F.disk.now:=⟨hF.lies,hF.un,fun _ _=>rfl⟩
 have hb:(if bl=[] then [] else [bl]:List Puts).flatten=bl:=by split <;> simp_all
 have h1:=old_blocks h hF (List.Sublist.refl _) h0
 have h2:Has bl (setAll F.disk.now bl):=fun p hp=>setAll_each h.nodup p hp
 unfold stagesF
 rw[List.flatten_append,hb,setAll_app]
 generalize setAll F.disk.now bl=g at *
 by_cases ht:diffF F fs=[]
 ·unfold commitP
  rw[if_pos ht]
  have hlog:logF F fs=F.log:=if_pos ht
  refine⟨⟨?_,?_,fun i hi=>?_⟩,?_,h1.2.2,h2⟩
  ·rw[hlog];exact h1.1.head
  ·rw[hlog];exact h1.1.top
  ·rw[hlog]
   show g _=_
   rw[h1.1.tab i hi]
   by_cases e:(sectorsB F.mt F.files).getD i []=(sectorsB F.mt fs).getD i []
   ·exact e
   ·have:(homeL F.log+1+i,(sectorsB F.mt fs).getD i [])∈diffF F fs:=differ_mem.2 ⟨i,by rw[sectors_len hF.tlen];exact hi,e,rfl⟩
    rw[ht] at this;cases this
  ·rw[hlog];exact h1.2.1
 ·unfold commitP
  rw[if_neg ht]
  simp only[List.flatten_cons,List.flatten_nil,List.append_nil,setAll_app]
  have h3:=old_ring h hF (fun p hp=>ring_key hF hp) h1 (s:=changeL F.log (diffF F fs))
  have h4:Has bl (setAll g (changeL F.log (diffF F fs))):=has_low h (fun p hp=>by have:=(ring_key hF hp).2;unfold firstF;omega) h2
  have h5:Has (changeL F.log (diffF F fs)) (setAll g (changeL F.log (diffF F fs))):=fun p hp=>setAll_each (chg_nodup (List.length_pos_iff.2 ht) h.room) p hp
  exact mrk_new h hF hq ht (old_mrk h hF h3 h4 h5)
theorem stages_cut (h:Plan F bl fs) (hF:FInv q F) (hq:q<2^47) {g:Nat→Sec} (hc:Cut F.disk.now (stagesF F bl fs) g):Old F g∨(diffF F fs≠[]∧(Mrk F bl fs g∨New F bl fs g)):=by
 obtain⟨a,l,b,s,hL,hs,rfl⟩:=hc
 have h0:Old F F.disk.now:=⟨hF.lies,hF.un,fun _ _=>rfl⟩
 have hb0:(if bl=[] then [] else [bl]:List Puts).flatten=bl:=by split <;> simp_all
 have h1:=old_blocks h hF (List.Sublist.refl _) h0
 have h2:Has bl (setAll F.disk.now bl):=fun p hp=>setAll_each h.nodup p hp
 unfold stagesF at hL
 rcases List.append_eq_append_iff.1 hL with ⟨c,rfl,e2⟩ | ⟨c,e1,e2⟩
 ·
  rw[List.flatten_append,hb0,setAll_app]
  generalize setAll F.disk.now bl=g at *
  by_cases ht:diffF F fs=[]
  ·unfold commitP at e2
   rw[if_pos ht] at e2
   cases c <;> cases e2
  ·unfold commitP at e2
   rw[if_neg ht] at e2
   have h3:=old_ring h hF (fun p hp=>ring_key hF hp) h1 (s:=changeL F.log (diffF F fs))
   have h4:Has bl (setAll g (changeL F.log (diffF F fs))):=has_low h (fun p hp=>by have:=(ring_key hF hp).2;unfold firstF;omega) h2
   have h5:Has (changeL F.log (diffF F fs)) (setAll g (changeL F.log (diffF F fs))):=fun p hp=>setAll_each (chg_nodup (List.length_pos_iff.2 ht) h.room) p hp
   have h6:=old_mrk h hF h3 h4 h5
   match c,e2 with
   | [],e2=>
    simp only[List.nil_append,List.cons.injEq] at e2
    obtain⟨rfl,-⟩:=e2
    left
    exact old_ring h hF (fun p hp=>ring_key hF (hs.subset hp)) h1
   | [c1],e2=>
    simp only[List.cons_append,List.nil_append,List.cons.injEq] at e2
    obtain⟨rfl,rfl,-⟩:=e2
    simp only[List.flatten_cons,List.flatten_nil,List.append_nil]
    rcases sub_one hs with rfl | rfl
    ·left;exact h3
    ·exact .inr ⟨ht,.inl h6⟩
   | [c1,c2],e2=>
    simp only[List.cons_append,List.nil_append,List.cons.injEq] at e2
    obtain⟨rfl,rfl,rfl,-⟩:=e2
    simp only[List.flatten_cons,List.flatten_nil,List.append_nil,setAll_app]
    exact .inr ⟨ht,.inl (mrk_tab h hF hs h6)⟩
   | [c1,c2,c3],e2=>
    simp only[List.cons_append,List.nil_append,List.cons.injEq] at e2
    obtain⟨rfl,rfl,rfl,rfl,-⟩:=e2
    simp only[List.flatten_cons,List.flatten_nil,List.append_nil,setAll_app]
    have h7:=mrk_new h hF hq ht h6
    have h8:=mrk_tab h hF (List.Sublist.refl _) h6
    unfold headL at hs
    rcases sub_one hs with rfl | rfl
    ·exact .inr ⟨ht,.inl h8⟩
    ·exact .inr ⟨ht,.inr h7⟩
   | c1::c2::c3::c4::c5,e2=>
    simp only[List.cons_append,List.cons.injEq] at e2
    obtain⟨-,-,-,-,e2⟩:=e2
    cases c5 <;> cases e2
 ·
  split at e1
  ·rename_i hbn
   obtain⟨rfl,rfl⟩:a=[]∧c=[]:=by simpa using e1.symm
   subst hbn
   simp only[List.nil_append] at e2
   by_cases ht:diffF F fs=[]
   ·unfold commitP at e2
    rw[if_pos ht] at e2
    cases e2
   ·unfold commitP at e2
    rw[if_neg ht] at e2
    simp only[List.cons.injEq] at e2
    obtain⟨rfl,-⟩:=e2
    left
    exact old_ring h hF (fun p hp=>ring_key hF (hs.subset hp)) h0
  ·match a,e1 with
   | [],e1=>
    simp only[List.nil_append] at e1
    subst e1
    simp only[List.cons_append,List.cons.injEq] at e2
    obtain⟨rfl,-⟩:=e2
    left
    exact old_blocks h hF hs h0
   | [a1],e1=>
    simp only[List.cons_append,List.nil_append,List.cons.injEq] at e1
    obtain⟨rfl,rfl⟩:=e1
    simp only[List.nil_append] at e2
    simp only[List.flatten_cons,List.flatten_nil,List.append_nil]
    by_cases ht:diffF F fs=[]
    ·unfold commitP at e2
     rw[if_pos ht] at e2
     cases e2
    ·unfold commitP at e2
     rw[if_neg ht] at e2
     simp only[List.cons.injEq] at e2
     obtain⟨rfl,-⟩:=e2
     left
     exact old_ring h hF (fun p hp=>ring_key hF (hs.subset hp)) h1
   | a1::a2::a3,e1=>simp at e1
end
end Go.Aq.Fy
