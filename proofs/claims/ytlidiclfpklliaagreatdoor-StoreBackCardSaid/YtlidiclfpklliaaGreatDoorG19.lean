/- StPlain FyT FyU -/
import Derived.Test.YtlidiclfpklliaaGreatDoorG16
import Derived.Test.YtlidiclfpklliaaGreatDoorG18
set_option linter.unusedSimpArgs false
set_option linter.unusedVariables false
set_option maxHeartbeats 4000000
namespace Go.Aq.Fy
open Go.Aq Go.RowKit
def keyD (b:Sec):Nm:=hexL (Sha.sum b)
theorem keyD_valid (b:Sec):validB (keyD b)=true:=validB_hex _ (Sha.sum_length b)
theorem keyD_len (b:Sec):(keyD b).length=64:=by unfold keyD;rw[hexL_length,Sha.sum_length]
def placeS (k:Nm):Nm:=111::k
theorem placeS_inj {a b:Nm} (h:placeS a=placeS b):a=b:=(List.cons.inj h).2
theorem placeS_lt {a b:Nm}:placeS a<placeS b↔a<b:=by unfold placeS;rw[List.cons_lt_cons_iff];simp
def thereS (v st:View) (k:Nm):Option Sec:=match lookK k st with | some b=>some b | none=>lookK (placeS k) v
def putS (v st:View) (b:Sec):View×Nm×Nat:=
 if kindO b=0 then (st,[],4)
 else match thereS v st (keyD b) with
  | some c=>if c=b then (st,keyD b,0) else (st,[],11)
  | none=>(insK (keyD b) b st,keyD b,0)
def getS (v:View) (k:Nm):Sec×Nat:=
 if validB k=false then ([],16)
 else match lookK (placeS k) v with
  | none=>([],6)
  | some b=>if keyD b=k then (b,0) else ([],5)
def cutS (s:Nm):Option Nm:=match s with | []=>none | c::k=>if c=111∧validB k=true then some k else none
def keysS (v:View):List Nm:=(v.map (·.1)).filterMap cutS
def changesS (st:View):List ChangeD:=st.map fun p=>⟨1,placeS p.1,[],p.2⟩
theorem cut_place {k:Nm} (h:validB k=true):cutS (placeS k)=some k:=by unfold cutS placeS;simp[h]
theorem create_ok {v:View} {s:Nm} {d:Sec} (h:(oneV v ⟨1,s,[],d⟩).2=0):lookK s v=none∧(oneV v ⟨1,s,[],d⟩).1=insK s d v:=by
 unfold oneV at h ⊢
 simp only at h ⊢
 split at h
 ·exact absurd h (by simp)
 ·rename_i h1
  rw[if_neg h1]
  split at h
  ·rename_i h2
   rw[if_pos h2]
   have h3:lookK s v=none:=by
    rcases h2 with h2 | h2
    ·exact absurd h2 (by decide)
    ·have:=h2.2
     cases hl:lookK s v with
     | none=>rfl
     | some x=>rw[hl] at this;cases this
   refine⟨h3,?_⟩
   unfold tellV at h ⊢
   split at h
   ·exact absurd h (by simp)
   ·rename_i h4
    rw[if_neg h4]
  ·exact absurd h (by simp)
theorem creates_ok:∀(l:View) (v:View),Asc l→(allV v (changesS l)).2=0→
  ∀s,lookK s (allV v (changesS l)).1=match lookK s (l.map fun p=>(placeS p.1,p.2)) with | some b=>some b | none=>lookK s v
 | [],v,_,_,s=>rfl
 | (k,b)::l,v,ha,h,s=>by
  have e:changesS ((k,b)::l)=⟨1,placeS k,[],b⟩::changesS l:=rfl
  rw[e] at h ⊢
  unfold allV at h ⊢
  by_cases h1:(oneV v ⟨1,placeS k,[],b⟩).2=0
  ·rw[if_pos h1] at h ⊢
   obtain⟨hn,he⟩:=create_ok h1
   rw[he] at h ⊢
   have ha':=List.pairwise_cons.1 ha
   rw[creates_ok l _ ha'.2 h s]
   have e2:lookK s (((k,b)::l).map fun p=>(placeS p.1,p.2))=if placeS k=s then some b else lookK s (l.map fun p=>(placeS p.1,p.2)):=rfl
   rw[e2]
   by_cases hk:placeS k=s
   ·subst hk
    have hno:lookK (placeS k) (l.map fun p=>(placeS p.1,p.2))=none:=look_none.2 fun p hp e=>by
     obtain⟨q,hq,rfl⟩:=List.mem_map.1 hp
     have h1:k<q.1:=ha'.1 q hq
     have h2:q.1=k:=placeS_inj e
     rw[h2] at h1
     exact absurd h1 (List.lt_irrefl _)
    rw[hno,if_pos rfl]
    exact look_ins_same _ _ _
   ·rw[if_neg hk,look_ins_ne (fun e=>hk e.symm)]
  ·rw[if_neg h1] at h
   exact absurd h h1
theorem look_place:∀(l:View) (k:Nm),lookK (placeS k) (l.map fun p=>(placeS p.1,p.2))=lookK k l
 | [],_=>rfl
 | (a,b)::l,k=>by
  show lookK (placeS k) ((placeS a,b)::l.map fun p=>(placeS p.1,p.2))=_
  unfold lookK
  rw[look_place l k]
  by_cases h:a=k
  ·subst h;simp
  ·rw[if_neg h,if_neg (fun e=>h (placeS_inj e))]
theorem asc_place {l:View} (h:Asc l):Asc (l.map fun p=>(placeS p.1,p.2)):=by
 unfold Asc at *
 rw[List.pairwise_map]
 exact h.imp fun h=>placeS_lt.2 h
theorem asc_all:∀(l:List ChangeD) (v:View),Asc v→(∀c∈l,c.kind=1∧c.tonm=[])→Asc (allV v l).1
 | [],v,h,_=>h
 | c::l,v,h,hc=>by
  have ho:Asc (oneV v c).1:=by
   obtain⟨k,s,t,d⟩:=c
   obtain⟨h1,h2⟩:=hc _ (.head _)
   simp only at h1 h2
   subst h1 h2
   by_cases h1:(oneV v ⟨1,s,[],d⟩).2=0
   ·rw[(create_ok h1).2];exact asc_ins _ _ h
   ·unfold oneV at h1 ⊢
    simp only at h1 ⊢
    split
    ·exact h
    ·rename_i h3
     rw[if_neg h3] at h1
     split
     ·rename_i h4
      rw[if_pos h4] at h1
      unfold tellV at h1 ⊢
      split
      ·exact h
      ·exact asc_ins _ _ h
     ·exact h
  unfold allV
  split
  ·exact asc_all l _ ho fun c hm=>hc c (.tail _ hm)
  ·exact ho
theorem done_view {st:View} (ha:Asc st) (h:(allV [] (changesS st)).2=0):(allV [] (changesS st)).1=st.map fun p=>(placeS p.1,p.2):=by
 refine asc_ext (asc_all _ _ asc_nil fun c hc=>?_) (asc_place ha) fun s=>?_
 ·unfold changesS at hc
  obtain⟨p,-,rfl⟩:=List.mem_map.1 hc
  exact⟨rfl,rfl⟩
 ·rw[creates_ok st [] ha h s]
  cases lookK s (st.map fun p=>(placeS p.1,p.2)) <;> rfl
structure StI (objs:List Sec) (i:Nat) (st:View) (ks:List Nm) (ds:List Sec):Prop where
 asc:Asc st
 len:ds.length=ks.length
 le:ks.length≤i
 sle:st.length≤ks.length
 look:∀(j:Nat) (k:Nm) (b:Sec),ks[j]?=some k→ds[j]?=some b→k=keyD b∧kindO b≠0∧lookK k st=some b
 mem:∀p∈st,p.1∈ks∧p.1=keyD p.2∧p.2∈objs
 obj:∀b∈ds,b∈objs
theorem StI.start (objs:List Sec):StI objs 0 [] [] []:=⟨asc_nil,rfl,Nat.le_refl _,Nat.le_refl _,fun _ _ _ h=>by simp at h,fun p h=>absurd h (by simp),fun b h=>absurd h (by simp)⟩
theorem StI.skip {objs:List Sec} {i:Nat} {st:View} {ks:List Nm} {ds:List Sec} (h:StI objs i st ks ds):StI objs (i+1) st ks ds:=
 ⟨h.asc,h.len,Nat.le_succ_of_le h.le,h.sle,h.look,h.mem,h.obj⟩
theorem putS_cases {v st:View} {b:Sec}:(kindO b=0∧putS v st b=(st,[],4))∨(kindO b≠0∧((∃c,thereS v st (keyD b)=some c∧c≠b∧putS v st b=(st,[],11))∨(thereS v st (keyD b)=some b∧putS v st b=(st,keyD b,0))∨
  (thereS v st (keyD b)=none∧putS v st b=(insK (keyD b) b st,keyD b,0)))):=by
 unfold putS
 by_cases h:kindO b=0
 ·exact .inl ⟨h,by rw[if_pos h]⟩
 ·refine .inr ⟨h,?_⟩
  rw[if_neg h]
  cases hc:thereS v st (keyD b) with
  | none=>exact .inr (.inr ⟨rfl,rfl⟩)
  | some c=>
   by_cases e:c=b
   ·subst e;exact .inr (.inl ⟨rfl,by simp⟩)
   ·exact .inl ⟨c,rfl,e,by simp[e]⟩
theorem StI.step {objs:List Sec} {i:Nat} {st:View} {ks:List Nm} {ds:List Sec} (h:StI objs i st ks ds) {b:Sec} (hb:b∈objs) (he:(putS [] st b).2.2=0):
  StI objs (i+1) (putS [] st b).1 (ks++[keyD b]) (ds++[b])∧(putS [] st b).2.1=keyD b∧(lookK (keyD b) (putS [] st b).1).isSome=true:=by
 have hl:=h.len
 have hle:=h.le
 have hs:=h.sle
 have one:∀{st':View} (hst:lookK (keyD b) st'=some b) (hk:kindO b≠0) (ho:∀k c,lookK k st=some c→lookK k st'=some c),
   ∀(j:Nat) (k:Nm) (c:Sec),(ks++[keyD b])[j]?=some k→(ds++[b])[j]?=some c→k=keyD c∧kindO c≠0∧lookK k st'=some c:=by
  intro st' hst hk ho j k c h1 h2
  by_cases hj:j<ks.length
  ·rw[List.getElem?_append_left hj] at h1
   rw[List.getElem?_append_left (by omega)] at h2
   obtain⟨a1,a2,a3⟩:=h.look j k c h1 h2
   exact⟨a1,a2,ho _ _ a3⟩
  ·have hj2:j=ks.length:=by
    have:=(List.getElem?_eq_some_iff.1 h1).1
    simp at this
    omega
   subst hj2
   rw[List.getElem?_append_right (Nat.le_refl _)] at h1
   rw[List.getElem?_append_right (by omega)] at h2
   simp[hl] at h1 h2
   subst h1 h2
   exact⟨rfl,hk,hst⟩
 have hobj:∀c∈ds++[b],c∈objs:=fun c hc=>by
  rcases List.mem_append.1 hc with h1 | h1
  ·exact h.obj c h1
  ·rw[List.mem_singleton] at h1;rw[h1];exact hb
 rcases putS_cases (v:=[]) (st:=st) (b:=b) with ⟨-,e⟩ | ⟨hk,⟨c,-,-,e⟩ | ⟨ht,e⟩ | ⟨ht,e⟩⟩
 ·rw[e] at he;exact absurd he (by simp)
 ·rw[e] at he;exact absurd he (by simp)
 ·rw[e]
  have hst:lookK (keyD b) st=some b:=by
   unfold thereS at ht
   cases hh:lookK (keyD b) st with
   | some c=>rw[hh] at ht;exact ht
   | none=>rw[hh] at ht;cases ht
  refine⟨⟨h.asc,by simp[hl],by simp;omega,by simp;omega,one hst hk (fun _ _ h=>h),fun p hp=>?_,hobj⟩,rfl,by rw[hst];rfl⟩
  obtain⟨m1,m2,m3⟩:=h.mem p hp
  exact⟨List.mem_append_left _ m1,m2,m3⟩
 ·rw[e]
  have hst:lookK (keyD b) st=none:=by
   unfold thereS at ht
   cases hh:lookK (keyD b) st with
   | some c=>rw[hh] at ht;cases ht
   | none=>rfl
  refine⟨⟨asc_ins _ _ h.asc,by simp[hl],by simp;omega,?_,one (look_ins_same _ _ _) hk (fun k c hc=>?_),fun p hp=>?_,hobj⟩,rfl,by rw[look_ins_same];rfl⟩
  ·have:=ins_length_le (keyD b) b st
   simp;omega
  ·rw[look_ins_ne (fun e=>by rw[e,hst] at hc;cases hc)]
   exact hc
  ·rcases mem_ins hp with rfl | hp
   ·exact⟨by simp,rfl,hb⟩
   ·obtain⟨m1,m2,m3⟩:=h.mem p hp
    exact⟨List.mem_append_left _ m1,m2,m3⟩
theorem StI.done {objs:List Sec} {i:Nat} {st:View} {ks:List Nm} {ds:List Sec} (h:StI objs i st ks ds) {v:View} (hv:v=st.map fun p=>(placeS p.1,p.2)):
  keysS v=st.map (·.1)∧(∀x,x∈st.map (·.1)↔x∈ks)∧∀(j:Nat) (k:Nm) (b:Sec),ks[j]?=some k→ds[j]?=some b→getS v k=(b,0)∧putS v [] b=([],k,0):=by
 subst hv
 refine⟨?_,fun x=>⟨fun hx=>?_,fun hx=>?_⟩,fun j k b hk hb=>?_⟩
 ·unfold keysS
  have:∀l:View,(∀p∈l,validB p.1=true)→((l.map fun p=>(placeS p.1,p.2)).map (·.1)).filterMap cutS=l.map (·.1):=by
   intro l
   induction l with
   | nil=>intro _;rfl
   | cons p l ih=>
    intro hp
    simp only[List.map_cons,List.filterMap_cons,cut_place (hp p (.head _))]
    rw[ih fun q hq=>hp q (.tail _ hq)]
  exact this st fun p hp=>by rw[(h.mem p hp).2.1];exact keyD_valid _
 ·obtain⟨p,hp,rfl⟩:=List.mem_map.1 hx
  exact (h.mem p hp).1
 ·obtain⟨j,hj⟩:=List.mem_iff_getElem?.1 hx
  have hjl:=(List.getElem?_eq_some_iff.1 hj).1
  obtain⟨b,hb⟩:∃b,ds[j]?=some b:=⟨_,List.getElem?_eq_getElem (by rw[h.len];exact hjl)⟩
  obtain⟨-,-,a3⟩:=h.look j x b hj hb
  exact List.mem_map.2 ⟨(x,b),look_mem a3,rfl⟩
 ·obtain⟨a1,a2,a3⟩:=h.look j k b hk hb
  constructor
  ·unfold getS
   rw[look_place,a3,if_neg (by rw[a1,keyD_valid];decide)]
   simp[←a1]
  ·unfold putS thereS
   rw[if_neg a2,←a1,look_place,a3]
   simp[lookK]
theorem sorted_same {U V:List Nm} (hU:U.Pairwise (·<·)) (hV:V.Pairwise (·<·)) (h:∀x,x∈U↔x∈V):U=V:=by
 have key:∀l:List Nm,∀s,lookK s (l.map fun k=>(k,()))=if s∈l then some () else none:=by
  intro l s
  induction l with
  | nil=>simp[lookK]
  | cons a l ih=>
   simp only[List.map_cons,lookK,ih]
   by_cases e:a=s
   ·simp[e]
   ·simp[e,Ne.symm e]
 have asc:∀l:List Nm,l.Pairwise (·<·)→Asc (l.map fun k=>(k,())):=fun l hl=>by
  unfold Asc
  rw[List.pairwise_map]
  exact hl
 have e:=asc_ext (asc U hU) (asc V hV) fun s=>by
  rw[key,key]
  by_cases hs:s∈U
  ·rw[if_pos hs,if_pos ((h s).1 hs)]
  ·rw[if_neg hs,if_neg (fun hv=>hs ((h s).2 hv))]
 have e2:=congrArg (List.map (·.1)) e
 simpa[List.map_map,Function.comp_def] using e2
def exT:Sec:=[1,82,0,1,0,1,1,8,7]
theorem exT_kind:kindO exT=1:=(tile_iff _).2 (by decide)
end Go.Aq.Fy
namespace Go.Aq
open Go.RowKit
theorem Sees.take {w:World} {ao:Option Addr} {n cap at_:Nat} {b:List UInt8} (h:Sees w 1 (.slice ao n cap) n (Bs b)) (ha:at_≤n):Sees w 1 (.slice ao at_ cap) at_ (Bs (b.take at_)):=by
 obtain⟨h1,ao',cap',h2,h3,h4,h5⟩:=h
 simp only[Value.slice.injEq,true_and] at h2
 obtain⟨rfl,rfl⟩:=h2
 have hbl:b.length=n:=by simpa[Bs] using h1
 refine⟨by simp[Bs];omega,ao,cap,rfl,by omega,fun e=>⟨by have:=(h4 e).1;omega,(h4 e).2⟩,fun ad had j u hu=>h5 ad had j u ?_⟩
 have e:Bs (b.take at_)=(Bs b).take at_:=by simp[Bs,List.map_take]
 rw[e] at hu
 rw[List.getElem?_take] at hu
 split at hu
 ·exact hu
 ·cases hu
end Go.Aq
namespace Go.Proofs.YtlidiclfpklliaaGreatDoor
open Go.RowKit Go.Aq Go.Aq.Fy Go.Maps
def upB (F:FsD) (ks:List Nat) (i:Nat):Sec:=(ks.take i).flatMap fun k=>F.disk.now (firstF F+k)
theorem upB_succ (F:FsD) (ks:List Nat) (i:Nat) (h:i<ks.length):upB F ks (i+1)=upB F ks i++F.disk.now (firstF F+ks[i]):=by
 unfold upB
 rw[List.take_succ_eq_append_getElem h,List.flatMap_append]
 simp
theorem upB_all (F:FsD) (ks:List Nat):upB F ks ks.length=ks.flatMap fun k=>F.disk.now (firstF F+k):=by unfold upB;rw[List.take_length]
def ReadEnd (w:World) (b:Sec) (e:Ending) (w':World):Prop:=
 ∃v,e=.returned (.tuple #[v,.int .i64 0])∧Sees w' 1 v b.length (Bs b)∧(∀k∈eyes v,w.heap.size≤k)∧Chg [] w w'
set_option maxRecDepth 100000 in
theorem fread_ok (w:World) (Sd X:List Nat) (f d l bf:Nat) (F:FsD) (h:FsR w Sd X f d l bf F) (hd:F.disk.down=false) (s:Nm) (hs:s.length≤1048576) (x:FileD) (hx:lookK s F.files=some x) (hsz:x.size≤256 * x.blocks.length) (hbl:x.blocks.length≤4096) (hks:∀k∈x.blocks,k<allF F)
  (hsec:∀k,k<F.disk.n→(F.disk.now k).length=256):
  Calls Tryz.prog 82 #[.pointer (some ⟨f,0,none⟩),.string (str s)] w (ReadEnd w (bytesB F x)):=by
 obtain⟨⟨c0,-,-,c3⟩,-⟩:=Blk.c4b h.blk
 obtain⟨n,ao,m,cap,⟨-,l2⟩,h1,h2,h3⟩:=h.files.look s hs
 unfold hasF at l2
 rw[hx] at l2 h1 h2 h3
 simp only[Option.getD_some] at h1 h2 h3
 simp only[Option.isSome_some] at l2
 obtain⟨v,hv,hV,-⟩:=h3
 have hv':v=.slice ao m cap:=by
  have:=congrArg (fun y=>match y with | Value.agg xs=>xs[1]? | _=>none) hv
  simpa using this.symm
 subst hv'
 have HV:=zH hV
 have HH:=zG h hd hsz hbl hks hsec h1 h2
 clear h hd hx hsz hbl hks hsec h1 h2 hv hV
 go_enter Tryz.func82,Tryz.ntmps82
 go_wp2_with fail
 obtain⟨w1,hw1⟩:∃w1,w.alloc (Obj.cells #[Value.int IntKind.i64 (n:Int),Value.slice ao m cap] 110)=w1:=⟨_,rfl⟩
 obtain⟨K,hK⟩:∃K,w.heap.size=K:=⟨_,rfl⟩
 have hbx:Blk w1 K #[.int .i64 n,.slice ao m cap] 110:=by rw[←hw1,←hK];exact Blk.new _ _ _
 have cw1:Chg [] w w1:=by rw[←hw1];exact (Chg.refl [] w).alloc _
 have hs1:w1.heap.size=K+1:=by rw[←hw1,←hK];exact Array.size_push _
 have F0:Fresh w1 (w1.alloc (.cells #[] 5)) 5 1 (.slice (some ⟨K+1,0,none⟩) 0 0) 0 []:=by
  refine⟨?_,(Chg.refl [] w1).alloc _,fun k hk=>?_⟩
  ·rw[←hs1];exact Own.made w1 _ 1
  ·simp[Value.ownBlock] at hk;omega
 rw[hw1,hK]
 have H1:=zC hbx cw1 hs1 hK
 clear hbx cw1 hs1 hw1 hK l2 c3
 go_loopg [8,28] m (fun k vb vi wr=>∃i:Nat,vi=.int .i64 i∧i+k=m∧Fresh w1 wr 5 1 vb (256 * i) (Bs (upB F x.blocks i)))
 case atStart=>exact⟨0,rfl,by omega,F0⟩
 case round=>
  obtain⟨i,rfl,hk,hF⟩:=hrel
  have cr:Chg [] w wr:=H1.out.2.1.nil hF.chg
  obtain⟨ab,cb,rfl,-⟩:=hF.shape
  obtain⟨⟨z0,z1⟩,-⟩:=And.intro (And.intro ((H1.out.1.chg0 hF.chg).cell 0) ((H1.out.1.chg0 hF.chg).cell 1)) trivial
  by_cases hi:i<m
  ·have hm0:0<m:=by omega
   have hib:i<x.blocks.length:=by have:=HH.out.2.2.2.2.2.2.2;omega
   have V1:=HV.out.chg0 cr
   have e2:x.blocks.length=m:=HH.out.2.2.2.2.2.2.2.symm
   rw[e2] at V1
   obtain⟨g,off,cp,he,-,hc⟩:=V1.at1 hm0
   cases he
   have y:=hc i hi
   have ey:(ints x.blocks)[i]?=some (.int .i64 (x.blocks[i]'hib:Nat)):=by simp[ints,hib]
   rw[ey] at y
   have hkb:=HH.out.2.2.2.2.1 _ (List.getElem_mem hib)
   have hup:=upB_succ F x.blocks i hib
   obtain⟨kb,hkbe⟩:∃kb,x.blocks[i]'hib=kb:=⟨_,rfl⟩
   rw[hkbe] at y hkb hup
   have t0:decide ((i:Int)<(m:Int))=true:=decide_eq_true (by omega)
   have t0':decide (i<m)=true:=decide_eq_true hi
   have HI:=zE hk hF cr hkb hup hi
   clear hk hF hc ey hkb hup hkbe hib e2 V1 hm0 z0 z1
   have yf:=HI.out.2.2.1.cell_some c0 (by simp)
   go_upto_region 8 with (fail)
   refine wp_region_U [] (fun _=>false) (by kernel_rfl) ?_
   have q0:Chg [] wr wr.drew:=(Chg.refl _ _).drew
   obtain⟨W0,hW0⟩:∃W0,wr.drew=W0:=⟨_,rfl⟩
   rw[hW0] at q0 ⊢
   clear hW0
   have C0:Chg [] W0 W0:=Chg.refl _ _
   have yf':=q0.cell_some yf (by simp)
   clear yf y
   have hf0:=first_ok W0 Sd X f d l bf F (HH.out.1.chg0 (HI.out.2.2.1.nil q0))
   have hsm:=HH.out.1.small
   have hkl:firstF F+kb<F.disk.n:=by have h1:=HI.out.2.2.2.1;unfold allF at h1;omega
   have e1:IntKind.i64.wrap ((firstF F:Int)+(kb:Int))=((firstF F+kb:Nat):Int):=wIq (by unfold wrap64;omega)
   refine tU 0 (.pointer (some ⟨f,0,none⟩)) C0 (fun w4 c4=>?_) ?_
   ·go_simp
   try simp only[Act.put,yA,yB,yC,yD,yE,yF]
   refine tU 1 (.pointer (some ⟨f,0,none⟩)) C0 (fun w4 c4=>?_) ?_
   ·go_simp
   try simp only[Act.put,yA,yB,yC,yD,yE,yF]
   refine tU 2 (.pointer (some ⟨f,0,none⟩)) C0 (fun w4 c4=>?_) ?_
   ·go_simp
   try simp only[Act.put,yA,yB,yC,yD,yE,yF]
   refine tU 3 (.pointer (some ⟨d,0,none⟩)) C0 (fun w4 c4=>?_) ?_
   ·have z:=c4.cell_some yf' (by simp)
    go_simp
   try simp only[Act.put,yA,yB,yC,yD,yE,yF]
   refine tU 4 (.pointer (some ⟨f,0,none⟩)) C0 (fun w4 c4=>?_) ?_
   ·go_simp
   try simp only[Act.put,yA,yB,yC,yD,yE,yF]
   refine tU 6 (.int .i64 kb) C0 (fun w4 c4=>?_) ?_
   ·go_simp
   try simp only[Act.put,yA,yB,yC,yD,yE,yF]
   refine oU 5 ?_
   go_simp
   refine hf0.mono ?_
   rintro e w2 ⟨rfl,nq,rfl⟩
   have C2:Chg [] W0 (W0.drewN nq):=C0.drewN nq
   refine⟨C2,?_⟩
   try simp only[Act.put,yA,yB,yC,yD,yE,yF]
   generalize W0.drewN nq=W2 at *
   clear hf0
   refine tU 7 (.int .i64 ((firstF F+kb:Nat):Int)) C2 (fun w4 c4=>?_) ?_
   ·go_simp
   try simp only[Act.put,yA,yB,yC,yD,yE,yF]
   have hrd:=read_ok W2 Sd d F.disk (firstF F+kb) (HH.out.1.disk.chg ((HI.out.2.2.1.nil q0).nil C2)) HH.out.2.1 hkl
   refine oU 8 ?_
   go_simp
   refine hrd.mono ?_
   rintro e w3 ⟨v3,rfl,hF3⟩
   have C3:Chg [] W0 w3:=C2.nil hF3.chg
   refine⟨C3,?_⟩
   try simp only[Act.put,yA,yB,yC,yD,yE,yF]
   obtain⟨a3,q3,rfl,-⟩:=hF3.shape
   clear hrd e1
   refine tU 9 (.tuple #[.slice a3 256 q3,.int .i64 0]) C3 (fun w4 c4=>?_) ?_
   ·go_simp
   try simp only[Act.put,yA,yB,yC,yD,yE,yF]
   refine tU 10 (.slice a3 256 q3) C3 (fun w4 c4=>?_) ?_
   ·go_simp
   try simp only[Act.put,yA,yB,yC,yD,yE,yF]
   refine tU 11 (.int .i64 0) C3 (fun w4 c4=>?_) ?_
   ·go_simp
   try simp only[Act.put,yA,yB,yC,yD,yE,yF]
   refine tU 12 (.slice a3 256 q3) C3 (fun w4 c4=>?_) ?_
   ·go_simp
   try simp only[Act.put,yA,yB,yC,yD,yE,yF]
   refine tU 13 (.int .i64 0) C3 (fun w4 c4=>?_) ?_
   ·go_simp
   try simp only[Act.put,yA,yB,yC,yD,yE,yF]
   refine wpAnyU_done (by kernel_rfl) ?_ _
   have cw:Chg [] wr w3:=q0.nil C3
   have hF':=HI.out.2.1.to cw
   have hsz:256 * i≤1048576:=by have h1:=HI.out.2.2.2.2.2;have h2:=HH.out.2.2.2.1;have h3:=HH.out.2.2.2.2.2.2.2;omega
   have HX:=zB cw hF3 hkl
   have hs3:Sees w3 1 (.slice a3 256 q3) 256 (Bs (F.disk.now (firstF F+kb))):=hF3.own.sees
   have hsc:=HH.out.2.2.2.2.2.1 _ hkl
   clear cw hF3 hkl q0 C0 yf' hsm C2 C3
   go_wp2_with fail
   refine wp_app _ _ 36 rfl sl_u8y hF'.own rfl hs3 rfl (Bs_one _) (by show (256 * i+256) * 1≤_;omega) (by omega) ?_
   intro v' W' ho4 hc4 hn4
   have hF4:=hF'.app ho4 hc4 hn4
   clear ho4 hc4 hn4 hF'
   obtain⟨a4,q4,rfl,-⟩:=hF4.shape
   have e5:wrap64 ((i:Int)+1)=((i+1:Nat):Int):=by unfold wrap64;have h1:=HI.out.2.2.2.2.2;have h2:=HH.out.2.2.2.1;have h3:=HH.out.2.2.2.2.2.2.2;omega
   have e5w:=wIq e5
   have HF4:=zH hF4
   clear hF4 hs3 hsc hsz
   go_wp2_with fail
   go_roundg (gk - 1)
   case measure=>have:=HI.out.1;have:=HI.out.2.2.2.2.2;omega
   case rel=>
    refine⟨i+1,by simp,by have:=HI.out.1;have:=HI.out.2.2.2.2.2;omega,?_⟩
    have h1:=HF4.out
    rw[←Bs_append,←HI.out.2.2.2.2.1] at h1
    exact h1
  ·have him:i=m:=by omega
   subst him
   have e2:=HH.out.2.2.2.2.2.2.2
   have e3:=HH.out.2.2.2.2.2.2.1
   have hle:x.size≤256 * i:=by have h1:=HH.out.2.2.1;omega
   have t0:decide ((i:Int)<(i:Int))=false:=decide_eq_false (by omega)
   have hcb:256 * i≤cb:=by have:=hF.shape;obtain⟨_,_,h1,h2⟩:=this;cases h1;exact h2
   have hn:(n:Int)≤(256 * i:Nat):=by omega
   have hncb:n≤cb:=by omega
   have hncb':(n:Int)≤(cb:Int):=by omega
   have HI:=zD hF cr e2 e3 hle
   clear hF cr hk e2 e3 hle c0
   go_wp2_with fail
   go_ret2
   have hF:=HI.out.1
   have hlen:(upB F x.blocks i).length=256 * i:=by have:=hF.own.len;rw[Bs_length] at this;omega
   have hS:=hF.own.sees.take (b:=upB F x.blocks i) (at_:=n) (by have h1:=HI.out.2.2.2.1;have h2:=HI.out.2.2.2.2;omega)
   have hb:bytesB F x=(upB F x.blocks i).take n:=by
    rw[HI.out.2.2.2.1,HI.out.2.2.1,upB_all];rfl
   have hbl:(bytesB F x).length=n:=by rw[hb,List.length_take,hlen];have h1:=HI.out.2.2.2.1;have h2:=HI.out.2.2.2.2;omega
   unfold ReadEnd
   rw[hbl,hb]
   refine⟨.slice ab n cb,rfl,hS,fun k hk=>?_,HI.out.2.1⟩
   have h0:k∈(Value.slice ab (256 * i) cb).ownBlock.toList:=by
    have hk':k∈eyes (.slice ab n cb):=hk
    clear hk
    cases ab with
    | none=>simp[eyes] at hk'
    | some a=>have h3:=eyes_own _ k hk';simpa[Value.ownBlock] using h3
   have h1:=hF.new k h0
   have h2:=H1.out.2.1.size
   omega
set_option maxRecDepth 100000 in
theorem rename_ok (w:World) (S:List Nat) (g f bl br:Nat) (W:WorkD) (h:WorkR w S g f bl br W) (hin:In w S) (kind:Int) (s t:Nm) (hs:s.length≤1048576) (ht:t.length≤1048576) (v:Value) (hv:v.oneCell'=true) (hl:W.files.length≤1000) (hr:W.fresh.length≤1000):
  Calls Tryz.prog 125 #[.pointer (some ⟨g,0,none⟩),.agg #[.int .i64 kind,.string (str s),.string (str t),v]] w (TellEnd w S g f bl br (renameW W s t)):=by
 have hh:=fun w' (c:Chg [] w w')=>has_ok w' S g f bl br W (h.chg0 c) s hs
 have ht':=fun w' (c:Chg [] w w')=>has_ok w' S g f bl br W (h.chg0 c) t ht
 have HH:=zE h hl hr hs ht hin
 clear h hl hr hs ht hin
 go_enter Tryz.func125,Tryz.ntmps125
 go_wp2_with fail
 obtain⟨w1,hw1⟩:∃w1,w.alloc (Obj.cells #[.int .i64 kind,.string (str s),.string (str t),v] 63)=w1:=⟨_,rfl⟩
 obtain⟨K,hK⟩:∃K,w.heap.size=K:=⟨_,rfl⟩
 have hbx:Blk w1 K #[.int .i64 kind,.string (str s),.string (str t),v] 63:=by rw[←hw1,←hK];exact Blk.new _ _ _
 have c1:Chg [] w w1:=by rw[←hw1];exact (Chg.refl [] w).alloc _
 rw[hw1,hK]
 clear hw1
 refine (hh w1 c1).mono ?_
 rintro e w2 ⟨rfl,c2⟩
 have H2:=zB hK (hbx.chg0 c2) (c1.nil c2)
 clear hbx c1 c2 hK hh
 obtain⟨⟨-,b1,b2,-⟩,-⟩:=Blk.c4b H2.out.2.1
 cases hq:hasF W.files s with
 | false=>
  have HQ:=zH hq
  clear hq
  go_wp2_with fail
  go_ret
  unfold TellEnd
  have e1:renameW W s t=(W,6):=by
   unfold renameW
   have:=HQ.out
   unfold hasF at this
   cases hx:lookK s W.files with
   | none=>rfl
   | some x=>rw[hx] at this;cases this
  rw[e1]
  exact⟨rfl,HH.out.1.chg0 H2.out.2.2,H2.out.2.2.mono (by simp)⟩
 | true=>
  obtain⟨x,hx⟩:∃x,lookK s W.files=some x:=Option.isSome_iff_exists.1 hq
  have HX:=zA hq hx
  clear hq hx
  by_cases hst:s=t
  ·have e0:((str s).toList==(str t).toList)=true:=by rw[str_eq];exact decide_eq_true hst
   have HS:=zH hst
   clear hst
   go_wp2_with fail
   go_ret
   unfold TellEnd
   have e1:renameW W s t=(W,0):=by unfold renameW;rw[HX.out.2];simp[HS.out]
   rw[e1]
   exact⟨rfl,HH.out.1.chg0 H2.out.2.2,H2.out.2.2.mono (by simp)⟩
  ·have e0:((str s).toList==(str t).toList)=false:=by rw[str_eq];exact decide_eq_false hst
   have HS:=zH hst
   clear hst
   go_wp2_with fail
   refine (ht' w2 H2.out.2.2).mono ?_
   rintro e w3 ⟨rfl,c3⟩
   have H3:=zB H2.out.1 (H2.out.2.1.chg0 c3) (H2.out.2.2.nil c3)
   clear H2 b1 b2 ht'
   obtain⟨⟨-,b1,b2,-⟩,-⟩:=Blk.c4b H3.out.2.1
   cases hq:hasF W.files t with
   | true=>
    have HQ:=zH hq
    clear hq
    go_wp2_with fail
    go_ret
    unfold TellEnd
    have e1:renameW W s t=(W,7):=by unfold renameW;rw[HX.out.2];simp[HS.out,HQ.out]
    rw[e1]
    exact⟨rfl,HH.out.1.chg0 H3.out.2.2,H3.out.2.2.mono (by simp)⟩
   | false=>
    have HQ:=zH hq
    clear hq e0
    go_upto_region 7 with (fail)
    have q0:Chg [] w3 w3.drew:=(Chg.refl _ _).drew
    obtain⟨W0,hW0⟩:∃W0,w3.drew=W0:=⟨_,rfl⟩
    refine wp_region_U [] (fun i=>decide (13≤i)) (by kernel_rfl) ?_
    rw[hW0] at q0 ⊢
    clear hW0
    have C0:Chg [] W0 W0:=Chg.refl _ _
    have R0:=HH.out.1.chg0 (H3.out.2.2.nil q0)
    obtain⟨⟨-,y1,-⟩,-⟩:=R0.blk.c3b
    have B1:=q0.cell_some b1 (by simp)
    have B2:=q0.cell_some b2 (by simp)
    obtain⟨lm,hM,hT⟩:=R0.files
    obtain⟨y,hy,hyV⟩:∃y,lookK s lm=some y∧FileV W0 (bl::br::S) x y:=by
     rcases hT.look s with ⟨e1,-⟩ | ⟨x',y,e1,e2,hv⟩
     ·rw[HX.out.2] at e1;cases e1
     ·rw[HX.out.2] at e1;cases e1;exact⟨y,e2,hv⟩
    clear hT b1 b2
    refine tU 0 (.pointer (some ⟨g,0,none⟩)) C0 (fun w4 c4=>?_) ?_
    ·go_simp
    try simp only[Act.put,yA,yB,yC,yD,yE,yF]
    refine tU 1 (.pointer (some ⟨g,0,none⟩)) C0 (fun w4 c4=>?_) ?_
    ·go_simp
    try simp only[Act.put,yA,yB,yC,yD,yE,yF]
    refine tU 2 (.pointer (some ⟨g,1,none⟩)) C0 (fun w4 c4=>?_) ?_
    ·go_simp
    try simp only[Act.put,yA,yB,yC,yD,yE,yF]
    refine tU 3 (.map (some bl)) C0 (fun w4 c4=>?_) ?_
    ·have z:=c4.cell_some y1 (by simp)
     go_simp
    try simp only[Act.put,yA,yB,yC,yD,yE,yF]
    refine tU 4 (.pointer (some ⟨K,2,none⟩)) C0 (fun w4 c4=>?_) ?_
    ·go_simp
    try simp only[Act.put,yA,yB,yC,yD,yE,yF]
    refine tU 5 (.string (str t)) C0 (fun w4 c4=>?_) ?_
    ·have z:=c4.cell_some B2 (by simp)
     go_simp
    try simp only[Act.put,yA,yB,yC,yD,yE,yF]
    refine tU 6 (.pointer (some ⟨g,0,none⟩)) C0 (fun w4 c4=>?_) ?_
    ·go_simp
    try simp only[Act.put,yA,yB,yC,yD,yE,yF]
    refine tU 7 (.pointer (some ⟨g,0,none⟩)) C0 (fun w4 c4=>?_) ?_
    ·go_simp
    try simp only[Act.put,yA,yB,yC,yD,yE,yF]
    refine tU 8 (.pointer (some ⟨g,1,none⟩)) C0 (fun w4 c4=>?_) ?_
    ·go_simp
    try simp only[Act.put,yA,yB,yC,yD,yE,yF]
    refine tU 9 (.map (some bl)) C0 (fun w4 c4=>?_) ?_
    ·have z:=c4.cell_some y1 (by simp)
     go_simp
    try simp only[Act.put,yA,yB,yC,yD,yE,yF]
    refine tU 10 (.pointer (some ⟨K,1,none⟩)) C0 (fun w4 c4=>?_) ?_
    ·go_simp
    try simp only[Act.put,yA,yB,yC,yD,yE,yF]
    refine tU 11 (.string (str s)) C0 (fun w4 c4=>?_) ?_
    ·have z:=c4.cell_some B1 (by simp)
     go_simp
    try simp only[Act.put,yA,yB,yC,yD,yE,yF]
    refine tU 12 (y) C0 (fun w4 c4=>?_) ?_
    ·have z:=((hM.chg0 c4).look keyS Tryz.underlying106 (zeroFile w4) s HH.out.2.2.2.1).1;rw[hy] at z;simp only[Option.getD_some] at z
     go_simp
    try simp only[Act.put,yA,yB,yC,yD,yE,yF]
    obtain⟨w5,r5,m5,k5⟩:=R0.files.put t HH.out.2.2.2.2.1 (by simp) (by have:=HH.out.2.1;omega) hyV
    have R5:=R0.putL k5 m5
    refine wpAnyU_last 13 rfl (by kernel_rfl) (by rfl) (by rfl) ?_
    refine wp_upd _ _ _ 106 rfl rfl rfl rfl r5 ?_
    try simp only[Act.put,yA,yB,yC,yD,yE,yF]
    refine wpAny_fin (by kernel_rfl) ?_ _
    have hKb:K∉[bl]:=by have h1:=HH.out.1.files.lt;have h2:=H3.out.1;simp;omega
    have b1:=k5.cell_some B1 hKb
    have b2:=k5.cell_some B2 hKb
    have H5:=zA R5 (show Chg [bl] w w5 from ((H3.out.2.2.nil q0).toS.tr k5))
    clear q0 C0 R0 y1 B1 B2 hM hy hyV r5 m5 k5 R5 hKb
    go_upto_region 8 with (fail)
    have q0:Chg [] w5 w5.drew:=(Chg.refl _ _).drew
    obtain⟨W1,hW1⟩:∃W1,w5.drew=W1:=⟨_,rfl⟩
    refine wp_region_U [] (fun _=>false) (by kernel_rfl) ?_
    rw[hW1] at q0 ⊢
    clear hW1
    have C0:Chg [] W1 W1:=Chg.refl _ _
    have R0:=H5.out.1.chg0 q0
    obtain⟨⟨-,-,y1⟩,-⟩:=R0.blk.c3b
    have B1:=q0.cell_some b1 (by simp)
    have B2:=q0.cell_some b2 (by simp)
    obtain⟨lr,hM,hT⟩:=R0.fresh
    obtain⟨vb,hvb⟩:∃vb,(lookK s lr).getD (.slice none 0 0)=vb:=⟨_,rfl⟩
    obtain⟨ok,hok⟩:∃ok,(lookK s lr).isSome=ok:=⟨_,rfl⟩
    have hlk:=fun (w4:World) (c4:Chg [] W1 w4)=>((hM.chg0 c4).look keyS Tryz.underlying87 (zeroB8 w4) s HH.out.2.2.2.1).2
    rw[hvb,hok] at hlk
    have hTw:=hT.look s
    have HT:=zB hTw hvb hok
    clear hT hM b1 b2 hTw hvb hok
    refine tU 0 (.pointer (some ⟨g,0,none⟩)) C0 (fun w4 c4=>?_) ?_
    ·go_simp
    try simp only[Act.put,yA,yB,yC,yD,yE,yF]
    refine tU 1 (.pointer (some ⟨g,0,none⟩)) C0 (fun w4 c4=>?_) ?_
    ·go_simp
    try simp only[Act.put,yA,yB,yC,yD,yE,yF]
    refine tU 2 (.pointer (some ⟨g,2,none⟩)) C0 (fun w4 c4=>?_) ?_
    ·go_simp
    try simp only[Act.put,yA,yB,yC,yD,yE,yF]
    refine tU 3 (.map (some br)) C0 (fun w4 c4=>?_) ?_
    ·have z:=c4.cell_some y1 (by simp)
     go_simp
    try simp only[Act.put,yA,yB,yC,yD,yE,yF]
    refine tU 4 (.pointer (some ⟨K,1,none⟩)) C0 (fun w4 c4=>?_) ?_
    ·go_simp
    try simp only[Act.put,yA,yB,yC,yD,yE,yF]
    refine tU 5 (.string (str s)) C0 (fun w4 c4=>?_) ?_
    ·have z:=c4.cell_some B1 (by simp)
     go_simp
    try simp only[Act.put,yA,yB,yC,yD,yE,yF]
    refine tU 6 (.tuple #[vb,.bool ok]) C0 (fun w4 c4=>?_) ?_
    ·have z:=hlk w4 c4
     go_simp
    try simp only[Act.put,yA,yB,yC,yD,yE,yF]
    refine tU 7 (.tuple #[vb,.bool ok]) C0 (fun w4 c4=>?_) ?_
    ·go_simp
    try simp only[Act.put,yA,yB,yC,yD,yE,yF]
    refine tU 8 (vb) C0 (fun w4 c4=>?_) ?_
    ·go_simp
    try simp only[Act.put,yA,yB,yC,yD,yE,yF]
    refine tU 9 (.bool ok) C0 (fun w4 c4=>?_) ?_
    ·go_simp
    try simp only[Act.put,yA,yB,yC,yD,yE,yF]
    refine tU 10 (vb) C0 (fun w4 c4=>?_) ?_
    ·go_simp
    try simp only[Act.put,yA,yB,yC,yD,yE,yF]
    refine tU 11 (.bool ok) C0 (fun w4 c4=>?_) ?_
    ·go_simp
    try simp only[Act.put,yA,yB,yC,yD,yE,yF]
    refine wpAnyU_done (by kernel_rfl) ?_ _
    have H6:=zA R0 (H5.out.2.nil q0)
    clear R0 y1 C0 hlk
    cases ok with
    | false=>
     have e6:lookK s W.fresh=none:=by
      rcases HT.out.1 with ⟨e1,-⟩ | ⟨b,y,e1,e2,-⟩
      ·exact e1
      ·have:=HT.out.2.2;rw[e2] at this;cases this
     have hg:=gone_ok W1 S g f bl br _ H6.out.1 s HH.out.2.2.2.1
     have E6:=zH e6
     clear e6
     go_wp2_with fail
     refine hg.mono ?_
     rintro e w7 ⟨rfl,hR7,hC7⟩
     go_wp2_with fail
     go_ret
     unfold TellEnd
     have e1:renameW W s t=(goneW ⟨insK t x W.files,W.fresh⟩ s,0):=by
      have h1:=HQ.out
      unfold renameW;rw[HX.out.2];simp[HS.out,h1,E6.out]
     rw[e1]
     exact⟨rfl,hR7,(H6.out.2.mono (fun k hk=>.inl (by simp at hk;simp[hk]))).tr hC7⟩
    | true=>
     obtain⟨b,e6,hbv⟩:∃b,lookK s W.fresh=some b∧BytesV W1 (bl::br::S) b vb:=by
      rcases HT.out.1 with ⟨-,e2⟩ | ⟨b,y,e1,e2,h3⟩
      ·have:=HT.out.2.2;rw[e2] at this;cases this
      ·have:=HT.out.2.1;rw[e2] at this;exact⟨b,e1,by rw[←this];exact h3⟩
     obtain⟨a6,q6,rfl,-⟩:=hbv.1.shape
     have E6:=zH e6
     clear e6
     have HB:=zH hbv
     clear hbv HT
     go_upto_region 10 with (fail)
     have q1:Chg [] W1 W1.drew:=(Chg.refl _ _).drew
     obtain⟨W2,hW2⟩:∃W2,W1.drew=W2:=⟨_,rfl⟩
     refine wp_region_U [] (fun i=>decide (7≤i)) (by kernel_rfl) ?_
     rw[hW2] at q1 ⊢
     clear hW2
     have C0:Chg [] W2 W2:=Chg.refl _ _
     have R2:=H6.out.1.chg0 q1
     obtain⟨⟨-,-,y1⟩,-⟩:=R2.blk.c3b
     have B3:=q1.cell_some B2 (by simp)
     clear B2
     refine tU 0 (.pointer (some ⟨g,0,none⟩)) C0 (fun w4 c4=>?_) ?_
     ·go_simp
     try simp only[Act.put,yA,yB,yC,yD,yE,yF]
     refine tU 1 (.pointer (some ⟨g,0,none⟩)) C0 (fun w4 c4=>?_) ?_
     ·go_simp
     try simp only[Act.put,yA,yB,yC,yD,yE,yF]
     refine tU 2 (.pointer (some ⟨g,2,none⟩)) C0 (fun w4 c4=>?_) ?_
     ·go_simp
     try simp only[Act.put,yA,yB,yC,yD,yE,yF]
     refine tU 3 (.map (some br)) C0 (fun w4 c4=>?_) ?_
     ·have z:=c4.cell_some y1 (by simp)
      go_simp
     try simp only[Act.put,yA,yB,yC,yD,yE,yF]
     refine tU 4 (.pointer (some ⟨K,2,none⟩)) C0 (fun w4 c4=>?_) ?_
     ·go_simp
     try simp only[Act.put,yA,yB,yC,yD,yE,yF]
     refine tU 5 (.string (str t)) C0 (fun w4 c4=>?_) ?_
     ·have z:=c4.cell_some B3 (by simp)
      go_simp
     try simp only[Act.put,yA,yB,yC,yD,yE,yF]
     refine tU 6 (.slice a6 b.length q6) C0 (fun w4 c4=>?_) ?_
     ·go_simp
     try simp only[Act.put,yA,yB,yC,yD,yE,yF]
     obtain⟨w8,r8,m8,k8⟩:=R2.fresh.put t HH.out.2.2.2.2.1 (by simp) (by have:=HH.out.2.2.1;show W.fresh.length≤_;omega) (HB.out.chg q1 (by simp))
     have R8:=R2.putR k8 m8
     refine wpAnyU_last 7 rfl (by kernel_rfl) (by rfl) (by rfl) ?_
     refine wp_upd _ _ _ 87 rfl rfl rfl rfl r8 ?_
     try simp only[Act.put,yA,yB,yC,yD,yE,yF]
     refine wpAny_fin (by kernel_rfl) ?_ _
     have hC8:Chg [bl,br] w w8:=((H6.out.2.nil q1).mono (fun k hk=>.inl (by simp at hk;simp[hk]))).tr (k8.mono (fun k hk=>.inl (by simp at hk;simp[hk])))
     have hg:=gone_ok w8 S g f bl br _ R8 s HH.out.2.2.2.1
     have hKr:K∉[br]:=by have h1:=HH.out.1.fresh.lt;have h2:=H3.out.1;simp;omega
     have B4:=k8.cell_some (q1.cell_some B1 (by simp)) hKr
     clear R8 R2 r8 m8 k8 q1 y1 B3 C0 hKr B1
     go_wp2_with fail
     refine hg.mono ?_
     rintro e w7 ⟨rfl,hR7,hC7⟩
     go_wp2_with fail
     go_ret
     unfold TellEnd
     have e1:renameW W s t=(goneW ⟨insK t x W.files,insK t b W.fresh⟩ s,0):=by
      have h1:=HQ.out
      unfold renameW;rw[HX.out.2];simp[HS.out,h1,E6.out]
     rw[e1]
     exact⟨rfl,hR7,hC8.tr hC7⟩
end Go.Proofs.YtlidiclfpklliaaGreatDoor
