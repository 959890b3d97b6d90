/- FyE FyM FyF -/
import Derived.Test.YtlbdklaggalgfaaGreatDoorG07
import Derived.Lib.SlBytesConst
set_option linter.unusedSimpArgs false
set_option linter.unusedVariables false
set_option maxHeartbeats 1000000
namespace Go.Proofs.YtlbdklaggalgfaaGreatDoor
open Go.RowKit Go.Aq Go.Aq.Fy Go.Maps
theorem new_ok (w:World) (n:Nat) (h4:4≤n) (h5:n≤4096):
  Calls Tryz.prog 13 #[.int .i64 n] w fun e w'=>∃p S,e=.returned (.tuple #[.pointer (some ⟨p,0,none⟩),.int .i64 0])∧DiskR w' S p (newD n)∧Chg [] w w'∧∀k∈S,w.heap.size≤k:=by
 have t1:decide ((n:Int)<4)=false:=decide_eq_false (by omega);have t2:decide (4096<(n:Int))=false:=decide_eq_false (by omega);have t1':decide (n<4)=false:=decide_eq_false (by omega);have t2':decide (4096<n)=false:=decide_eq_false (by omega);have hmm:=@run_makeMap Tryz.prog;have HN:=zA h4 h5;clear h4 h5;go_enter Tryz.func13,Tryz.ntmps13;go_wp2_with fail;go_ret2;refine⟨_,[w.heap.size+2,w.heap.size,w.heap.size+1],rfl,?_,(((Chg.refl [] w).alloc _).alloc _).alloc _,by simp⟩;have e1:(w.alloc (.map #[] 0)).heap.size=w.heap.size+1:=by simp
 have e2:((w.alloc (.map #[] 0)).alloc (.map #[] 0)).heap.size=w.heap.size+2:=by simp
 refine⟨w.heap.size,w.heap.size+1,fun _=>none,fun _=>none,.slice none 0 0,[],.slice none 0 0,⟨Blk.new_at _ _ _ e2,?_,?_,by omega,SecsF.none _ _,SecsF.none _ _,Own.nil _ _ _,.nil,⟨Sees.nil _ _,fun _ h=>by simp[eyes] at h⟩,HN.out,by simp[newD],by simp[newD],fun _=>rfl⟩,rfl⟩;·exact (MapF.new _ _ w).chg (((Chg.refl [] _).alloc _).alloc _) (by simp)
 ·have:=MapF.new Tryz.prog 3 (w.alloc (.map #[] 0));rw[e1] at this;exact this.chg ((Chg.refl [] _).alloc _) (by simp)
theorem sectors_ok (w:World) (S:List Nat) (p:Nat) (D:DiskD) (h:DiskR w S p D):
  Calls Tryz.prog 31 #[.pointer (some ⟨p,0,none⟩)] w fun e w'=>e=.returned (.int .i64 D.n)∧w'=w:=by
 obtain⟨bn,bd,fn,fd,pv,xs,mv,h,rfl⟩:=h;obtain⟨⟨c0,c1,c2,c3,c4,c5,c6,c7⟩,-⟩:=h.blk.c8;clear h c1 c2 c3 c4 c5 c6 c7;go_enter Tryz.func31,Tryz.ntmps31;go_wp2_with fail;go_ret;exact⟨rfl,rfl⟩
theorem DiskB.chg0 {w w':World} {p bn bd:Nat} {fn fd:Value→Option Value} {pv:Value} {xs:List Value} {mv:Value} {D:DiskD} (h:DiskB w p bn bd fn fd pv xs mv D) (c:Chg [] w w'):DiskB w' p bn bd fn fd pv xs mv D:=by
 have u:Upd (p::bn::bd::pv.ownBlock.toList) (p::bn::bd::pv.ownBlock.toList) w w':=⟨c.toS,fun _ h=>.inl h⟩;exact⟨h.blk.chg0 c,h.now.chg c (by simp),h.dur.chg c (by simp),h.ne,h.nowS.upd u,h.durS.upd u,h.own.chg c (fun _ _=>by simp),h.pend.upd u,⟨h.mask.1.chg0 c,h.mask.2⟩,h.least,h.plc,h.room,h.nil0⟩
end Go.Proofs.YtlbdklaggalgfaaGreatDoor
namespace Go.Aq
open Go.RowKit
theorem run_storeCells_atG (P:Program) (g o:Nat) (t:TypeId) (fz:Nat×Nat):∀(vs:List Value) (i:Nat) (cur:Array Value) (w:World),w.heap[g]?=some (.cells cur t fz)→(∀j,j<cur.size→¬(fz.1≤j∧j<fz.2))→o+i+vs.length≤cur.size→(∀v∈vs,v.oneCell'=true)→
  (storeCells ⟨g,o,none⟩ vs i).run P w=.ok () (w.setRow g (cur.toList.take (o+i)++vs++cur.toList.drop (o+i+vs.length)).toArray)
 | [],i,cur,w,hg,_,_,_=>by
  simp only[storeCells,List.append_nil,List.length_nil,Nat.add_zero,List.take_append_drop,Array.toArray_toList];rw[setRow_self w g cur t fz hg];rfl
 | v::rest,i,cur,w,hg,hfz,hl,h1=>by
  have hi:o+i<cur.size:=by simp at hl;omega
  have hadd:(⟨g,o,none⟩:Addr).add i=⟨g,o+i,none⟩:=by unfold Addr.add;split <;> simp_all
  have hcell:w.cell? ⟨g,o+i,none⟩=some cur[o+i]:=by simp[World.cell?,hg,hi]
  have hfro:w.frozen? ⟨g,o+i,none⟩=false:=by
   have:=hfz _ hi;obtain⟨lo,hi'⟩:=fz;simp only[World.frozen?,hg,Bool.and_eq_false_iff,decide_eq_false_iff_not];simp only at this;omega
  have hst:(store ((⟨g,o,none⟩:Addr).add i) v).run P w=.ok () (w.setRow g (cur.setIfInBounds (o+i) v)):=by
   rw[hadd,run_store P w _ v _ (h1 v (by simp)),hcell];simp[hfro,setCell_eq_setRow w g (o+i) cur t fz v hg]
  have ih:=run_storeCells_atG P g o t fz rest (i+1) (cur.setIfInBounds (o+i) v) (w.setRow g (cur.setIfInBounds (o+i) v)) (setRow_heap w g cur _ t _ hg) (by simpa using hfz) (by simp at hl ⊢;omega) (fun x hx=>h1 x (by simp[hx]));simp only[storeCells,Sem.run_bind,hst,Result.andThen_ok,ih,setRow_setRow];congr 3;have e:=list_seg_step cur.toList (o+i) v rest (by simp at hl ⊢;omega);simpa[Array.toList_setIfInBounds,Nat.add_assoc] using e
def OwnM (w:World) (e:TypeId) (v:Value) (n:Nat) (xs:List Value):Prop:=
 xs.length=n∧((v=.slice none 0 0∧n=0)∨
  ∃g cap cur fz,v=.slice (some ⟨g,0,none⟩) n cap∧w.heap[g]?=some (.cells cur e fz)∧(∀j,j<cur.size→¬(fz.1≤j∧j<fz.2))∧n≤cap∧cap≤maxLen∧cur.size=cap∧cur.toList.take n=xs)
theorem OwnM.of {w:World} {e:TypeId} {v:Value} {n:Nat} {xs:List Value} (h:Own w e 1 v n xs):OwnM w e v n xs:=by
 refine⟨by simpa using h.1,?_⟩;rcases h.2 with ⟨h1,h2⟩ | ⟨g,cap,cur,h1,_,h2,h3,h4,h5,h6⟩
 ·exact .inl ⟨h1,h2⟩
 ·exact .inr ⟨g,cap,cur,(0,0),h1,h2,by simp,h3,h4,by simpa using h5,by simpa using h6⟩
theorem OwnM.sees {w:World} {e:TypeId} {v:Value} {n:Nat} {xs:List Value} (h:OwnM w e v n xs):Sees w 1 v n xs:=by
 obtain⟨h0,h⟩:=h;rcases h with ⟨rfl,rfl⟩ | ⟨g,cap,cur,fz,rfl,h2,h3,h4,h5,h6,h7⟩
 ·have:xs=[]:=List.eq_nil_of_length_eq_zero h0;subst this;exact Sees.nil _ _
 ·refine⟨by omega,_,cap,rfl,h4,by simp,fun ad had j u hu=>?_⟩;cases had;rw[Addr.add_lit,Nat.zero_add];have hj:j<n:=by have:=(List.getElem?_eq_some_iff.1 hu).1;omega
  simp only[World.cell?,h2];rw[←h7,List.getElem?_take_of_lt hj] at hu;simpa using hu
theorem OwnM.lt {w:World} {e:TypeId} {v:Value} {n:Nat} {xs:List Value} (h:OwnM w e v n xs):In w v.ownBlock.toList:=by
 intro k hk;rcases h.2 with ⟨rfl,_⟩ | ⟨g,cap,cur,fz,rfl,h2,_⟩
 ·simp[Value.ownBlock] at hk
 ·simp[Value.ownBlock] at hk;subst hk;exact (Array.getElem?_eq_some_iff.1 h2).1
theorem OwnM.chg {w w':World} {e:TypeId} {v:Value} {n:Nat} {xs:List Value} {S:List Nat} (h:OwnM w e v n xs) (c:Chg S w w') (hd:Disj v.ownBlock.toList S):OwnM w' e v n xs:=by
 refine⟨h.1,?_⟩;rcases h.2 with h2 | ⟨g,cap,cur,fz,hv,hg,r⟩
 ·exact .inl h2
 ·refine .inr ⟨g,cap,cur,fz,hv,?_,r⟩;rw[c.block g (Array.getElem?_eq_some_iff.1 hg).1 (hd g (by rw[hv];simp[Value.ownBlock]))];exact hg
structure FreshM (w wr:World) (e:TypeId) (v:Value) (n:Nat) (xs:List Value):Prop where
 own:OwnM wr e v n xs
 chg:Chg [] w wr
 new:∀k∈v.ownBlock.toList,w.heap.size≤k
theorem FreshM.of {w wr:World} {e:TypeId} {v:Value} {n:Nat} {xs:List Value} (h:Fresh w wr e 1 v n xs):FreshM w wr e v n xs:=⟨OwnM.of h.own,h.chg,h.new⟩
theorem FreshM.to {w wr w':World} {e:TypeId} {v:Value} {n:Nat} {xs:List Value} (h:FreshM w wr e v n xs) (c:Chg [] wr w'):FreshM w w' e v n xs:=
 ⟨h.own.chg c (fun _ _=>by simp),h.chg.trans c (by simp),h.new⟩
theorem FreshM.app {w wr w':World} {e:TypeId} {v v':Value} {n n':Nat} {xs xs':List Value} (h:FreshM w wr e v n xs) (ho:OwnM w' e v' n' xs') (hc:Chg v.ownBlock.toList wr w')
  (hn:∀k∈v'.ownBlock.toList,k∈v.ownBlock.toList∨wr.heap.size≤k):FreshM w w' e v' n' xs':=
 ⟨ho,h.chg.trans hc (fun i hi=>.inr (h.new i hi)),fun k hk=>by
  rcases hn k hk with h1 | h1
  ·exact h.new k h1
  ·exact Nat.le_trans h.chg.size h1⟩
theorem FreshM.sees {w wr:World} {e:TypeId} {v:Value} {n:Nat} {xs:List Value} (h:FreshM w wr e v n xs):Sees wr 1 v n xs:=h.own.sees
theorem FreshM.shape {w wr:World} {e:TypeId} {v:Value} {n:Nat} {xs:List Value} (h:FreshM w wr e v n xs):∃ao cap,v=.slice ao n cap∧n≤cap:=by
 obtain⟨ao,cap,h1,h2,-⟩:=h.own.sees.shape;exact⟨ao,cap,h1,h2⟩
theorem FreshM.based {w0 w wr:World} {e:TypeId} {v:Value} {n:Nat} {xs:List Value} (h:FreshM w wr e v n xs) (c:Chg [] w0 w):FreshM w0 wr e v n xs:=⟨h.own,c.nil h.chg,fun k hk=>Nat.le_trans c.size (h.new k hk)⟩
theorem run_appM {P:Program} (w:World) (t ty e:TypeId) (i:TypeInfo) (z:Value) (ht:P.underlying t=some (.slice e)) (hi:P.info? e=some i) (hz:i.zero=some z) (hzc:z.cells=#[z]) (hs1:i.size=1)
  (v:Value) (n:Nat) (xs:List Value) (hown:OwnM w e v n xs) (hv:v≠.slice none 0 0)
  (a:Addr) (m c:Nat) (news:List Value) (hl:news.length=m) (hnews:∀j u,news[j]?=some u→w.cell? (a.add j)=some u) (h1:∀u∈news,u.oneCell'=true)
  (h63:n+m≤9223372036854775807) (hbytes:(n+m) * i.bytes≤140737488355328):
  ∃v' w',(Builtin.append_ #[t,t] ty #[v,.slice (some a) m c]).run P w=.ok v' w'∧OwnM w' e v' (n+m) (xs++news)∧Chg v.ownBlock.toList w w'∧
   (∀k∈v'.ownBlock.toList,k∈v.ownBlock.toList∨w.heap.size≤k)∧v'≠.slice none 0 0:=by
 have h63':n+m≤maxLen:=by simpa[maxLen] using h63
 have hs:=hown.sees;obtain⟨hx0,hown⟩:=hown;rcases hown with ⟨e1,_⟩ | ⟨g,cap,cur,fz,rfl,hg,hfz,hnc,hcm,hcs,htake⟩
 ·exact absurd e1 hv
 ·by_cases hroom:n+m≤cap
  ·have hf:=run_firstCells_some (P:=P) w i.size m a m c news (by rw[hs1];omega) hnews;have hst:=run_storeCells_atG P g (n * i.size) e fz news 0 cur w hg hfz (by rw[hs1];omega) h1;simp only[Nat.add_zero] at hst;have hr:(Builtin.append_ #[t,t] ty #[.slice (some ⟨g,0,none⟩) n cap,.slice (some a) m c]).run P w=
     .ok (.slice (some ⟨g,0,none⟩) (n+m) cap) (w.setRow g (cur.toList.take (n * i.size)++news++cur.toList.drop (n * i.size+news.length)).toArray):=by
    simp[Builtin.append_,run_underlying ht,sizeOf,typeInfo,hi,Builtin.lenOf,hroom,hf,Addr.add_lit,hst]
   refine⟨_,_,hr,⟨by simp;omega,.inr ⟨g,cap,_,fz,rfl,setRow_heap w g cur _ e _ hg,?_,hroom,hcm,?_,?_⟩⟩,⟨rfl,rfl,rfl,by simp,fun k _ hk=>setRow_other w g k _ (fun e=>hk (by simp[Value.ownBlock,e]))⟩,fun k hk=>.inl hk,by simp⟩
   ·intro j hj;refine hfz j ?_;simp only[hs1,Nat.mul_one,List.size_toArray,List.length_append,List.length_take,List.length_drop,Array.length_toList] at hj;omega
   ·simp only[hs1,Nat.mul_one,List.size_toArray,List.length_append,List.length_take,List.length_drop,Array.length_toList];omega
   ·rw[hs1,Nat.mul_one,htake];have:(xs++news).length=n+m:=by simp;omega
    rw[←this];exact List.take_left
  ·have holds:∀j u,xs[j]?=some u→w.cell? ((⟨g,0,none⟩:Addr).add j)=some u:=by
    obtain⟨_,ao,cap',hv',_,_,hc⟩:=hs;cases hv';exact hc _ rfl
   have hr:=run_append_grow (P:=P) w t ty e i z ht hi hz ⟨g,0,none⟩ n cap xs (by rw[hs1];omega) holds a m c news (by rw[hs1];omega) hnews (by omega) (by omega) (growslice_fits (by omega) hbytes);have hge:=grownCap_ge w (n+m) cap e;have hcm':grownCap w (n+m) cap e≤maxLen:=grownCap_le_maxLen w (n+m) cap e h63';refine⟨_,_,hr,⟨by simp;omega,.inr ⟨w.heap.size,_,_,(0,0),rfl,heap_alloc_new w.drew _,by simp,hge,hcm',?_,?_⟩⟩,((Chg.refl _ w).drew).alloc _,by simp[Value.ownBlock],by simp⟩
   ·simp only[Array.size_append,List.size_toArray,size_zeroCells,hzc];simp;omega
   ·simp only[Array.toList_append,List.append_assoc];rw[←List.append_assoc,←show (xs++news).length=n+m by simp;omega];exact List.take_left
theorem run_appMZ {P:Program} (w:World) (t tn ty e:TypeId) (i:TypeInfo) (z:Value) (ht:P.underlying t=some (.slice e)) (kn kq:IntKind) (htn:P.underlying tn=some (.int kn)) (hi:P.info? e=some i) (hz:i.zero=some z)
  (hzc:z.cells=#[z]) (hs1:i.size=1) (hz1:z.oneCell'=true) (g n cap:Nat) (xs:List Value) (hown:OwnM w e (.slice (some ⟨g,0,none⟩) n cap) n xs) (k:Nat) (hk:0<k)
  (h63:n+k≤9223372036854775807) (hbytes:(n+k) * i.bytes≤140737488355328):
  ∃v' w',(Builtin.append_ #[t,tn] ty #[.slice (some ⟨g,0,none⟩) n cap,.int kq k]).run P w=.ok v' w'∧OwnM w' e v' (n+k) (xs++List.replicate k z)∧Chg [g] w w'∧
   (∀b∈v'.ownBlock.toList,b∈[g]∨w.heap.size≤b):=by
 have h63':n+k≤maxLen:=by simpa[maxLen] using h63
 have hs:=hown.sees;have hxl:xs.length=n:=hown.1;have hkb:k * i.bytes≤140737488355328:=Nat.le_trans (Nat.mul_le_mul_right _ (by omega)) hbytes;obtain⟨cur,fz,hg,hfz,hnc,hcm,hcs,htake⟩:∃(cur:Array Value) (fz:Nat×Nat),w.heap[g]?=some (.cells cur e fz)∧(∀j,j<cur.size→¬(fz.1≤j∧j<fz.2))∧n≤cap∧cap≤maxLen∧cur.size=cap∧xs=cur.toList.take n:=by
  rcases hown.2 with ⟨h,_⟩ | ⟨g',cap',cur,fz,hv,hg,hfz,hnc,hcm,hcs,htake⟩
  ·simp at h
  ·simp only[Value.slice.injEq,Option.some.injEq,Addr.mk.injEq,and_true,true_and] at hv;obtain⟨rfl,rfl⟩:=hv;exact⟨cur,fz,hg,hfz,hnc,hcm,hcs,htake.symm⟩
 by_cases hroom:n+k≤cap
 ·have hw:IntKind.i64.wrap (k:Int)=k:=by rw[IntKind.wrap_i64];omega
  have hst:=run_storeCells_atG P g n e fz (List.replicate k z) 0 cur w hg hfz (by simp;omega) (by simp[hz1]);simp only[Nat.add_zero] at hst;have h48i:¬(281474976710656<(k:Int) * (i.bytes:Int)):=by rw[←Int.natCast_mul];omega
  have hneg:¬((k:Int)<0):=by omega
  have hk0:k≠0:=by omega
  refine⟨.slice (some ⟨g,0,none⟩) (n+k) cap,w.setRow g (cur.toList.take n++List.replicate k z++cur.toList.drop (n+k)).toArray,?_,?_,?_,?_⟩
  ·simp only[List.length_replicate] at hst;simp[Builtin.append_,run_underlying ht,run_underlying htn,sizeOf,typeInfo,zeroValue,hi,hz,asInt,asIntOf,hw,hneg,hk0,h48i,hroom,hs1,hzc,zeroCells_one,Addr.add_lit];rw[hst];simp
  ·refine⟨by simp;omega,.inr ⟨g,cap,_,fz,rfl,setRow_heap w g cur _ e _ hg,?_,hroom,hcm,?_,?_⟩⟩
   ·intro j hj;refine hfz j ?_;simp at hj;omega
   ·simp;omega
   ·rw[htake];have:(cur.toList.take n++List.replicate k z).length=n+k:=by simp;omega
    rw[←this];exact List.take_left
  ·exact⟨rfl,rfl,rfl,by simp,fun b _ hb=>setRow_other w g b _ (fun e=>hb (by simp[e]))⟩
  ·intro b hb;left;simpa[Value.ownBlock] using hb
 ·have hold:∀j u,xs[j]?=some u→w.cell? ((⟨g,0,none⟩:Addr).add j)=some u:=by
   obtain⟨_,ao,cap',hv',_,_,hc⟩:=hs;cases hv';exact hc _ rfl
  have hfc:(Builtin.firstCells i.size n (.slice (some ⟨g,0,none⟩) n cap)).run P w.drew=.ok xs.toArray w.drew:=
   run_firstCells_some (P:=P) w.drew i.size n ⟨g,0,none⟩ n cap xs (by rw[hs1];omega) hold
  have hr:=Lib.run_append_grow_zeros (P:=P) w t tn ty e i z kq kn ht htn hi hz (some ⟨g,0,none⟩) n cap xs hfc k hk (by omega) (by omega) (by omega) (by omega) (growslice_fits (by omega) hbytes);have hge:=grownCap_ge w (n+k) cap e;have hcm:grownCap w (n+k) cap e≤maxLen:=grownCap_le_maxLen w (n+k) cap e h63';refine⟨_,_,hr,⟨by simp;omega,.inr ⟨w.heap.size,_,_,(0,0),rfl,heap_alloc_new w.drew _,by simp,hge,hcm,?_,?_⟩⟩,((Chg.refl [g] w).drew).alloc _,by simp[Value.ownBlock]⟩
  ·rw[hzc];simp[size_zeroCells];omega
  ·rw[hzc];simp only[Array.toList_append,zeroCells_one];have:(xs++List.replicate k z).length=n+k:=by simp;omega
   rw[←this];exact List.take_left
section
variable {P:Program} {w0 W:World} {o:Oper} {a:Act} (s x:Operand) (t:TypeId) {e:TypeId} {z:Value} {bytes:Nat} (ht:SliceTy P t e z 1 bytes) (hzc:z.cells=#[z])
include ht hzc
theorem wpList_appM {ops:Array Oper} {rest:List Oper} {Q:Exit→Act→World→Prop} (hgd:o.guard=none) (ho:o.op=.call { callee:=.builtin .append,args:=#[s,x],argTypes:=#[t,t] })
  {v:Value} {n:Nat} {xs:List Value} (hf:FreshM w0 W e v n xs) (hv:v≠.slice none 0 0) (hs:a.eval s=v) {ad:Addr} {m c:Nat} {news:List Value} (hsrc:Sees W 1 (.slice (some ad) m c) m news) (hx:a.eval x=.slice (some ad) m c)
  (h1:∀u∈news,u.oneCell'=true) (hb:(n+m) * bytes≤140737488355328) (h63:n+m≤9223372036854775807)
  (h:∀v' W',FreshM w0 W' e v' (n+m) (xs++news)→v'≠.slice none 0 0→Chg v.ownBlock.toList W W'→wpList P ops Q rest (a.put o.dst v') W'):wpList P ops Q (o::rest) a W:=by
 obtain⟨ht1,ht2,ht3,ht4⟩:=ht;obtain⟨i,hi,hz0,hs1,rfl⟩:=info_parts ht2;obtain⟨hl,ao,cap,hv2,_,_,hcells⟩:=hsrc;cases hv2;obtain⟨v',w',hr,h2,h3,h4,h5⟩:=run_appM (P:=P) W t o.type e i z ht1 hi hz0 hzc hs1 v n xs hf.own hv ad m c news (by omega) (hcells ad rfl) h1 h63 hb;refine wpList_plain hgd fun _ hK=>?_
 unfold Oper.wp execOp;simp only[ho,resolve,invoke,builtin,Sem.run_bind,Sem.run_pure,Result.andThen_ok,List.map_toArray,List.map_cons,List.map_nil,hs,hx,hr];exact hK _ _ (h v' w' (hf.app h2 h3 h4) h5 h3)
theorem wpList_appMZ {ops:Array Oper} {rest:List Oper} {Q:Exit→Act→World→Prop} (hgd:o.guard=none) (tn:TypeId) (ho:o.op=.call { callee:=.builtin .append,args:=#[s,x],argTypes:=#[t,tn] }) (hz1:z.oneCell'=true) {kn kq:IntKind} (htn:P.underlying tn=some (.int kn))
  {g n cap:Nat} {xs:List Value} (hf:FreshM w0 W e (.slice (some ⟨g,0,none⟩) n cap) n xs) (hs:a.eval s=.slice (some ⟨g,0,none⟩) n cap) {k:Nat} {L:Int} (hx:a.eval x=.int kq L) (hL:L=(k:Int)) (hk:0<k)
  (hb:(n+k) * bytes≤140737488355328) (h63:n+k≤9223372036854775807)
  (h:∀v' W',FreshM w0 W' e v' (n+k) (xs++List.replicate k z)→Chg [g] W W'→wpList P ops Q rest (a.put o.dst v') W'):wpList P ops Q (o::rest) a W:=by
 obtain⟨ht1,ht2,ht3,ht4⟩:=ht;obtain⟨i,hi,hz0,h1,rfl⟩:=info_parts ht2;subst hL;obtain⟨v',w',hr,h2,h3,h4⟩:=run_appMZ (P:=P) W t tn o.type e i z ht1 kn kq htn hi hz0 hzc h1 hz1 g n cap xs hf.own k hk h63 hb;exact Lib.wpList_append_run W hgd s x t tn ho _ _ hs hx v' w' hr (h v' w' (hf.app h2 h3 h4) h3)
end
theorem FreshM.ptr {w wr:World} {e:TypeId} {v:Value} {n:Nat} {xs:List Value} (h:FreshM w wr e v n xs) (hv:v≠.slice none 0 0):∃g cap,v=.slice (some ⟨g,0,none⟩) n cap∧w.heap.size≤g∧g<wr.heap.size:=by
 rcases h.own.2 with ⟨h1,_⟩ | ⟨g,cap,cur,fz,rfl,h2,_⟩
 ·exact absurd h1 hv
 ·exact⟨g,cap,rfl,h.new g (by simp[Value.ownBlock]),(Array.getElem?_eq_some_iff.1 h2).1⟩
theorem FreshM.const (w:World) (C:Array Value) (e:TypeId) (hC:C.size≤maxLen):FreshM w (w.alloc (.cells C e (C.size,C.size+1))) e (.slice (some ⟨w.heap.size,0,none⟩) C.size C.size) C.size C.toList:=by
 refine⟨⟨Array.length_toList,.inr ⟨w.heap.size,C.size,C,(C.size,C.size+1),rfl,heap_alloc_new w _,fun j hj=>?_,Nat.le_refl _,hC,rfl,?_⟩⟩,(Chg.refl [] w).alloc _,fun k hk=>?_⟩;·show ¬(C.size≤j∧j<C.size+1);omega
 ·exact List.take_of_length_le (by rw[Array.length_toList];exact Nat.le_refl _)
 ·simp[Value.ownBlock] at hk;omega
end Go.Aq
namespace Go.Proofs.YtlbdklaggalgfaaGreatDoor
open Go.RowKit Go.Aq
theorem convM (l:List UInt8) (hl:l.length≤1000000) (w:World):∃v w',(convert 9 38 (.string (str l))).run Tryz.prog w=.ok v w'∧FreshM w w' 5 v l.length (Bs l)∧v≠.slice none 0 0:=by
 have hr:=run_bytes_of_string w 9 38 5 (str l) Tryz.underlying9 Tryz.underlying38 Tryz.underlying5;have hcm:grownCap w (str l).size 0 5≤maxLen:=grownCap_le_maxLen w _ _ _ (by rw[str_size];simp only[maxLen];omega);generalize hcap:grownCap w (str l).size 0 5=cap at hr hcm;have hge:(str l).size≤cap:=by rw[←hcap];exact grownCap_ge w _ _ _
 rw[str_size] at hr hge;have es:ByteArray.size ⟨l.toArray⟩=l.length:=str_size l;have hsz:(bytesRow (str l) cap).size=cap:=by simp only[bytesRow,str];simp[es];omega
 refine⟨_,_,hr,⟨⟨Bs_length l,.inr ⟨w.heap.size,cap,bytesRow (str l) cap,_,rfl,heap_alloc_new w.drew _,fun j hj=>by show ¬(_≤j∧j<_);omega,hge,hcm,hsz,?_⟩⟩,((Chg.refl [] w).drew).alloc _,by simp[Value.ownBlock]⟩,by simp⟩;apply List.ext_getElem?;intro j;by_cases hj:j<l.length
 ·rw[List.getElem?_take_of_lt hj];simp[bytesRow,str,Bs,Bc,List.getElem?_append,hj]
 ·rw[List.getElem?_eq_none (by simp;omega),List.getElem?_eq_none (by rw[Bs_length];omega)]
end Go.Proofs.YtlbdklaggalgfaaGreatDoor
namespace Go.Aq.Fy
open Go.Aq Go.RowKit
theorem join_flat (ls:List (List UInt8)):Lib.join ls []=ls.flatten:=by
 unfold Lib.join
 induction ls with
 | nil=>rfl
 | cons l r ih=>
  cases r with
  | nil=>simp[List.intercalate]
  | cons m r=>
   simp only[List.intercalate,List.intersperse,List.flatten_cons,List.nil_append] at ih ⊢;rw[ih]
theorem lens_flat (ls:List (List UInt8)):Lib.lens ls=ls.flatten.length:=by
 induction ls with
 | nil=>rfl
 | cons l r ih=>simp[Lib.lens] at ih ⊢
theorem sees_fresh {B:Nat} {w':World} {v:Value} {l:List UInt8} (h:Lib.FreshBytes B w' v l):∃g cap,v=.slice (some ⟨g,0,none⟩) l.length cap∧Sees w' 1 v l.length (Bs l)∧B≤g:=by
 obtain⟨g,cap,zs,rfl,h1,h2,h3,h4,h5,h6,h7,-⟩:=h;refine⟨g,cap,rfl,⟨by rw[Bs_length,Nat.mul_one],_,cap,rfl,h2,by simp,fun ad had j u hu=>?_⟩,h1⟩;cases had;have hj:j<l.length:=by have:=(List.getElem?_eq_some_iff.1 hu).1;rwa [Bs_length] at this
 rw[Addr.add_lit,Nat.zero_add,h7 j (by omega)];rw[Bs_get l j hj] at hu;have hz:j<zs.length:=by omega
 have h8:=h5 _ (List.getElem_mem hz);have e:l[j]?=some (UInt8.ofNat (zs[j]).toNat):=by
  rw[←h6];simp[Lib.bytesOf,List.getElem?_take_of_lt hj,hz]
 have e2:l[j]=UInt8.ofNat (zs[j]).toNat:=by rw[List.getElem?_eq_getElem hj] at e;injection e
 rw[←hu,e2];simp[List.getD_eq_getElem?_getD,hz,UInt8.toNat_ofNat'];omega
end Go.Aq.Fy
namespace Go.Proofs.YtlbdklaggalgfaaGreatDoor
open Go.RowKit Go.Aq Go.Aq.Fy
theorem bigW (w:World) (n wd:Nat) (c:Int) (hc:c=(n:Nat)) (h1:1≤wd) (h6:wd≤6) (hn:n<2^(8 * wd)):
  Calls Tryz.prog 149 #[.int .i64 c,.int .i64 wd] w fun e w'=>∃g,e=.returned (.slice (some ⟨g,0,none⟩) wd wd)∧Fresh w w' 5 1 (.slice (some ⟨g,0,none⟩) wd wd) wd (Bs (beB n wd)):=by
 subst hc;have hb:=big_ok w n wd h1 h6 hn sl_u8y;clear h1 h6 hn;go_enter Tryz.func149,Tryz.ntmps149;go_wp2_with fail;refine hb.mono ?_;rintro e w' ⟨g,rfl,ho,hc,hg⟩;go_wp2_with fail;go_ret;exact⟨g,rfl,ho,hc,by simpa[Value.ownBlock] using hg⟩
theorem bigF (w:World) (n wd:Nat) (c:Int) (hc:c=(n:Nat)) (h1:1≤wd) (h6:wd≤6) (hn:n<2^(8 * wd)):
  Calls Tryz.prog 95 #[.int .i64 c,.int .i64 wd] w fun e w'=>∃g,e=.returned (.slice (some ⟨g,0,none⟩) wd wd)∧Fresh w w' 5 1 (.slice (some ⟨g,0,none⟩) wd wd) wd (Bs (beB n wd)):=by
 subst hc;have hb:=big_ok w n wd h1 h6 hn sl_u8y;clear h1 h6 hn;go_enter Tryz.func95,Tryz.ntmps95;go_wp2_with fail;refine hb.mono ?_;rintro e w' ⟨g,rfl,ho,hc,hg⟩;go_wp2_with fail;go_ret;exact⟨g,rfl,ho,hc,by simpa[Value.ownBlock] using hg⟩
theorem sector_by (w:World) (t:List UInt8) (b o n c:Nat) (l:List UInt8) (hl:t.length+l.length<256)
  (hj:∀w',Chg [] w w'→Calls Tryz.prog 191 #[.slice (some ⟨b,o,none⟩) n c,.slice none 0 0] w' fun e w''=>∃v',e=.returned v'∧Lib.FreshBytes w'.heap.size w'' v' l∧Below w'.heap.size w' w''):
  Calls Tryz.prog 148 #[.string (str t),.slice (some ⟨b,o,none⟩) n c] w fun e w'=>∃v',e=.returned v'∧FreshM w w' 5 v' 256 (Bs (fill (t++l))):=by
 obtain⟨v1,w1,hr1,hF1,hv1⟩:=convM t (by omega) w;have h2:=hj w1 hF1.chg;obtain⟨k,hk,hk0⟩:∃k,k+(t.length+l.length)=256∧0<k:=⟨256 - (t.length+l.length),by omega,by omega⟩;have HK:=zH hk;have HK0:=zH hk0;have HV:=zA hF1 hv1;obtain⟨a1,c1,rfl,-⟩:=hF1.shape;clear hj hF1 hv1 hl hk hk0;go_enter Tryz.func148,Tryz.ntmps148;go_wp2_with fail;refine h2.mono ?_;rintro e w2 ⟨v2,rfl,hf2,hb2⟩;obtain⟨g2,c2,rfl,hs2,-⟩:=sees_fresh hf2;have hF2:=HV.out.1.to (Chg.of_below hb2);have hlt:t.length+l.length≤256:=by have:=HK.out;omega
 clear hf2 hb2 h2 hr1;go_upto_region 2 with (at_builtin;refine wpList_appM _ _ 38 sl_u8y rfl rfl rfl hF2 HV.out.2 rfl hs2 rfl (Bs_one _) (by omega) (by omega) ?_;intro v3 w3 hF3 hv3 c3);obtain⟨g3,c3',rfl,-,-⟩:=hF3.ptr hv3;have hsub:wrap64 (256 - ((t.length+l.length:Nat):Int))=(k:Int):=by have:=HK.out;unfold wrap64;omega
 have hsub':(256 - ((t.length+l.length:Nat):Int))=(k:Int):=by have:=HK.out;omega
 generalize hm:t.length+l.length=m at *;have HM:=zH hm;clear hF2 hs2 c3 hlt hm;go_wp2_with (at_builtin;refine wpList_appMZ (k:=k) _ _ 38 sl_u8y rfl rfl 3 rfl rfl Tryz.underlying3 hF3 rfl rfl (by first | exact hsub | exact hsub' | rfl) HK0.out (by have:=HK.out;omega) (by have:=HK.out;omega) ?_;intro v4 w4 hF4 c4);go_ret;have hk:=HK.out;have hm:=HM.out;have e:Bs (fill (t++l))=Bs t++Bs l++List.replicate k (Value.int .u8 0):=by
  unfold fill;rw[Bs_append,Bs_append,rep_nul,List.length_append,show 256 - (t.length+l.length)=k by omega]
 rw[e];rw[show m+k=256 by omega] at hF4;exact⟨_,rfl,hF4⟩
theorem holds_of {w:World} {v:Value} {l:List UInt8} (h:Sees w 1 v l.length (Bs l)):Lib.HoldsBytes w v l:=by
 obtain⟨_,ao,cap,rfl,_,hno,hc⟩:=h;refine⟨ao,cap,rfl,fun e=>List.eq_nil_of_length_eq_zero (hno e).1,fun a ha i x hx=>hc a ha i _ ?_⟩;obtain⟨hi,rfl⟩:=List.getElem?_eq_some_iff.1 hx;exact Bs_get l i hi
theorem join_ok {w:World} {b:Nat} {vs:List Value} {ls:List (List UInt8)} {e:TypeId} (hb:Blk w b vs.toArray e) (hl:vs.length=ls.length) (hs:∀(i:Nat) v l,vs[i]?=some v→ls[i]?=some l→Sees w 1 v l.length (Bs l)) (h2:2≤ls.length) (h3:ls.length≤1000) (ht:ls.flatten.length≤1000000)
  (n:Nat) (hn:ls.length=n):∀w',Chg [] w w'→Calls Tryz.prog 191 #[.slice (some ⟨b,0,none⟩) n n,.slice none 0 0] w' fun e w''=>∃v',e=.returned v'∧Lib.FreshBytes w'.heap.size w'' v' ls.flatten∧Below w'.heap.size w' w'':=by
 intro w' c;subst hn;have hP:Lib.PartsAt w' ⟨b,0,none⟩ vs ls:=by
  refine⟨hl,fun i v hv=>?_,fun i v l hv hl'=>holds_of ((hs i v l hv hl').chg0 c)⟩;have:=(hb.chg0 c).cell i;rw[Addr.add_lit,Nat.zero_add,this];simpa using hv
 have h:=Tryz.bytes_Join_many b 0 ls.length ls.length vs ls (.slice none 0 0) [] w' rfl h2 hP (Nat.le_refl _) ⟨none,0,rfl,fun _=>rfl,by simp⟩ (by omega) (by rw[lens_flat];simp only[List.length_nil,Nat.zero_mul];omega);rw[join_flat] at h;exact h
theorem bes_lt (n wd m:Nat) (h:n<m) (hm:m=2^(8 * wd)):n<2^(8 * wd):=by omega
theorem head_any (w:World) (ring seq pos:Nat) (c1 c2 c3:Int) (e1:c1=(ring:Nat)) (e2:c2=(seq:Nat)) (e3:c3=(pos:Nat)) (h1:ring<65536) (h2:seq<281474976710656) (h3:pos<65536):
  Calls Tryz.prog 91 #[.int .i64 c1,.int .i64 c2,.int .i64 c3] w fun e w'=>∃v',e=.returned v'∧FreshM w w' 5 v' 256 (Bs (headB ring seq pos)):=by
 have hb1:=fun w=>bigW w ring 2 c1 e1 (by decide) (by decide) (bes_lt ring 2 65536 h1 (by decide))
 have hb2:=fun w=>bigW w seq 6 c2 e2 (by decide) (by decide) (bes_lt seq 6 281474976710656 h2 (by decide))
 have hb3:=fun w=>bigW w pos 2 c3 e3 (by decide) (by decide) (bes_lt pos 2 65536 h3 (by decide))
 clear e1 e2 e3 h1 h2 h3;go_enter Tryz.func91,Tryz.ntmps91;go_wp2_with fail;refine (hb1 w).mono ?_;rintro e w1 ⟨g1,rfl,f1⟩;go_wp2_with fail;refine (hb2 w1).mono ?_;rintro e w2 ⟨g2,rfl,f2⟩;go_wp2_with fail;refine (hb3 w2).mono ?_;rintro e w3 ⟨g3,rfl,f3⟩;clear hb1 hb2 hb3;have hB:=Blk.new w3 #[.slice (some ⟨g1,0,none⟩) 2 2,.slice (some ⟨g2,0,none⟩) 6 6,.slice (some ⟨g3,0,none⟩) 2 2] 38;have ca:Chg [] w3 (w3.alloc (.cells #[.slice (some ⟨g1,0,none⟩) 2 2,.slice (some ⟨g2,0,none⟩) 6 6,.slice (some ⟨g3,0,none⟩) 2 2] 38)):=(Chg.refl [] _).alloc _;have hj:=join_ok (vs:=[.slice (some ⟨g1,0,none⟩) 2 2,.slice (some ⟨g2,0,none⟩) 6 6,.slice (some ⟨g3,0,none⟩) 2 2]) (ls:=[beB ring 2,beB seq 6,beB pos 2]) hB rfl (fun i v l hv hl=>by
  match i with
  | 0=>cases hv;cases hl;rw[beB_length];exact ((f1.own.sees.chg0 f2.chg).chg0 f3.chg).chg0 ca
  | 1=>cases hv;cases hl;rw[beB_length];exact (f2.own.sees.chg0 f3.chg).chg0 ca
  | 2=>cases hv;cases hl;rw[beB_length];exact f3.own.sees.chg0 ca
  | i+3=>simp at hv) (by simp) (by simp) (by simp[beB_length]) 3 rfl
 have hs:=sector_by (w3.alloc (.cells #[.slice (some ⟨g1,0,none⟩) 2 2,.slice (some ⟨g2,0,none⟩) 6 6,.slice (some ⟨g3,0,none⟩) 2 2] 38)) [65,81] _ _ _ _ _ (by simp[beB_length]) hj;have hcc:Chg [] w (w3.alloc (.cells #[.slice (some ⟨g1,0,none⟩) 2 2,.slice (some ⟨g2,0,none⟩) 6 6,.slice (some ⟨g3,0,none⟩) 2 2] 38)):=((f1.chg.nil f2.chg).nil f3.chg).nil ca;clear hj hB ca f1 f2 f3;go_wp2_with fail;refine hs.mono ?_;rintro e w5 ⟨v5,rfl,hF⟩;go_wp2_with fail;go_ret;refine⟨_,rfl,?_⟩;have:headB ring seq pos=fill ([65,81]++[beB ring 2,beB seq 6,beB pos 2].flatten):=by simp[headB]
 rw[this];exact hF.based hcc
theorem mark_any (w:World) (seq pos n:Nat) (c1 c2 c3:Int) (e1:c1=(seq:Nat)) (e2:c2=(pos:Nat)) (e3:c3=(n:Nat)) (h1:seq<281474976710656) (h2:pos<65536) (h3:n<65536):
  Calls Tryz.prog 173 #[.int .i64 c1,.int .i64 c2,.int .i64 c3] w fun e w'=>∃v',e=.returned v'∧FreshM w w' 5 v' 256 (Bs (markB seq pos n)):=by
 have hb1:=fun w=>bigW w seq 6 c1 e1 (by decide) (by decide) (bes_lt seq 6 281474976710656 h1 (by decide))
 have hb2:=fun w=>bigW w pos 2 c2 e2 (by decide) (by decide) (bes_lt pos 2 65536 h2 (by decide))
 have hb3:=fun w=>bigW w n 2 c3 e3 (by decide) (by decide) (bes_lt n 2 65536 h3 (by decide))
 clear e1 e2 e3 h1 h2 h3;go_enter Tryz.func173,Tryz.ntmps173;go_wp2_with fail;refine (hb1 w).mono ?_;rintro e w1 ⟨g1,rfl,f1⟩;go_wp2_with fail;refine (hb2 w1).mono ?_;rintro e w2 ⟨g2,rfl,f2⟩;go_wp2_with fail;refine (hb3 w2).mono ?_;rintro e w3 ⟨g3,rfl,f3⟩;clear hb1 hb2 hb3;have hB:=Blk.new w3 #[.slice (some ⟨g1,0,none⟩) 6 6,.slice (some ⟨g2,0,none⟩) 2 2,.slice (some ⟨g3,0,none⟩) 2 2] 38;have ca:Chg [] w3 (w3.alloc (.cells #[.slice (some ⟨g1,0,none⟩) 6 6,.slice (some ⟨g2,0,none⟩) 2 2,.slice (some ⟨g3,0,none⟩) 2 2] 38)):=(Chg.refl [] _).alloc _;have hj:=join_ok (vs:=[.slice (some ⟨g1,0,none⟩) 6 6,.slice (some ⟨g2,0,none⟩) 2 2,.slice (some ⟨g3,0,none⟩) 2 2]) (ls:=[beB seq 6,beB pos 2,beB n 2]) hB rfl (fun i v l hv hl=>by
  match i with
  | 0=>cases hv;cases hl;rw[beB_length];exact ((f1.own.sees.chg0 f2.chg).chg0 f3.chg).chg0 ca
  | 1=>cases hv;cases hl;rw[beB_length];exact (f2.own.sees.chg0 f3.chg).chg0 ca
  | 2=>cases hv;cases hl;rw[beB_length];exact f3.own.sees.chg0 ca
  | i+3=>simp at hv) (by simp) (by simp) (by simp[beB_length]) 3 rfl
 have hs:=sector_by (w3.alloc (.cells #[.slice (some ⟨g1,0,none⟩) 6 6,.slice (some ⟨g2,0,none⟩) 2 2,.slice (some ⟨g3,0,none⟩) 2 2] 38)) [65,67] _ _ _ _ _ (by simp[beB_length]) hj;have hcc:Chg [] w (w3.alloc (.cells #[.slice (some ⟨g1,0,none⟩) 6 6,.slice (some ⟨g2,0,none⟩) 2 2,.slice (some ⟨g3,0,none⟩) 2 2] 38)):=((f1.chg.nil f2.chg).nil f3.chg).nil ca;clear hj hB ca f1 f2 f3;go_wp2_with fail;refine hs.mono ?_;rintro e w5 ⟨v5,rfl,hF⟩;go_wp2_with fail;go_ret;refine⟨_,rfl,?_⟩;have:markB seq pos n=fill ([65,67]++[beB seq 6,beB pos 2,beB n 2].flatten):=by simp[markB]
 rw[this];exact hF.based hcc
theorem top_any (w:World) (n:Nat) (h3:n<65536):
  Calls Tryz.prog 34 #[.int .i64 n] w fun e w'=>∃v',e=.returned v'∧FreshM w w' 5 v' 256 (Bs (topB n)):=by
 have hb1:=fun w=>bigF w n 2 n rfl (by decide) (by decide) (bes_lt n 2 65536 h3 (by decide))
 have kc:=fun w C n c=>Lib.run_convert_bytes_const (P:=Tryz.prog) w 38 5 C n c Tryz.underlying38 Tryz.underlying5
 have hF0:FreshM w (w.alloc (.cells #[.int .u8 65,.int .u8 70] 5 (2,3))) 5 (.slice (some ⟨w.heap.size,0,none⟩) 2 2) 2 (Bs [65,70]):=FreshM.const w #[.int .u8 65,.int .u8 70] 5 (by decide);clear h3;go_enter Tryz.func34,Tryz.ntmps34;go_wp2_with fail;refine (hb1 _).mono ?_;rintro e w2 ⟨g2,rfl,f2⟩;have hF2:=hF0.to f2.chg;clear hb1 hF0 kc;go_upto_region 2 with (at_builtin;refine wpList_appM _ _ 38 sl_u8y rfl rfl rfl hF2 (by simp) rfl f2.own.sees rfl (Bs_one _) (by decide) (by decide) ?_;intro v3 w3 hF3 hv3 c3);obtain⟨g3,c3',rfl,-,-⟩:=hF3.ptr hv3;clear hF2 f2 c3;go_wp2_with (at_builtin;refine wpList_appMZ (k:=252) _ _ 38 sl_u8y rfl rfl 3 rfl rfl Tryz.underlying3 hF3 rfl rfl (by decide) (by decide) (by decide) (by decide) ?_;intro v4 w4 hF4 c4);go_ret;refine⟨_,rfl,?_⟩;have:Bs (topB n)=Bs [65,70]++Bs (beB n 2)++List.replicate 252 (Value.int .u8 0):=by
  unfold topB fill;rw[Bs_append,Bs_append,rep_nul,List.length_append,beB_length];rfl
 rw[this];exact hF4
end Go.Proofs.YtlbdklaggalgfaaGreatDoor
