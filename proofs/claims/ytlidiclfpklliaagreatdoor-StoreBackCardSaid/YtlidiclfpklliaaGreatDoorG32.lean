/- FgC FgD FgE FgI StA ShaLaw StB StC -/
import Derived.Test.YtlidiclfpklliaaGreatDoorG31
import Derived.OwnWalk
set_option linter.unusedSimpArgs false
set_option linter.unusedVariables false
set_option maxHeartbeats 4000000
namespace Go.Aq.Fy
open Go.Aq Go.RowKit
def FewC (cs:List ChangeD):Prop:=cs.length≤40∧∀c∈cs,c.name.length≤400∧c.tonm.length≤400∧c.data.length≤70000
end Go.Aq.Fy
namespace Go.Proofs.YtlidiclfpklliaaGreatDoor
open Go.RowKit Go.Aq Go.Aq.Fy Go.Maps
theorem FsR.turn {w w':World} {S S' X:List Nat} {f d l bf:Nat} {F:FsD} {D:DiskD} (h:FsR w S [] f d l bf F) (hU:Upd S (X++S') w w') (hD:DiskR w' S' d D) (hn:D.n=F.disk.n):FsR w' S' [] f d l bf { F with disk:=D }:=by
 obtain⟨n1,n2,n3,n4,n5,n6⟩:=h.ne
 have hlt:=h.lt
 have far:∀k,k<w.heap.size→k∉S→k∉S':=fun k hk hS hh=>by
  rcases hU.new k (List.mem_append_right _ hh) with h1 | h1
  ·exact hS h1
  ·omega
 refine⟨h.blk.chg hU.chg n4,hD,h.log.chg hU.chg n5,?_,⟨n1,n2,n3,far f (hlt f (by simp)) n4,far l (hlt l (by simp)) n5,far bf (hlt bf (by simp)) n6⟩,fun _ h=>absurd h (by simp),?_⟩
 ·have h1:=h.files.wide (T:=S++(f::l::bf::S')) (fun k hk=>by
   simp only[List.nil_append,List.mem_append,List.mem_cons] at hk ⊢
   rcases hk with h1 | h1 | h1 | h1 | h1
   ·exact .inl (.inr (.inr (.inr h1)))
   ·exact .inl (.inl h1)
   ·exact .inl (.inr (.inl h1))
   ·exact .inl (.inr (.inr (.inl h1)))
   ·rcases hU.new k (List.mem_append_right _ h1) with h2 | h2
    ·exact .inl (.inr (.inr (.inr h2)))
    ·exact .inr h2)
  exact (h1.chg hU.chg (fun k hk=>.inl (List.mem_append_left _ hk)) n6).wide fun k hk=>.inl (List.mem_append_right _ (by simpa using hk))
 ·have:=h.small
  rw[show ({ F with disk:=D }:FsD).disk.n=F.disk.n from hn]
  exact this
theorem reopen_ok {q:Nat} (w:World) (S:List Nat) (p:Nat) (F:FsD) (hD:DiskR w S p F.disk) (hI:FInv q F) (hq:q<2^47):
  Calls Tryz.prog 43 #[.pointer (some ⟨p,0,none⟩)] w fun e w'=>∃f l bf S',e=.returned (.tuple #[.pointer (some ⟨f,0,none⟩),.int .i64 0])∧FsR w' S' [] f p l bf F∧Upd S (f::l::bf::S') w w':=by
 obtain⟨h1,h2,h3,h4,h5⟩:=open_same hI hq
 refine (fopen_ok w S p F.disk F.log F q hD hI.rest.up hI.rest.pend h1 h2 h3 hI.rest.len (fun i hi=>by rw[h4] at hi;omega) (fun _=>?_) hq).mono ?_
 ·rw[h5,h4]
  exact⟨rfl,rfl,hI⟩
 ·rintro e w' (⟨-,f,l,bf,S',rfl,hF,hU⟩ | ⟨hc,-⟩)
  ·exact⟨f,l,bf,S',rfl,hF,hU⟩
  ·rw[h5] at hc
   exact absurd rfl hc
set_option maxRecDepth 100000 in
theorem fread_none (w:World) (Sd X:List Nat) (f d l bf:Nat) (F:FsD) (h:FsR w Sd X f d l bf F) (s:Nm) (hs:s.length≤1048576) (hx:lookK s F.files=none):
  Calls Tryz.prog 82 #[.pointer (some ⟨f,0,none⟩),.string (str s)] w fun e w'=>e=.returned (.tuple #[.slice none 0 0,.int .i64 6])∧Chg [] w w':=by
 obtain⟨⟨c0,-,-,c3⟩,-⟩:=Blk.c4b h.blk
 obtain⟨n,ao,m,cap,⟨-,l2⟩,h1,h2,h3⟩:=h.files.look s hs
 unfold hasF at l2
 rw[hx] at l2
 simp only[Option.isSome_none] at l2
 clear h h1 h2 h3 hx
 go_enter Tryz.func82,Tryz.ntmps82
 go_wp2_with fail
 refine bodyPost_ret (results_tmp2 rfl _ _ _) rfl ?_
 exact⟨rfl,(Chg.refl _ _).alloc _⟩
end Go.Proofs.YtlidiclfpklliaaGreatDoor
namespace Go.Aq.Fy
open Go.Aq Go.RowKit
theorem F0_tw (n r m:Nat) (k k':Int):Tw (F0 n r m k) (F0 n r m k'):=⟨rfl,rfl,rfl,rfl,rfl⟩
theorem FewC.facts {cs:List ChangeD} (h:FewC cs):(∀c∈cs,c.name.length≤1048576∧c.tonm.length≤1048576∧c.data.length≤1000000)∧cs.length≤1000:=
 ⟨fun c hc=>by obtain⟨h1,h2,h3⟩:=h.2 c hc;omega,by have:=h.1;omega⟩
structure MadeF (q n r m:Nat) (css:List (List ChangeD)) (F:FsD):Prop where
 inv:FInv q F
 falls:F.disk.falls=0
 secs:F.disk.n=n
 ring:F.log.ring=r
 mt:F.mt=m
 twin:Tw F (dosF (F0 n r m 0) css)
 inv0:FInv q (dosF (F0 n r m 0) css)
 falls0:(dosF (F0 n r m 0) css).disk.falls=0
theorem MadeF.start {n r m:Nat} (hb:fmtOk n (r:Int) (m:Int)) (hn:n≤4096) (k:Int):MadeF 1 n r m [] (F0 n r m k):=
 ⟨fmt_inv hb hn k,rfl,rfl,rfl,rfl,F0_tw n r m k 0,fmt_inv hb hn 0,rfl⟩
theorem MadeF.step {q n r m:Nat} {css:List (List ChangeD)} {F:FsD} (h:MadeF q n r m css F) (hq:q<2^47) (c:List ChangeD):MadeF (q+1) n r m (css++[c]) (doF F c).1:=by
 obtain⟨a1,a2,a3,a4,a5,-⟩:=do_law h.inv hq h.falls c
 obtain⟨b1,b2,-,-,-,-⟩:=do_law h.inv0 hq h.falls0 c
 refine⟨a1,a2,a3.trans h.secs,a5.trans h.ring,a4.trans h.mt,?_,?_,?_⟩ <;> rw[dosF_snoc]
 ·exact (h.twin.doF h.inv h.inv0 h.falls h.falls0 c).1
 ·exact b1
 ·exact b2
theorem MadeF.up {q n r m:Nat} {css:List (List ChangeD)} {F:FsD} (h:MadeF q n r m css F) (hq:q≤40):MadeF 40 n r m css F:=by
 have up:∀{q':Nat} {G:FsD},FInv q' G→q'≤40→FInv 40 G:=fun k hk=>⟨k.geo,k.rest,by have:=k.seq;omega,k.lies,k.un,k.tlen,k.files⟩
 exact⟨up h.inv hq,h.falls,h.secs,h.ring,h.mt,h.twin,up h.inv0 hq,h.falls0⟩
end Go.Aq.Fy
namespace Go.Proofs.YtlidiclfpklliaaGreatDoor
open Go.RowKit Go.Aq Go.Aq.Fy Go.Maps
def ListsC (w:World) (v:Value) (css:List (List ChangeD)):Prop:=∃ys,Sees w 1 v css.length ys∧∀(i:Nat) (cs:List ChangeD),css[i]?=some cs→∃y xs,ys[i]?=some y∧Sees w 4 y cs.length xs∧CellsC w cs xs
theorem ListsC.chg0 {w w':World} {v:Value} {css:List (List ChangeD)} (h:ListsC w v css) (c:Chg [] w w'):ListsC w' v css:=by
 obtain⟨ys,h1,h2⟩:=h
 refine⟨ys,h1.chg0 c,fun i cs hc=>?_⟩
 obtain⟨y,xs,e,h3,h4⟩:=h2 i cs hc
 exact⟨y,xs,e,h3.chg0 c,h4.chg0 c⟩
theorem FsR.none {w:World} {Sd X:List Nat} {f d l bf:Nat} {F:FsD} (h:FsR w Sd [] f d l bf F) (h0:F.files=[]) (ha:Disj X (f::l::bf::Sd)):FsR w Sd X f d l bf F:=by
 refine⟨h.blk,h.disk,h.log,?_,h.ne,ha,h.small⟩
 obtain⟨k,h1,h2⟩:=h.files
 rw[h0] at h2 ⊢
 refine⟨k,h1,?_⟩
 cases k with
 | nil=>exact trivial
 | cons a b=>cases h2
def NoU8 (w:World) (T:List Nat):Prop:=∀k∈T,(∃cs e,w.heap[k]?=some (.cells cs e (0,0))∧∀(i:Nat) x,cs[i]?≠some (.int .u8 x))∨∃es c,w.heap[k]?=some (.map es c)
theorem sees_far {w:World} {v:Value} {n:Nat} {b:List UInt8} {T:List Nat} (h:Sees w 1 v n (Bs b)) (hT:NoU8 w T):Disj (eyes v) T:=fun k hk hkT=>by
 rcases hT k hkT with ⟨cs,e,hb,hcs⟩ | ⟨es,c,hm⟩
 ·exact sees_notin h hb hcs hk
 ·obtain⟨h1,ao,cap,rfl,_,_,hc⟩:=h
  unfold eyes at hk
  split at hk
  ·rename_i a n' cap' he
   simp only[Value.slice.injEq] at he
   obtain⟨rfl,rfl,rfl⟩:=he
   split at hk
   ·simp at hk
   ·rename_i hn
    simp only[List.mem_singleton] at hk
    have hb0:0<b.length:=by rw[Bs_length] at h1;omega
    have h2:=hc a rfl 0 _ (Bs_get b 0 hb0)
    have h3:w.cell? a=some (.int .u8 ((b[0]'hb0).toNat:Int)):=by simpa[Addr.add] using h2
    unfold World.cell? at h3
    rw[←hk,hm] at h3
    cases h3
  ·simp at hk
theorem NoU8.app {w:World} {S T:List Nat} (h:NoU8 w S) (k:NoU8 w T):NoU8 w (S++T):=fun x hx=>(List.mem_append.1 hx).elim (h x) (k x)
theorem DiskR.noU8 {w:World} {S:List Nat} {p:Nat} {D:DiskD} (h:DiskR w S p D) (h0:D.pend=[]):NoU8 w S:=by
 obtain⟨bn,bd,fn,fd,pv,xs,mv,h,rfl⟩:=h
 have hp:=h.nil0 h0
 subst hp
 intro k hk
 simp only[List.mem_cons,Value.ownBlock,Option.toList,List.not_mem_nil,or_false] at hk
 rcases hk with rfl | rfl | rfl
 ·refine .inl ⟨_,_,h.blk,fun i x=>?_⟩
  rcases i with _ | _ | _ | _ | _ | _ | _ | _ | i <;> simp
  intro e
  obtain⟨_,_,_,e2,_⟩:=h.mask.1
  rw[e] at e2
  cases e2
 ·obtain⟨es,c,hm,-⟩:=h.now
  exact .inr ⟨es,c,hm⟩
 ·obtain⟨es,c,hm,-⟩:=h.dur
  exact .inr ⟨es,c,hm⟩
theorem FsR.noU8 {w:World} {Sd X:List Nat} {f d l bf:Nat} {F:FsD} (h:FsR w Sd X f d l bf F) (h0:F.disk.pend=[]):NoU8 w (f::l::bf::Sd):=by
 intro k hk
 simp only[List.mem_cons] at hk
 rcases hk with rfl | rfl | rfl | hk
 ·exact .inl ⟨_,_,h.blk,fun i x=>by rcases i with _ | _ | _ | _ | i <;> simp⟩
 ·exact .inl ⟨_,_,h.log,fun i x=>by rcases i with _ | _ | _ | _ | i <;> simp⟩
 ·obtain⟨m,hM,-⟩:=h.files
  obtain⟨es,c,hm,-⟩:=hM.owns
  exact .inr ⟨es,c,hm⟩
 ·exact h.disk.noU8 h0 k hk
theorem DiskR.offN {w w':World} {S T:List Nat} {p:Nat} {D:DiskD} (h:DiskR w S p D) (hn:NoU8 w T) (c:Chg T w w') (hl:Disj S T):DiskR w' S p D:=by
 obtain⟨bn,bd,fn,fd,pv,xs,mv,h,rfl⟩:=h
 have sec:∀{v:Value} {b:Sec},SecV w (p::bn::bd::pv.ownBlock.toList) v b→SecV w' (p::bn::bd::pv.ownBlock.toList) v b:=fun {v b} hv=>
  ⟨hv.sees.chg c (sees_far hv.sees hn),hv.off⟩
 have secs:∀{f:Value→Option Value} {g:Nat→Sec},SecsF w (p::bn::bd::pv.ownBlock.toList) f g→SecsF w' (p::bn::bd::pv.ownBlock.toList) f g:=fun {f g} hf k=>by
  rcases hf k with h1 | ⟨v,h1,h2⟩
  ·exact .inl h1
  ·exact .inr ⟨v,h1,sec h2⟩
 have pend:∀{l:Puts} {xs:List Value},PendR w (p::bn::bd::pv.ownBlock.toList) l xs→PendR w' (p::bn::bd::pv.ownBlock.toList) l xs:=by
  intro l xs hx
  induction hx with
  | nil=>exact .nil
  | cons h1 _ ih=>exact .cons (sec h1) ih
 exact⟨bn,bd,fn,fd,pv,xs,mv,⟨h.blk.chg c (hl p (by simp)),h.now.chg c (hl bn (by simp)),h.dur.chg c (hl bd (by simp)),h.ne,secs h.nowS,secs h.durS,h.own.chg c (fun k hk=>hl k (by simp[hk])),pend h.pend,⟨h.mask.1.chg c (sees_far h.mask.1 hn),h.mask.2⟩,h.least,h.plc,h.room,h.nil0⟩,rfl⟩
theorem FsR.farU {w w':World} {Sd X X':List Nat} {f d l bf:Nat} {F:FsD} (h:FsR w Sd X f d l bf F) (u:Upd X X' w w') (hn:NoU8 w X):FsR w' Sd X' f d l bf F:=by
 have hlt:=h.lt
 have hoff:∀k∈f::l::bf::Sd,k∉X:=fun k hk hk'=>h.away k hk' hk
 refine⟨h.blk.chg u.chg (hoff f (by simp)),h.disk.offN hn u.chg (fun k hk=>hoff k (by simp[hk])),h.log.chg u.chg (hoff l (by simp)),?_,h.ne,fun k hk hk'=>?_,h.small⟩
 ·have h1:=h.files.wide (T:=X++(X'++f::l::bf::Sd)) (fun k hk=>by
   simp only[List.mem_append] at hk ⊢
   rcases hk with h1 | h1 | h1
   ·exact .inl (.inl h1)
   ·rcases u.new k h1 with h2 | h2
    ·exact .inl (.inl h2)
    ·exact .inr h2
   ·exact .inl (.inr h1))
  exact (h1.chg u.chg (fun k hk=>.inl (List.mem_append_left _ hk)) (hoff bf (by simp))).wide fun k hk=>.inl (List.mem_append_right _ hk)
 ·rcases u.new k hk with h2 | h2
  ·exact h.away k h2 hk'
  ·have:=hlt k hk';omega
theorem FsR.wideX {w:World} {Sd X X':List Nat} {f d l bf:Nat} {F:FsD} (h:FsR w Sd X f d l bf F) (hx:∀k∈X',k∈X∨w.heap.size≤k):FsR w Sd X' f d l bf F:=by
 have hlt:=h.lt
 refine⟨h.blk,h.disk,h.log,h.files.wide fun k hk=>?_,h.ne,fun k hk hk'=>?_,h.small⟩
 ·rcases List.mem_append.1 hk with h1 | h1
  ·exact (hx k h1).imp (List.mem_append_left _) id
  ·exact .inl (List.mem_append_right _ h1)
 ·rcases hx k hk with h2 | h2
  ·exact h.away k h2 hk'
  ·have:=hlt k hk';omega
end Go.Proofs.YtlidiclfpklliaaGreatDoor
namespace Go.Aq.Fy
open Go.Aq Go.RowKit
theorem oneV_pair (v:View) (c:ChangeD):allV v [c]=oneV v c:=by
 show (if (oneV v c).2=0 then ((oneV v c).1,0) else oneV v c)=oneV v c
 split
 ·next h=>exact Prod.ext rfl h.symm
 ·rfl
theorem allV_snoc (c:ChangeD):∀(l:List ChangeD) (v:View),allV v (l++[c])=if (allV v l).2=0 then oneV (allV v l).1 c else allV v l
 | [],v=>by
  rw[List.nil_append,oneV_pair]
  show oneV v c=if (0:Nat)=0 then oneV v c else (v,0)
  rw[if_pos rfl]
 | a::l,v=>by
  show (if (oneV v a).2=0 then allV (oneV v a).1 (l++[c]) else oneV v a)=if (if (oneV v a).2=0 then allV (oneV v a).1 l else oneV v a).2=0 then oneV (if (oneV v a).2=0 then allV (oneV v a).1 l else oneV v a).1 c else (if (oneV v a).2=0 then allV (oneV v a).1 l else oneV v a)
  by_cases h:(oneV v a).2=0
  ·simp only[h,if_true]
   exact allV_snoc c l _
  ·simp only[h,if_false]
structure StepF (q:Nat) (V:View) (cs:List ChangeD) (i:Nat) (G:FsD):Prop where
 inv:FInv q G
 falls:G.disk.falls=0
 view:viewF G=(allV V (cs.take i)).1
 good:(allV V (cs.take i)).2=0
theorem StepF.next {q:Nat} {V:View} {cs:List ChangeD} {i:Nat} {G:FsD} (h:StepF q V cs i G) (hq:q<2^47) {c:ChangeD} (hc:cs[i]?=some c) (h0:(doF G [c]).2=0):StepF (q+1) V cs (i+1) (doF G [c]).1:=by
 obtain⟨a1,a2,-,-,-,⟨a6,-⟩ | ⟨-,a7,a8,-⟩⟩:=do_law h.inv hq h.falls [c]
 ·exact absurd h0 a6
 ·obtain⟨hi,e⟩:=List.getElem?_eq_some_iff.1 hc
  have ht:cs.take (i+1)=cs.take i++[c]:=by rw[List.take_succ_eq_append_getElem hi,e]
  rw[oneV_pair,h.view] at a7 a8
  refine⟨a1,a2,?_,?_⟩ <;> rw[ht,allV_snoc,if_pos h.good]
  ·exact a8
  ·exact a7
end Go.Aq.Fy
namespace Go.Aq
open Go.RowKit
theorem run_catS {P:Program} {a b c:ByteArray} (h:a++b=c) (hb:a.size+b.size≤9223372036854775807) (w:World):(Op.stringOp .add a b).run P w=.ok (.string c) w:=by rw[run_string_add_sum w a b hb,h]
theorem str_place (k:List UInt8):(⟨#[111]⟩:ByteArray)++str k=str (Fy.placeS k):=by
 apply ByteArray.ext
 show (str [111]++str k).data=_
 rw[ByteArray.data_append]
 simp[str,Fy.placeS]
end Go.Aq
namespace Go.Proofs.YtlidiclfpklliaaGreatDoor
open Go.RowKit Go.Aq Go.Aq.Fy Go.Maps
structure StgR (w:World) (p bm:Nat) (st:View):Prop where
 blk:Blk w p #[.map (some bm)] 89
 fresh:FreshR w [p,bm] bm st
 ne:p≠bm
theorem StgR.chg0 {w w':World} {p bm:Nat} {st:View} (h:StgR w p bm st) (c:Chg [] w w'):StgR w' p bm st:=⟨h.blk.chg0 c,h.fresh.chg0 c,h.ne⟩
theorem StgR.noU8 {w:World} {p bm:Nat} {st:View} (h:StgR w p bm st):NoU8 w [p,bm]:=by
 intro k hk
 simp only[List.mem_cons,List.not_mem_nil,or_false] at hk
 rcases hk with rfl | rfl
 ·refine .inl ⟨_,_,h.blk,fun i x hx=>?_⟩
  match i,hx with
  | 0,hx=>simp at hx
  | i+1,hx=>simp at hx
 ·obtain⟨l,hM,-⟩:=h.fresh
  obtain⟨es,c,hm,-⟩:=hM.owns
  exact .inr ⟨es,c,hm⟩
theorem FreshR.look {w:World} {S:List Nat} {b:Nat} {L:List (Nm×Sec)} (h:FreshR w S b L) (s:Nm) (hs:s.length≤1048576):
  ∃(ao:Option Addr) (m cap:Nat),
  ((Instr.lookup 87 (.map (some b)) (.string (str s)) false).run Tryz.prog w=.ok (.slice ao m cap) w∧
  (Instr.lookup 87 (.map (some b)) (.string (str s)) true).run Tryz.prog w=.ok (.tuple #[.slice ao m cap,.bool (lookK s L).isSome]) w)∧
  m=((lookK s L).getD []).length∧BytesV w S ((lookK s L).getD []) (.slice ao m cap):=by
 obtain⟨l,hM,h2⟩:=h
 obtain⟨l1,l2⟩:=hM.look keyS Tryz.underlying87 (zeroB8 w) s hs
 rcases h2.look s with ⟨e1,e2⟩ | ⟨x,y,e1,e2,hv⟩
 ·rw[e2] at l1 l2
  rw[e1]
  exact⟨none,0,0,⟨l1,l2⟩,rfl,Sees.nil _ _,by simp[eyes,Disj]⟩
 ·rw[e2] at l1 l2
  rw[e1]
  obtain⟨ao,cap,rfl,-⟩:=hv.1.shape
  exact⟨ao,_,cap,⟨l1,l2⟩,rfl,hv⟩
theorem FreshR.len {w:World} {S:List Nat} {b:Nat} {L:List (Nm×Sec)} (h:FreshR w S b L) (ty:TypeId):(Builtin.len_ #[87] ty #[.map (some b)]).run Tryz.prog w=.ok (.int .i64 L.length) w:=by
 obtain⟨l,hM,h2⟩:=h
 rw[h2.len]
 exact hM.len Tryz.underlying87 ty
theorem newStage_ok (w:World):Calls Tryz.prog 11 #[] w fun e w'=>∃p bm,e=.returned (.pointer (some ⟨p,0,none⟩))∧StgR w' p bm []∧(w.heap.size≤p∧w.heap.size≤bm)∧Chg [] w w':=by
 obtain⟨bm,hbm⟩:∃bm,w.heap.size=bm:=⟨_,rfl⟩
 obtain⟨w1,hw1⟩:∃w1,w.alloc (.map #[] 0)=w1:=⟨_,rfl⟩
 have rm:(Instr.makeMap 87 none).run Tryz.prog w=.ok (.map (some bm)) w1:=by rw[←hw1,←hbm];kernel_rfl
 have k1:Chg [] w w1:=by rw[←hw1];exact (Chg.refl [] w).alloc _
 have hM:MapS Tryz.prog 9 w1 bm []:=by rw[←hw1,←hbm];exact MapS.made _ _ _
 have hsz:w1.heap.size=bm+1:=by rw[←hw1,←hbm];simp
 have H:=zC k1 hM hsz hbm
 clear hw1 k1 hM hsz hbm
 go_enter Tryz.func11,Tryz.ntmps11
 go_wp2_with fail
 go_ret
 have hb:=Blk.new_at w1 #[.map (some bm)] 89 H.out.2.2.1
 have k2:Chg [] w1 (w1.alloc (.cells #[.map (some bm)] 89)):=(Chg.refl _ _).alloc _
 refine⟨bm+1,bm,?_,⟨hb,⟨[],H.out.2.1.chg0 k2,trivial⟩,by omega⟩,⟨by have:=H.out.2.2.2;omega,by have:=H.out.2.2.2;omega⟩,H.out.1.nil k2⟩
 have e:=H.out.2.2.1
 first | (rw[←e];rfl) | (simp[e]) | rfl
theorem slen_ok (w:World) (p bm:Nat) (st:View) (h:StgR w p bm st):Calls Tryz.prog 16 #[.pointer (some ⟨p,0,none⟩)] w fun e w'=>e=.returned (.int .i64 st.length)∧Chg [] w w':=by
 have x0:w.cell? ⟨p,0,none⟩=some (.map (some bm)):=h.blk.cell 0
 have hl:=h.fresh.len
 clear h
 go_enter Tryz.func16,Tryz.ntmps16
 go_wp2_with fail
 go_ret
 exact⟨rfl,Chg.refl _ _⟩
theorem shave_ok (w:World) (p bm:Nat) (st:View) (h:StgR w p bm st) (k:Nm) (hk:k.length≤1048576):Calls Tryz.prog 17 #[.pointer (some ⟨p,0,none⟩),.string (str k)] w fun e w'=>e=.returned (.bool (lookK k st).isSome)∧Chg [] w w':=by
 have x0:w.cell? ⟨p,0,none⟩=some (.map (some bm)):=h.blk.cell 0
 obtain⟨ao,m,cap,⟨-,l2⟩,-⟩:=h.fresh.look k hk
 clear h hk
 go_enter Tryz.func17,Tryz.ntmps17
 go_wp2_with fail
 go_ret
 exact⟨rfl,Chg.refl _ _⟩
theorem splace_ok (w:World) (k:Nm) (hk:k.length≤1048576):Calls Tryz.prog 27 #[.string (str k)] w fun e w'=>e=.returned (.string (str (placeS k)))∧Chg [] w w':=by
 have r:=fun w=>run_catS (P:=Tryz.prog) (str_place k) (by rw[str_size];show 1+_≤_;omega) w
 clear hk
 go_enter Tryz.func27,Tryz.ntmps27
 go_wp2_with fail
 go_ret
 exact⟨rfl,Chg.refl _ _⟩
end Go.Proofs.YtlidiclfpklliaaGreatDoor
namespace Go.Aq
open Go.RowKit
end Go.Aq
namespace Go.Proofs.YtlidiclfpklliaaGreatDoor
open Go.RowKit Go.Aq Go.Aq.Sha
set_option maxRecDepth 100000 in
theorem key_any (w:World) (v:Value) (n:Nat) (b:List UInt8) (hv:Sees w 1 v n (Bs b)) (hn:n≤1000000):
  Calls Tryz.prog 49 #[v] w fun e w'=>e=.returned (.string (str (hexL (sum b))))∧Chg [] w w':=by
 go_enter Tryz.func49,Tryz.ntmps49
 go_wp2_with fail
 refine (sum_any w v n b hv hn).mono ?_
 rintro e w1 ⟨v',rfl,hf⟩
 go_wp2_with fail
 refine (hex_any w1 v' 32 (sum b) hf.own.sees (by omega)).mono ?_
 rintro e w2 ⟨rfl,hc⟩
 go_wp2_with fail
 go_ret
 exact⟨rfl,hf.chg.nil hc⟩
end Go.Proofs.YtlidiclfpklliaaGreatDoor
namespace Go.Aq.Fy
open Go.Aq Go.RowKit
theorem look_viewS (F:FsD) (s:Nm):lookK s (viewF F)=(lookK s F.files).map fun x=>bytesB F x:=by
 unfold viewF viewG
 exact mapK_look _ _ _
end Go.Aq.Fy
namespace Go.Proofs.YtlidiclfpklliaaGreatDoor
open Go.RowKit Go.Aq Go.Aq.Fy Go.Maps
def GotF (w:World) (o:Option Sec) (e:Ending) (w':World):Prop:=
 (∃(ao:Option Addr) (n cap:Nat) (er:Nat),e=.returned (.tuple #[.slice ao n cap,.int .i64 er])∧n=(o.getD []).length∧er=(if o.isSome then 0 else 6)∧Sees w' 1 (.slice ao n cap) n (Bs (o.getD []))∧∀k∈eyes (.slice ao n cap),w.heap.size≤k)∧Chg [] w w'
theorem fgot_ok {q:Nat} (w:World) (Sd X:List Nat) (f d l bf:Nat) (F:FsD) (h:FsR w Sd X f d l bf F) (hI:FInv q F) (s:Nm) (hs:s.length≤1048576):
  Calls Tryz.prog 82 #[.pointer (some ⟨f,0,none⟩),.string (str s)] w (GotF w (lookK s (viewF F))):=by
 rw[look_viewS]
 cases hx:lookK s F.files with
 | none=>
  refine (fread_none w Sd X f d l bf F h s hs hx).mono ?_
  rintro e w' ⟨rfl,c⟩
  exact⟨⟨none,0,0,6,rfl,rfl,rfl,Sees.nil _ _,by simp[eyes]⟩,c⟩
 | some x=>
  obtain⟨-,-,h3,h4,h5,h6,-⟩:=hI.at (look_mem hx)
  refine (fread_ok w Sd X f d l bf F h hI.rest.up s hs x hx h3 h4 h5 (fun k _=>hI.rest.len k)).mono ?_
  rintro e w' ⟨v,rfl,hv,hn,c⟩
  obtain⟨ao,cap,rfl,-⟩:=hv.shape
  exact⟨⟨ao,_,cap,0,rfl,rfl,rfl,hv,hn⟩,c⟩
def ThereE (w:World) (o:Option Sec) (e:Ending) (w':World):Prop:=
 (∃(ao:Option Addr) (n cap:Nat),e=.returned (.tuple #[.slice ao n cap,.bool o.isSome,.int .i64 0])∧n=(o.getD []).length∧Sees w' 1 (.slice ao n cap) n (Bs (o.getD [])))∧Chg [] w w'
set_option maxRecDepth 100000 in
theorem there_st {q:Nat} (w:World) (Sd X:List Nat) (f d l bf:Nat) (F:FsD) (h:FsR w Sd X f d l bf F) (hI:FInv q F) (p bm:Nat) (st:View) (hS:StgR w p bm st) (k:Nm) (hk:k.length≤1000000):
  Calls Tryz.prog 50 #[.pointer (some ⟨p,0,none⟩),.pointer (some ⟨f,0,none⟩),.string (str k)] w (ThereE w (thereS (viewF F) st k)):=by
 have x0:w.cell? ⟨p,0,none⟩=some (.map (some bm)):=hS.blk.cell 0
 obtain⟨ao,m,cap,⟨-,l2⟩,hm,hB⟩:=hS.fresh.look k (by omega)
 have hpl:=fun w'=>splace_ok w' k (by omega)
 have hg:=fun w' (c:Chg [] w w')=>fgot_ok w' Sd X f d l bf F (h.chg0 c) hI (placeS k) (by unfold placeS;simp;omega)
 cases hl:lookK k st with
 | some b=>
  rw[hl] at l2 hm hB
  have e:thereS (viewF F) st k=some b:=by unfold thereS;rw[hl]
  rw[e]
  have HB:=zA hB hm
  clear h hI hS hk hm hB hl e hpl hg
  simp only[Option.isSome] at l2
  go_enter Tryz.func50,Tryz.ntmps50
  go_wp2_with fail
  go_ret3
  exact⟨⟨ao,m,cap,rfl,HB.out.2,by have h:=HB.out.1.1;rw[←HB.out.2] at h;exact h⟩,Chg.refl _ _⟩
 | none=>
  rw[hl] at l2 hm hB
  have e:thereS (viewF F) st k=lookK (placeS k) (viewF F):=by unfold thereS;rw[hl]
  rw[e]
  simp only[Option.isSome] at l2
  generalize lookK (placeS k) (viewF F)=o at *
  clear h hI hS hk hB hl e
  go_enter Tryz.func50,Tryz.ntmps50
  go_wp2_with fail
  refine (hpl _).mono ?_
  rintro e w1 ⟨rfl,c1⟩
  have hg1:=hg w1 c1
  have HC:=zH c1
  clear hpl hg x0 l2 c1
  go_wp2_with fail
  refine hg1.mono ?_
  rintro e w2 ⟨⟨ao2,n2,cap2,er,rfl,hn2,her,hs2,hnew⟩,c2⟩
  have H2:=zB hs2 hn2 (HC.out.nil c2)
  clear hg1 hs2 hnew hn2 c2
  cases o with
  | none=>
   simp only[Option.isSome,if_neg (by decide:¬(false=true))] at her
   subst her
   go_wp2_with fail
   go_ret3
   exact⟨⟨none,0,0,rfl,rfl,Sees.nil _ _⟩,H2.out.2.2⟩
  | some b=>
   simp only[Option.isSome,if_true] at her
   subst her
   go_wp2_with fail
   go_ret3
   exact⟨⟨ao2,n2,cap2,rfl,H2.out.2.1,H2.out.1⟩,H2.out.2.2⟩
def PutE (w:World) (p bm:Nat) (r:View×Nm×Nat) (e:Ending) (w':World):Prop:=
 e=.returned (.tuple #[.string (str r.2.1),.int .i64 r.2.2])∧StgR w' p bm r.1∧Chg [bm] w w'
set_option maxRecDepth 100000 in
theorem sput_ok {q:Nat} (w:World) (hT:Tabs w) (Sd X:List Nat) (f d l bf:Nat) (F:FsD) (h:FsR w Sd X f d l bf F) (hI:FInv q F) (p bm:Nat) (st:View) (hS:StgR w p bm st) (hst:st.length≤1000) (v:Value) (b:Sec) (hv:Sees w 1 v b.length (Bs b)) (hb:b.length≤1000000):
  Calls Tryz.prog 13 #[.pointer (some ⟨p,0,none⟩),.pointer (some ⟨f,0,none⟩),v] w (PutE w p bm (putS (viewF F) st b)):=by
 have hk:=okind_ok w hT v b hv hb
 have hkey:=fun w' (c:Chg [] w w')=>key_any w' v b.length b (hv.chg0 c) hb
 have hth:=fun w' (c:Chg [] w w')=>there_st w' Sd X f d l bf F (h.chg0 c) hI p bm st (hS.chg0 c) (keyD b) (by rw[keyD_len];decide)
 have hcase:=putS_cases (v:=viewF F) (st:=st) (b:=b)
 have hkl:(keyD b).length≤1048576:=by rw[keyD_len];decide
 obtain⟨R,hR⟩:∃R,putS (viewF F) st b=R:=⟨_,rfl⟩
 rw[hR] at hcase ⊢
 obtain⟨TH,hTH⟩:∃TH,thereS (viewF F) st (keyD b)=TH:=⟨_,rfl⟩
 rw[hTH] at hth hcase
 obtain⟨n,hn⟩:∃n,b.length=n:=⟨_,rfl⟩
 rw[hn] at hv hb
 obtain⟨ao,cap,rfl,-⟩:=hv.shape
 have HV:=zB hv hn hb
 have HS:=zA hS hst
 have HH:=zA hkey hth
 have hKS:keyD b=hexL (Sha.sum b):=rfl
 rw[←hKS] at hkey
 have HKY:=zH hkey
 have HKL:=zH hkl
 obtain⟨ky,hky⟩:∃ky,keyD b=ky:=⟨_,rfl⟩
 rw[hky] at hcase hKS
 have HKY2:=zH hky
 have hkey2:∀w',Chg [] w w'→Calls Tryz.prog 49 #[.slice ao n cap] w' fun e w''=>e=.returned (.string (str ky))∧Chg [] w' w'':=fun w' c=>by have h:=HKY.out w' c;rw[hky] at h;exact h
 have hth2:∀w',Chg [] w w'→Calls Tryz.prog 50 #[.pointer (some ⟨p,0,none⟩),.pointer (some ⟨f,0,none⟩),.string (str ky)] w' (ThereE w' TH):=fun w' c=>by have h:=hth w' c;rw[hky] at h;exact h
 have HK2:=zH hkey2
 have HT2:=zH hth2
 clear hT h hI hS hst hv hb hkey hth hkl hR hTH hn HH hKS HKY hky hkey2 hth2
 rcases hcase with ⟨hk0,rfl⟩ | ⟨hk0,hcase⟩
 ·have e0:((kindO b:Nat):Int)=0:=by omega
  rw[if_pos hk0,e0] at hk
  clear hk0 e0
  go_enter Tryz.func13,Tryz.ntmps13
  go_wp2_with fail
  refine hk.mono ?_
  rintro e w1 ⟨rfl,c1⟩
  have HC:=zH c1
  clear hk c1
  go_wp2_with fail
  go_ret2
  exact⟨rfl,HS.out.1.chg0 HC.out,HC.out.toS⟩
 ·rw[if_neg hk0] at hk
  obtain⟨kn,hkn⟩:∃kn:Nat,kindO b=kn:=⟨_,rfl⟩
  rw[hkn] at hk
  clear hk0 hkn
  go_enter Tryz.func13,Tryz.ntmps13
  go_wp2_with fail
  refine hk.mono ?_
  rintro e w1 ⟨rfl,c1⟩
  have hk1:=HK2.out w1 c1
  have HC1:=zH c1
  clear hk c1
  go_wp2_with fail
  refine hk1.mono ?_
  rintro e w2 ⟨rfl,c2⟩
  have ct2:=HC1.out.nil c2
  have ht2:=HT2.out w2 ct2
  have HC2:=zH ct2
  clear hk1 c2 ct2
  go_wp2_with fail
  refine ht2.mono ?_
  rintro e w3 ⟨⟨ao3,n3,cap3,rfl,hn3,hs3⟩,c3⟩
  have ct3:=HC2.out.nil c3
  have hvb:=HV.out.1.chg0 ct3
  have HC3:=zH ct3
  clear ht2 c3 ct3
  rcases hcase with ⟨c,rfl,hcb,rfl⟩ | ⟨rfl,rfl⟩ | ⟨rfl,rfl⟩
  ·have heq:=equal_any w3 _ _ _ _ _ _ hs3 hvb
   have d:decide ((some c).getD []=b)=false:=decide_eq_false hcb
   rw[d] at heq
   simp only[Option.isSome]
   clear hcb d hs3 hvb hn3
   go_wp2_with fail
   refine heq.mono ?_
   rintro e w4 ⟨rfl,rfl⟩
   clear heq
   go_wp2_with fail
   go_ret2
   exact⟨rfl,HS.out.1.chg0 HC3.out,HC3.out.toS⟩
  ·have heq:=equal_any w3 _ _ _ _ _ _ hs3 hvb
   have d:decide ((some b).getD []=b)=true:=decide_eq_true rfl
   rw[d] at heq
   simp only[Option.isSome]
   clear d hs3 hvb hn3
   go_wp2_with fail
   refine heq.mono ?_
   rintro e w4 ⟨rfl,rfl⟩
   clear heq
   go_wp2_with fail
   go_ret2
   exact⟨rfl,HS.out.1.chg0 HC3.out,HC3.out.toS⟩
  ·simp only[Option.isSome]
   have hS3:=HS.out.1.chg0 HC3.out
   clear hs3 hn3
   go_upto_region 11 with (fail)
   refine wp_region_U [] (fun i=>i==7) (by kernel_rfl) ?_
   have cd:Chg [] w3 w3.drew:=(Chg.refl _ _).drew
   have hSE:=hS3.chg0 cd
   have hvE:=hvb.chg0 cd
   have HCE:=zH (HC3.out.nil cd)
   clear hS3 hvb cd
   generalize w3.drew=wE at *
   have C0:Chg [] wE wE:=Chg.refl _ _
   have y0:wE.cell? ⟨p,0,none⟩=some (.map (some bm)):=hSE.blk.cell 0
   refine tU 0 (.pointer (some ⟨p,0,none⟩)) C0 (fun w4 c4=>?_) ?_
   ·go_simp
   try simp only[Act.put,yA,yB,yC,yD,yE,yF]
   refine tU 1 (.pointer (some ⟨p,0,none⟩)) C0 (fun w4 c4=>?_) ?_
   ·go_simp
   try simp only[Act.put,yA,yB,yC,yD,yE,yF]
   refine tU 2 (.pointer (some ⟨p,0,none⟩)) C0 (fun w4 c4=>?_) ?_
   ·go_simp
   try simp only[Act.put,yA,yB,yC,yD,yE,yF]
   refine tU 3 (.map (some bm)) C0 (fun w4 c4=>?_) ?_
   ·have z:=c4.cell_some y0 (by simp)
    go_simp
   try simp only[Act.put,yA,yB,yC,yD,yE,yF]
   refine tU 4 (.string (str ky)) C0 (fun w4 c4=>?_) ?_
   ·go_simp
   try simp only[Act.put,yA,yB,yC,yD,yE,yF]
   refine tU 5 (.slice ao n cap) C0 (fun w4 c4=>?_) ?_
   ·go_simp
   try simp only[Act.put,yA,yB,yC,yD,yE,yF]
   have HSE:=zH hSE
   clear y0 hSE
   refine oU 6 ?_
   go_simp
   refine (shaclone_any wE _ n b hvE (by have:=HV.out.2.2;omega)).mono ?_
   rintro e w7 ⟨v7,rfl,hf7⟩
   refine⟨hf7.chg,?_⟩
   have hs7:=hf7.own.sees
   have hB7:BytesV w7 [p,bm] b v7:=⟨by rw[HV.out.2.1];exact hs7,fun k hk hk'=>by
    have h1:=hf7.new k (eyes_own _ k hk)
    have h2:=HSE.out.blk.lt
    have h3:=HSE.out.fresh.lt
    simp only[List.mem_cons,List.not_mem_nil,or_false] at hk'
    omega⟩
   have hS7:=HSE.out.chg0 hf7.chg
   obtain⟨w8,r8,hF8,c8⟩:=hS7.fresh.put ky (by rw[←HKY2.out];exact HKL.out) (by simp) (by have:=HS.out.2;omega) hB7
   obtain⟨ao7,cap7,rfl,-⟩:=hs7.shape
   have HE:=zC hF8 c8 hS7 (HCE.out.nil hf7.chg)
   clear hF8 c8 hS7 hB7 hs7 hf7 hvE C0
   try simp only[Act.put,yA,yB,yC,yD,yE,yF]
   refine wpAnyU_last 7 rfl (by kernel_rfl) (by rfl) (by rfl) ?_
   refine wp_upd _ _ _ 87 rfl rfl rfl rfl r8 ?_
   try simp only[Act.put,yA,yB,yC,yD,yE,yF]
   refine wpAny_fin (by kernel_rfl) ?_ _
   clear r8
   go_wp2_with fail
   go_ret2
   refine⟨rfl,⟨HE.out.2.2.1.blk.chg HE.out.2.1 (by have:=HE.out.2.2.1.ne;simpa using this),?_,HE.out.2.2.1.ne⟩,HE.out.2.2.2.toS.tr HE.out.2.1⟩
   exact HE.out.1
end Go.Proofs.YtlidiclfpklliaaGreatDoor
