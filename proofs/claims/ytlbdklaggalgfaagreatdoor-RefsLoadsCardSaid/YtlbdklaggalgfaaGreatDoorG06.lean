/- TakeU DkA DkB DkC -/
import Derived.Test.YtlbdklaggalgfaaGreatDoorG05
set_option linter.unusedSimpArgs false
set_option linter.unusedVariables false
set_option maxHeartbeats 4000000
namespace Go.Aq
open Go.RowKit
section
variable {P:Program} {ops:Array Oper} {Q:Exit→Act→World→Prop} {md:Region.Mode} {S:List Nat} {w0:World} {L:Nat→Bool}
def wpAnyU (S:List Nat) (w0:World) (P:Program) (md:Region.Mode) (ops:Array Oper) (Q:Exit→Act→World→Prop) (L:Nat→Bool):Nat→Array Bool→Act→World→Prop
 | 0,listed,a,w=>Region.ready md ops listed=[]∧Q .normal a w
 | fuel+1,listed,a,w=>(Region.ready md ops listed=[]→Q .normal a w)∧
  ∀i∈Region.ready md ops listed,wpOp P ops Q i (fun a' w'=>(L i=true→wpAny P md ops Q fuel (listed.setIfInBounds i true) a' w')∧(L i=false→Chg S w0 w'∧wpAnyU S w0 P md ops Q L fuel (listed.setIfInBounds i true) a' w')) a w
theorem wpAny_of_U:∀(fuel:Nat) (listed:Array Bool) (a:Act) (w:World),wpAnyU S w0 P md ops Q L fuel listed a w→wpAny P md ops Q fuel listed a w
 | 0,_,_,w,h=>⟨h.1,h.2⟩
 | fuel+1,_,_,w,h=>⟨h.1,fun i hi=>wpOp_mono (fun a' w' h'=>by
   cases hL:L i with
   | true=>exact h'.1 hL
   | false=>exact wpAny_of_U fuel _ a' w' (h'.2 hL).2) (h.2 i hi)⟩
theorem wpAnyU_first {i:Nat} {oi:Oper} {v:Value} (hi:ops[i]?=some oi) (hsel:∀(j:Nat) (o:Oper) cs b,ops[j]?=some o→o.op≠.select cs b) (hl:lastsWait md ops L i=true)
  (hQ:∀c a w,Q (.panic c) (a.put oi.dst v) w→Q (.panic c) a w):
  ∀(fuel:Nat) (listed:Array Bool) (a:Act) (w:World),
   (∀j oj,ops[j]?=some oj→j≠i→listed.getD j true=false→(∀e∈oj.after,Region.binds md e=true→e.on≠i)→oi.apart ops oj=true)→
   i∈Region.ready md ops listed→YieldsE S w0 P ops oi v a→Chg S w0 w→
   wpAnyU S w0 P md ops Q L fuel (listed.setIfInBounds i true) (a.put oi.dst v) w→wpAnyU S w0 P md ops Q L (fuel+1) listed a w:=by
 unfold lastsWait at hl;simp only[Bool.and_eq_true,Bool.not_eq_true',List.all_eq_true,List.mem_range,Bool.or_eq_true] at hl;obtain⟨hLi,hLj⟩:=hl;intro fuel
 induction fuel with
 | zero=>
  intro listed a w _ hr hy c H;refine⟨fun h=>(by rw[h] at hr;cases hr),fun j hj=>?_⟩;by_cases hji:j=i;·subst hji;exact hy.wpOp hi c ⟨fun h=>(by rw[hLi] at h;cases h),fun _=>⟨c,H⟩⟩
  ·have:=ready_mono hj hji;rw[H.1] at this;cases this
 | succ fuel ih=>
  intro listed a w hfree hr hy c H;refine⟨fun h=>(by rw[h] at hr;cases hr),fun j hj=>?_⟩;by_cases hji:j=i;·subst hji;exact hy.wpOp hi c ⟨fun h=>(by rw[hLi] at h;cases h),fun _=>⟨c,H⟩⟩
  ·have h1:=H.2 j (ready_mono hj hji);obtain⟨hjun,oj,hoj,hall⟩:=mem_ready.1 hj;have hnot:∀e∈oj.after,Region.binds md e=true→e.on≠i:=fun e he hb heq=>by
    have h1:=hall e he hb;have h0:=(mem_ready.1 hr).1;rw[heq] at h1;rcases Nat.lt_or_ge i listed.size with h' | h'
    ·simp[h'] at h0 h1;rw[h0] at h1;cases h1
    ·simp[Array.getElem?_eq_none h'] at h1
   have hLf:L j=false:=by
    cases hL:L j with
    | false=>rfl
    | true=>
     have hjs:j<ops.size:=(Array.getElem?_eq_some_iff.1 hoj).1;rcases hLj j hjs with h | h
     ·rw[hL] at h;cases h
     ·obtain⟨oj',ho',e,he,hb,heq⟩:=Region.waitsFor_spec h;have:oj'=oj:=Option.some.inj (ho'.symm.trans hoj);subst this;exact absurd heq (hnot e he hb)
   have h2:=wpOp_putE hoj (hfree j oj hoj hji hjun hnot) (fun cs b=>hsel i oi cs b hi) (fun cs b=>hsel j oj cs b hoj) hQ hy h1;have hfree':∀k ok,ops[k]?=some ok→k≠i→(listed.setIfInBounds j true).getD k true=false→
     (∀e∈ok.after,Region.binds md e=true→e.on≠i)→oi.apart ops ok=true:=fun k ok hk hki hun hno=>by
    refine hfree k ok hk hki ?_ hno;by_cases hjk:j=k;·subst hjk;exact hjun
    ·rw[getD_set_ne true hjk] at hun;exact hun
   refine wpOp_mono (fun a' w' h3=>⟨fun h=>(by rw[hLf] at h;cases h),fun _=>⟨(h3.2.2 hLf).1,ih (listed.setIfInBounds j true) a' w' hfree' (ready_mono hr (Ne.symm hji)) h3.1 (h3.2.2 hLf).1 ?_⟩⟩) h2;rw[Array.setIfInBounds_comm _ _ hji];exact (h3.2.2 hLf).2
theorem wpAnyU_take (i:Nat) {oi:Oper} {v:Value} {fuel:Nat} {listed:Array Bool} {a:Act} {w:World} (c:Chg S w0 w) (hi:ops[i]?=some oi)
  (hs:Region.noSelect ops=true) (hf:Region.free md ops listed i=true) (hr:(Region.ready md ops listed).contains i=true) (hl:lastsWait md ops L i=true)
  (hQ:∀c a w,Q (.panic c) (a.put oi.dst v) w→Q (.panic c) a w) (hw:Region.wanted oi (yielded ops a.tmps)=true)
  (hy:∀w1,Chg S w0 w1→(execOp a.eval oi).run P w1=.ok (.value v) w1)
  (h:wpAnyU S w0 P md ops Q L fuel (listed.setIfInBounds i true) (a.put oi.dst v) w):wpAnyU S w0 P md ops Q L (fuel+1) listed a w:=
 wpAnyU_first hi (Region.noSelect_spec hs) hl hQ fuel listed a w (Region.free_spec hi hf) (by simpa using hr)
  (.inl ⟨hw,fun w1 c1=>by rw[hy w1 c1];exact⟨rfl,rfl⟩⟩) c h
theorem wpAnyU_skip (i:Nat) {oi:Oper} {fuel:Nat} {listed:Array Bool} {a:Act} {w:World} (c:Chg S w0 w) (hi:ops[i]?=some oi)
  (hs:Region.noSelect ops=true) (hf:Region.free md ops listed i=true) (hr:(Region.ready md ops listed).contains i=true) (hl:lastsWait md ops L i=true)
  (hQ:∀c a w,Q (.panic c) (a.put oi.dst undef) w→Q (.panic c) a w) (hw:Region.wanted oi (yielded ops a.tmps)=false)
  (h:wpAnyU S w0 P md ops Q L fuel (listed.setIfInBounds i true) (a.put oi.dst undef) w):wpAnyU S w0 P md ops Q L (fuel+1) listed a w:=
 wpAnyU_first hi (Region.noSelect_spec hs) hl hQ fuel listed a w (Region.free_spec hi hf) (by simpa using hr) (.inr ⟨hw,rfl⟩) c h
theorem wpAnyU_call (i:Nat) {oi:Oper} {f:FuncId} {args:Array Value} {v:Value} {fuel:Nat} {listed:Array Bool} {a:Act} {w:World} (c:Chg S w0 w) (hi:ops[i]?=some oi)
  (hs:Region.noSelect ops=true) (hf:Region.free md ops listed i=true) (hr:(Region.ready md ops listed).contains i=true) (hl:lastsWait md ops L i=true)
  (hQ:∀c a w,Q (.panic c) (a.put oi.dst v) w→Q (.panic c) a w) (hw:Region.wanted oi (yielded ops a.tmps)=true)
  (hy:∀w1,Chg S w0 w1→(execOp a.eval oi).run P w1=.ok (.enter f args) w1)
  (hc:∀w1,Chg S w0 w1→Calls P f args w1 (fun e w''=>e=.returned v∧w''=w1))
  (h:wpAnyU S w0 P md ops Q L fuel (listed.setIfInBounds i true) (a.put oi.dst v) w):wpAnyU S w0 P md ops Q L (fuel+1) listed a w:=
 wpAnyU_first hi (Region.noSelect_spec hs) hl hQ fuel listed a w (Region.free_spec hi hf) (by simpa using hr)
  (.inl ⟨hw,fun w1 c1=>by rw[hy w1 c1];exact⟨rfl,hc w1 c1⟩⟩) c h
theorem wpAnyU_only (i:Nat) {oi:Oper} {fuel:Nat} {listed:Array Bool} {a:Act} {w:World} (hi:ops[i]?=some oi) (hr:Region.ready md ops listed=[i]) (hl:L i=false)
  (hw:Region.wanted oi (yielded ops a.tmps)=true)
  (h:oi.wp P a w (fun a' w'=>Chg S w0 w'∧wpAnyU S w0 P md ops Q L fuel (listed.setIfInBounds i true) a' w') Q):wpAnyU S w0 P md ops Q L (fuel+1) listed a w:=by
 refine⟨fun h0=>(by rw[hr] at h0;cases h0),fun j hj=>?_⟩;rw[hr] at hj;simp only[List.mem_singleton] at hj;subst hj;unfold wpOp;simp only[hi,hw,if_true];exact .inl (Oper.wp_mono (fun a' w' h'=>⟨fun h0=>(by rw[hl] at h0;cases h0),fun _=>h'⟩) h)
theorem wpAnyU_two (i j:Nat) {oi oj:Oper} {fuel:Nat} {listed:Array Bool} {a:Act} {w:World} (hi:ops[i]?=some oi) (hj:ops[j]?=some oj) (hr:Region.ready md ops listed=[i,j]) (hl:L i=false) (hlj:L j=false)
  (hwi:Region.wanted oi (yielded ops a.tmps)=true) (hwj:Region.wanted oj (yielded ops a.tmps)=true)
  (h1:oi.wp P a w (fun a' w'=>Chg S w0 w'∧wpAnyU S w0 P md ops Q L fuel (listed.setIfInBounds i true) a' w') Q)
  (h2:oj.wp P a w (fun a' w'=>Chg S w0 w'∧wpAnyU S w0 P md ops Q L fuel (listed.setIfInBounds j true) a' w') Q):wpAnyU S w0 P md ops Q L (fuel+1) listed a w:=by
 refine⟨fun h0=>(by rw[hr] at h0;cases h0),fun k hk=>?_⟩;rw[hr] at hk;simp only[List.mem_cons,List.not_mem_nil,or_false] at hk;rcases hk with rfl | rfl
 ·unfold wpOp;simp only[hi,hwi,if_true];exact .inl (Oper.wp_mono (fun a' w' h'=>⟨fun h0=>(by rw[hl] at h0;cases h0),fun _=>h'⟩) h1)
 ·unfold wpOp;simp only[hj,hwj,if_true];exact .inl (Oper.wp_mono (fun a' w' h'=>⟨fun h0=>(by rw[hlj] at h0;cases h0),fun _=>h'⟩) h2)
theorem wpAnyU_last (i:Nat) {oi:Oper} {fuel:Nat} {listed:Array Bool} {a:Act} {w:World} (hi:ops[i]?=some oi) (hr:Region.ready md ops listed=[i]) (hl:L i=true)
  (hw:Region.wanted oi (yielded ops a.tmps)=true)
  (h:oi.wp P a w (fun a' w'=>wpAny P md ops Q fuel (listed.setIfInBounds i true) a' w') Q):wpAnyU S w0 P md ops Q L (fuel+1) listed a w:=by
 refine⟨fun h0=>(by rw[hr] at h0;cases h0),fun j hj=>?_⟩;rw[hr] at hj;simp only[List.mem_singleton] at hj;subst hj;unfold wpOp;simp only[hi,hw,if_true];exact .inl (Oper.wp_mono (fun a' w' h'=>⟨fun _=>h',fun h0=>(by rw[hl] at h0;cases h0)⟩) h)
theorem wpAnyU_done {listed:Array Bool} {a:Act} {w:World} (hr:Region.ready md ops listed=[]) (h:Q .normal a w):∀fuel,wpAnyU S w0 P md ops Q L fuel listed a w
 | 0=>⟨hr,h⟩
 | _+1=>⟨fun _=>h,by rw[hr];simp⟩
theorem wp_region_U (S:List Nat) (L:Nat→Bool) {id:Nat} {a:Act} {w:World} (hm:P.follows .mixedOrders=true)
  (h:wpAnyU S w.drew P .any ops Q L ops.size (Array.replicate ops.size false) a w.drew):(Code.region id ops true).wp P Q a w:=
 wp_region_any hm (wpAny_of_U _ _ _ _ h)
theorem tU (i:Nat) {oi:Oper} (v:Value) {fuel:Nat} {listed:Array Bool} {a:Act} {w:World} (c:Chg S w0 w) (hy:∀w1,Chg S w0 w1→(execOp a.eval oi).run P w1=.ok (.value v) w1)
  (h:wpAnyU S w0 P md ops Q L fuel (listed.setIfInBounds i true) (a.put oi.dst v) w) (hi:ops[i]?=some oi:=by exact rfl) (hs:Region.noSelect ops=true:=by kernel_rfl) (hf:Region.free md ops listed i=true:=by kernel_rfl) (hr:(Region.ready md ops listed).contains i=true:=by kernel_rfl) (hl:lastsWait md ops L i=true:=by kernel_rfl) (hQ:∀c a w,Q (.panic c) (a.put oi.dst v) w→Q (.panic c) a w:=by exact fun _ _ _ h=>h) (hw:Region.wanted oi (yielded ops a.tmps)=true:=by exact rfl):wpAnyU S w0 P md ops Q L (fuel+1) listed a w:=wpAnyU_take i c hi hs hf hr hl hQ hw hy h
theorem oU (i:Nat) {oi:Oper} {fuel:Nat} {listed:Array Bool} {a:Act} {w:World}
  (h:oi.wp P a w (fun a' w'=>Chg S w0 w'∧wpAnyU S w0 P md ops Q L fuel (listed.setIfInBounds i true) a' w') Q) (hi:ops[i]?=some oi:=by exact rfl) (hr:Region.ready md ops listed=[i]:=by kernel_rfl) (hl:L i=false:=by exact rfl)
  (hw:Region.wanted oi (yielded ops a.tmps)=true:=by exact rfl):wpAnyU S w0 P md ops Q L (fuel+1) listed a w:=wpAnyU_only i hi hr hl hw h
end
end Go.Aq
namespace Go.Aq.Fy
open Go.Aq Go.RowKit
def lastP (k:Nat):Puts→Option Sec
 | []=>none
 | (j,b)::r=>match lastP k r with
  | some x=>some x
  | none=>if j=k then some b else none
theorem lastP_app (k:Nat) (b:List (Nat×Sec)):∀a:Puts,lastP k (a++b)=(lastP k b).or (lastP k a)
 | []=>by simp[lastP]
 | (j,x)::a=>by
  show (match lastP k (a++b) with | some x=>some x | none=>_)=(lastP k b).or (match lastP k a with | some x=>some x | none=>_);rw[lastP_app k b a];cases lastP k b <;> cases lastP k a <;> rfl
theorem wIqD {a b:Int} (h:wrap64 a=b):IntKind.i64.wrap a=b:=by rw[IntKind.wrap_i64];unfold wrap64 at h;omega
theorem lastP_one (k j:Nat) (b:Sec):lastP k [(j,b)]=if j=k then some b else none:=rfl
end Go.Aq.Fy
namespace Go.Aq
open Go.RowKit
theorem Blk.c6 {w:World} {p:Nat} {a b c d e f:Value} {t:TypeId} (hb:Blk w p #[a,b,c,d,e,f] t):
  (w.cell? ⟨p,0,none⟩=some a∧w.cell? ⟨p,1,none⟩=some b∧w.cell? ⟨p,2,none⟩=some c∧w.cell? ⟨p,3,none⟩=some d∧w.cell? ⟨p,4,none⟩=some e∧w.cell? ⟨p,5,none⟩=some f)∧
  w.frozen? ⟨p,0,none⟩=false∧w.frozen? ⟨p,1,none⟩=false∧w.frozen? ⟨p,2,none⟩=false:=
 ⟨⟨hb.cell 0,hb.cell 1,hb.cell 2,hb.cell 3,hb.cell 4,hb.cell 5⟩,hb.frozen 0,hb.frozen 1,hb.frozen 2⟩
end Go.Aq
namespace Go.Proofs.YtlbdklaggalgfaaGreatDoor
section
open Go.RowKit Go.Aq Go.Aq.Fy
theorem sl_u8D:SliceTy Tryz.prog 38 5 (.int .u8 0) 1 1:=⟨Tryz.underlying38,by kernel_rfl,rfl,by decide⟩
structure DkB (w:World) (p n q:Nat) (now sure:Nat→Sec) (pl:Puts) (wr:Nat) (vs vp:Value) (ys zs:List Value):Prop where
 blk:Blk w p #[vs,vp,.int .i64 wr,.int .i64 0,.slice none 0 0,.bool false] 118
 os:Aq.Own w 38 1 vs n ys
 op:Aq.Own w 199 2 vp pl.length zs
 ne:p∉vs.ownBlock.toList∧p∉vp.ownBlock.toList∧Disj vs.ownBlock.toList vp.ownBlock.toList
 rows:∀k,k<n→∃y,ys[k]?=some y∧SecV w (p::(vs.ownBlock.toList++vp.ownBlock.toList)) y (sure k)
 pend:PendR w (p::(vs.ownBlock.toList++vp.ownBlock.toList)) pl zs
 now_eq:∀k,k<n→now k=(lastP k pl).getD (sure k)
 ok:∀x∈pl,x.1<n
 cnt:wr≤q∧pl.length≤q
def DkR (w:World) (S:List Nat) (p n:Nat) (now:Nat→Sec) (q:Nat):Prop:=
 ∃sure pl wr vs vp ys zs,DkB w p n q now sure pl wr vs vp ys zs∧S=p::(vs.ownBlock.toList++vp.ownBlock.toList)
theorem DkB.upd {w w':World} {p n q:Nat} {now sure:Nat→Sec} {pl:Puts} {wr:Nat} {vs vp:Value} {ys zs:List Value} (h:DkB w p n q now sure pl wr vs vp ys zs) (c:Chg [] w w'):DkB w' p n q now sure pl wr vs vp ys zs:=
 ⟨h.blk.chg0 c,h.os.chg c (fun _ _=>by simp),h.op.chg c (fun _ _=>by simp),h.ne,fun k hk=>by
  obtain⟨y,h1,h2⟩:=h.rows k hk;exact⟨y,h1,h2.chg c (by simp)⟩,h.pend.upd ⟨c.toS,fun _ h=>.inl h⟩,h.now_eq,h.ok,h.cnt⟩
theorem DkR.chg0 {w w':World} {S:List Nat} {p n:Nat} {now:Nat→Sec} {q:Nat} (h:DkR w S p n now q) (c:Chg [] w w'):DkR w' S p n now q:=by
 obtain⟨sure,pl,wr,vs,vp,ys,zs,h,rfl⟩:=h;exact⟨sure,pl,wr,vs,vp,ys,zs,h.upd c,rfl⟩
theorem DkR.lt {w:World} {S:List Nat} {p n:Nat} {now:Nat→Sec} {q:Nat} (h:DkR w S p n now q):In w S:=by
 obtain⟨sure,pl,wr,vs,vp,ys,zs,h,rfl⟩:=h;intro k hk;simp only[List.mem_cons,List.mem_append] at hk;rcases hk with rfl | hk | hk
 ·exact h.blk.lt
 ·exact h.os.lt k hk
 ·exact h.op.lt k hk
theorem DkR.more {w:World} {S:List Nat} {p n:Nat} {now:Nat→Sec} {q q':Nat} (h:DkR w S p n now q) (hq:q≤q'):DkR w S p n now q':=by
 obtain⟨sure,pl,wr,vs,vp,ys,zs,h,rfl⟩:=h;exact⟨sure,pl,wr,vs,vp,ys,zs,{ h with cnt:=⟨Nat.le_trans h.cnt.1 hq,Nat.le_trans h.cnt.2 hq⟩ },rfl⟩
theorem DkR.len {w:World} {S:List Nat} {p n:Nat} {now:Nat→Sec} {q:Nat} (h:DkR w S p n now q) {k:Nat} (hk:k<n):(now k).length=256:=by
 obtain⟨sure,pl,wr,vs,vp,ys,zs,h,rfl⟩:=h;have key:∀(l:Puts) (xs:List Value),PendR w (p::(vs.ownBlock.toList++vp.ownBlock.toList)) l xs→∀b,lastP k l=some b→b.length=256:=by
  intro l xs hx
  induction hx with
  | nil=>intro b hb;cases hb
  | @cons j x l v xs hv hx ih=>
   intro b hb;unfold lastP at hb;cases hl:lastP k l with
   | some y=>rw[hl] at hb;cases hb;exact ih _ hl
   | none=>
    rw[hl] at hb;simp only at hb;split at hb;·cases hb;exact hv.len
    ·cases hb
 rw[h.now_eq k hk];cases hl:lastP k pl with
 | some b=>exact key pl zs h.pend b hl
 | none=>
  obtain⟨y,-,h2⟩:=h.rows k hk;exact h2.len
theorem dsectors_ok (w:World) (S:List Nat) (p n:Nat) (now:Nat→Sec) (q:Nat) (h:DkR w S p n now q):
  Calls Tryz.prog 51 #[.pointer (some ⟨p,0,none⟩)] w fun e w'=>e=.returned (.int .i64 n)∧w'=w:=by
 obtain⟨sure,pl,wr,vs,vp,ys,zs,h,rfl⟩:=h;obtain⟨⟨c0,-⟩,-⟩:=h.blk.c6;obtain⟨ao,cap,rfl,-⟩:=h.os.sees.shape;clear h;go_enter Tryz.func51,Tryz.ntmps51;go_wp2_with fail;go_ret;exact⟨rfl,rfl⟩
def DReadE (w:World) (b:Sec) (e:Ending) (w':World):Prop:=
 ∃ao cap,e=.returned (.tuple #[.slice ao 256 cap,.int .i64 0])∧Fresh w w' 5 1 (.slice ao 256 cap) 256 (Bs b)
set_option maxRecDepth 100000 in
theorem dread_ok (w:World) (S:List Nat) (p n:Nat) (now:Nat→Sec) (q:Nat) (h:DkR w S p n now q) (hq:q≤1000000000) (k:Nat) (hk:k<n) (hn:n≤4096):
  Calls Tryz.prog 57 #[.pointer (some ⟨p,0,none⟩),.int .i64 k] w (DReadE w (now k)):=by
 obtain⟨sure,pl,wr,vs,vp,ys,zs,h,rfl⟩:=h;obtain⟨⟨c0,c1,-,-,-,c5⟩,-⟩:=h.blk.c6;obtain⟨aos,caps,rfl,-⟩:=h.os.sees.shape;obtain⟨ap,capp,rfl,-⟩:=h.op.sees.shape;obtain⟨m,hm⟩:∃m,pl.length=m:=⟨_,rfl⟩;rw[hm] at c1;have hmq:m≤1000000000:=by have:=h.cnt.2;omega
 have t1:decide ((k:Int)<0)=false:=by simp
 have t2':decide ((n:Int)≤(k:Int))=false:=by simp;omega
 have t2'':decide (n≤k)=false:=by simp;omega
 have e1:wrap64 ((m:Int) - 1)=(m:Int) - 1:=by unfold wrap64;omega
 have e1w:=wIqD e1;have H:=zC h hm hk hn;clear h hm hk hn;go_enter Tryz.func57,Tryz.ntmps57;go_wp2_with fail;go_loopg [6] m (fun gk (v6:Value) wr=>∃z:Int,v6=.int .i64 z∧wr=w∧Hid (z=(gk:Int) - 1∧gk≤m∧lastP k (pl.drop gk)=none));case atStart=>exact⟨(m:Int) - 1,rfl,rfl,rfl,Nat.le_refl _,by rw[←H.out.2.1,List.drop_length];rfl⟩
 case round=>
  obtain⟨z,rfl,rfl,HJ⟩:=hrel;by_cases hg:gk=0
  ·have hz:z= -1:=by have:=HJ.out.1;omega
   subst hz hg;obtain⟨g,off,cap,e,-,hcell⟩:=H.out.1.os.sees.at1 (by have:=H.out.2.2.1;omega);cases e;have hkn:=H.out.2.2.1;obtain⟨y,hy,hv⟩:=H.out.1.rows k hkn;have x1:=hcell k hkn;rw[hy] at x1;have i1:(k:Int)<n:=by omega
   obtain⟨ay,cy,rfl,-⟩:=hv.sees.shape;have hnow:now k=sure k:=by
    rw[H.out.1.now_eq k hkn];have h0:=HJ.out.2.2;rw[List.drop_zero] at h0;rw[h0];rfl
   have HN:=zH hnow;have hcp:=copy_any wr _ 256 (sure k) hv.sees (by decide) sl_u8D;have t3:decide ((0:Int)≤ -1)=false:=by decide
   clear hcell hy hv hnow;go_wp2_with fail;refine hcp.mono ?_;rintro e w1 ⟨v1,rfl,ho1,c1',hn1⟩;obtain⟨a1,cp1,rfl,-⟩:=ho1.sees.shape;have HO:=zB ho1 c1' hn1;clear hcp ho1 c1' hn1;go_wp2_with fail;go_ret2;exact⟨a1,cp1,rfl,by rw[HN.out];exact HO.out.1,HO.out.2.1,HO.out.2.2⟩
  ·obtain⟨j,rfl⟩:∃j,gk=j+1:=⟨gk - 1,by omega⟩;obtain rfl:z=(j:Int):=by have:=HJ.out.1;omega
   have hjm:j<m:=by have:=HJ.out.2.1;omega
   have hjl:j<pl.length:=by rw[H.out.2.1];exact hjm
   obtain⟨g,off,cap,e,-,-,hcell⟩:=H.out.1.op.sees.cells (by omega);rw[H.out.2.1] at e;cases e;obtain⟨q1,v,q2,hv⟩:=H.out.1.pend.get j hjl;have x1:=hcell (2 * j) (by omega);have x2:=hcell (2 * j+1) (by omega);rw[q1] at x1;rw[q2] at x2;rw[show off+2 * j=off+j * 2 by omega] at x1;rw[show off+(2 * j+1)=off+j * 2+1 by omega] at x2;have i1:(j:Int)<m:=by omega
   have e2:wrap64 ((j:Int) - 1)=(j:Int) - 1:=by unfold wrap64;omega
   have e2w:=wIqD e2;have hdr:lastP k (pl.drop j)=if (pl[j]'hjl).1=k then some (pl[j]'hjl).2 else none:=by
    rw[List.drop_eq_getElem_cons hjl];show (match lastP k (pl.drop (j+1)) with | some x=>some x | none=>_)=_;rw[HJ.out.2.2];rfl
   have hpre:lastP k pl=(lastP k (pl.drop j)).or (lastP k (pl.take j)):=by
    conv=>lhs;rw[←List.take_append_drop j pl]
    exact lastP_app k _ _
   generalize pl[j]'hjl=ab at *;obtain⟨a,b⟩:=ab;have t3:decide ((0:Int)≤(j:Int))=true:=by simp
   by_cases ha:a=k
   ·subst ha;rw[if_pos rfl] at hdr;have hnow:now a=b:=by rw[H.out.1.now_eq a H.out.2.2.1,hpre,hdr];rfl
    have HN:=zH hnow;obtain⟨ay,cy,rfl,-⟩:=hv.sees.shape;have hcp:=copy_any wr _ 256 b hv.sees (by decide) sl_u8D;have t4:((a:Int)==(a:Int))=true:=by simp
    clear hcell q1 q2 hv hnow hpre hdr hjl;go_wp2_with fail;refine hcp.mono ?_;rintro e w1 ⟨v1,rfl,ho1,c1',hn1⟩;obtain⟨a1,cp1,rfl,-⟩:=ho1.sees.shape;have HO:=zB ho1 c1' hn1;clear hcp ho1 c1' hn1;go_wp2_with fail;go_ret2;exact⟨a1,cp1,rfl,by rw[HN.out];exact HO.out.1,HO.out.2.1,HO.out.2.2⟩
   ·have t4:((a:Int)==(k:Int))=false:=by simp;omega
    rw[if_neg ha] at hdr;have HD:=zH hdr;clear hcell q1 q2 hv hpre hdr ha hjl;go_wp2_with fail;go_roundg j;case measure=>omega
    case rel=>exact⟨(j:Int) - 1,by first | rfl | rw[e2],rfl,rfl,by omega,HD.out⟩
theorem sl_putD:SliceTy Tryz.prog 116 199 (.agg #[.int .i64 0,.slice none 0 0]) 2 32:=⟨Tryz.underlying116,by kernel_rfl,rfl,by decide⟩
section
variable {w w':World} {p n q:Nat} {now sure:Nat→Sec} {pl:Puts} {wr:Nat} {vs vp:Value} {ys zs:List Value}
theorem DkB.reblk (h:DkB w p n q now sure pl wr vs vp ys zs) {wr' q':Nat} (hb:Blk w' p #[vs,vp,.int .i64 wr',.int .i64 0,.slice none 0 0,.bool false] 118) (c:Chg [p] w w') (hq:wr'≤q'∧pl.length≤q'):DkB w' p n q' now sure pl wr' vs vp ys zs:=
 ⟨hb,h.os.chg c (fun k hk hk'=>h.ne.1 (by rw[List.mem_singleton.1 hk'] at hk;exact hk)),h.op.chg c (fun k hk hk'=>h.ne.2.1 (by rw[List.mem_singleton.1 hk'] at hk;exact hk)),h.ne,
  fun k hk=>by
   obtain⟨y,h1,h2⟩:=h.rows k hk;exact⟨y,h1,h2.chg c (fun j hj=>.inl (by rw[List.mem_singleton.1 hj];simp))⟩,
  h.pend.upd ⟨c.mono (fun j hj=>.inl (by rw[List.mem_singleton.1 hj];simp)),fun _ h=>.inl h⟩,h.now_eq,h.ok,hq⟩
theorem DkB.pended (h:DkB w p n q now sure pl wr vs vp ys zs) {k:Nat} {b:Sec} {v vp':Value} (hk:k<n) (hb:Blk w' p #[vs,vp',.int .i64 wr,.int .i64 0,.slice none 0 0,.bool false] 118)
  (c:Chg (p::vp.ownBlock.toList) w w') (ho:Aq.Own w' 199 2 vp' (pl.length+1) (zs++[.int .i64 k,v])) (hn:∀j∈vp'.ownBlock.toList,j∈vp.ownBlock.toList∨w.heap.size≤j)
  (hv:SecV w' (p::(vs.ownBlock.toList++vp'.ownBlock.toList)) v b) (hq:pl.length+1≤q):
  DkB w' p n q (setS now k b) sure (pl++[(k,b)]) wr vs vp' ys (zs++[.int .i64 k,v])∧Upd (p::(vs.ownBlock.toList++vp.ownBlock.toList)) (p::(vs.ownBlock.toList++vp'.ownBlock.toList)) w w':=by
 have hu:Upd (p::(vs.ownBlock.toList++vp.ownBlock.toList)) (p::(vs.ownBlock.toList++vp'.ownBlock.toList)) w w':=by
  refine⟨c.mono (fun j hj=>.inl ?_),fun j hj=>?_⟩
  ·simp only[List.mem_cons,List.mem_append] at hj ⊢;rcases hj with h1 | h1
   ·exact .inl h1
   ·exact .inr (.inr h1)
  ·simp only[List.mem_cons,List.mem_append] at hj ⊢;rcases hj with h1 | h1 | h1
   ·exact .inl (.inl h1)
   ·exact .inl (.inr (.inl h1))
   ·rcases hn j h1 with h2 | h2
    ·exact .inl (.inr (.inr h2))
    ·exact .inr h2
 have hpl:=h.blk.lt;refine⟨⟨hb,h.os.chg c (fun j hj hj'=>?_),by rw[List.length_append];exact ho,⟨h.ne.1,fun hp=>?_,fun j hj hj'=>?_⟩,fun j hj=>?_,(h.pend.upd hu).snoc hv,fun j hj=>?_,fun x hx=>?_,⟨h.cnt.1,by rw[List.length_append];exact hq⟩⟩,hu⟩
 ·rcases List.mem_cons.1 hj' with rfl | h1
  ·exact h.ne.1 hj
  ·exact h.ne.2.2 j hj h1
 ·rcases hn p hp with h1 | h1
  ·exact h.ne.2.1 h1
  ·omega
 ·rcases hn j hj' with h1 | h1
  ·exact h.ne.2.2 j hj h1
  ·have:=h.os.lt j hj;omega
 ·obtain⟨y,h1,h2⟩:=h.rows j hj;exact⟨y,h1,h2.upd hu⟩
 ·rw[lastP_app,lastP_one];unfold setS;by_cases e:j=k;·subst e;rw[if_pos rfl,if_pos rfl];rfl
  ·rw[if_neg e,if_neg (fun h=>e h.symm),h.now_eq j hj];rfl
 ·rcases List.mem_append.1 hx with h1 | h1
  ·exact h.ok x h1
  ·rw[List.mem_singleton.1 h1];exact hk
end
set_option maxRecDepth 100000 in
theorem dwrite_ok (w:World) (S:List Nat) (p n:Nat) (now:Nat→Sec) (q:Nat) (h:DkR w S p n now q) (hq:q≤1000000) (k:Nat) (hk:k<n) (hn:n≤4096) (vb:Value) (b:Sec) (hv:Sees w 1 vb 256 (Bs b)) (hvS:Disj (eyes vb) S):
  Calls Tryz.prog 53 #[.pointer (some ⟨p,0,none⟩),.int .i64 k,vb] w fun e w'=>e=.returned (.int .i64 0)∧∃S',DkR w' S' p n (setS now k b) (q+1)∧Upd S S' w w':=by
 obtain⟨sure,pl,wr,vs,vp,ys,zs,h,rfl⟩:=h;obtain⟨⟨c0,c1,c2,c3,c4,c5⟩,f0,f1,f2⟩:=h.blk.c6;obtain⟨ba,bc,rfl,-⟩:=hv.shape;obtain⟨aos,caps,rfl,-⟩:=h.os.sees.shape;have t1:decide ((k:Int)<0)=false:=by simp
 have t2:decide ((n:Int)≤(k:Int))=false:=by simp;omega
 have t2':decide (n≤k)=false:=by simp;omega
 have hwr:wr≤1000000:=by have:=h.cnt.1;omega
 have e1:wrap64 ((wr:Int)+1)=(wr:Int)+1:=by unfold wrap64;omega
 have HEN:Hid ((wr:Int)+1=((wr+1:Nat):Int)):=by show _=_;omega
 have e1w:=wIqD e1;have HV:=zA hv hvS;have H:=zH h;have HD:=zB hk hq hwr;clear h hv hvS hk hq hn c1 c3 c4 f0 f1 hwr;go_enter Tryz.func53,Tryz.ntmps53;go_wp2_with fail;go_upto_region 8 with (fail);have hb1:=H.out.blk.set 2 (.int .i64 ((wr:Int)+1));simp only[List.setIfInBounds_toArray,List.set_cons_zero,List.set_cons_succ] at hb1;have hc1:Chg [p] w (w.setCell ⟨p,2,none⟩ (.int .i64 ((wr:Int)+1))):=(Chg.refl _ _).setCell (by simp) _;generalize w.setCell ⟨p,2,none⟩ (.int .i64 ((wr:Int)+1))=w1 at *;rw[HEN.out] at hb1;have h1:=H.out.reblk (q':=q+1) hb1 hc1 ⟨by have:=H.out.cnt.1;omega,by have:=H.out.cnt.2;omega⟩;have HV1:=zH (HV.out.1.chg hc1 (fun j hj hj'=>HV.out.2 j hj (by rw[List.mem_singleton.1 hj'];simp)));have H1:=zA h1 hc1;clear h1 hb1 hc1 c0 c2 c5 f2 e1 e1w;obtain⟨⟨y0,y1,y2,y3,y4,y5⟩,-⟩:=H1.out.1.blk.c6;clear y0 y2 y3 y4 y5;obtain⟨ap,capp,rfl,-⟩:=H.out.op.sees.shape;obtain⟨W0,hW0⟩:∃W0,w1.drew=W0:=⟨_,rfl⟩;have c0:Chg [] w1 W0:=by rw[←hW0];exact (Chg.refl _ _).drew
 have HPV:Hid (p∉(Value.slice ap pl.length capp).ownBlock.toList):=H.out.ne.2.1;obtain⟨SV,hSV⟩:∃SV,(Value.slice ap pl.length capp).ownBlock.toList=SV:=⟨_,rfl⟩;have HSV:=zH hSV;have n3:p∉SV:=by rw[←hSV];exact HPV.out
 refine wp_region_U SV (fun i=>decide (11≤i)) (by kernel_rfl) ?_;rw[hW0];clear hW0 hSV;have y1':=c0.cell_some y1 (by simp);clear y1;have C0:Chg SV W0 W0:=Chg.refl _ _;refine tU 0 (.pointer (some ⟨p,0,none⟩)) C0 (fun w4 c4=>?_) ?_;·go_simp
 refine yG ?_;refine tU 1 (.pointer (some ⟨p,0,none⟩)) C0 (fun w4 c4=>?_) ?_;·go_simp
 refine yG ?_;refine tU 2 (.pointer (some ⟨p,0,none⟩)) C0 (fun w4 c4=>?_) ?_;·go_simp
 refine yG ?_;refine tU 3 (.pointer (some ⟨p,1,none⟩)) C0 (fun w4 c4=>?_) ?_;·go_simp
 refine yG ?_;refine tU 4 (.slice ap pl.length capp) C0 (fun w4 c4=>?_) ?_
 ·have z:=c4.cell_some y1' n3;go_simp
 refine yG ?_;refine tU 5 (.int .i64 k) C0 (fun w4 c4=>?_) ?_;·go_simp
 refine yG ?_;refine tU 6 (.slice ba 256 bc) C0 (fun w4 c4=>?_) ?_;·go_simp
 refine yG ?_;refine oU 7 ?_;go_simp;refine (copy_any W0 _ 256 b (HV1.out.chg0 c0) (by decide) sl_u8D).mono ?_;rintro e w2 ⟨v1,rfl,ho1,k1,n1⟩;refine⟨k1.toS,?_⟩;refine yG ?_;obtain⟨a1,q1,rfl,-⟩:=ho1.sees.shape;refine tU 8 (.agg #[.int .i64 k,.slice a1 256 q1]) k1.toS (fun w4 c4=>?_) ?_;·go_simp
 refine yG ?_;refine oU 9 ?_;go_simp;have hcA:Chg [] w2 (w2.alloc (.cells #[.int .i64 k,.slice a1 256 q1] 199)):=(Chg.refl [] _).alloc _;refine⟨(k1.nil hcA).toS,?_⟩;refine yG ?_;have hsrc:Sees (w2.alloc (.cells #[.int .i64 k,.slice a1 256 q1] 199)) 2 (.slice (some ⟨w2.heap.size,0,none⟩) 1 1) 1 [.int .i64 k,.slice a1 256 q1]:=Sees.blk (Blk.new _ _ _);have c02:=c0.nil (k1.nil hcA);have hown:=H1.out.1.op.chg c02 (fun _ _=>by simp);refine oU 10 ?_;refine wp_app _ _ 116 rfl sl_putD hown rfl hsrc rfl (by intro u hu;simp at hu;rcases hu with rfl | rfl <;> rfl) (by have:=H.out.cnt.2;have:=HD.out.2.1;omega) (by have:=H.out.cnt.2;have:=HD.out.2.1;omega) ?_;intro pv' w3 ho3 hc3 hn3;rw[HSV.out] at hc3 hn3;obtain⟨ao3,cap3,rfl,-⟩:=ho3.sees.shape;refine⟨(k1.nil hcA).toS.tr hc3,?_⟩;refine yG ?_;have c13:Chg SV w1 w3:=c02.toS.tr hc3;have hb3:=H1.out.1.blk.chg c13 n3;obtain⟨-,-,g3,-⟩:=hb3.c6;obtain⟨⟨-,u3,-⟩,-⟩:=hb3.c6;have hszA:w1.heap.size≤(w2.alloc (.cells #[.int .i64 k,.slice a1 256 q1] 199)).heap.size:=c02.size;have hdis:∀j∈eyes (.slice a1 256 q1),w1.heap.size≤j∧j<(w2.alloc (.cells #[.int .i64 k,.slice a1 256 q1] 199)).heap.size:=fun j hj=>by
  have h1:=n1 j (eyes_own _ j hj);have h2:=ho1.lt j (eyes_own _ j hj);have h3:=c0.size;have h4:=hcA.size;omega
 have hv3:Sees w3 1 (.slice a1 256 q1) 256 (Bs b)∧∀j∈eyes (.slice a1 256 q1),w1.heap.size≤j∧j∉(Value.slice ao3 (pl.length+1) cap3).ownBlock.toList:=by
  have hd:Disj (eyes (.slice a1 256 q1)) SV:=fun j hj hj'=>by
   have h1:=(hdis j hj).1;rw[←HSV.out] at hj';have h2:=H1.out.1.op.lt j hj';omega
  refine⟨(ho1.sees.chg0 hcA).chg hc3 hd,fun j hj=>⟨(hdis j hj).1,fun hj'=>?_⟩⟩;rcases hn3 j hj' with h4 | h4
  ·exact hd j hj h4
  ·have:=(hdis j hj).2;omega
 have HX:=zD hb3 ho3 c13 (fun j (hj:j∈(Value.slice ao3 (pl.length+1) cap3).ownBlock.toList)=>(hn3 j hj).imp id (Nat.le_trans hszA)) hv3;clear hb3 ho3 hc3 hv3 hsrc hown hcA hn3 hdis hszA;refine wpAnyU_last 11 rfl (by kernel_rfl) (by rfl) (by rfl) ?_;go_simp;refine yG ?_;refine wpAny_only 12 rfl (by kernel_rfl) (by rfl) ?_;go_simp;refine yG ?_;refine wpAny_only 13 rfl (by kernel_rfl) (by rfl) ?_;go_simp;refine yG ?_;refine wpAny_fin (by kernel_rfl) ?_ _;obtain⟨hb3,ho3,c13,hn3,hv3,hv4⟩:=HX.out;have hb4:=hb3.set 1 (Value.slice ao3 (pl.length+1) cap3);simp only[List.setIfInBounds_toArray,List.set_cons_zero,List.set_cons_succ] at hb4;obtain⟨w5,hw5⟩:∃w5,w3.setCell ⟨p,1,none⟩ (Value.slice ao3 (pl.length+1) cap3)=w5:=⟨_,rfl⟩;have c35:Chg [p] w3 w5:=by rw[←hw5];exact (Chg.refl _ _).setCell (by simp) _
 rw[hw5] at hb4 ⊢;have hpo:=ho3.ne hb3 (by decide);have ho5:=ho3.chg c35 (fun j hj hj'=>hpo (by rw[List.mem_singleton.1 hj'] at hj;exact hj));have hpn1:=H1.out.1.blk.lt;have h5:=H1.out.1.pended (k:=k) (b:=b) (v:=.slice a1 256 q1) HD.out.1 hb4 ((c13.mono (fun j hj=>.inl (by rw[HSV.out];simp[hj]))).tr (c35.mono (fun j hj=>.inl (by rw[List.mem_singleton.1 hj];simp)))) ho5 (fun j hj=>by rw[HSV.out];exact hn3 j hj)
  ⟨hv3.chg c35 (fun j hj hj'=>by rw[List.mem_singleton.1 hj'] at hj;have:=(hv4 p hj).1;omega),fun j hj hj'=>by
   simp only[List.mem_cons,List.mem_append] at hj';have h6:=hv4 j hj;rcases hj' with rfl | h7 | h7
   ·omega
   ·have:=H1.out.1.os.lt j h7;omega
   ·exact h6.2 h7⟩ (by have:=H.out.cnt.2;omega)
 have HE:Hid (∃S',DkR w5 S' p n (setS now k b) (q+1)∧Upd (p::((Value.slice aos n caps).ownBlock.toList++(Value.slice ap pl.length capp).ownBlock.toList)) S' w w5):=
  ⟨_,⟨sure,_,_,_,_,_,_,h5.1,rfl⟩,Upd.trans ⟨H1.out.2.mono (fun j hj=>.inl (by rw[List.mem_singleton.1 hj];simp)),fun _ h=>.inl h⟩ h5.2⟩
 obtain⟨⟨-,-,z2,z3,-,-⟩,-⟩:=h5.1.blk.c6;clear hb3 ho3 hn3 hv3 hv4 c13 hb4 c35 hw5 hpo ho5 h5 HX y1' ho1 c02 HV1 c0 hpn1 g3 u3;have t5:(((wr+1:Nat):Int)==0)=false:=by simp;omega
 have t5':((wr+1)==0)=false:=by simp
 go_wp2_with fail;go_quiet (fail);go_wp2_with fail;go_ret;exact⟨rfl,by first | exact HE.out | (obtain⟨S',h1,h2⟩:=HE.out;exact⟨S',h1.chg0 ((Chg.refl _ _).drewN _),h2.trans ⟨((Chg.refl _ _).drewN _).toS,fun _ h=>.inl h⟩⟩)⟩
end
section
open Go.RowKit Go.Aq Go.Aq.Fy
def FlI (w wr:World) (p n q:Nat) (now:Nat→Sec) (pl:Puts) (wc:Nat) (vs vp:Value) (zs:List Value) (i:Nat):Prop:=
 ∃sure ys,DkB wr p n q (fun k=>(lastP k pl).getD (sure k)) sure pl wc vs vp ys zs∧(∀k,k<n→now k=(lastP k (pl.drop i)).getD (sure k))∧Chg (p::(vs.ownBlock.toList++vp.ownBlock.toList)) w wr
theorem FlI.step {w wr:World} {p n q:Nat} {now:Nat→Sec} {pl:Puts} {wc:Nat} {g cap:Nat} {vp:Value} {zs:List Value} {i k:Nat} {b:Sec} {v:Value} {sure:Nat→Sec} {ys:List Value}
  (h:DkB wr p n q (fun k=>(lastP k pl).getD (sure k)) sure pl wc (.slice (some ⟨g,0,none⟩) n cap) vp ys zs) (hn:∀k,k<n→now k=(lastP k (pl.drop i)).getD (sure k)) (c:Chg (p::((Value.slice (some ⟨g,0,none⟩) n cap).ownBlock.toList++vp.ownBlock.toList)) w wr)
  (hi:i<pl.length) (hk:pl[i]'hi=(k,b)) (hv:SecV wr (p::((Value.slice (some ⟨g,0,none⟩) n cap).ownBlock.toList++vp.ownBlock.toList)) v b):FlI w (wr.setCell ⟨g,k,none⟩ v) p n q now pl wc (.slice (some ⟨g,0,none⟩) n cap) vp zs (i+1):=by
 have hkn:k<n:=by have:=h.ok _ (List.getElem_mem hi);rw[hk] at this;exact this
 have hg:g∈(Value.slice (some ⟨g,0,none⟩) n cap).ownBlock.toList:=by simp[Value.ownBlock]
 have c1:Chg [g] wr (wr.setCell ⟨g,k,none⟩ v):=(Chg.refl _ _).setCell (by simp) _;have hS:∀j∈[g],j∈p::((Value.slice (some ⟨g,0,none⟩) n cap).ownBlock.toList++vp.ownBlock.toList):=fun j hj=>by rw[List.mem_singleton.1 hj];simp[Value.ownBlock]
 have hu:Upd (p::((Value.slice (some ⟨g,0,none⟩) n cap).ownBlock.toList++vp.ownBlock.toList)) (p::((Value.slice (some ⟨g,0,none⟩) n cap).ownBlock.toList++vp.ownBlock.toList)) wr (wr.setCell ⟨g,k,none⟩ v):=⟨c1.mono fun j hj=>.inl (hS j hj),fun _ h=>.inl h⟩;have hyl:ys.length=n:=by have:=h.os.len;omega
 refine⟨setS sure k b,ys.set k v,⟨h.blk.chg c1 (fun e=>h.ne.1 (by rw[List.mem_singleton.1 e];exact hg)),h.os.set k v,h.op.chg c1 (fun j hj hj'=>h.ne.2.2 g hg (by rw[List.mem_singleton.1 hj'] at hj;exact hj)),h.ne,fun j hj=>?_,h.pend.upd hu,fun _ _=>rfl,h.ok,h.cnt⟩,fun j hj=>?_,c.tr hu.chg⟩
 ·unfold setS;by_cases e:j=k
  ·subst e;rw[if_pos rfl];exact⟨v,by rw[List.getElem?_set_self (by omega)],hv.upd hu⟩
  ·rw[if_neg e];obtain⟨y,h1,h2⟩:=h.rows j hj;exact⟨y,by rw[List.getElem?_set_ne (fun h=>e h.symm)];exact h1,h2.upd hu⟩
 ·rw[hn j hj,List.drop_eq_getElem_cons hi,hk];show (match lastP j (pl.drop (i+1)) with | some x=>some x | none=>if k=j then some b else none).getD (sure j)=_;unfold setS;cases lastP j (pl.drop (i+1)) with
  | some x=>rfl
  | none=>
   by_cases e:k=j;·subst e;rw[if_pos rfl];simp
   ·rw[if_neg e,if_neg (fun h=>e h.symm)]
set_option maxRecDepth 100000 in
theorem dflush_ok (w:World) (S:List Nat) (p n:Nat) (now:Nat→Sec) (q:Nat) (h:DkR w S p n now q) (hq:q≤1000000) (hn:n≤4096):
  Calls Tryz.prog 55 #[.pointer (some ⟨p,0,none⟩)] w fun e w'=>e=.returned (.int .i64 0)∧∃S',DkR w' S' p n now q∧Upd S S' w w':=by
 obtain⟨sure,pl,wc,vs,vp,ys,zs,h,rfl⟩:=h;obtain⟨⟨-,-,-,-,-,c5⟩,-⟩:=h.blk.c6;obtain⟨m,hm⟩:∃m,pl.length=m:=⟨_,rfl⟩;have hmq:m≤1000000:=by have:=h.cnt.2;omega
 obtain⟨ap,capp,hvp,-⟩:=h.op.sees.shape;rw[hm] at hvp;have H:=zB h hm hvp;clear h hm hvp;go_enter Tryz.func55,Tryz.ntmps55;go_wp2_with fail;go_loopg [3] m (fun gk (v3:Value) wr=>∃i:Nat,v3=.int .i64 i∧Hid (i+gk=m∧FlI w wr p n q now pl wc vs vp zs i));case atStart=>exact⟨0,rfl,Nat.zero_add _,sure,ys,{ H.out.1 with now_eq:=fun _ _=>rfl },fun k hk=>by rw[List.drop_zero];exact H.out.1.now_eq k hk,Chg.refl _ _⟩
 case round=>
  obtain⟨i,rfl,HJ⟩:=hrel;obtain⟨hik,su,yi,hD,hnw,cw⟩:=HJ.out;obtain⟨⟨c0,c1,-,-,-,-⟩,-⟩:=hD.blk.c6;rw[H.out.2.2] at c1;by_cases hi:i<m
  ·have t0:decide ((i:Int)<(m:Int))=true:=by simp;omega
   have t0':decide (i<m)=true:=by simp;omega
   have hil:i<pl.length:=by rw[H.out.2.1];exact hi
   obtain⟨x1,v,x2,hv⟩:=hD.pend.get i hil;have hkn:=hD.ok _ (List.getElem_mem hil);obtain⟨ab,hab⟩:∃ab,pl[i]'hil=ab:=⟨_,rfl⟩;rw[hab] at x1 hv hkn;obtain⟨k,b⟩:=ab;obtain⟨g,caps,rfl,-⟩:=hD.os.pos (by have:k<n:=hkn;omega);have xs0:=hD.os.cellAt k (by have:k<n:=hkn;omega);have xf0:=hD.os.frozenAt k;obtain⟨yk,hyk,-⟩:=hD.rows k hkn;rw[hyk] at xs0;have e1:=H.out.2.2;have hpv:=hD.op;rw[e1] at hpv;obtain⟨gp,op,cpp,e2,-,-,hcell⟩:=hpv.sees.cells (by omega);rw[H.out.2.1] at e2;cases e2;have y1:=hcell (2 * i) (by omega);have y2:=hcell (2 * i+1) (by omega);rw[x1] at y1;rw[x2] at y2;rw[show op+2 * i=op+i * 2 by omega] at y1;rw[show op+(2 * i+1)=op+i * 2+1 by omega] at y2;have i1:(i:Int)<m:=by omega
   have i2:(k:Int)<n:=by have:k<n:=hkn;omega
   have i2':k<n:=hkn;have e3:wrap64 ((i:Int)+1)=(i:Int)+1:=by unfold wrap64;omega
   have e3w:=wIqD e3;have hst:=fun q=>FlI.step (hD.upd ((Chg.refl [] wr).drewN q)) hnw (cw.drewN q) hil hab (hv.chg ((Chg.refl [] wr).drewN q) (by simp))
   obtain⟨ab,cb,rfl,-⟩:=hv.sees.shape;have HS:=zA hst hik;clear hst hik hD hnw cw hil hab hv hkn x1 x2 hyk hcell hpv e1;go_upto_region 6 with (fail);go_region;go_wp2_with fail;go_roundg (gk - 1);case measure=>have:=HS.out.2;omega
   case rel=>exact⟨i+1,by first | rfl | rw[e3];rfl,by have:=HS.out.2;omega,by first | exact HS.out.1 0 | exact HS.out.1 1 | exact HS.out.1 nq⟩
  ·have t0:decide ((i:Int)<(m:Int))=false:=by simp;omega
   have t0':decide (i<m)=false:=by simp;omega
   have hb:=hD.blk.set 1 (.slice none 0 0);have hfr:=hD.blk.frozen 1;simp only[List.setIfInBounds_toArray,List.set_cons_zero,List.set_cons_succ] at hb;have c1':Chg [p] wr (wr.setCell ⟨p,1,none⟩ (.slice none 0 0)):=(Chg.refl _ _).setCell (by simp) _;have him:i=m:=by omega
   have hE:∃S',DkR (wr.setCell ⟨p,1,none⟩ (.slice none 0 0)) S' p n now q∧Upd (p::(vs.ownBlock.toList++vp.ownBlock.toList)) S' w (wr.setCell ⟨p,1,none⟩ (.slice none 0 0)):=by
    have hu:Upd (p::(vs.ownBlock.toList++vp.ownBlock.toList)) (p::(vs.ownBlock.toList++(Value.slice none 0 0).ownBlock.toList)) wr (wr.setCell ⟨p,1,none⟩ (.slice none 0 0)):=⟨c1'.mono (fun j hj=>.inl (by rw[List.mem_singleton.1 hj];simp)),fun j hj=>.inl (by
     simp only[Value.ownBlock,Option.toList,List.append_nil,List.mem_cons,List.mem_append] at hj ⊢;rcases hj with h1 | h1
     ·exact .inl h1
     ·exact .inr (.inl h1))⟩
    refine⟨_,⟨su,[],wc,vs,.slice none 0 0,yi,[],⟨hb,hD.os.chg c1' (fun j hj hj'=>hD.ne.1 (by rw[List.mem_singleton.1 hj'] at hj;exact hj)),Aq.Own.nil _ _ _,⟨hD.ne.1,by simp[Value.ownBlock],fun j _ hj=>by simp[Value.ownBlock] at hj⟩,fun k hk=>?_,.nil,fun k hk=>?_,by simp,⟨hD.cnt.1,Nat.zero_le _⟩⟩,rfl⟩,Upd.trans ⟨cw,fun _ h=>.inl h⟩ hu⟩
    ·obtain⟨y,h1,h2⟩:=hD.rows k hk;exact⟨y,h1,h2.upd hu⟩
    ·have h1:=hnw k hk;rw[him,←H.out.2.1,List.drop_length] at h1;exact h1
   have HE:=zH hE;clear hb hE c1' him hik hD hnw cw hi;go_wp2_with fail;go_ret;exact⟨rfl,HE.out⟩
end
end Go.Proofs.YtlbdklaggalgfaaGreatDoor
