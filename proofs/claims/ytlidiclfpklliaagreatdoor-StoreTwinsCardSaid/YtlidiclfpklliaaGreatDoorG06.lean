/- Take TakeS TakeU -/
import Derived.StillTail
import Derived.Test.YtlidiclfpklliaaGreatDoorG05
set_option linter.unusedVariables false
namespace Go.Aq
section
open Go.RowKit
section
variable {P:Program} {ops:Array Oper} {Q:Exit→Act→World→Prop} {md:Region.Mode}
def yieldsAt (P:Program) (w1:World) (v:Value):Result Next→Prop
 | .ok (.value u) w'=>w'=w1∧u=v
 | .ok (.enter f args) w'=>w'=w1∧Calls P f args w1 (fun e w''=>e=.returned v∧Chg [] w1 w'')
 | _=>False
def YieldsT (P:Program) (ops:Array Oper) (o:Oper) (v:Value) (a:Act) (w:World):Prop:=
 (Region.wanted o (yielded ops a.tmps)=true∧∀w1,Chg [] w w1→yieldsAt P w1 v ((execOp a.eval o).run P w1))∨
 (Region.wanted o (yielded ops a.tmps)=false∧v=undef)
theorem YieldsT.mono {o:Oper} {v:Value} {a:Act} {w w':World} (h:YieldsT P ops o v a w) (c:Chg [] w w'):YieldsT P ops o v a w':=
 h.imp (fun⟨h1,h2⟩=>⟨h1,fun w1 c1=>h2 w1 (c.nil c1)⟩) id
theorem YieldsT.of_same {o:Oper} {v:Value} {a a':Act} {w:World} (hy:YieldsT P ops o v a w) (he:execOp a'.eval o=execOp a.eval o)
  (hw:Region.wanted o (yielded ops a'.tmps)=Region.wanted o (yielded ops a.tmps)):YieldsT P ops o v a' w:=by
 unfold YieldsT at *
 rw[he,hw]
 exact hy
theorem YieldsT.wpOp {i:Nat} {o:Oper} {v:Value} {a:Act} {w w1:World} (hi:ops[i]?=some o) (hy:YieldsT P ops o v a w) (c1:Chg [] w w1)
  {K:Act→World→Prop} (h:∀w',Chg [] w1 w'→K (a.put o.dst v) w'):wpOp P ops Q i K a w1:=by
 unfold Go.wpOp
 simp only[hi]
 rcases hy with ⟨hw,hv⟩ | ⟨hw,rfl⟩
 ·simp only[hw,if_true]
  refine .inl ?_
  have h3:=hv w1 c1
  unfold Oper.wp
  generalize (execOp a.eval o).run P w1=r at *
  cases r with
  | ok n w'=>
   cases n <;> simp only[yieldsAt] at h3 <;> simp only[Oper.upon]
   case value u=>
    obtain⟨e1,e2⟩:=h3
    rw[e1,e2]
    exact h _ (Chg.refl _ _)
   case enter f args=>
    obtain⟨e1,hc⟩:=h3
    rw[e1]
    exact hc.mono fun e w'' ⟨he,hw''⟩=>by subst he;exact h _ hw''
  | halt x w'=>simp only[yieldsAt] at h3
 ·simp only[hw,Bool.false_eq_true,if_false];exact h _ (Chg.refl _ _)
theorem wpOp_putT {j:Nat} {oi oj:Oper} {v:Value} {w0:World} (hj:ops[j]?=some oj) (hap:oi.apart ops oj=true)
  (hsi:∀cs b,oi.op≠.select cs b) (hsj:∀cs b,oj.op≠.select cs b)
  (hQ:∀c a w,Q (.panic c) (a.put oi.dst v) w→Q (.panic c) a w) {K:Act→World→Prop} {a:Act} {w:World}
  (hy:YieldsT P ops oi v a w0) (h:wpOp P ops Q j K (a.put oi.dst v) w):
  wpOp P ops Q j (fun a' w'=>YieldsT P ops oi v a' w0∧K (a'.put oi.dst v) w') a w:=by
 obtain⟨h1,h2,h3⟩:=Oper.apart_spec hap
 have keep:∀(a:Act),YieldsT P ops oi v a w0→∀u,YieldsT P ops oi v (a.put oj.dst u) w0:=fun a hy u=>
  hy.of_same (execOp_put oi hsi a oj.dst u h3) (wanted_put oi a oj.dst u h3)
 have keepD:∀d,YieldsT P ops oi v { a with defers:=d::a.defers } w0:=fun d=>hy.of_same rfl rfl
 unfold wpOp at *
 simp only[hj] at *
 rw[wanted_put oj a oi.dst v h1] at h
 split
 ·rename_i hw
  simp only[hw,if_true] at h
  rcases h with h | ⟨hasks,hlets⟩
  case inr=>exact .inr ⟨by unfold Oper.asks at *;rw[execOp_put oj hsj a oi.dst v h1] at hasks;exact hasks,hlets⟩
  refine .inl ?_
  unfold Oper.wp at *
  rw[execOp_put oj hsj a oi.dst v h1] at h
  generalize (execOp a.eval oj).run P w=r at *
  cases r with
  | ok n w'=>
   cases n <;> simp only[Oper.upon] at h ⊢
   case value u=>exact⟨keep a hy u,by rw[←Act.put_comm a v u h2];exact h⟩
   case skip=>exact⟨keep a hy _,by rw[←Act.put_comm a v undef h2];exact h⟩
   case defer d=>
    refine⟨keep _ (keepD d) _,?_⟩
    rw[←Act.put_comm _ v undef h2,←Act.put_defers]
    exact h
   case enter f args=>
    refine Calls.mono h fun e w'' he=>?_
    cases e with
    | returned u=>exact⟨keep a hy u,by rw[←Act.put_comm a v u h2];exact he⟩
    | panicked c=>exact hQ _ _ _ he
    | outgrown=>exact he
   case row row args=>exact Rows.mono h fun u w'' he=>⟨keep a hy u,by rw[←Act.put_comm a v u h2];exact he⟩
  | halt x w'=>
   cases x <;> simp only[Oper.upon] at h ⊢
   case panic u=>exact hQ _ _ _ h
 ·rename_i hw
  simp only[hw] at h
  exact⟨keep a hy _,by rw[←Act.put_comm a v undef h2];exact h⟩
def wpAnyT (P:Program) (md:Region.Mode) (ops:Array Oper) (Q:Exit→Act→World→Prop):Nat→Array Bool→Act→World→Prop
 | 0,listed,a,w=>Region.ready md ops listed=[]∧∀w1,Chg [] w w1→Q .normal a w1
 | fuel+1,listed,a,w=>∀w1,Chg [] w w1→(Region.ready md ops listed=[]→Q .normal a w1)∧
  ∀i∈Region.ready md ops listed,wpOp P ops Q i (fun a' w'=>Chg [] w1 w'∧wpAnyT P md ops Q fuel (listed.setIfInBounds i true) a' w') a w1
theorem wpAnyT.mono {fuel:Nat} {listed:Array Bool} {a:Act} {w w':World} (h:wpAnyT P md ops Q fuel listed a w) (c:Chg [] w w'):wpAnyT P md ops Q fuel listed a w':=by
 cases fuel with
 | zero=>exact⟨h.1,fun w1 c1=>h.2 w1 (c.nil c1)⟩
 | succ n=>exact fun w1 c1=>h w1 (c.nil c1)
end
end
section
open Go.RowKit
theorem results_AT {P:Program} {fn:Func} {p u:Tmp} {ty:TypeId} (h:fn.results=#[.cell p ty,.tmp u]) (tmps:Array Value) (w:World) {g:Nat} {e:TypeId} {cs:Array Value}
  (hb:Blk w g cs e) (ht:ArrTy P ty cs.size) (hp:tmps.getD p undef=.pointer (some ⟨g,0,none⟩)):(results fn tmps).run P w=.ok (.tuple #[.agg cs,tmps.getD u undef]) w:=by
 obtain⟨⟨d,h1,h2⟩,h3⟩:=ht
 have hp':tmps[p]?.getD undef=.pointer (some ⟨g,0,none⟩):=by simpa using hp
 have hl:=run_loadVar_row w g e ty cs (0,0) d hb h1 (by cases d <;> simp_all) h3
 rw[results_cell_tmp h]
 simp[hp',asAddr,Result.andThen,hl]
theorem wp_stA {P:Program} {o:Oper} {a:Act} {w:World} {K:Act→World→Prop} {Q:Exit→Act→World→Prop} (ty:TypeId) (x y:Operand) (ho:o.op=.store ty x y)
  {g:Nat} {old cs:Array Value} {e:TypeId} (hb:Blk w g old e) (ht:ArrTy P ty cs.size) (hs:old.size=cs.size) (h1:∀v∈cs.toList,v.oneCell'=true) (hx:a.eval x=.pointer (some ⟨g,0,none⟩)) (hy:a.eval y=.agg cs)
  (h:∀w',Blk w' g cs e→Chg [g] w w'→w'.heap.size=w.heap.size→K (a.put o.dst undef) w'):o.wp P a w K Q:=by
 obtain⟨-,h3⟩:=ht
 refine wp_store_row ty x y ho g cs hx hy e old hb h3 hs (Array.all_eq_true_iff_forall_mem.2 fun v hv=>h1 v (by simpa using hv)) ?_
 exact h _ (setRow_heap w g old cs e _ hb) ⟨rfl,rfl,rfl,by simp,fun k _ hk=>setRow_other w g k cs (fun e=>hk (by simp[e]))⟩ (by simp)
section
variable {P:Program} {ops:Array Oper} {Q:Exit→Act→World→Prop} {md:Region.Mode} {L:Nat→Bool}
def wpAnyS (P:Program) (md:Region.Mode) (ops:Array Oper) (Q:Exit→Act→World→Prop) (L:Nat→Bool):Nat→Array Bool→Act→World→Prop
 | 0,listed,a,w=>Region.ready md ops listed=[]∧∀w1,Chg [] w w1→Q .normal a w1
 | fuel+1,listed,a,w=>∀w1,Chg [] w w1→(Region.ready md ops listed=[]→Q .normal a w1)∧
  ∀i∈Region.ready md ops listed,wpOp P ops Q i (fun a' w'=>(L i=true→wpAny P md ops Q fuel (listed.setIfInBounds i true) a' w')∧(L i=false→Chg [] w1 w'∧wpAnyS P md ops Q L fuel (listed.setIfInBounds i true) a' w')) a w1
theorem wpAnyS.mono {fuel:Nat} {listed:Array Bool} {a:Act} {w w':World} (h:wpAnyS P md ops Q L fuel listed a w) (c:Chg [] w w'):wpAnyS P md ops Q L fuel listed a w':=by
 cases fuel with
 | zero=>exact⟨h.1,fun w1 c1=>h.2 w1 (c.nil c1)⟩
 | succ n=>exact fun w1 c1=>h w1 (c.nil c1)
theorem wpAny_of_S:∀(fuel:Nat) (listed:Array Bool) (a:Act) (w:World),wpAnyS P md ops Q L fuel listed a w→wpAny P md ops Q fuel listed a w
 | 0,_,_,w,h=>⟨h.1,h.2 w (Chg.refl _ _)⟩
 | fuel+1,_,_,w,h=>⟨(h w (Chg.refl _ _)).1,fun i hi=>wpOp_mono (fun a' w' h'=>by
   cases hL:L i with
   | true=>exact h'.1 hL
   | false=>exact wpAny_of_S fuel _ a' w' (h'.2 hL).2) ((h w (Chg.refl _ _)).2 i hi)⟩
def lastsWait (md:Region.Mode) (ops:Array Oper) (L:Nat→Bool) (i:Nat):Bool:=!L i&&(List.range ops.size).all fun j=>!L j || Region.waitsFor md ops j i
theorem wpAnyS_first {i:Nat} {oi:Oper} {v:Value} (hi:ops[i]?=some oi) (hsel:∀(j:Nat) (o:Oper) cs b,ops[j]?=some o→o.op≠.select cs b) (hl:lastsWait md ops L i=true)
  (hQ:∀c a w,Q (.panic c) (a.put oi.dst v) w→Q (.panic c) a w):
  ∀(fuel:Nat) (listed:Array Bool) (a:Act) (w:World),
   (∀j oj,ops[j]?=some oj→j≠i→listed.getD j true=false→(∀e∈oj.after,Region.binds md e=true→e.on≠i)→oi.apart ops oj=true)→
   i∈Region.ready md ops listed→YieldsT P ops oi v a w→
   wpAnyS P md ops Q L fuel (listed.setIfInBounds i true) (a.put oi.dst v) w→wpAnyS P md ops Q L (fuel+1) listed a w:=by
 unfold lastsWait at hl
 simp only[Bool.and_eq_true,Bool.not_eq_true',List.all_eq_true,List.mem_range,Bool.or_eq_true] at hl
 obtain⟨hLi,hLj⟩:=hl
 intro fuel
 induction fuel with
 | zero=>
  intro listed a w _ hr hy H w1 c1
  refine⟨fun h=>(by rw[h] at hr;cases hr),fun j hj=>?_⟩
  by_cases hji:j=i
  ·subst hji;exact hy.wpOp hi c1 fun w' c'=>⟨fun h=>(by rw[hLi] at h;cases h),fun _=>⟨c',H.mono (c1.nil c')⟩⟩
  ·have:=ready_mono hj hji
   rw[H.1] at this
   cases this
 | succ fuel ih=>
  intro listed a w hfree hr hy H w1 c1
  refine⟨fun h=>(by rw[h] at hr;cases hr),fun j hj=>?_⟩
  by_cases hji:j=i
  ·subst hji;exact hy.wpOp hi c1 fun w' c'=>⟨fun h=>(by rw[hLi] at h;cases h),fun _=>⟨c',H.mono (c1.nil c')⟩⟩
  ·have h1:=(H w1 c1).2 j (ready_mono hj hji)
   obtain⟨hjun,oj,hoj,hall⟩:=mem_ready.1 hj
   have hnot:∀e∈oj.after,Region.binds md e=true→e.on≠i:=fun e he hb heq=>by
    have h1:=hall e he hb
    have h0:=(mem_ready.1 hr).1
    rw[heq] at h1
    rcases Nat.lt_or_ge i listed.size with h' | h'
    ·simp[h'] at h0 h1;rw[h0] at h1;cases h1
    ·simp[Array.getElem?_eq_none h'] at h1
   have hLf:L j=false:=by
    cases hL:L j with
    | false=>rfl
    | true=>
     have hjs:j<ops.size:=(Array.getElem?_eq_some_iff.1 hoj).1
     rcases hLj j hjs with h | h
     ·rw[hL] at h;cases h
     ·obtain⟨oj',ho',e,he,hb,heq⟩:=Region.waitsFor_spec h
      have:oj'=oj:=Option.some.inj (ho'.symm.trans hoj)
      subst this
      exact absurd heq (hnot e he hb)
   have h2:=wpOp_putT hoj (hfree j oj hoj hji hjun hnot) (fun cs b=>hsel i oi cs b hi) (fun cs b=>hsel j oj cs b hoj) hQ hy h1
   have hfree':∀k ok,ops[k]?=some ok→k≠i→(listed.setIfInBounds j true).getD k true=false→
     (∀e∈ok.after,Region.binds md e=true→e.on≠i)→oi.apart ops ok=true:=fun k ok hk hki hun hno=>by
    refine hfree k ok hk hki ?_ hno
    by_cases hjk:j=k
    ·subst hjk;exact hjun
    ·rw[getD_set_ne true hjk] at hun;exact hun
   refine wpOp_mono (fun a' w' h3=>⟨fun h=>(by rw[hLf] at h;cases h),fun _=>⟨(h3.2.2 hLf).1,ih (listed.setIfInBounds j true) a' w' hfree' (ready_mono hr (Ne.symm hji)) (h3.1.mono (c1.nil (h3.2.2 hLf).1)) ?_⟩⟩) h2
   rw[Array.setIfInBounds_comm _ _ hji]
   exact (h3.2.2 hLf).2
theorem wpAnyS_take (i:Nat) {oi:Oper} {v:Value} {fuel:Nat} {listed:Array Bool} {a:Act} {w:World} (hi:ops[i]?=some oi)
  (hs:Region.noSelect ops=true) (hf:Region.free md ops listed i=true) (hr:(Region.ready md ops listed).contains i=true) (hl:lastsWait md ops L i=true)
  (hQ:∀c a w,Q (.panic c) (a.put oi.dst v) w→Q (.panic c) a w) (hw:Region.wanted oi (yielded ops a.tmps)=true)
  (hy:∀w1,Chg [] w w1→(execOp a.eval oi).run P w1=.ok (.value v) w1)
  (h:wpAnyS P md ops Q L fuel (listed.setIfInBounds i true) (a.put oi.dst v) w):wpAnyS P md ops Q L (fuel+1) listed a w:=
 wpAnyS_first hi (Region.noSelect_spec hs) hl hQ fuel listed a w (Region.free_spec hi hf) (by simpa using hr)
  (.inl ⟨hw,fun w1 c1=>by rw[hy w1 c1];exact⟨rfl,rfl⟩⟩) h
theorem wpAnyS_only (i:Nat) {oi:Oper} {fuel:Nat} {listed:Array Bool} {a:Act} {w:World} (hi:ops[i]?=some oi) (hr:Region.ready md ops listed=[i]) (hl:L i=false)
  (hw:Region.wanted oi (yielded ops a.tmps)=true)
  (h:∀w1,Chg [] w w1→oi.wp P a w1 (fun a' w'=>Chg [] w1 w'∧wpAnyS P md ops Q L fuel (listed.setIfInBounds i true) a' w') Q):wpAnyS P md ops Q L (fuel+1) listed a w:=by
 intro w1 c1
 refine⟨fun h0=>(by rw[hr] at h0;cases h0),fun j hj=>?_⟩
 rw[hr] at hj
 simp only[List.mem_singleton] at hj
 subst hj
 unfold wpOp
 simp only[hi,hw,if_true]
 exact .inl (Oper.wp_mono (fun a' w' h'=>⟨fun h0=>(by rw[hl] at h0;cases h0),fun _=>h'⟩) (h w1 c1))
theorem wpAnyS_last (i:Nat) {oi:Oper} {fuel:Nat} {listed:Array Bool} {a:Act} {w:World} (hi:ops[i]?=some oi) (hr:Region.ready md ops listed=[i]) (hl:L i=true)
  (hw:Region.wanted oi (yielded ops a.tmps)=true)
  (h:∀w1,Chg [] w w1→oi.wp P a w1 (fun a' w'=>wpAny P md ops Q fuel (listed.setIfInBounds i true) a' w') Q):wpAnyS P md ops Q L (fuel+1) listed a w:=by
 intro w1 c1
 refine⟨fun h0=>(by rw[hr] at h0;cases h0),fun j hj=>?_⟩
 rw[hr] at hj
 simp only[List.mem_singleton] at hj
 subst hj
 unfold wpOp
 simp only[hi,hw,if_true]
 exact .inl (Oper.wp_mono (fun a' w' h'=>⟨fun _=>h',fun h0=>(by rw[hl] at h0;cases h0)⟩) (h w1 c1))
theorem wpAny_only (i:Nat) {oi:Oper} {fuel:Nat} {listed:Array Bool} {a:Act} {w:World} (hi:ops[i]?=some oi) (hr:Region.ready md ops listed=[i])
  (hw:Region.wanted oi (yielded ops a.tmps)=true)
  (h:oi.wp P a w (fun a' w'=>wpAny P md ops Q fuel (listed.setIfInBounds i true) a' w') Q):wpAny P md ops Q (fuel+1) listed a w:=by
 refine⟨fun h0=>(by rw[hr] at h0;cases h0),fun j hj=>?_⟩
 rw[hr] at hj
 simp only[List.mem_singleton] at hj
 subst hj
 unfold wpOp
 simp only[hi,hw,if_true]
 exact .inl h
theorem wpAny_fin {listed:Array Bool} {a:Act} {w:World} (hr:Region.ready md ops listed=[]) (h:Q .normal a w):∀fuel,wpAny P md ops Q fuel listed a w
 | 0=>⟨hr,h⟩
 | _+1=>⟨fun _=>h,by rw[hr];simp⟩
theorem wp_region_S (L:Nat→Bool) {id:Nat} {a:Act} {w:World} (hm:P.follows .mixedOrders=true)
  (h:wpAnyS P .any ops Q L ops.size (Array.replicate ops.size false) a w):(Code.region id ops true).wp P Q a w:=
 wp_region_any hm (wpAny_of_S _ _ _ _ (h.mono (Chg.refl [] w).drew))
theorem tS (i:Nat) {oi:Oper} (v:Value) {fuel:Nat} {listed:Array Bool} {a:Act} {w:World} (hy:∀w1,Chg [] w w1→(execOp a.eval oi).run P w1=.ok (.value v) w1)
  (h:wpAnyS P md ops Q L fuel (listed.setIfInBounds i true) (a.put oi.dst v) w) (hi:ops[i]?=some oi:=by exact rfl) (hs:Region.noSelect ops=true:=by kernel_rfl) (hf:Region.free md ops listed i=true:=by kernel_rfl) (hr:(Region.ready md ops listed).contains i=true:=by kernel_rfl) (hl:lastsWait md ops L i=true:=by kernel_rfl) (hQ:∀c a w,Q (.panic c) (a.put oi.dst v) w→Q (.panic c) a w:=by exact fun _ _ _ h=>h) (hw:Region.wanted oi (yielded ops a.tmps)=true:=by exact rfl):wpAnyS P md ops Q L (fuel+1) listed a w:=wpAnyS_take i hi hs hf hr hl hQ hw hy h
end
end
section
open Go.RowKit
section
variable {P:Program} {ops:Array Oper} {Q:Exit→Act→World→Prop} {md:Region.Mode} {S:List Nat} {w0:World} {L:Nat→Bool}
def wpAnyU (S:List Nat) (w0:World) (P:Program) (md:Region.Mode) (ops:Array Oper) (Q:Exit→Act→World→Prop) (L:Nat→Bool):Nat→Array Bool→Act→World→Prop
 | 0,listed,a,w=>Region.ready md ops listed=[]∧Q .normal a w
 | fuel+1,listed,a,w=>(Region.ready md ops listed=[]→Q .normal a w)∧
  ∀i∈Region.ready md ops listed,wpOp P ops Q i (fun a' w'=>(L i=true→wpAny P md ops Q fuel (listed.setIfInBounds i true) a' w')∧(L i=false→Chg S w0 w'∧wpAnyU S w0 P md ops Q L fuel (listed.setIfInBounds i true) a' w')) a w
theorem wpAny_of_U:∀(fuel:Nat) (listed:Array Bool) (a:Act) (w:World),wpAnyU S w0 P md ops Q L fuel listed a w→wpAny P md ops Q fuel listed a w
 | 0,_,_,w,h=>⟨h.1,h.2⟩
 | fuel+1,_,_,w,h=>⟨h.1,fun i hi=>wpOp_mono (fun a' w' h'=>by
   cases hL:L i with
   | true=>exact h'.1 hL
   | false=>exact wpAny_of_U fuel _ a' w' (h'.2 hL).2) (h.2 i hi)⟩
theorem wpAnyU_first {i:Nat} {oi:Oper} {v:Value} (hi:ops[i]?=some oi) (hsel:∀(j:Nat) (o:Oper) cs b,ops[j]?=some o→o.op≠.select cs b) (hl:lastsWait md ops L i=true)
  (hQ:∀c a w,Q (.panic c) (a.put oi.dst v) w→Q (.panic c) a w):
  ∀(fuel:Nat) (listed:Array Bool) (a:Act) (w:World),
   (∀j oj,ops[j]?=some oj→j≠i→listed.getD j true=false→(∀e∈oj.after,Region.binds md e=true→e.on≠i)→oi.apart ops oj=true)→
   i∈Region.ready md ops listed→YieldsE S w0 P ops oi v a→Chg S w0 w→
   wpAnyU S w0 P md ops Q L fuel (listed.setIfInBounds i true) (a.put oi.dst v) w→wpAnyU S w0 P md ops Q L (fuel+1) listed a w:=by
 unfold lastsWait at hl
 simp only[Bool.and_eq_true,Bool.not_eq_true',List.all_eq_true,List.mem_range,Bool.or_eq_true] at hl
 obtain⟨hLi,hLj⟩:=hl
 intro fuel
 induction fuel with
 | zero=>
  intro listed a w _ hr hy c H
  refine⟨fun h=>(by rw[h] at hr;cases hr),fun j hj=>?_⟩
  by_cases hji:j=i
  ·subst hji;exact hy.wpOp hi c ⟨fun h=>(by rw[hLi] at h;cases h),fun _=>⟨c,H⟩⟩
  ·have:=ready_mono hj hji
   rw[H.1] at this
   cases this
 | succ fuel ih=>
  intro listed a w hfree hr hy c H
  refine⟨fun h=>(by rw[h] at hr;cases hr),fun j hj=>?_⟩
  by_cases hji:j=i
  ·subst hji;exact hy.wpOp hi c ⟨fun h=>(by rw[hLi] at h;cases h),fun _=>⟨c,H⟩⟩
  ·have h1:=H.2 j (ready_mono hj hji)
   obtain⟨hjun,oj,hoj,hall⟩:=mem_ready.1 hj
   have hnot:∀e∈oj.after,Region.binds md e=true→e.on≠i:=fun e he hb heq=>by
    have h1:=hall e he hb
    have h0:=(mem_ready.1 hr).1
    rw[heq] at h1
    rcases Nat.lt_or_ge i listed.size with h' | h'
    ·simp[h'] at h0 h1;rw[h0] at h1;cases h1
    ·simp[Array.getElem?_eq_none h'] at h1
   have hLf:L j=false:=by
    cases hL:L j with
    | false=>rfl
    | true=>
     have hjs:j<ops.size:=(Array.getElem?_eq_some_iff.1 hoj).1
     rcases hLj j hjs with h | h
     ·rw[hL] at h;cases h
     ·obtain⟨oj',ho',e,he,hb,heq⟩:=Region.waitsFor_spec h
      have:oj'=oj:=Option.some.inj (ho'.symm.trans hoj)
      subst this
      exact absurd heq (hnot e he hb)
   have h2:=wpOp_putE hoj (hfree j oj hoj hji hjun hnot) (fun cs b=>hsel i oi cs b hi) (fun cs b=>hsel j oj cs b hoj) hQ hy h1
   have hfree':∀k ok,ops[k]?=some ok→k≠i→(listed.setIfInBounds j true).getD k true=false→
     (∀e∈ok.after,Region.binds md e=true→e.on≠i)→oi.apart ops ok=true:=fun k ok hk hki hun hno=>by
    refine hfree k ok hk hki ?_ hno
    by_cases hjk:j=k
    ·subst hjk;exact hjun
    ·rw[getD_set_ne true hjk] at hun;exact hun
   refine wpOp_mono (fun a' w' h3=>⟨fun h=>(by rw[hLf] at h;cases h),fun _=>⟨(h3.2.2 hLf).1,ih (listed.setIfInBounds j true) a' w' hfree' (ready_mono hr (Ne.symm hji)) h3.1 (h3.2.2 hLf).1 ?_⟩⟩) h2
   rw[Array.setIfInBounds_comm _ _ hji]
   exact (h3.2.2 hLf).2
theorem wpAnyU_take (i:Nat) {oi:Oper} {v:Value} {fuel:Nat} {listed:Array Bool} {a:Act} {w:World} (c:Chg S w0 w) (hi:ops[i]?=some oi)
  (hs:Region.noSelect ops=true) (hf:Region.free md ops listed i=true) (hr:(Region.ready md ops listed).contains i=true) (hl:lastsWait md ops L i=true)
  (hQ:∀c a w,Q (.panic c) (a.put oi.dst v) w→Q (.panic c) a w) (hw:Region.wanted oi (yielded ops a.tmps)=true)
  (hy:∀w1,Chg S w0 w1→(execOp a.eval oi).run P w1=.ok (.value v) w1)
  (h:wpAnyU S w0 P md ops Q L fuel (listed.setIfInBounds i true) (a.put oi.dst v) w):wpAnyU S w0 P md ops Q L (fuel+1) listed a w:=
 wpAnyU_first hi (Region.noSelect_spec hs) hl hQ fuel listed a w (Region.free_spec hi hf) (by simpa using hr)
  (.inl ⟨hw,fun w1 c1=>by rw[hy w1 c1];exact⟨rfl,rfl⟩⟩) c h
theorem wpAnyU_skip (i:Nat) {oi:Oper} {fuel:Nat} {listed:Array Bool} {a:Act} {w:World} (c:Chg S w0 w) (hi:ops[i]?=some oi)
  (hs:Region.noSelect ops=true) (hf:Region.free md ops listed i=true) (hr:(Region.ready md ops listed).contains i=true) (hl:lastsWait md ops L i=true)
  (hQ:∀c a w,Q (.panic c) (a.put oi.dst undef) w→Q (.panic c) a w) (hw:Region.wanted oi (yielded ops a.tmps)=false)
  (h:wpAnyU S w0 P md ops Q L fuel (listed.setIfInBounds i true) (a.put oi.dst undef) w):wpAnyU S w0 P md ops Q L (fuel+1) listed a w:=
 wpAnyU_first hi (Region.noSelect_spec hs) hl hQ fuel listed a w (Region.free_spec hi hf) (by simpa using hr) (.inr ⟨hw,rfl⟩) c h
theorem wpAnyU_only (i:Nat) {oi:Oper} {fuel:Nat} {listed:Array Bool} {a:Act} {w:World} (hi:ops[i]?=some oi) (hr:Region.ready md ops listed=[i]) (hl:L i=false)
  (hw:Region.wanted oi (yielded ops a.tmps)=true)
  (h:oi.wp P a w (fun a' w'=>Chg S w0 w'∧wpAnyU S w0 P md ops Q L fuel (listed.setIfInBounds i true) a' w') Q):wpAnyU S w0 P md ops Q L (fuel+1) listed a w:=by
 refine⟨fun h0=>(by rw[hr] at h0;cases h0),fun j hj=>?_⟩
 rw[hr] at hj
 simp only[List.mem_singleton] at hj
 subst hj
 unfold wpOp
 simp only[hi,hw,if_true]
 exact .inl (Oper.wp_mono (fun a' w' h'=>⟨fun h0=>(by rw[hl] at h0;cases h0),fun _=>h'⟩) h)
theorem wpAnyU_two (i j:Nat) {oi oj:Oper} {fuel:Nat} {listed:Array Bool} {a:Act} {w:World} (hi:ops[i]?=some oi) (hj:ops[j]?=some oj) (hr:Region.ready md ops listed=[i,j]) (hl:L i=false) (hlj:L j=false)
  (hwi:Region.wanted oi (yielded ops a.tmps)=true) (hwj:Region.wanted oj (yielded ops a.tmps)=true)
  (h1:oi.wp P a w (fun a' w'=>Chg S w0 w'∧wpAnyU S w0 P md ops Q L fuel (listed.setIfInBounds i true) a' w') Q)
  (h2:oj.wp P a w (fun a' w'=>Chg S w0 w'∧wpAnyU S w0 P md ops Q L fuel (listed.setIfInBounds j true) a' w') Q):wpAnyU S w0 P md ops Q L (fuel+1) listed a w:=by
 refine⟨fun h0=>(by rw[hr] at h0;cases h0),fun k hk=>?_⟩
 rw[hr] at hk
 simp only[List.mem_cons,List.not_mem_nil,or_false] at hk
 rcases hk with rfl | rfl
 ·unfold wpOp
  simp only[hi,hwi,if_true]
  exact .inl (Oper.wp_mono (fun a' w' h'=>⟨fun h0=>(by rw[hl] at h0;cases h0),fun _=>h'⟩) h1)
 ·unfold wpOp
  simp only[hj,hwj,if_true]
  exact .inl (Oper.wp_mono (fun a' w' h'=>⟨fun h0=>(by rw[hlj] at h0;cases h0),fun _=>h'⟩) h2)
theorem wpAnyU_last (i:Nat) {oi:Oper} {fuel:Nat} {listed:Array Bool} {a:Act} {w:World} (hi:ops[i]?=some oi) (hr:Region.ready md ops listed=[i]) (hl:L i=true)
  (hw:Region.wanted oi (yielded ops a.tmps)=true)
  (h:oi.wp P a w (fun a' w'=>wpAny P md ops Q fuel (listed.setIfInBounds i true) a' w') Q):wpAnyU S w0 P md ops Q L (fuel+1) listed a w:=by
 refine⟨fun h0=>(by rw[hr] at h0;cases h0),fun j hj=>?_⟩
 rw[hr] at hj
 simp only[List.mem_singleton] at hj
 subst hj
 unfold wpOp
 simp only[hi,hw,if_true]
 exact .inl (Oper.wp_mono (fun a' w' h'=>⟨fun _=>h',fun h0=>(by rw[hl] at h0;cases h0)⟩) h)
theorem wpAnyU_done {listed:Array Bool} {a:Act} {w:World} (hr:Region.ready md ops listed=[]) (h:Q .normal a w):∀fuel,wpAnyU S w0 P md ops Q L fuel listed a w
 | 0=>⟨hr,h⟩
 | _+1=>⟨fun _=>h,by rw[hr];simp⟩
theorem wp_region_U (S:List Nat) (L:Nat→Bool) {id:Nat} {a:Act} {w:World} (hm:P.follows .mixedOrders=true)
  (h:wpAnyU S w.drew P .any ops Q L ops.size (Array.replicate ops.size false) a w.drew):(Code.region id ops true).wp P Q a w:=
 wp_region_any hm (wpAny_of_U _ _ _ _ h)
theorem tU (i:Nat) {oi:Oper} (v:Value) {fuel:Nat} {listed:Array Bool} {a:Act} {w:World} (c:Chg S w0 w) (hy:∀w1,Chg S w0 w1→(execOp a.eval oi).run P w1=.ok (.value v) w1)
  (h:wpAnyU S w0 P md ops Q L fuel (listed.setIfInBounds i true) (a.put oi.dst v) w) (hi:ops[i]?=some oi:=by exact rfl) (hs:Region.noSelect ops=true:=by kernel_rfl) (hf:Region.free md ops listed i=true:=by kernel_rfl) (hr:(Region.ready md ops listed).contains i=true:=by kernel_rfl) (hl:lastsWait md ops L i=true:=by kernel_rfl) (hQ:∀c a w,Q (.panic c) (a.put oi.dst v) w→Q (.panic c) a w:=by exact fun _ _ _ h=>h) (hw:Region.wanted oi (yielded ops a.tmps)=true:=by exact rfl):wpAnyU S w0 P md ops Q L (fuel+1) listed a w:=wpAnyU_take i c hi hs hf hr hl hQ hw hy h
theorem oU (i:Nat) {oi:Oper} {fuel:Nat} {listed:Array Bool} {a:Act} {w:World}
  (h:oi.wp P a w (fun a' w'=>Chg S w0 w'∧wpAnyU S w0 P md ops Q L fuel (listed.setIfInBounds i true) a' w') Q) (hi:ops[i]?=some oi:=by exact rfl) (hr:Region.ready md ops listed=[i]:=by kernel_rfl) (hl:L i=false:=by exact rfl)
  (hw:Region.wanted oi (yielded ops a.tmps)=true:=by exact rfl):wpAnyU S w0 P md ops Q L (fuel+1) listed a w:=wpAnyU_only i hi hr hl hw h
end
end
end Go.Aq
