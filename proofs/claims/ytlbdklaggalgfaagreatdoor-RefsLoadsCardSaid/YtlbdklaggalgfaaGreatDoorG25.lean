/- RngA FzE FzF FzG FzH -/
import Derived.RangeFuncNested
import Derived.RangeFuncBound
import Derived.RangeFuncCalls
import Derived.RangeFuncLeaves
import Derived.OwnWalkIn
import Derived.Shelf.Abstract
import Derived.Shelf.RegionOpen
import Derived.TacticsInMore
import Derived.LoopNIn
import Derived.LoopIn
import Derived.Test.YtlbdklaggalgfaaGreatDoorFzD
set_option linter.unusedSimpArgs false
set_option linter.unusedVariables false
set_option maxHeartbeats 4000000
namespace Go.Aq
section
open Go.RowKit
theorem keeps_of_chg {S:List Nat} {W W':World} (c:Chg S W W') (h:∀k∈S,∃o:Obj,W.heap[k]?=some o∧o.isCells=true):KeepsOthers W W':=by
 refine⟨c.size,fun k o hk ho=>?_⟩;have hlt:k<W.heap.size:=(Array.getElem?_eq_some_iff.1 hk).1;rw[c.block k hlt fun hm=>?_];·exact hk
 ·obtain⟨o',h1,h2⟩:=h k hm;rw[hk] at h1;cases h1;rw[ho] at h2;cases h2
def roundEnd {α:Type} (B:Nat) (I Ix:List α→World→Prop) (xs:List α) (W:World):Exit→Act→World→Prop
 | .normal,_,W'=>KeepsOthers W W'∧W'.heap[B]?=W.heap[B]?∧I xs W'
 | .ret,_,W'=>KeepsOthers W W'∧Ix xs W'
 | _,_,_=>False
def SeqB {α:Type} (n:Nat) (P:Program) (gf B:Nat) (lb:Array Value) (enc:α→Value) (S:List α→Prop) (G:List α→α→Prop) (T:World→Prop):Prop:=
 ∀(l:Nat) (J Jx:List α→World→Prop) (W:World),T W→(∀pre W v,J pre W→J pre (W.setCell ⟨B,0,none⟩ v))→(∀pre W,J pre W→J pre W.drew)→
  (∀pre x W1,G pre x→J pre W1→YieldAt Fence.wide (n - 1) P l #[enc x] W1 fun e W'=>(e=.returned (.bool true)∧J (pre++[x]) W'∧W'.heap[B]?=W1.heap[B]?)∨(e=.returned (.bool false)∧Jx (pre++[x]) W'))→
  J [] W→CallsIn Fence.wide n P gf (#[.func (.yield l) #[] #[]]++lb) W fun e W'=>(∃v,e=.returned v)∧((∃xs,S xs∧J xs W')∨(∃pre rest,S (pre++rest)∧Jx pre W'))
theorem range_cell {P:Program} {n:Nat} (h1:1≤n) {g:Operand} {p:Tmp} {assign body:Code} {Q:Exit→Act→World→Prop} {a:Act} {w:World} {gf B:Nat} {lb:Array Value}
  (hg:a.eval g=.func (.func gf) #[] lb) (eg:∀args w,(callFunc gf args).run P w=.ok (.enter gf args) w) {α:Type} {enc:α→Value} {S:List α→Prop} {G:List α→α→Prop} {T:World→Prop}
  (hseq:SeqB (n - 1) P gf B lb enc S G T) (hT:∀o o',T ((w.alloc o).alloc o')) (hB:B<w.heap.size) (I Ix:List α→World→Prop)
  (hIa:∀pre W o,I pre W→I pre (W.alloc o))
  (hIp:∀pre W l o,w.heap.size≤l→(∃o0:Obj,W.heap[l]?=some o0∧o0.isCells=false)→I pre W→I pre (W.putObj l o))
  (hXp:∀pre W l o,w.heap.size≤l→(∃o0:Obj,W.heap[l]?=some o0∧o0.isCells=false)→Ix pre W→Ix pre (W.putObj l o))
  (hIB:∀pre W v,I pre W→I pre (W.setCell ⟨B,0,none⟩ v)) (hId:∀pre W,I pre W→I pre W.drew) (h0:I [] w) (a₁:α→Act)
  (hassign:∀(l:Nat) (x:α) (W:World) (K:Act→World→Prop),K (a₁ x) W→
   assign.wpIn (Fence.wide.inRound l) (n - 1 - 1) P (Exit.then K (fun _ _ _=>False)) { tmps:=a.tmps.setIfInBounds p (enc x),defers:=[] } W)
  (hbody:∀(l:Nat) (pre:List α) (x:α) (W:World),G pre x→I pre W→body.wpIn (Fence.wide.inRound l) (n - 1 - 1) P (roundEnd B I Ix (pre++[x]) W) (a₁ x) W)
  (hdone:∀(D:Nat) (xs:List α) (W:World),w.heap.size≤D→S xs→I xs W→W.heap[D]?=some (.deferred (some []))→Q .normal { a with defers:={ target:=.collected D,args:=#[] }::a.defers } W)
  (hstop:∀(D:Nat) (pre rest:List α) (W:World),w.heap.size≤D→S (pre++rest)→Ix pre W→W.heap[D]?=some (.deferred (some []))→Code.ret.wpIn Fence.wide n P Q { a with defers:={ target:=.collected D,args:=#[] }::a.defers } W):
  (Code.rangeFunc g #[p] assign body).wpIn Fence.wide n P Q a w:=by
 obtain⟨D,hD⟩:∃D,w.heap.size=D:=⟨_,rfl⟩;refine wpIn_rangeFunc fun fn _=>?_
 obtain⟨L,hL⟩:∃L:LoopState→Option Code→Loop,L=fun st pe=>{ state:=st,pending:=pe,fn,tmps:=a.tmps,params:=#[p],assign,body,defers:=D }:=⟨_,rfl⟩
 have hst:(Instr.enterLoop fn a.tmps #[p] assign body none).run P w=.ok (D+1,[{ target:=.collected D,args:=#[] }]) ((w.alloc (.deferred (some []))).alloc (.loop (L .ready none))):=by
  rw[hL,←hD];exact run_enterLoop_outer fn a.tmps #[p] assign body
 have eP:(L .ready none).params=#[p]:=by rw[hL]
 have eS:(L .ready none).state=.ready:=by rw[hL]
 have eBusy:∀st pe,{ L .ready none with state:=st,pending:=pe }=L st pe:=by intro st pe;rw[hL]
 obtain⟨W1,hW1⟩:∃W1,W1=(w.alloc (.deferred (some []))).alloc (.loop (L .ready none)):=⟨_,rfl⟩;have hsz:(w.alloc (.deferred (some []))).heap.size=D+1:=by simp[hD]
 have rec1:W1.heap[D+1]?=some (.loop (L .ready none)):=by
  have:=World.alloc_heap_new (w.alloc (.deferred (some []))) (.loop (L .ready none));rw[hsz] at this;rw[hW1];exact this
 have mark1:W1.heap[D]?=some (.deferred (some [])):=by
  rw[hW1,Below.heap_alloc _ _ _ (by omega),←hD];exact World.alloc_heap_new w _
 have inv1:I [] W1:=by rw[hW1];exact hIa _ _ _ (hIa _ _ _ h0)
 refine⟨D+1,[{ target:=.collected D,args:=#[] }],W1,{ target:=.fn (.func gf) lb,args:=#[.func (.yield (D+1)) #[] #[]] },W1,gf,#[.func (.yield (D+1)) #[] #[]]++lb,W1,by rw[hW1];exact hst,?_,fun _ _=>trivial,?_,fun _=>h1,?_⟩;·simp only[resolve,hg];simp[go_sem]
 ·simp[invoke,go_sem,eg]
 have other:∀{W:World} {v:Value} {k:Nat},k≠B→(W.setCell ⟨B,0,none⟩ v).heap[k]?=W.heap[k]?:=fun {W v k} hk=>Below.heap_setCell W _ _ k hk
 refine (hseq (D+1) (fun pre W=>I pre W∧W.heap[D+1]?=some (.loop (L .ready none))∧W.heap[D]?=some (.deferred (some [])))
  (fun pre W=>Ix pre W∧W.heap[D+1]?=some (.loop (L .done (some .ret)))∧W.heap[D]?=some (.deferred (some []))) W1 (by rw[hW1];exact hT _ _) ?_ (fun pre W ⟨i1,i2,i3⟩=>⟨hId _ _ i1,i2,i3⟩) ?_ ⟨inv1,rec1,mark1⟩).mono ?_
 ·rintro pre W v ⟨i1,i2,i3⟩;exact⟨hIB _ _ _ i1,(other (by omega)).trans i2,(other (by omega)).trans i3⟩
 ·rintro pre x W hG ⟨i1,i2,i3⟩;have hlt:D+1<W.heap.size:=(Array.getElem?_eq_some_iff.1 i2).1;have hy:=run_yield (P:=P) (args:=#[enc x]) i2 (by rw[eP];rfl);have ef:(L .ready none).fn=fn:=by rw[hL]
  have et:((L .ready none).params.zip #[enc x]).foldl (fun tmps (t,v)=>tmps.setIfInBounds t v) (L .ready none).tmps=a.tmps.setIfInBounds p (enc x):=by rw[hL];simp
  have ea:(L .ready none).assign=assign:=by rw[hL]
  have eb:(L .ready none).body=body:=by rw[hL]
  rw[ef,et,ea,eb] at hy;have hbr:=run_beginRound (P:=P) i2 eS;have ebz:{ L .ready none with state:=.busy }=L .busy none:=by rw[hL]
  rw[ebz] at hbr;have ncells:∃o0:Obj,W.heap[D+1]?=some o0∧o0.isCells=false:=⟨_,i2,rfl⟩;obtain⟨W2,hW2⟩:∃W2,W2=W.putObj (D+1) (.loop (L .busy none)):=⟨_,rfl⟩;have rec2:W2.heap[D+1]?=some (.loop (L .busy none)):=by rw[hW2];exact World.putObj_heap_same hlt
  have mark2:W2.heap[D]?=some (.deferred (some [])):=by rw[hW2];exact (World.putObj_heap_other (by omega)).trans i3
  have cell2:W2.heap[B]?=W.heap[B]?:=by rw[hW2];exact World.putObj_heap_other (by omega)
  have inv2:I pre W2:=by rw[hW2];exact hIp _ _ _ _ (by omega) ncells i1
  have eEnd:∀jump:Option Code,{ L .busy none with state:=if jump.isNone then .ready else .done,pending:=jump }=L (if jump.isNone then .ready else .done) jump:=by intro j;rw[hL]
  refine⟨fn,_,assign,body,hy,roundIn_of_wpIn trivial (hassign _ x W _ ⟨W2,by rw[hW2];exact hbr,wpIn_mono (hbody _ pre x W2 hG inv2) ?_⟩)⟩;intro e a3 W3 hp;have ends:∀jump:Option Code,KeepsOthers W2 W3→(Instr.endRound (D+1) jump).run P W3=.ok (.bool jump.isNone) (W3.putObj (D+1) (.loop (L (if jump.isNone then .ready else .done) jump)))∧
    (W3.putObj (D+1) (.loop (L (if jump.isNone then .ready else .done) jump))).heap[D+1]?=some (.loop (L (if jump.isNone then .ready else .done) jump))∧
    (W3.putObj (D+1) (.loop (L (if jump.isNone then .ready else .done) jump))).heap[D]?=some (.deferred (some []))∧(∃o0:Obj,W3.heap[D+1]?=some o0∧o0.isCells=false):=by
   intro jump k3;have r3:=k3.same _ _ rec2 rfl;have he:=run_endRound (P:=P) jump r3;rw[eEnd] at he;exact⟨he,World.putObj_heap_same (Array.getElem?_eq_some_iff.1 r3).1,(World.putObj_heap_other (by omega)).trans (k3.same _ _ mark2 rfl),_,r3,rfl⟩
  cases e with
  | normal=>
   obtain⟨k3,b3,j3⟩:=hp;obtain⟨q1,q2,q3,q4⟩:=ends none k3;exact⟨_,_,q1,.inl ⟨rfl,⟨hIp _ _ _ _ (by omega) q4 j3,q2,q3⟩,(World.putObj_heap_other (by omega)).trans (b3.trans cell2)⟩⟩
  | ret=>
   obtain⟨k3,j3⟩:=hp;obtain⟨q1,q2,q3,q4⟩:=ends (some .ret) k3;exact⟨_,_,q1,.inr ⟨rfl,hXp _ _ _ _ (by omega) q4 j3,q2,q3⟩⟩
  | exit id=>exact hp.elim
  | goto t=>exact hp.elim
  | panic ch=>exact hp.elim
  | outgrown=>exact hp.elim
 ·rintro e W2 ⟨⟨v,rfl⟩,(⟨xs,hS,i1,i2,i3⟩ | ⟨pre,rest,hS,i1,i2,i3⟩)⟩
  ·have he:=run_endLoop (P:=P) i2 (by rw[hL];simp);have ep:(L .ready none).pending=none:=by rw[hL]
   rw[ep] at he;exact⟨none,_,he,hdone D xs _ (by omega) hS (hIp _ _ _ _ (by omega) ⟨_,i2,rfl⟩ i1) ((World.putObj_heap_other (by omega)).trans i3)⟩
  ·have he:=run_endLoop (P:=P) i2 (by rw[hL];simp);have ep:(L .done (some .ret)).pending=some .ret:=by rw[hL]
   rw[ep] at he;exact⟨some .ret,_,he,hstop D pre rest _ (by omega) hS (hXp _ _ _ _ (by omega) ⟨_,i2,rfl⟩ i1) ((World.putObj_heap_other (by omega)).trans i3)⟩
theorem wpListIn_app {F:Fence} {N:Nat} {P:Program} {W:World} {ops:Array Oper} {rest:List Oper} {o:Oper} {a:Act} {Q:Exit→Act→World→Prop} (hgd:o.guard=none) (s x:Operand) (t:TypeId)
  (ho:o.op=.call { callee:=.builtin .append,args:=#[s,x],argTypes:=#[t,t] })
  {e:TypeId} {z:Value} {size bytes:Nat} (ht:SliceTy P t e z size bytes)
  {v:Value} {n:Nat} {xs:List Value} (hown:Own W e size v n xs) (hs:a.eval s=v) {ad:Addr} {m cap:Nat} {news:List Value} (hsrc:Sees W size (.slice (some ad) m cap) m news) (hx:a.eval x=.slice (some ad) m cap)
  (h1:∀u∈news,u.oneCell'=true) (hb:(n+m) * bytes≤140737488355328) (h63:n+m≤9223372036854775807)
  (h:∀v' W',Own W' e size v' (n+m) (xs++news)→Chg v.ownBlock.toList W W'→(∀k∈v'.ownBlock.toList,k∈v.ownBlock.toList∨W.heap.size≤k)→wpListIn F N P ops Q rest (a.put o.dst v') W'):wpListIn F N P ops Q (o::rest) a W:=by
 obtain⟨ht1,ht2,ht3,ht4⟩:=ht;obtain⟨i,hi,hz0,rfl,rfl⟩:=info_parts ht2;obtain⟨hl,ao,cap',hv,hc,hno,hcells⟩:=hsrc;simp only[Value.slice.injEq,true_and] at hv;obtain⟨rfl,rfl⟩:=hv;refine wpListIn_plain hgd fun K hK=>?_
 obtain⟨v',w',hr,h2,h3,h4⟩:=run_app (P:=P) W t o.type e i z ht1 hi hz0 ht3 v n xs hown ad m cap news hl (hcells ad rfl) h1 h63 hb;unfold Oper.wpIn;refine⟨?_,?_⟩;·simp[Oper.about,ho,resolve,Target.leads,Sem.run_pure]
 ·rw[Oper.semAt_plain F _ _ (by rw[ho];intro c hc';cases hc')];simp[execOp,ho,resolve,invoke,builtin,hs,hx,hr,Result.andThen];exact hK _ _ (h v' w' h2 h3 h4)
def roundEndC {α:Type} (Bs:List Nat) (I:List α→World→Prop) (xs:List α) (W:World):Exit→Act→World→Prop
 | .normal,_,W'=>KeepsOthers W W'∧(∀B∈Bs,W'.heap[B]?=W.heap[B]?)∧I xs W'
 | _,_,_=>False
def SeqC {α:Type} (n:Nat) (P:Program) (gf:Nat) (Bs:List Nat) (lb:Array Value) (enc:α→Value) (S:List α→Prop) (G:List α→α→Prop) (T:World→Prop):Prop:=
 ∀(l:Nat) (J:List α→World→Prop) (W:World),T W→(∀pre W,J pre W→J pre W.drew)→
  (∀pre x W1,G pre x→J pre W1→YieldAt Fence.wide (n - 1) P l #[enc x] W1 fun e W'=>e=.returned (.bool true)∧J (pre++[x]) W'∧∀B∈Bs,W'.heap[B]?=W1.heap[B]?)→
  J [] W→CallsIn Fence.wide n P gf (#[.func (.yield l) #[] #[]]++lb) W fun e W'=>(∃v,e=.returned v)∧∃xs,S xs∧J xs W'
theorem range_cells {P:Program} {n:Nat} (h1:1≤n) {g:Operand} {p:Tmp} {assign body:Code} {Q:Exit→Act→World→Prop} {a:Act} {w:World} {gf:Nat} {Bs:List Nat} {lb:Array Value}
  (hg:a.eval g=.func (.func gf) #[] lb) (eg:∀args w,(callFunc gf args).run P w=.ok (.enter gf args) w) {α:Type} {enc:α→Value} {S:List α→Prop} {G:List α→α→Prop} {T:World→Prop}
  (hseq:SeqC (n - 1) P gf Bs lb enc S G T) (hT:∀o o',T ((w.alloc o).alloc o')) (hB:∀B∈Bs,B<w.heap.size) (I:List α→World→Prop)
  (hIa:∀pre W o,I pre W→I pre (W.alloc o))
  (hIp:∀pre W l o,w.heap.size≤l→(∃o0:Obj,W.heap[l]?=some o0∧o0.isCells=false)→I pre W→I pre (W.putObj l o))
  (hId:∀pre W,I pre W→I pre W.drew) (h0:I [] w) (a₁:α→Act)
  (hassign:∀(l:Nat) (x:α) (W:World) (K:Act→World→Prop),K (a₁ x) W→
   assign.wpIn (Fence.wide.inRound l) (n - 1 - 1) P (Exit.then K (fun _ _ _=>False)) { tmps:=a.tmps.setIfInBounds p (enc x),defers:=[] } W)
  (hbody:∀(l:Nat) (pre:List α) (x:α) (W:World),G pre x→I pre W→body.wpIn (Fence.wide.inRound l) (n - 1 - 1) P (roundEndC Bs I (pre++[x]) W) (a₁ x) W)
  (hdone:∀(D:Nat) (xs:List α) (W:World),w.heap.size≤D→S xs→I xs W→W.heap[D]?=some (.deferred (some []))→Q .normal { a with defers:={ target:=.collected D,args:=#[] }::a.defers } W):
  (Code.rangeFunc g #[p] assign body).wpIn Fence.wide n P Q a w:=by
 obtain⟨D,hD⟩:∃D,w.heap.size=D:=⟨_,rfl⟩;refine wpIn_rangeFunc fun fn _=>?_
 obtain⟨L,hL⟩:∃L:LoopState→Option Code→Loop,L=fun st pe=>{ state:=st,pending:=pe,fn,tmps:=a.tmps,params:=#[p],assign,body,defers:=D }:=⟨_,rfl⟩
 have hst:(Instr.enterLoop fn a.tmps #[p] assign body none).run P w=.ok (D+1,[{ target:=.collected D,args:=#[] }]) ((w.alloc (.deferred (some []))).alloc (.loop (L .ready none))):=by
  rw[hL,←hD];exact run_enterLoop_outer fn a.tmps #[p] assign body
 have eP:(L .ready none).params=#[p]:=by rw[hL]
 have eS:(L .ready none).state=.ready:=by rw[hL]
 have eBusy:∀st pe,{ L .ready none with state:=st,pending:=pe }=L st pe:=by intro st pe;rw[hL]
 obtain⟨W1,hW1⟩:∃W1,W1=(w.alloc (.deferred (some []))).alloc (.loop (L .ready none)):=⟨_,rfl⟩;have hsz:(w.alloc (.deferred (some []))).heap.size=D+1:=by simp[hD]
 have rec1:W1.heap[D+1]?=some (.loop (L .ready none)):=by
  have:=World.alloc_heap_new (w.alloc (.deferred (some []))) (.loop (L .ready none));rw[hsz] at this;rw[hW1];exact this
 have mark1:W1.heap[D]?=some (.deferred (some [])):=by
  rw[hW1,Below.heap_alloc _ _ _ (by omega),←hD];exact World.alloc_heap_new w _
 have inv1:I [] W1:=by rw[hW1];exact hIa _ _ _ (hIa _ _ _ h0)
 refine⟨D+1,[{ target:=.collected D,args:=#[] }],W1,{ target:=.fn (.func gf) lb,args:=#[.func (.yield (D+1)) #[] #[]] },W1,gf,#[.func (.yield (D+1)) #[] #[]]++lb,W1,by rw[hW1];exact hst,?_,fun _ _=>trivial,?_,fun _=>h1,?_⟩;·simp only[resolve,hg];simp[go_sem]
 ·simp[invoke,go_sem,eg]
 refine (hseq (D+1) (fun pre W=>I pre W∧W.heap[D+1]?=some (.loop (L .ready none))∧W.heap[D]?=some (.deferred (some []))) W1 (by rw[hW1];exact hT _ _) (fun pre W ⟨i1,i2,i3⟩=>⟨hId _ _ i1,i2,i3⟩) ?_ ⟨inv1,rec1,mark1⟩).mono ?_
 ·rintro pre x W hG ⟨i1,i2,i3⟩;have hlt:D+1<W.heap.size:=(Array.getElem?_eq_some_iff.1 i2).1;have hy:=run_yield (P:=P) (args:=#[enc x]) i2 (by rw[eP];rfl);have ef:(L .ready none).fn=fn:=by rw[hL]
  have et:((L .ready none).params.zip #[enc x]).foldl (fun tmps (t,v)=>tmps.setIfInBounds t v) (L .ready none).tmps=a.tmps.setIfInBounds p (enc x):=by rw[hL];simp
  have ea:(L .ready none).assign=assign:=by rw[hL]
  have eb:(L .ready none).body=body:=by rw[hL]
  rw[ef,et,ea,eb] at hy;have hbr:=run_beginRound (P:=P) i2 eS;have ebz:{ L .ready none with state:=.busy }=L .busy none:=by rw[hL]
  rw[ebz] at hbr;have ncells:∃o0:Obj,W.heap[D+1]?=some o0∧o0.isCells=false:=⟨_,i2,rfl⟩;obtain⟨W2,hW2⟩:∃W2,W2=W.putObj (D+1) (.loop (L .busy none)):=⟨_,rfl⟩;have rec2:W2.heap[D+1]?=some (.loop (L .busy none)):=by rw[hW2];exact World.putObj_heap_same hlt
  have mark2:W2.heap[D]?=some (.deferred (some [])):=by rw[hW2];exact (World.putObj_heap_other (by omega)).trans i3
  have cell2:∀B∈Bs,W2.heap[B]?=W.heap[B]?:=fun B hb=>by rw[hW2];exact World.putObj_heap_other (by have:=hB B hb;omega)
  have inv2:I pre W2:=by rw[hW2];exact hIp _ _ _ _ (by omega) ncells i1
  have eEnd:∀jump:Option Code,{ L .busy none with state:=if jump.isNone then .ready else .done,pending:=jump }=L (if jump.isNone then .ready else .done) jump:=by intro j;rw[hL]
  refine⟨fn,_,assign,body,hy,roundIn_of_wpIn trivial (hassign _ x W _ ⟨W2,by rw[hW2];exact hbr,wpIn_mono (hbody _ pre x W2 hG inv2) ?_⟩)⟩;intro e a3 W3 hp;have ends:∀jump:Option Code,KeepsOthers W2 W3→(Instr.endRound (D+1) jump).run P W3=.ok (.bool jump.isNone) (W3.putObj (D+1) (.loop (L (if jump.isNone then .ready else .done) jump)))∧
    (W3.putObj (D+1) (.loop (L (if jump.isNone then .ready else .done) jump))).heap[D+1]?=some (.loop (L (if jump.isNone then .ready else .done) jump))∧
    (W3.putObj (D+1) (.loop (L (if jump.isNone then .ready else .done) jump))).heap[D]?=some (.deferred (some []))∧(∃o0:Obj,W3.heap[D+1]?=some o0∧o0.isCells=false):=by
   intro jump k3;have r3:=k3.same _ _ rec2 rfl;have he:=run_endRound (P:=P) jump r3;rw[eEnd] at he;exact⟨he,World.putObj_heap_same (Array.getElem?_eq_some_iff.1 r3).1,(World.putObj_heap_other (by omega)).trans (k3.same _ _ mark2 rfl),_,r3,rfl⟩
  cases e with
  | normal=>
   obtain⟨k3,b3,j3⟩:=hp;obtain⟨q1,q2,q3,q4⟩:=ends none k3;exact⟨_,_,q1,rfl,⟨hIp _ _ _ _ (by omega) q4 j3,q2,q3⟩,fun B hb=>(World.putObj_heap_other (by have:=hB B hb;omega)).trans ((b3 B hb).trans (cell2 B hb))⟩
  | ret=>exact hp.elim
  | exit id=>exact hp.elim
  | goto t=>exact hp.elim
  | panic ch=>exact hp.elim
  | outgrown=>exact hp.elim
 ·rintro e W2 ⟨⟨v,rfl⟩,xs,hS,i1,i2,i3⟩;have he:=run_endLoop (P:=P) i2 (by rw[hL];simp);have ep:(L .ready none).pending=none:=by rw[hL]
  rw[ep] at he;exact⟨none,_,he,hdone D xs _ (by omega) hS (hIp _ _ _ _ (by omega) ⟨_,i2,rfl⟩ i1) ((World.putObj_heap_other (by omega)).trans i3)⟩
end
section
theorem Blk.same' {W W':World} {B:Nat} {cs:Array Value} {e:TypeId} (h:Blk W B cs e) (k:W'.heap[B]?=W.heap[B]?):Blk W' B cs e:=k.trans h
end
end Go.Aq
namespace Go.Proofs.YtlbdklaggalgfaaGreatDoor
open Go.RowKit Go.Shelf Go.Aq Go.Aq.Fy Go.Maps
attribute [local go_sem] Oper.semAt_some
def pieceV (g:Nat) (i:Nat):Value:=.slice (some ⟨g,256 * i,none⟩) 256 256
def leftV (m:Nat):Value→Nat | .int _ i=>(256 * (m:Int) - i).toNat | _=>0
theorem chunk_num {i m cap:Nat} (hi:i<m) (hm:m≤4096) (hc:256 * m≤cap):256 * i<256 * m∧256 * i+256≤256 * m∧256 * i+256≤cap∧¬(cap=256 * i)∧256 * i≤1048576∧256≤256 * m - 256 * i∧256 * m≤1048576:=by omega
set_option maxRecDepth 100000 in
theorem chunk_seq (g m cap:Nat) (hm:m≤4096) (hcap:256 * m≤cap) (n:Nat) (hn:2≤n) (B1 B2:Nat):
  SeqC n Tryz.prog 170 [B1,B2] #[.pointer (some ⟨B1,0,none⟩),.pointer (some ⟨B2,0,none⟩)] (pieceV g) (fun xs:List Nat=>xs=List.range m) (fun pre x=>pre=List.range x∧x<m) (fun W=>Blk W B1 #[.slice (some ⟨g,0,none⟩) (256 * m) cap] 38∧Blk W B2 #[.int .i64 256] 3):=by
 intro l J W hT hJd hY h0;refine callsIn_of_wp Tryz.func170 rfl trivial ?_ rfl;simp only[Tryz.ntmps170,List.size_toArray,List.length_cons,List.length_nil,Nat.reduceAdd,Nat.reduceSub,Array.replicate_succ,Array.replicate_zero,List.push_toArray,List.append_toArray,List.nil_append,List.cons_append]
 gi_wp2
 gi_loopw [4] (fun v4 wr=>∃i:Nat,v4=.int .i64 ((256 * i:Nat):Int)∧i≤m∧Blk wr B1 #[.slice (some ⟨g,0,none⟩) (256 * m) cap] 38∧Blk wr B2 #[.int .i64 256] 3∧J (List.range i) wr) (fun v4 wr=>leftV m v4)
 case atStart=>exact⟨0,rfl,Nat.zero_le _,hT.1,hT.2,h0⟩
 case round=>
  obtain⟨i,rfl,him,hb1,hb2,hj⟩:=hrel;have x1:wr.cell? ⟨B1,0,none⟩=some (.slice (some ⟨g,0,none⟩) (256 * m) cap):=hb1.cell 0;have x2:wr.cell? ⟨B2,0,none⟩=some (.int .i64 256):=hb2.cell 0;by_cases hi:i<m
  ·obtain⟨n1,n2,n3,n4,n5,n6,n7⟩:=chunk_num hi hm hcap;obtain⟨lo,hlo⟩:∃lo,256 * i=lo:=⟨_,rfl⟩;obtain⟨M,hM⟩:∃M,256 * m=M:=⟨_,rfl⟩;obtain⟨rs,hrs⟩:∃rs,M - lo=rs:=⟨_,rfl⟩;obtain⟨hi_,hhi⟩:∃hi_,lo+256=hi_:=⟨_,rfl⟩;have HK:=zG hi hlo hM hrs hhi him hb1 hb2;rw[hlo] at n1 n2 n3 n4 n5 n6 ⊢;rw[hM] at n1 n2 n6 n7 x1 ⊢;rw[hrs] at n6;rw[hhi] at n2 n3;have t0:decide ((lo:Int)<(M:Int))=true:=by simp;omega
   have t0':decide (lo<M)=true:=by simp;omega
   have s1:(lo:Int)≤(M:Int):=by omega
   have s2:(lo:Int)≤(hi_:Int):=by omega
   have s3:(hi_:Int)≤(cap:Int):=by omega
   have s4:hi_ - lo=256:=by omega
   have e1:wrap64 ((lo:Int)+256)=(hi_:Int):=by unfold wrap64;omega
   have e1w:=wIq e1;have s5:min (256:Int) (rs:Int)=256:=by omega
   have s6:¬((rs:Int)<256):=by omega
   have s7:¬hi_=lo:=by omega
   clear hi hlo hM hrs hhi n1 n2 n3 n5 n6 n7 him hb1 hb2
   gi_wp2
   refine wpIn_wide.2 ?_;refine wp_region_U [] (fun _=>false) (by kernel_rfl) ?_;have C0:Chg [] wr.drew wr.drew:=Chg.refl _ _;have y1:wr.drew.cell? ⟨B1,0,none⟩=some (.slice (some ⟨g,0,none⟩) M cap):=x1;have y2:wr.drew.cell? ⟨B2,0,none⟩=some (.int .i64 256):=x2;refine tU 0 (.int .i64 256) C0 (fun w4 c4=>?_) ?_
   ·have z:=c4.cell_some y2 (by simp);go_simp
   refine yG ?_;refine tU 1 (.slice (some ⟨g,0,none⟩) M cap) C0 (fun w4 c4=>?_) ?_
   ·have z:=c4.cell_some y1 (by simp);go_simp
   refine yG ?_;refine tU 2 (.int .i64 lo) C0 (fun w4 c4=>?_) ?_;·go_simp
   refine yG ?_;refine tU 3 (.slice (some ⟨g,lo,none⟩) rs (cap - lo)) C0 (fun w4 c4=>?_) ?_
   ·have hrs:=HK.out.2.2.2.1;go_simp
   refine yG ?_;refine tU 4 (.int .i64 rs) C0 (fun w4 c4=>?_) ?_;·go_simp
   refine yG ?_;refine tU 5 (.int .i64 256) C0 (fun w4 c4=>?_) ?_;·go_simp
   refine yG ?_;refine tU 6 (.int .i64 256) C0 (fun w4 c4=>?_) ?_;·go_simp
   refine yG ?_;refine wpAnyU_done (by kernel_rfl) ?_ _;have hj':=hJd _ _ hj;have hb1':Blk wr.drew B1 #[.slice (some ⟨g,0,none⟩) M cap] 38:=by have:=HK.out.2.2.2.2.2.2.1;rw[HK.out.2.2.1] at this;exact this.drew
   have hb2':Blk wr.drew B2 #[.int .i64 256] 3:=HK.out.2.2.2.2.2.2.2.drew;generalize wr.drew=wE at *;clear x1 x2 C0 hj;obtain⟨fn,tmps,assign,body,hy,hR⟩:=hY (List.range i) i wE ⟨rfl,HK.out.1⟩ hj';(try dsimp only at hy);unfold pieceV at hy;rw[HK.out.2.1] at hy
   gi_wp2
   refine⟨fun _=>by omega,hR.mono ?_⟩;rintro e W' ⟨rfl,hj2,hk⟩;have hb1'':=hb1'.same' (hk B1 (by simp));have hb2'':=hb2'.same' (hk B2 (by simp));have z2:W'.cell? ⟨B2,0,none⟩=some (.int .i64 256):=hb2''.cell 0;clear hy hR y1 y2
   gi_wp2
   go_roundw
   case rel=>
    refine⟨i+1,?_,HK.out.1,hb1'',hb2'',by rw[List.range_succ];exact hj2⟩;rw[show 256 * (i+1)=hi_ by have h1:=HK.out.2.1;have h2:=HK.out.2.2.2.2.1;omega]
   case measure=>have h1:=HK.out.1;have h2:=HK.out.2.1;have h3:=HK.out.2.2.2.2.1;simp only[leftV];omega
  ·have t0:decide (((256 * i:Nat):Int)<((256 * m:Nat):Int))=false:=by simp;omega
   have t0':decide (256 * i<256 * m)=false:=by simp;omega
   have HL:=zA (show i=m by omega) hj;obtain⟨lo,hlo⟩:∃lo,256 * i=lo:=⟨_,rfl⟩;obtain⟨M,hM⟩:∃M,256 * m=M:=⟨_,rfl⟩;rw[hlo] at t0 t0' ⊢;rw[hM] at t0 t0' x1 ⊢;clear hlo hM hi him hb1 hb2 hj
   gi_wp2
   go_end0
   exact⟨⟨_,rfl⟩,_,rfl,by rw[←HL.out.1];exact HL.out.2⟩
end Go.Proofs.YtlbdklaggalgfaaGreatDoor
namespace Go.Aq
open Go.RowKit
theorem chg_put (W:World) (l:Nat) (o:Obj):Chg [l] W (W.putObj l o):=
 ⟨rfl,rfl,rfl,by simp,fun i _ hi=>World.putObj_heap_other (by simpa using hi)⟩
theorem own_cells {W:World} {e:TypeId} {size n:Nat} {v:Value} {xs:List Value} (h:Own W e size v n xs) {k:Nat} (hk:k∈v.ownBlock.toList):∃cs,W.heap[k]?=some (.cells cs e (0,0)):=by
 rcases h.2 with ⟨rfl,_⟩ | ⟨g,cap,cur,rfl,_,h2,_⟩
 ·simp[Value.ownBlock] at hk
 ·simp[Value.ownBlock] at hk;subst hk;exact⟨cur,h2⟩
theorem own_no_put {W:World} {e:TypeId} {size n:Nat} {v:Value} {xs:List Value} (h:Own W e size v n xs) {l:Nat} (hl:∃o0:Obj,W.heap[l]?=some o0∧o0.isCells=false):l∉v.ownBlock.toList:=fun hk=>by
 obtain⟨cs,hb⟩:=own_cells h hk;obtain⟨o0,h1,h2⟩:=hl;have:=h1.symm.trans hb;cases this;cases h2
theorem blk_no_put {W:World} {k:Nat} {cs:Array Value} {e:TypeId} (h:Blk W k cs e) {l:Nat} (hl:∃o0:Obj,W.heap[l]?=some o0∧o0.isCells=false):k≠l:=by
 rintro rfl;obtain⟨o0,h1,h2⟩:=hl;have:=h1.symm.trans h;cases this;cases h2
end Go.Aq
namespace Go.Proofs.YtlbdklaggalgfaaGreatDoor
open Go.RowKit Go.Shelf Go.Aq Go.Aq.Fy Go.Maps
attribute [local go_sem] Oper.semAt_some
theorem sl_rows:SliceTy Tryz.prog 111 38 (.slice none 0 0) 1 24:=⟨Tryz.underlying111,by kernel_rfl,rfl,by decide⟩
def pieces (g:Nat) (l:List Nat):List Value:=l.map (pieceV g)
def AppI (w0:World) (K g:Nat) (pre:List Nat) (W:World):Prop:=
 ∃v,Fresh w0 W 38 1 v pre.length (pieces g pre)∧Blk W K #[v] 111∧w0.heap.size≤K
theorem AppI.step {w0 W W':World} {K g l:Nat} {pre:List Nat} (h:AppI w0 K g pre W) (c:Chg [l] W W') (ho:∃o0:Obj,W.heap[l]?=some o0∧o0.isCells=false) (hl:w0.heap.size≤l):AppI w0 K g pre W':=by
 obtain⟨v,h1,h2,h3⟩:=h;have hn:=own_no_put h1.own ho;exact⟨v,⟨h1.own.chg c (fun k hk hk'=>by simp at hk';subst hk';exact hn hk),h1.chg.trans c (fun k hk=>.inr (by simp at hk;omega)),h1.new⟩,h2.chg c (by have:=blk_no_put h2 ho;simpa using this),h3⟩
theorem AppI.nil {w0 W W':World} {K g:Nat} {pre:List Nat} (h:AppI w0 K g pre W) (c:Chg [] W W'):AppI w0 K g pre W':=by
 obtain⟨v,h1,h2,h3⟩:=h;exact⟨v,h1.to c,h2.chg0 c,h3⟩
set_option maxRecDepth 100000 in
theorem appendSeq_ok (w:World) (g m cap B1 B2:Nat) (hb1:Blk w B1 #[.slice (some ⟨g,0,none⟩) (256 * m) cap] 38) (hb2:Blk w B2 #[.int .i64 256] 3) (hm:m≤4096) (hcap:256 * m≤cap):
  Calls Tryz.prog 169 #[.slice none 0 0,.func (.func 170) #[] #[.pointer (some ⟨B1,0,none⟩),.pointer (some ⟨B2,0,none⟩)]] w fun e w'=>∃v,e=.returned v∧Fresh w w' 38 1 v m (pieces g (List.range m)):=by
 obtain⟨K,hK⟩:∃K,w.heap.size=K:=⟨_,rfl⟩;obtain⟨w1,hw1⟩:∃w1,w1=w.alloc (.cells #[.slice none 0 0] 111):=⟨_,rfl⟩;have hc1:Chg [] w w1:=by rw[hw1];exact (Chg.refl [] w).alloc _
 have hbK:Blk w1 K #[.slice none 0 0] 111:=by rw[hw1];exact Blk.new_at w _ _ hK
 have HB:=zE hc1 hbK (hb1.chg0 hc1) (hb2.chg0 hc1) hb1.lt hb2.lt;clear hb1 hb2 hc1 hbK;refine callsIn_wide.1 (callsIn_of_wp_marks (n:=8) Tryz.func169 rfl trivial ?_ rfl);simp only[Tryz.ntmps169,List.size_toArray,List.length_cons,List.length_nil,Nat.reduceAdd,Nat.reduceSub,Array.replicate_succ,Array.replicate_zero,List.push_toArray,List.append_toArray,List.nil_append,List.cons_append]
 gi_wp2
 rw[←hw1];clear hw1;obtain⟨hc1,hbK,hb1,hb2,hl1,hl2⟩:=HB.out;have hc0:=hc1.size;refine range_cells (by decide) (gf:=170) (Bs:=[B1,B2]) (lb:=#[.pointer (some ⟨B1,0,none⟩),.pointer (some ⟨B2,0,none⟩)]) rfl (enters_of Tryz.func170 (by kernel_rfl) rfl) (chunk_seq g m cap hm hcap 7 (by decide) B1 B2)
  (fun o o'=>⟨(hb1.alloc o).alloc o',(hb2.alloc o).alloc o'⟩) (fun B hB=>by simp at hB;have:=hc1.size;rcases hB with rfl | rfl <;> omega) (AppI w K g)
  (fun pre W o h=>h.nil ((Chg.refl [] W).alloc o))
  (fun pre W l o hl ho h=>h.step (chg_put W l o) ho (by have:=hc1.size;omega))
  (fun pre W h=>h.nil (Chg.refl [] W).drew)
  ⟨.slice none 0 0,(Fresh.nil w _ _).to hc1,hbK,Nat.le_of_eq hK⟩
  (fun i=>{ tmps:=#[.slice none 0 0,.func (.func 170) #[] #[.pointer (some ⟨B1,0,none⟩),.pointer (some ⟨B2,0,none⟩)],.pointer (some ⟨K,0,none⟩),undef,.slice none 0 0,pieceV g i,.func (.func 170) #[] #[.pointer (some ⟨B1,0,none⟩),.pointer (some ⟨B2,0,none⟩)],pieceV g i,undef,undef,undef,undef,undef],defers:=[] }) ?assign ?body ?done
 case assign=>
  intro l x W Kx hKx;simp only[List.setIfInBounds_toArray,List.set_cons_zero,List.set_cons_succ]
  gi_wp2
  exact hKx
 case body=>
  intro l pre x W hG hI;clear hbK hb1 hb2 hc1 HB;obtain⟨v,h1,h2,h3⟩:=hI;obtain⟨p,hp⟩:∃p,pre.length=p:=⟨_,rfl⟩;have hpx:p<m:=by rw[←hp,hG.1,List.length_range];exact hG.2
  rw[hp] at h1;obtain⟨ao,cp,rfl,-⟩:=h1.shape;obtain⟨px,hpx'⟩:∃px,256 * x=px:=⟨_,rfl⟩;have hpv:pieceV g x=.slice (some ⟨g,px,none⟩) 256 256:=by rw[←hpx'];rfl
  have hp1:(Value.slice (some ⟨g,px,none⟩) 256 256).oneCell'=true:=rfl;rw[hpv];clear hpx';have x0:=h2.cell 0;obtain⟨R,hR⟩:∃R,W.heap.size=R:=⟨_,rfl⟩;obtain⟨w5,hw5⟩:∃w5,w5=W.alloc (.cells #[.slice (some ⟨g,px,none⟩) 256 256] 38):=⟨_,rfl⟩;have c5:Chg [] W w5:=by rw[hw5];exact (Chg.refl [] W).alloc _
  have bN:Blk w5 R #[.slice (some ⟨g,px,none⟩) 256 256] 38:=by rw[hw5];exact Blk.new_at W _ _ hR
  have hF5:=h1.to c5;have b25:=h2.chg0 c5;have hne:=Own.ne hF5.own b25 (by decide);have hown5:=hF5.own;have hsn5:Sees w5 1 (.slice (some ⟨R,0,none⟩) 1 1) 1 [.slice (some ⟨g,px,none⟩) 256 256]:=Sees.blk bN;have HW:=zH (And.intro h1 (And.intro h2 (And.intro h3 (And.intro hG (And.intro hp (And.intro hpv (And.intro c5 (And.intro b25 (And.intro hne (And.intro hpx hF5))))))))));have hpm:p≤4096:=by omega
  rw[hw5] at hown5 hsn5;rw[←hR] at hsn5;simp only[List.getElem?_toArray,List.getElem?_cons_zero] at x0;clear h1 h2 h3 hG hp hpv c5 bN hF5 b25 hne hR hpx
  gi_wp2_with (gi_at_builtin;refine wpListIn_app rfl _ _ 111 rfl sl_rows (by exact hown5) rfl (by exact hsn5) rfl (by simpa using hp1) (by omega) (by omega) ?_;intro v6 w6 hO6 c6 n6;obtain⟨ao6,cp6,rfl,-,-⟩:=hO6.sees.shape;have b26:=(HW.out.2.2.2.2.2.2.2.1).chg (hw5▸c6) HW.out.2.2.2.2.2.2.2.2.1;have z2:=b26.cell 0;have g2:=b26.frozen 0)
  obtain⟨h1,h2,h3,hG,hp,hpv,c5,b25,hne,hpx,hF5⟩:=HW.out;have c6':Chg (Value.slice ao p cp).ownBlock.toList w5 w6:=by rw[hw5];exact c6
  have n6':∀k∈(Value.slice ao6 (p+1) cp6).ownBlock.toList,k∈(Value.slice ao p cp).ownBlock.toList∨w5.heap.size≤k:=by rw[hw5];exact n6
  clear c6 n6 z2 g2;have hF6:=hF5.app hO6 c6' n6';have hK5:=b25.lt;have hK6:K∉(Value.slice ao6 (p+1) cp6).ownBlock.toList:=fun hk=>by
   rcases n6' _ hk with h | h
   ·exact hne h
   ·omega
  have cS:Chg (K::(Value.slice ao p cp).ownBlock.toList) W (w6.setCell ⟨K,0,none⟩ (.slice ao6 (p+1) cp6)):=
   (((Chg.refl _ W).trans c5 (by simp)).trans c6' (fun k hk=>.inl (List.mem_cons_of_mem _ hk))).setCell (.inl (by simp)) _
  have hcw:=h1.chg.size;have hBl:∀B∈[B1,B2],B<W.heap.size∧B∉K::(Value.slice ao p cp).ownBlock.toList:=fun B hB=>by
   have hBw:B<w.heap.size:=by simp at hB;rcases hB with rfl | rfl <;> assumption
   refine⟨by omega,fun hh=>?_⟩;rcases List.mem_cons.1 hh with h | h
   ·omega
   ·have:=h1.new B h;omega
  refine⟨keeps_of_chg cS fun k hk=>?_,fun B hB=>cS.block B (hBl B hB).1 (hBl B hB).2,.slice ao6 (p+1) cp6,?_,b26.set 0 _,h3⟩
  ·rcases List.mem_cons.1 hk with rfl | hk
   ·exact⟨_,h2,rfl⟩
   ·obtain⟨cs,hcs⟩:=own_cells h1.own hk;exact⟨_,hcs,rfl⟩
  ·have e1:(pre++[x]).length=p+1:=by simp[hp]
   have e2:pieces g (pre++[x])=pieces g pre++[.slice (some ⟨g,px,none⟩) 256 256]:=by simp[pieces,hpv]
   rw[e1,e2];exact⟨hF6.own.set_ne hK6 _,hF6.chg.setCell (.inr h3) _,hF6.new⟩
 case done=>
  rintro D xs W hD rfl hI hmark;obtain⟨v,h1,h2,h3⟩:=hI;rw[List.length_range] at h1;obtain⟨ao,cp,rfl,-⟩:=h1.shape;have x0:=h2.cell 0;simp only[List.getElem?_toArray,List.getElem?_cons_zero] at x0;have HI:=zD h1 h2 h3 hmark hD;clear hbK hb1 hb2 hc1 HB h1 h2 h3 hmark hD
  gi_wp2
  obtain⟨h1,h2,h3,hmark,hD⟩:=HI.out;refine⟨by simp,.inl ⟨_,_,rfl,run_takeDeferred hmark,_,results_tmp rfl _ _ _,.slice ao m cp,rfl,?_⟩⟩;have hn:=own_no_put h1.own ⟨_,hmark,rfl⟩;have c:=chg_put W D (.deferred none);exact⟨h1.own.chg c (fun k hk hk'=>by simp at hk';subst hk';exact hn hk),h1.chg.trans c (fun k hk=>.inr (by simp at hk;subst hk;have:=hc0;omega)),h1.new⟩
end Go.Proofs.YtlbdklaggalgfaaGreatDoor
namespace Go.Aq
theorem Sees.recap {w:World} {a:Addr} {n cap cap':Nat} {xs:List Value} (h:Sees w 1 (.slice (some a) n cap) n xs) (hc:n≤cap'):Sees w 1 (.slice (some a) n cap') n xs:=by
 obtain⟨h1,ao',c',h2,h3,h4,h5⟩:=h;simp only[Value.slice.injEq,true_and] at h2;obtain⟨rfl,rfl⟩:=h2;exact⟨h1,_,_,rfl,hc,by simp,h5⟩
end Go.Aq
namespace Go.Proofs.YtlbdklaggalgfaaGreatDoor
open Go.RowKit Go.Aq Go.Aq.Fy Go.Maps
set_option maxRecDepth 100000 in
theorem chunk_ok (w:World) (v:Value) (hv:v.oneCell'=true) (hs:∃ao n cap,v=.slice ao n cap):
  Calls Tryz.prog 116 #[v,.int .i64 256] w fun e w'=>∃B1 B2,e=.returned (.func (.func 170) #[] #[.pointer (some ⟨B1,0,none⟩),.pointer (some ⟨B2,0,none⟩)])∧Blk w' B1 #[v] 38∧Blk w' B2 #[.int .i64 256] 3∧Chg [] w w':=by
 obtain⟨ao,n,cap,rfl⟩:=hs;go_enter Tryz.func116,Tryz.ntmps116;go_wp2_with fail;go_ret;exact⟨_,_,rfl,(Blk.new _ _ _).alloc _,Blk.new_at _ _ _ (by simp),((Chg.refl [] _).alloc _).alloc _⟩
set_option maxRecDepth 100000 in
theorem collect_ok (w:World) (g m cap B1 B2:Nat) (hb1:Blk w B1 #[.slice (some ⟨g,0,none⟩) (256 * m) cap] 38) (hb2:Blk w B2 #[.int .i64 256] 3) (hm:m≤4096) (hcap:256 * m≤cap):
  Calls Tryz.prog 115 #[.func (.func 170) #[] #[.pointer (some ⟨B1,0,none⟩),.pointer (some ⟨B2,0,none⟩)]] w fun e w'=>∃v,e=.returned v∧Fresh w w' 38 1 v m (pieces g (List.range m)):=by
 have ha:=appendSeq_ok w g m cap B1 B2 hb1 hb2 hm hcap;clear hb1 hb2 hm hcap;go_enter Tryz.func115,Tryz.ntmps115;go_wp2_with fail;refine ha.mono ?_;rintro e w1 ⟨v,rfl,hF⟩;go_wp2_with fail;go_ret;exact⟨v,rfl,hF⟩
def SectEnd (w:World) (mt:Nat) (L:Files) (e:Ending) (w':World):Prop:=
 Chg [] w w'∧((mt * 256<(tableB L).length∧e=.returned (.slice none 0 0))∨
  ((tableB L).length≤mt * 256∧∃ao cap g c,e=.returned (.slice (some ao) mt cap)∧Go.Aq.Own w' 38 1 (.slice (some ao) mt cap) mt (pieces g (List.range mt))∧w.heap.size≤ao.block∧w.heap.size≤g∧
   Sees w' 1 (.slice (some ⟨g,0,none⟩) (256 * mt) c) (256 * mt) (Bs (tableB L++nul (mt * 256 - (tableB L).length)))))
theorem sect_num {q mt:Nat} (h:q≤mt * 256) (h4:mt≤200):q+(mt * 256 - q)=256 * mt∧(q+(mt * 256 - q)) * 1≤140737488355328∧q+(mt * 256 - q)≤9223372036854775807:=by omega
theorem sect_wrap {mt q:Nat} (h4:mt≤200):wrap64 ((mt:Int) * 256)=((mt * 256:Nat):Int)∧(q≤mt * 256→wrap64 (((mt * 256:Nat):Int) - (q:Int))=((mt * 256 - q:Nat):Int)):=by
 unfold wrap64;constructor;·omega
 ·intro h;omega
set_option maxRecDepth 100000 in
theorem sectors_ok' (w:World) (f mt:Nat) (c0 c1 c3:Value) (hblk:Blk w f #[c0,c1,.int .i64 mt,c3] 95) (h1:1≤mt) (h4:mt≤200) (S:List Nat) (b:Nat) (L:Files) (h:FilesR w S b L) (hn:L.length≤400) (hL:∀p∈L,p.1.length≤255∧p.2.blocks.length≤4096) (hz:∀p∈L,p.2.size<4294967296∧∀k∈p.2.blocks,k<65536):
  Calls Tryz.prog 46 #[.pointer (some ⟨f,0,none⟩),.map (some b)] w (SectEnd w mt L):=by
 have htb:=table_ok w S b L h hn hL hz;have hlen:2≤(tableB L).length∧(tableB L).length≤4000000:=by
  have h1:=tabB_bound hL L.length (Nat.le_refl _);rw[tabB_all] at h1;refine⟨?_,by omega⟩;unfold tableB;rw[List.length_append,beB_length];omega
 obtain⟨T,hT⟩:∃T,tableB L=T:=⟨_,rfl⟩;obtain⟨q,hq⟩:∃q,T.length=q:=⟨_,rfl⟩;rw[hT,hq] at htb hlen;have x2:w.cell? ⟨f,2,none⟩=some (.int .i64 mt):=hblk.cell 2;obtain⟨e1,e2⟩:=sect_wrap (q:=q) h4;obtain⟨M,hM⟩:∃M,mt * 256=M:=⟨_,rfl⟩;have hnum:=fun hh=>sect_num (q:=q) (mt:=mt) hh h4
 rw[hM] at e1 e2 hnum;have e1w:=wIq e1;have HH:=zG hT hq hM h1 h4 hlen hnum e2;clear h hn hL hz hblk hT hq hM h1 h4 hlen hnum e2;go_enter Tryz.func46,Tryz.ntmps46;go_wp2_with fail;refine htb.mono ?_;rintro e w1 ⟨v,rfl,hF1⟩;obtain⟨av,cv,rfl,-⟩:=hF1.shape;replace x2:=hF1.chg.cell_some x2 (by simp);clear htb;by_cases hfit:q≤M
 ·have t1:decide ((M:Int)<(q:Int))=false:=by simp;omega
  have t1':decide (M<q)=false:=by simp;omega
  obtain⟨n1,n2,n3⟩:=HH.out.2.2.2.2.2.2.1 hfit;have e2:=HH.out.2.2.2.2.2.2.2 hfit;obtain⟨z,hz⟩:∃z,M - q=z:=⟨_,rfl⟩;rw[hz] at n1 n2 n3 e2;have e2w:=wIq e2;have HZ:=zB hfit hz n1;have hq0:z=0∨0<q:=by have:=HH.out.2.2.2.2.2.1.1;omega
  clear hfit hz n1;go_wp2_with (first
   | (at_builtin;refine wpList_appZ' rfl _ _ 38 3 rfl sl_u8y rfl rfl Tryz.underlying3 hF1 rfl rfl rfl hq0 n2 n3 ?_;intro v2 w2 hF2 c2)
   | fail)
  have hF2':Fresh w w2 5 1 v2 (256 * mt) (Bs (T++nul z)):=by
   have h1:=hF2;rw[HZ.out.2.2] at h1;have h2:Bs T++List.replicate z (.int .u8 0)=Bs (T++nul z):=by simp[Bs,nul,Bc]
   rw[h2] at h1;exact h1
  obtain⟨g,cap,rfl,hcap⟩:=hF2'.own.pos (by have:=HH.out.2.2.2.1;omega);have H2:=zA hF2' hcap;clear hF2 c2 hF2' hcap hF1;refine (chunk_ok w2 _ rfl ⟨_,_,_,rfl⟩).mono ?_;rintro e w3 ⟨B1,B2,rfl,hb1,hb2,c3⟩;have hcl:=collect_ok w3 g mt cap B1 B2 hb1 hb2 (by have:=HH.out.2.2.2.2.1;omega) H2.out.2.1;clear hb1 hb2;go_wp2_with fail;refine hcl.mono ?_;rintro e w4 ⟨v4,rfl,hF4⟩;obtain⟨g4,cap4,rfl,-⟩:=hF4.own.pos (by have:=HH.out.2.2.2.1;omega);have H4:=zA c3 hF4;clear hcl c3 hF4;go_wp2_with fail;go_ret;have cw:Chg [] w w4:=(H2.out.1.chg.nil H4.out.1).nil H4.out.2.chg;refine⟨cw,.inr ⟨?_,⟨g4,0,none⟩,cap4,g,cap,rfl,H4.out.2.own,?_,?_,?_⟩⟩;·rw[HH.out.1,HH.out.2.1,HH.out.2.2.1];exact HZ.out.1
  ·have h1:=H4.out.2.new g4 (by simp[Value.ownBlock]);have h2:=(H2.out.1.chg.nil H4.out.1).size;show w.heap.size≤g4;omega
  ·exact H2.out.1.new g (by simp[Value.ownBlock])
  ·rw[HH.out.1,HH.out.2.1,HH.out.2.2.1,HZ.out.2.1];exact H2.out.1.own.sees.chg0 (H4.out.1.nil H4.out.2.chg)
 ·have t1:decide ((M:Int)<(q:Int))=true:=by simp;omega
  have t1':decide (M<q)=true:=by simp;omega
  have HZ:=zH hfit;have HF:=zH hF1;clear hfit hF1;go_wp2_with fail;go_ret;refine⟨HF.out.chg,.inl ⟨?_,rfl⟩⟩;rw[HH.out.1,HH.out.2.1,HH.out.2.2.1];exact Nat.not_le.1 HZ.out
end Go.Proofs.YtlbdklaggalgfaaGreatDoor
