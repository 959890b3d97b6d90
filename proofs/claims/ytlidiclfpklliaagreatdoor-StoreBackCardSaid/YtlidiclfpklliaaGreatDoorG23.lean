/- RngA FzE FzF -/
import Derived.RangeFuncNested
import Derived.RangeFuncBound
import Derived.RangeFuncCalls
import Derived.RangeFuncLeaves
import Derived.OwnWalkIn
import Derived.Test.YtlidiclfpklliaaGreatDoorG21
import Derived.Shelf.Abstract
import Derived.Shelf.RegionOpen
import Derived.TacticsInMore
import Derived.LoopNIn
import Derived.LoopIn
set_option linter.unusedSimpArgs false
set_option linter.unusedVariables false
set_option maxHeartbeats 2000000
namespace Go.Aq
section
open Go.RowKit
theorem keeps_of_chg {S:List Nat} {W W':World} (c:Chg S W W') (h:∀k∈S,∃o:Obj,W.heap[k]?=some o∧o.isCells=true):KeepsOthers W W':=by
 refine⟨c.size,fun k o hk ho=>?_⟩
 have hlt:k<W.heap.size:=(Array.getElem?_eq_some_iff.1 hk).1
 rw[c.block k hlt fun hm=>?_]
 ·exact hk
 ·obtain⟨o',h1,h2⟩:=h k hm
  rw[hk] at h1
  cases h1
  rw[ho] at h2
  cases h2
theorem wpListIn_app {F:Fence} {N:Nat} {P:Program} {W:World} {ops:Array Oper} {rest:List Oper} {o:Oper} {a:Act} {Q:Exit→Act→World→Prop} (hgd:o.guard=none) (s x:Operand) (t:TypeId)
  (ho:o.op=.call { callee:=.builtin .append,args:=#[s,x],argTypes:=#[t,t] })
  {e:TypeId} {z:Value} {size bytes:Nat} (ht:SliceTy P t e z size bytes)
  {v:Value} {n:Nat} {xs:List Value} (hown:Own W e size v n xs) (hs:a.eval s=v) {ad:Addr} {m cap:Nat} {news:List Value} (hsrc:Sees W size (.slice (some ad) m cap) m news) (hx:a.eval x=.slice (some ad) m cap)
  (h1:∀u∈news,u.oneCell'=true) (hb:(n+m) * bytes≤140737488355328) (h63:n+m≤9223372036854775807)
  (h:∀v' W',Own W' e size v' (n+m) (xs++news)→Chg v.ownBlock.toList W W'→(∀k∈v'.ownBlock.toList,k∈v.ownBlock.toList∨W.heap.size≤k)→wpListIn F N P ops Q rest (a.put o.dst v') W'):wpListIn F N P ops Q (o::rest) a W:=by
 obtain⟨ht1,ht2,ht3,ht4⟩:=ht
 obtain⟨i,hi,hz0,rfl,rfl⟩:=info_parts ht2
 obtain⟨hl,ao,cap',hv,hc,hno,hcells⟩:=hsrc
 simp only[Value.slice.injEq,true_and] at hv
 obtain⟨rfl,rfl⟩:=hv
 refine wpListIn_plain hgd fun K hK=>?_
 obtain⟨v',w',hr,h2,h3,h4⟩:=run_app (P:=P) W t o.type e i z ht1 hi hz0 ht3 v n xs hown ad m cap news hl (hcells ad rfl) h1 h63 hb
 unfold Oper.wpIn
 refine⟨?_,?_⟩
 ·simp[Oper.about,ho,resolve,Target.leads,Sem.run_pure]
 ·rw[Oper.semAt_plain F _ _ (by rw[ho];intro c hc';cases hc')]
  simp[execOp,ho,resolve,invoke,builtin,hs,hx,hr,Result.andThen]
  exact hK _ _ (h v' w' h2 h3 h4)
def roundEndC {α:Type} (Bs:List Nat) (I:List α→World→Prop) (xs:List α) (W:World):Exit→Act→World→Prop
 | .normal,_,W'=>KeepsOthers W W'∧(∀B∈Bs,W'.heap[B]?=W.heap[B]?)∧I xs W'
 | _,_,_=>False
def SeqC {α:Type} (n:Nat) (P:Program) (gf:Nat) (Bs:List Nat) (lb:Array Value) (enc:α→Value) (S:List α→Prop) (G:List α→α→Prop) (T:World→Prop):Prop:=
 ∀(l:Nat) (J:List α→World→Prop) (W:World),T W→(∀pre W,J pre W→J pre W.drew)→
  (∀pre x W1,G pre x→J pre W1→YieldAt Fence.wide (n - 1) P l #[enc x] W1 fun e W'=>e=.returned (.bool true)∧J (pre++[x]) W'∧∀B∈Bs,W'.heap[B]?=W1.heap[B]?)→
  J [] W→CallsIn Fence.wide n P gf (#[.func (.yield l) #[] #[]]++lb) W fun e W'=>(∃v,e=.returned v)∧∃xs,S xs∧J xs W'
theorem range_cells {P:Program} {n:Nat} (h1:1≤n) {g:Operand} {p:Tmp} {assign body:Code} {Q:Exit→Act→World→Prop} {a:Act} {w:World} {gf:Nat} {Bs:List Nat} {lb:Array Value}
  (hg:a.eval g=.func (.func gf) #[] lb) (eg:∀args w,(callFunc gf args).run P w=.ok (.enter gf args) w) {α:Type} {enc:α→Value} {S:List α→Prop} {G:List α→α→Prop} {T:World→Prop}
  (hseq:SeqC (n - 1) P gf Bs lb enc S G T) (hT:∀o o',T ((w.alloc o).alloc o')) (hB:∀B∈Bs,B<w.heap.size) (I:List α→World→Prop)
  (hIa:∀pre W o,I pre W→I pre (W.alloc o))
  (hIp:∀pre W l o,w.heap.size≤l→(∃o0:Obj,W.heap[l]?=some o0∧o0.isCells=false)→I pre W→I pre (W.putObj l o))
  (hId:∀pre W,I pre W→I pre W.drew) (h0:I [] w) (a₁:α→Act)
  (hassign:∀(l:Nat) (x:α) (W:World) (K:Act→World→Prop),K (a₁ x) W→
   assign.wpIn (Fence.wide.inRound l) (n - 1 - 1) P (Exit.then K (fun _ _ _=>False)) { tmps:=a.tmps.setIfInBounds p (enc x),defers:=[] } W)
  (hbody:∀(l:Nat) (pre:List α) (x:α) (W:World),G pre x→I pre W→body.wpIn (Fence.wide.inRound l) (n - 1 - 1) P (roundEndC Bs I (pre++[x]) W) (a₁ x) W)
  (hdone:∀(D:Nat) (xs:List α) (W:World),w.heap.size≤D→S xs→I xs W→W.heap[D]?=some (.deferred (some []))→Q .normal { a with defers:={ target:=.collected D,args:=#[] }::a.defers } W):
  (Code.rangeFunc g #[p] assign body).wpIn Fence.wide n P Q a w:=by
 obtain⟨D,hD⟩:∃D,w.heap.size=D:=⟨_,rfl⟩
 refine wpIn_rangeFunc fun fn _=>?_
 obtain⟨L,hL⟩:∃L:LoopState→Option Code→Loop,L=fun st pe=>{ state:=st,pending:=pe,fn,tmps:=a.tmps,params:=#[p],assign,body,defers:=D }:=⟨_,rfl⟩
 have hst:(Instr.enterLoop fn a.tmps #[p] assign body none).run P w=.ok (D+1,[{ target:=.collected D,args:=#[] }]) ((w.alloc (.deferred (some []))).alloc (.loop (L .ready none))):=by
  rw[hL,←hD];exact run_enterLoop_outer fn a.tmps #[p] assign body
 have eP:(L .ready none).params=#[p]:=by rw[hL]
 have eS:(L .ready none).state=.ready:=by rw[hL]
 have eBusy:∀st pe,{ L .ready none with state:=st,pending:=pe }=L st pe:=by intro st pe;rw[hL]
 obtain⟨W1,hW1⟩:∃W1,W1=(w.alloc (.deferred (some []))).alloc (.loop (L .ready none)):=⟨_,rfl⟩
 have hsz:(w.alloc (.deferred (some []))).heap.size=D+1:=by simp[hD]
 have rec1:W1.heap[D+1]?=some (.loop (L .ready none)):=by
  have:=World.alloc_heap_new (w.alloc (.deferred (some []))) (.loop (L .ready none))
  rw[hsz] at this;rw[hW1];exact this
 have mark1:W1.heap[D]?=some (.deferred (some [])):=by
  rw[hW1,Below.heap_alloc _ _ _ (by omega),←hD];exact World.alloc_heap_new w _
 have inv1:I [] W1:=by rw[hW1];exact hIa _ _ _ (hIa _ _ _ h0)
 refine⟨D+1,[{ target:=.collected D,args:=#[] }],W1,{ target:=.fn (.func gf) lb,args:=#[.func (.yield (D+1)) #[] #[]] },W1,gf,#[.func (.yield (D+1)) #[] #[]]++lb,W1,by rw[hW1];exact hst,?_,fun _ _=>trivial,?_,fun _=>h1,?_⟩
 ·simp only[resolve,hg];simp[go_sem]
 ·simp[invoke,go_sem,eg]
 refine (hseq (D+1) (fun pre W=>I pre W∧W.heap[D+1]?=some (.loop (L .ready none))∧W.heap[D]?=some (.deferred (some []))) W1 (by rw[hW1];exact hT _ _) (fun pre W ⟨i1,i2,i3⟩=>⟨hId _ _ i1,i2,i3⟩) ?_ ⟨inv1,rec1,mark1⟩).mono ?_
 ·rintro pre x W hG ⟨i1,i2,i3⟩
  have hlt:D+1<W.heap.size:=(Array.getElem?_eq_some_iff.1 i2).1
  have hy:=run_yield (P:=P) (args:=#[enc x]) i2 (by rw[eP];rfl)
  have ef:(L .ready none).fn=fn:=by rw[hL]
  have et:((L .ready none).params.zip #[enc x]).foldl (fun tmps (t,v)=>tmps.setIfInBounds t v) (L .ready none).tmps=a.tmps.setIfInBounds p (enc x):=by rw[hL];simp
  have ea:(L .ready none).assign=assign:=by rw[hL]
  have eb:(L .ready none).body=body:=by rw[hL]
  rw[ef,et,ea,eb] at hy
  have hbr:=run_beginRound (P:=P) i2 eS
  have ebz:{ L .ready none with state:=.busy }=L .busy none:=by rw[hL]
  rw[ebz] at hbr
  have ncells:∃o0:Obj,W.heap[D+1]?=some o0∧o0.isCells=false:=⟨_,i2,rfl⟩
  obtain⟨W2,hW2⟩:∃W2,W2=W.putObj (D+1) (.loop (L .busy none)):=⟨_,rfl⟩
  have rec2:W2.heap[D+1]?=some (.loop (L .busy none)):=by rw[hW2];exact World.putObj_heap_same hlt
  have mark2:W2.heap[D]?=some (.deferred (some [])):=by rw[hW2];exact (World.putObj_heap_other (by omega)).trans i3
  have cell2:∀B∈Bs,W2.heap[B]?=W.heap[B]?:=fun B hb=>by rw[hW2];exact World.putObj_heap_other (by have:=hB B hb;omega)
  have inv2:I pre W2:=by rw[hW2];exact hIp _ _ _ _ (by omega) ncells i1
  have eEnd:∀jump:Option Code,{ L .busy none with state:=if jump.isNone then .ready else .done,pending:=jump }=L (if jump.isNone then .ready else .done) jump:=by intro j;rw[hL]
  refine⟨fn,_,assign,body,hy,roundIn_of_wpIn trivial (hassign _ x W _ ⟨W2,by rw[hW2];exact hbr,wpIn_mono (hbody _ pre x W2 hG inv2) ?_⟩)⟩
  intro e a3 W3 hp
  have ends:∀jump:Option Code,KeepsOthers W2 W3→(Instr.endRound (D+1) jump).run P W3=.ok (.bool jump.isNone) (W3.putObj (D+1) (.loop (L (if jump.isNone then .ready else .done) jump)))∧
    (W3.putObj (D+1) (.loop (L (if jump.isNone then .ready else .done) jump))).heap[D+1]?=some (.loop (L (if jump.isNone then .ready else .done) jump))∧
    (W3.putObj (D+1) (.loop (L (if jump.isNone then .ready else .done) jump))).heap[D]?=some (.deferred (some []))∧(∃o0:Obj,W3.heap[D+1]?=some o0∧o0.isCells=false):=by
   intro jump k3
   have r3:=k3.same _ _ rec2 rfl
   have he:=run_endRound (P:=P) jump r3
   rw[eEnd] at he
   exact⟨he,World.putObj_heap_same (Array.getElem?_eq_some_iff.1 r3).1,(World.putObj_heap_other (by omega)).trans (k3.same _ _ mark2 rfl),_,r3,rfl⟩
  cases e with
  | normal=>
   obtain⟨k3,b3,j3⟩:=hp
   obtain⟨q1,q2,q3,q4⟩:=ends none k3
   exact⟨_,_,q1,rfl,⟨hIp _ _ _ _ (by omega) q4 j3,q2,q3⟩,fun B hb=>(World.putObj_heap_other (by have:=hB B hb;omega)).trans ((b3 B hb).trans (cell2 B hb))⟩
  | ret=>exact hp.elim
  | exit id=>exact hp.elim
  | goto t=>exact hp.elim
  | panic ch=>exact hp.elim
  | outgrown=>exact hp.elim
 ·rintro e W2 ⟨⟨v,rfl⟩,xs,hS,i1,i2,i3⟩
  have he:=run_endLoop (P:=P) i2 (by rw[hL];simp)
  have ep:(L .ready none).pending=none:=by rw[hL]
  rw[ep] at he
  exact⟨none,_,he,hdone D xs _ (by omega) hS (hIp _ _ _ _ (by omega) ⟨_,i2,rfl⟩ i1) ((World.putObj_heap_other (by omega)).trans i3)⟩
end
section
theorem Blk.same' {W W':World} {B:Nat} {cs:Array Value} {e:TypeId} (h:Blk W B cs e) (k:W'.heap[B]?=W.heap[B]?):Blk W' B cs e:=k.trans h
end
end Go.Aq
namespace Go.Proofs.YtlidiclfpklliaaGreatDoor
open Go.RowKit Go.Shelf Go.Aq Go.Aq.Fy Go.Maps
attribute [local go_sem] Oper.semAt_some
def pieceV (g:Nat) (i:Nat):Value:=.slice (some ⟨g,256 * i,none⟩) 256 256
def leftV (m:Nat):Value→Nat | .int _ i=>(256 * (m:Int) - i).toNat | _=>0
theorem chunk_num {i m cap:Nat} (hi:i<m) (hm:m≤4096) (hc:256 * m≤cap):256 * i<256 * m∧256 * i+256≤256 * m∧256 * i+256≤cap∧¬(cap=256 * i)∧256 * i≤1048576∧256≤256 * m - 256 * i∧256 * m≤1048576:=by omega
set_option maxRecDepth 100000 in
theorem chunk_seq (g m cap:Nat) (hm:m≤4096) (hcap:256 * m≤cap) (n:Nat) (hn:2≤n) (B1 B2:Nat):
  SeqC n Tryz.prog 197 [B1,B2] #[.pointer (some ⟨B1,0,none⟩),.pointer (some ⟨B2,0,none⟩)] (pieceV g) (fun xs:List Nat=>xs=List.range m) (fun pre x=>pre=List.range x∧x<m) (fun W=>Blk W B1 #[.slice (some ⟨g,0,none⟩) (256 * m) cap] 36∧Blk W B2 #[.int .i64 256] 3):=by
 intro l J W hT hJd hY h0
 refine callsIn_of_wp Tryz.func197 rfl trivial ?_ rfl
 simp only[Tryz.ntmps197,List.size_toArray,List.length_cons,List.length_nil,Nat.reduceAdd,Nat.reduceSub,Array.replicate_succ,Array.replicate_zero,List.push_toArray,List.append_toArray,List.nil_append,List.cons_append]
 gi_wp2
 gi_loopw [4] (fun v4 wr=>∃i:Nat,v4=.int .i64 ((256 * i:Nat):Int)∧i≤m∧Blk wr B1 #[.slice (some ⟨g,0,none⟩) (256 * m) cap] 36∧Blk wr B2 #[.int .i64 256] 3∧J (List.range i) wr) (fun v4 wr=>leftV m v4)
 case atStart=>exact⟨0,rfl,Nat.zero_le _,hT.1,hT.2,h0⟩
 case round=>
  obtain⟨i,rfl,him,hb1,hb2,hj⟩:=hrel
  have x1:wr.cell? ⟨B1,0,none⟩=some (.slice (some ⟨g,0,none⟩) (256 * m) cap):=hb1.cell 0
  have x2:wr.cell? ⟨B2,0,none⟩=some (.int .i64 256):=hb2.cell 0
  by_cases hi:i<m
  ·obtain⟨n1,n2,n3,n4,n5,n6,n7⟩:=chunk_num hi hm hcap
   obtain⟨lo,hlo⟩:∃lo,256 * i=lo:=⟨_,rfl⟩
   obtain⟨M,hM⟩:∃M,256 * m=M:=⟨_,rfl⟩
   obtain⟨rs,hrs⟩:∃rs,M - lo=rs:=⟨_,rfl⟩
   obtain⟨hi_,hhi⟩:∃hi_,lo+256=hi_:=⟨_,rfl⟩
   have HK:=zG hi hlo hM hrs hhi him hb1 hb2
   rw[hlo] at n1 n2 n3 n4 n5 n6 ⊢
   rw[hM] at n1 n2 n6 n7 x1 ⊢
   rw[hrs] at n6
   rw[hhi] at n2 n3
   have t0:decide ((lo:Int)<(M:Int))=true:=by simp;omega
   have t0':decide (lo<M)=true:=by simp;omega
   have s1:(lo:Int)≤(M:Int):=by omega
   have s2:(lo:Int)≤(hi_:Int):=by omega
   have s3:(hi_:Int)≤(cap:Int):=by omega
   have s4:hi_ - lo=256:=by omega
   have e1:wrap64 ((lo:Int)+256)=(hi_:Int):=by unfold wrap64;omega
   have e1w:=wIq e1
   have s5:min (256:Int) (rs:Int)=256:=by omega
   have s6:¬((rs:Int)<256):=by omega
   have s7:¬hi_=lo:=by omega
   clear hi hlo hM hrs hhi n1 n2 n3 n5 n6 n7 him hb1 hb2
   gi_wp2
   refine wpIn_wide.2 ?_
   refine wp_region_U [] (fun _=>false) (by kernel_rfl) ?_
   have C0:Chg [] wr.drew wr.drew:=Chg.refl _ _
   have y1:wr.drew.cell? ⟨B1,0,none⟩=some (.slice (some ⟨g,0,none⟩) M cap):=x1
   have y2:wr.drew.cell? ⟨B2,0,none⟩=some (.int .i64 256):=x2
   refine tU 0 (.int .i64 256) C0 (fun w4 c4=>?_) ?_
   ·have z:=c4.cell_some y2 (by simp)
    go_simp
   try simp only[Act.put,yA,yB,yC,yD,yE,yF]
   refine tU 1 (.slice (some ⟨g,0,none⟩) M cap) C0 (fun w4 c4=>?_) ?_
   ·have z:=c4.cell_some y1 (by simp)
    go_simp
   try simp only[Act.put,yA,yB,yC,yD,yE,yF]
   refine tU 2 (.int .i64 lo) C0 (fun w4 c4=>?_) ?_
   ·go_simp
   try simp only[Act.put,yA,yB,yC,yD,yE,yF]
   refine tU 3 (.slice (some ⟨g,lo,none⟩) rs (cap - lo)) C0 (fun w4 c4=>?_) ?_
   ·have hrs:=HK.out.2.2.2.1
    go_simp
   try simp only[Act.put,yA,yB,yC,yD,yE,yF]
   refine tU 4 (.int .i64 rs) C0 (fun w4 c4=>?_) ?_
   ·go_simp
   try simp only[Act.put,yA,yB,yC,yD,yE,yF]
   refine tU 5 (.int .i64 256) C0 (fun w4 c4=>?_) ?_
   ·go_simp
   try simp only[Act.put,yA,yB,yC,yD,yE,yF]
   refine tU 6 (.int .i64 256) C0 (fun w4 c4=>?_) ?_
   ·go_simp
   try simp only[Act.put,yA,yB,yC,yD,yE,yF]
   refine wpAnyU_done (by kernel_rfl) ?_ _
   have hj':=hJd _ _ hj
   have hb1':Blk wr.drew B1 #[.slice (some ⟨g,0,none⟩) M cap] 36:=by have:=HK.out.2.2.2.2.2.2.1;rw[HK.out.2.2.1] at this;exact this.drew
   have hb2':Blk wr.drew B2 #[.int .i64 256] 3:=HK.out.2.2.2.2.2.2.2.drew
   generalize wr.drew=wE at *
   clear x1 x2 C0 hj
   obtain⟨fn,tmps,assign,body,hy,hR⟩:=hY (List.range i) i wE ⟨rfl,HK.out.1⟩ hj'
   try dsimp only at hy
   unfold pieceV at hy
   rw[HK.out.2.1] at hy
   gi_wp2
   refine⟨fun _=>by omega,hR.mono ?_⟩
   rintro e W' ⟨rfl,hj2,hk⟩
   have hb1'':=hb1'.same' (hk B1 (by simp))
   have hb2'':=hb2'.same' (hk B2 (by simp))
   have z2:W'.cell? ⟨B2,0,none⟩=some (.int .i64 256):=hb2''.cell 0
   clear hy hR y1 y2
   gi_wp2
   go_roundw
   case rel=>
    refine⟨i+1,?_,HK.out.1,hb1'',hb2'',by rw[List.range_succ];exact hj2⟩
    rw[show 256 * (i+1)=hi_ by have h1:=HK.out.2.1;have h2:=HK.out.2.2.2.2.1;omega]
   case measure=>have h1:=HK.out.1;have h2:=HK.out.2.1;have h3:=HK.out.2.2.2.2.1;simp only[leftV];omega
  ·have t0:decide (((256 * i:Nat):Int)<((256 * m:Nat):Int))=false:=by simp;omega
   have t0':decide (256 * i<256 * m)=false:=by simp;omega
   have HL:=zA (show i=m by omega) hj
   obtain⟨lo,hlo⟩:∃lo,256 * i=lo:=⟨_,rfl⟩
   obtain⟨M,hM⟩:∃M,256 * m=M:=⟨_,rfl⟩
   rw[hlo] at t0 t0' ⊢
   rw[hM] at t0 t0' x1 ⊢
   clear hlo hM hi him hb1 hb2 hj
   gi_wp2
   go_end0
   exact⟨⟨_,rfl⟩,_,rfl,by rw[←HL.out.1];exact HL.out.2⟩
end Go.Proofs.YtlidiclfpklliaaGreatDoor
