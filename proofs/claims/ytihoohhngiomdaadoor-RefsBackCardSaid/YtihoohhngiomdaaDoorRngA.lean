/- A range over a function whose iterator keeps its place in a captured cell: the law for the caller, at the wide fence; append in a round. No statement of the seat is proved here. -/
import Derived.Test.YtihoohhngiomdaaDoorBase
import Derived.RangeFuncNested
import Derived.RangeFuncBound
import Derived.RangeFuncCalls
import Derived.RangeFuncLeaves
import Derived.OwnWalkIn
set_option linter.unusedVariables false
namespace Go.Aq
open Go.RowKit
/-- What is no cells lies as it lay, if only blocks of cells were turned. -/
theorem keeps_of_chg {S : List Nat} {W W' : World} (c : Chg S W W') (h : ∀ k ∈ S, ∃ o : Obj, W.heap[k]? = some o ∧ o.isCells = true) : KeepsOthers W W' := by
  refine ⟨c.size, fun k o hk ho => ?_⟩
  have hlt : k < W.heap.size := (Array.getElem?_eq_some_iff.1 hk).1
  rw [c.block k hlt fun hm => ?_]
  · exact hk
  · obtain ⟨o', h1, h2⟩ := h k hm
    rw [hk] at h1
    cases h1
    rw [ho] at h2
    cases h2
/-- How a round's body may be left: off its end (the iterator's own cell B as it was), or by return. -/
def roundEnd {α : Type} (B : Nat) (I Ix : List α → World → Prop) (xs : List α) (W : World) : Exit → Act → World → Prop
  | .normal, _, W' => KeepsOthers W W' ∧ W'.heap[B]? = W.heap[B]? ∧ I xs W'
  | .ret, _, W' => KeepsOthers W W' ∧ Ix xs W'
  | _, _, _ => False
/-- An iterator's contract: its own cell lies in block B; whatever J says between two rounds abides a store there. -/
def SeqB {α : Type} (n : Nat) (P : Program) (gf B : Nat) (lb : Array Value) (enc : α → Value) (S : List α → Prop) (G : List α → α → Prop) (T : World → Prop) : Prop :=
  ∀ (l : Nat) (J Jx : List α → World → Prop) (W : World), T W → (∀ pre W v, J pre W → J pre (W.setCell ⟨B, 0, none⟩ v)) → (∀ pre W, J pre W → J pre W.drew) →
    (∀ pre x W1, G pre x → J pre W1 → YieldAt Fence.wide (n - 1) P l #[enc x] W1 fun e W' => (e = .returned (.bool true) ∧ J (pre ++ [x]) W' ∧ W'.heap[B]? = W1.heap[B]?) ∨ (e = .returned (.bool false) ∧ Jx (pre ++ [x]) W')) →
    J [] W → CallsIn Fence.wide n P gf (#[.func (.yield l) #[] #[]] ++ lb) W fun e W' => (∃ v, e = .returned v) ∧ ((∃ xs, S xs ∧ J xs W') ∨ (∃ pre rest, S (pre ++ rest) ∧ Jx pre W'))
/-- The caller's law. -/
theorem range_cell {P : Program} {n : Nat} (h1 : 1 ≤ n) {g : Operand} {p : Tmp} {assign body : Code} {Q : Exit → Act → World → Prop} {a : Act} {w : World} {gf B : Nat} {lb : Array Value}
    (hg : a.eval g = .func (.func gf) #[] lb) (eg : ∀ args w, (callFunc gf args).run P w = .ok (.enter gf args) w) {α : Type} {enc : α → Value} {S : List α → Prop} {G : List α → α → Prop} {T : World → Prop}
    (hseq : SeqB (n - 1) P gf B lb enc S G T) (hT : ∀ o o', T ((w.alloc o).alloc o')) (hB : B < w.heap.size) (I Ix : List α → World → Prop)
    (hIa : ∀ pre W o, I pre W → I pre (W.alloc o))
    (hIp : ∀ pre W l o, w.heap.size ≤ l → (∃ o0 : Obj, W.heap[l]? = some o0 ∧ o0.isCells = false) → I pre W → I pre (W.putObj l o))
    (hXp : ∀ pre W l o, w.heap.size ≤ l → (∃ o0 : Obj, W.heap[l]? = some o0 ∧ o0.isCells = false) → Ix pre W → Ix pre (W.putObj l o))
    (hIB : ∀ pre W v, I pre W → I pre (W.setCell ⟨B, 0, none⟩ v)) (hId : ∀ pre W, I pre W → I pre W.drew) (h0 : I [] w) (a₁ : α → Act)
    (hassign : ∀ (l : Nat) (x : α) (W : World) (K : Act → World → Prop), K (a₁ x) W →
      assign.wpIn (Fence.wide.inRound l) (n - 1 - 1) P (Exit.then K (fun _ _ _ => False)) { tmps := a.tmps.setIfInBounds p (enc x), defers := [] } W)
    (hbody : ∀ (l : Nat) (pre : List α) (x : α) (W : World), G pre x → I pre W → body.wpIn (Fence.wide.inRound l) (n - 1 - 1) P (roundEnd B I Ix (pre ++ [x]) W) (a₁ x) W)
    (hdone : ∀ (D : Nat) (xs : List α) (W : World), w.heap.size ≤ D → S xs → I xs W → W.heap[D]? = some (.deferred (some [])) → Q .normal { a with defers := { target := .collected D, args := #[] } :: a.defers } W)
    (hstop : ∀ (D : Nat) (pre rest : List α) (W : World), w.heap.size ≤ D → S (pre ++ rest) → Ix pre W → W.heap[D]? = some (.deferred (some [])) → Code.ret.wpIn Fence.wide n P Q { a with defers := { target := .collected D, args := #[] } :: a.defers } W) :
    (Code.rangeFunc g #[p] assign body).wpIn Fence.wide n P Q a w := by
  obtain ⟨D, hD⟩ : ∃ D, w.heap.size = D := ⟨_, rfl⟩
  refine wpIn_rangeFunc fun fn _ => ?_
  obtain ⟨L, hL⟩ : ∃ L : LoopState → Option Code → Loop, L = fun st pe => { state := st, pending := pe, fn, tmps := a.tmps, params := #[p], assign, body, defers := D } := ⟨_, rfl⟩
  have hst : (Instr.enterLoop fn a.tmps #[p] assign body none).run P w = .ok (D + 1, [{ target := .collected D, args := #[] }]) ((w.alloc (.deferred (some []))).alloc (.loop (L .ready none))) := by
    rw [hL, ← hD]; exact run_enterLoop_outer fn a.tmps #[p] assign body
  have eP : (L .ready none).params = #[p] := by rw [hL]
  have eS : (L .ready none).state = .ready := by rw [hL]
  have eBusy : ∀ st pe, { L .ready none with state := st, pending := pe } = L st pe := by intro st pe; rw [hL]
  -- the record and the mark, as the loop goes on
  obtain ⟨W1, hW1⟩ : ∃ W1, W1 = (w.alloc (.deferred (some []))).alloc (.loop (L .ready none)) := ⟨_, rfl⟩
  have hsz : (w.alloc (.deferred (some []))).heap.size = D + 1 := by simp [hD]
  have rec1 : W1.heap[D + 1]? = some (.loop (L .ready none)) := by
    have := World.alloc_heap_new (w.alloc (.deferred (some []))) (.loop (L .ready none))
    rw [hsz] at this; rw [hW1]; exact this
  have mark1 : W1.heap[D]? = some (.deferred (some [])) := by
    rw [hW1, Below.heap_alloc _ _ _ (by omega), ← hD]; exact World.alloc_heap_new w _
  have inv1 : I [] W1 := by rw [hW1]; exact hIa _ _ _ (hIa _ _ _ h0)
  refine ⟨D + 1, [{ target := .collected D, args := #[] }], W1, { target := .fn (.func gf) lb, args := #[.func (.yield (D + 1)) #[] #[]] }, W1, gf, #[.func (.yield (D + 1)) #[] #[]] ++ lb, W1, by rw [hW1]; exact hst, ?_, fun _ _ => trivial, ?_, fun _ => h1, ?_⟩
  · simp only [resolve, hg]; simp [go_sem]
  · simp [invoke, go_sem, eg]
  have other : ∀ {W : World} {v : Value} {k : Nat}, k ≠ B → (W.setCell ⟨B, 0, none⟩ v).heap[k]? = W.heap[k]? := fun {W v k} hk => Below.heap_setCell W _ _ k hk
  refine (hseq (D + 1) (fun pre W => I pre W ∧ W.heap[D + 1]? = some (.loop (L .ready none)) ∧ W.heap[D]? = some (.deferred (some [])))
    (fun pre W => Ix pre W ∧ W.heap[D + 1]? = some (.loop (L .done (some .ret))) ∧ W.heap[D]? = some (.deferred (some []))) W1 (by rw [hW1]; exact hT _ _) ?_ (fun pre W ⟨i1, i2, i3⟩ => ⟨hId _ _ i1, i2, i3⟩) ?_ ⟨inv1, rec1, mark1⟩).mono ?_
  · rintro pre W v ⟨i1, i2, i3⟩
    exact ⟨hIB _ _ _ i1, (other (by omega)).trans i2, (other (by omega)).trans i3⟩
  · rintro pre x W hG ⟨i1, i2, i3⟩
    have hlt : D + 1 < W.heap.size := (Array.getElem?_eq_some_iff.1 i2).1
    have hy := run_yield (P := P) (args := #[enc x]) i2 (by rw [eP]; rfl)
    have ef : (L .ready none).fn = fn := by rw [hL]
    have et : ((L .ready none).params.zip #[enc x]).foldl (fun tmps (t, v) => tmps.setIfInBounds t v) (L .ready none).tmps = a.tmps.setIfInBounds p (enc x) := by rw [hL]; simp
    have ea : (L .ready none).assign = assign := by rw [hL]
    have eb : (L .ready none).body = body := by rw [hL]
    rw [ef, et, ea, eb] at hy
    have hbr := run_beginRound (P := P) i2 eS
    have ebz : { L .ready none with state := .busy } = L .busy none := by rw [hL]
    rw [ebz] at hbr
    have ncells : ∃ o0 : Obj, W.heap[D + 1]? = some o0 ∧ o0.isCells = false := ⟨_, i2, rfl⟩
    obtain ⟨W2, hW2⟩ : ∃ W2, W2 = W.putObj (D + 1) (.loop (L .busy none)) := ⟨_, rfl⟩
    have rec2 : W2.heap[D + 1]? = some (.loop (L .busy none)) := by rw [hW2]; exact World.putObj_heap_same hlt
    have mark2 : W2.heap[D]? = some (.deferred (some [])) := by rw [hW2]; exact (World.putObj_heap_other (by omega)).trans i3
    have cell2 : W2.heap[B]? = W.heap[B]? := by rw [hW2]; exact World.putObj_heap_other (by omega)
    have inv2 : I pre W2 := by rw [hW2]; exact hIp _ _ _ _ (by omega) ncells i1
    have eEnd : ∀ jump : Option Code, { L .busy none with state := if jump.isNone then .ready else .done, pending := jump } = L (if jump.isNone then .ready else .done) jump := by intro j; rw [hL]
    refine ⟨fn, _, assign, body, hy, roundIn_of_wpIn trivial (hassign _ x W _ ⟨W2, by rw [hW2]; exact hbr, wpIn_mono (hbody _ pre x W2 hG inv2) ?_⟩)⟩
    intro e a3 W3 hp
    have ends : ∀ jump : Option Code, KeepsOthers W2 W3 → (Instr.endRound (D + 1) jump).run P W3 = .ok (.bool jump.isNone) (W3.putObj (D + 1) (.loop (L (if jump.isNone then .ready else .done) jump))) ∧
        (W3.putObj (D + 1) (.loop (L (if jump.isNone then .ready else .done) jump))).heap[D + 1]? = some (.loop (L (if jump.isNone then .ready else .done) jump)) ∧
        (W3.putObj (D + 1) (.loop (L (if jump.isNone then .ready else .done) jump))).heap[D]? = some (.deferred (some [])) ∧ (∃ o0 : Obj, W3.heap[D + 1]? = some o0 ∧ o0.isCells = false) := by
      intro jump k3
      have r3 := k3.same _ _ rec2 rfl
      have he := run_endRound (P := P) jump r3
      rw [eEnd] at he
      exact ⟨he, World.putObj_heap_same (Array.getElem?_eq_some_iff.1 r3).1, (World.putObj_heap_other (by omega)).trans (k3.same _ _ mark2 rfl), _, r3, rfl⟩
    cases e with
    | normal =>
      obtain ⟨k3, b3, j3⟩ := hp
      obtain ⟨q1, q2, q3, q4⟩ := ends none k3
      exact ⟨_, _, q1, .inl ⟨rfl, ⟨hIp _ _ _ _ (by omega) q4 j3, q2, q3⟩, (World.putObj_heap_other (by omega)).trans (b3.trans cell2)⟩⟩
    | ret =>
      obtain ⟨k3, j3⟩ := hp
      obtain ⟨q1, q2, q3, q4⟩ := ends (some .ret) k3
      exact ⟨_, _, q1, .inr ⟨rfl, hXp _ _ _ _ (by omega) q4 j3, q2, q3⟩⟩
    | exit id => exact hp.elim
    | goto t => exact hp.elim
    | panic ch => exact hp.elim
    | outgrown => exact hp.elim
  · rintro e W2 ⟨⟨v, rfl⟩, (⟨xs, hS, i1, i2, i3⟩ | ⟨pre, rest, hS, i1, i2, i3⟩)⟩
    · have he := run_endLoop (P := P) i2 (by rw [hL]; simp)
      have ep : (L .ready none).pending = none := by rw [hL]
      rw [ep] at he
      exact ⟨none, _, he, hdone D xs _ (by omega) hS (hIp _ _ _ _ (by omega) ⟨_, i2, rfl⟩ i1) ((World.putObj_heap_other (by omega)).trans i3)⟩
    · have he := run_endLoop (P := P) i2 (by rw [hL]; simp)
      have ep : (L .done (some .ret)).pending = some .ret := by rw [hL]
      rw [ep] at he
      exact ⟨some .ret, _, he, hstop D pre rest _ (by omega) hS (hXp _ _ _ _ (by omega) ⟨_, i2, rfl⟩ i1) ((World.putObj_heap_other (by omega)).trans i3)⟩
/-- append(s, x...) onto a slice that is owned, in a round. -/
theorem wpListIn_app {F : Fence} {N : Nat} {P : Program} {W : World} {ops : Array Oper} {rest : List Oper} {o : Oper} {a : Act} {Q : Exit → Act → World → Prop} (hgd : o.guard = none) (s x : Operand) (t : TypeId)
    (ho : o.op = .call { callee := .builtin .append, args := #[s, x], argTypes := #[t, t] })
    {e : TypeId} {z : Value} {size bytes : Nat} (ht : SliceTy P t e z size bytes)
    {v : Value} {n : Nat} {xs : List Value} (hown : Own W e size v n xs) (hs : a.eval s = v) {ad : Addr} {m cap : Nat} {news : List Value} (hsrc : Sees W size (.slice (some ad) m cap) m news) (hx : a.eval x = .slice (some ad) m cap)
    (h1 : ∀ u ∈ news, u.oneCell' = true) (hb : (n + m) * bytes ≤ 140737488355328) (h63 : n + m ≤ 9223372036854775807)
    (h : ∀ v' W', Own W' e size v' (n + m) (xs ++ news) → Chg v.ownBlock.toList W W' → (∀ k ∈ v'.ownBlock.toList, k ∈ v.ownBlock.toList ∨ W.heap.size ≤ k) → wpListIn F N P ops Q rest (a.put o.dst v') W') : wpListIn F N P ops Q (o :: rest) a W := by
  obtain ⟨ht1, ht2, ht3, ht4⟩ := ht
  obtain ⟨i, hi, hz0, rfl, rfl⟩ := info_parts ht2
  obtain ⟨hl, ao, cap', hv, hc, hno, hcells⟩ := hsrc
  simp only [Value.slice.injEq, true_and] at hv
  obtain ⟨rfl, rfl⟩ := hv
  refine wpListIn_plain hgd fun K hK => ?_
  obtain ⟨v', w', hr, h2, h3, h4⟩ := run_app (P := P) W t o.type e i z ht1 hi hz0 ht3 v n xs hown ad m cap news hl (hcells ad rfl) h1 h63 hb
  unfold Oper.wpIn
  refine ⟨?_, ?_⟩
  · simp [Oper.about, ho, resolve, Target.leads, Sem.run_pure]
  · rw [Oper.semAt_plain F _ _ (by rw [ho]; intro c hc'; cases hc')]
    simp [execOp, ho, resolve, invoke, builtin, hs, hx, hr, Result.andThen]
    exact hK _ _ (h v' w' h2 h3 h4)
end Go.Aq
