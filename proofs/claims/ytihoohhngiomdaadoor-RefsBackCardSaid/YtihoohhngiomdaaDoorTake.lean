/- A region that draws its order and holds calls that make memory: what yields one value in every later world is taken first, calls too; what is left comes up one by one. (Derived.OrdersHeld's law, said of all worlds in which nothing that was there has turned.) No statement of the seat is proved here. -/
import Derived.Test.YtihoohhngiomdaaDoorBase
import Derived.OrdersHeld
set_option linter.unusedVariables false
namespace Go.Aq
open Go.RowKit
section
variable {P : Program} {ops : Array Oper} {Q : Exit → Act → World → Prop} {md : Region.Mode}
/-- In a world w1 the operation yields v, and leaves a later world. -/
def yieldsAt (P : Program) (w1 : World) (v : Value) : Result Next → Prop
  | .ok (.value u) w' => w' = w1 ∧ u = v
  | .ok (.enter f args) w' => w' = w1 ∧ Calls P f args w1 (fun e w'' => e = .returned v ∧ Chg [] w1 w'')
  | _ => False
def YieldsT (P : Program) (ops : Array Oper) (o : Oper) (v : Value) (a : Act) (w : World) : Prop :=
  (Region.wanted o (yielded ops a.tmps) = true ∧ ∀ w1, Chg [] w w1 → yieldsAt P w1 v ((execOp a.eval o).run P w1)) ∨
  (Region.wanted o (yielded ops a.tmps) = false ∧ v = undef)
theorem YieldsT.mono {o : Oper} {v : Value} {a : Act} {w w' : World} (h : YieldsT P ops o v a w) (c : Chg [] w w') : YieldsT P ops o v a w' :=
  h.imp (fun ⟨h1, h2⟩ => ⟨h1, fun w1 c1 => h2 w1 (c.nil c1)⟩) id
theorem YieldsT.of_same {o : Oper} {v : Value} {a a' : Act} {w : World} (hy : YieldsT P ops o v a w) (he : execOp a'.eval o = execOp a.eval o)
    (hw : Region.wanted o (yielded ops a'.tmps) = Region.wanted o (yielded ops a.tmps)) : YieldsT P ops o v a' w := by
  unfold YieldsT at *
  rw [he, hw]
  exact hy
theorem YieldsT.wpOp {i : Nat} {o : Oper} {v : Value} {a : Act} {w w1 : World} (hi : ops[i]? = some o) (hy : YieldsT P ops o v a w) (c1 : Chg [] w w1)
    {K : Act → World → Prop} (h : ∀ w', Chg [] w1 w' → K (a.put o.dst v) w') : wpOp P ops Q i K a w1 := by
  unfold Go.wpOp
  simp only [hi]
  rcases hy with ⟨hw, hv⟩ | ⟨hw, rfl⟩
  · simp only [hw, if_true]
    refine .inl ?_
    have h3 := hv w1 c1
    unfold Oper.wp
    generalize (execOp a.eval o).run P w1 = r at *
    cases r with
    | ok n w' =>
      cases n <;> simp only [yieldsAt] at h3 <;> simp only [Oper.upon]
      case value u =>
        obtain ⟨e1, e2⟩ := h3
        rw [e1, e2]
        exact h _ (Chg.refl _ _)
      case enter f args =>
        obtain ⟨e1, hc⟩ := h3
        rw [e1]
        exact hc.mono fun e w'' ⟨he, hw''⟩ => by subst he; exact h _ hw''
    | halt x w' => simp only [yieldsAt] at h3
  · simp only [hw, Bool.false_eq_true, if_false]; exact h _ (Chg.refl _ _)
theorem wpOp_putT {j : Nat} {oi oj : Oper} {v : Value} {w0 : World} (hj : ops[j]? = some oj) (hap : oi.apart ops oj = true)
    (hsi : ∀ cs b, oi.op ≠ .select cs b) (hsj : ∀ cs b, oj.op ≠ .select cs b)
    (hQ : ∀ c a w, Q (.panic c) (a.put oi.dst v) w → Q (.panic c) a w) {K : Act → World → Prop} {a : Act} {w : World}
    (hy : YieldsT P ops oi v a w0) (h : wpOp P ops Q j K (a.put oi.dst v) w) :
    wpOp P ops Q j (fun a' w' => YieldsT P ops oi v a' w0 ∧ K (a'.put oi.dst v) w') a w := by
  obtain ⟨h1, h2, h3⟩ := Oper.apart_spec hap
  have keep : ∀ (a : Act), YieldsT P ops oi v a w0 → ∀ u, YieldsT P ops oi v (a.put oj.dst u) w0 := fun a hy u =>
    hy.of_same (execOp_put oi hsi a oj.dst u h3) (wanted_put oi a oj.dst u h3)
  have keepD : ∀ d, YieldsT P ops oi v { a with defers := d :: a.defers } w0 := fun d => hy.of_same rfl rfl
  unfold wpOp at *
  simp only [hj] at *
  rw [wanted_put oj a oi.dst v h1] at h
  split
  · rename_i hw
    simp only [hw, if_true] at h
    rcases h with h | ⟨hasks, hlets⟩
    case inr => exact .inr ⟨by unfold Oper.asks at *; rw [execOp_put oj hsj a oi.dst v h1] at hasks; exact hasks, hlets⟩
    refine .inl ?_
    unfold Oper.wp at *
    rw [execOp_put oj hsj a oi.dst v h1] at h
    generalize (execOp a.eval oj).run P w = r at *
    cases r with
    | ok n w' =>
      cases n <;> simp only [Oper.upon] at h ⊢
      case value u => exact ⟨keep a hy u, by rw [← Act.put_comm a v u h2]; exact h⟩
      case skip => exact ⟨keep a hy _, by rw [← Act.put_comm a v undef h2]; exact h⟩
      case defer d =>
        refine ⟨keep _ (keepD d) _, ?_⟩
        rw [← Act.put_comm _ v undef h2, ← Act.put_defers]
        exact h
      case enter f args =>
        refine Calls.mono h fun e w'' he => ?_
        cases e with
        | returned u => exact ⟨keep a hy u, by rw [← Act.put_comm a v u h2]; exact he⟩
        | panicked c => exact hQ _ _ _ he
        | outgrown => exact he
      case row row args => exact Rows.mono h fun u w'' he => ⟨keep a hy u, by rw [← Act.put_comm a v u h2]; exact he⟩
    | halt x w' =>
      cases x <;> simp only [Oper.upon] at h ⊢
      case panic u => exact hQ _ _ _ h
  · rename_i hw
    simp only [hw] at h
    exact ⟨keep a hy _, by rw [← Act.put_comm a v undef h2]; exact h⟩
/-- Whatever order is picked from here on, from every later world; each operation leaves a later world. -/
def wpAnyT (P : Program) (md : Region.Mode) (ops : Array Oper) (Q : Exit → Act → World → Prop) : Nat → Array Bool → Act → World → Prop
  | 0, listed, a, w => Region.ready md ops listed = [] ∧ ∀ w1, Chg [] w w1 → Q .normal a w1
  | fuel + 1, listed, a, w => ∀ w1, Chg [] w w1 → (Region.ready md ops listed = [] → Q .normal a w1) ∧
    ∀ i ∈ Region.ready md ops listed, wpOp P ops Q i (fun a' w' => Chg [] w1 w' ∧ wpAnyT P md ops Q fuel (listed.setIfInBounds i true) a' w') a w1
theorem wpAnyT.mono {fuel : Nat} {listed : Array Bool} {a : Act} {w w' : World} (h : wpAnyT P md ops Q fuel listed a w) (c : Chg [] w w') : wpAnyT P md ops Q fuel listed a w' := by
  cases fuel with
  | zero => exact ⟨h.1, fun w1 c1 => h.2 w1 (c.nil c1)⟩
  | succ n => exact fun w1 c1 => h w1 (c.nil c1)
theorem wpAny_of_T : ∀ (fuel : Nat) (listed : Array Bool) (a : Act) (w : World), wpAnyT P md ops Q fuel listed a w → wpAny P md ops Q fuel listed a w
  | 0, _, _, w, h => ⟨h.1, h.2 w (Chg.refl _ _)⟩
  | fuel + 1, _, _, w, h => ⟨(h w (Chg.refl _ _)).1, fun i hi => wpOp_mono (fun a' w' h' => wpAny_of_T fuel _ a' w' h'.2) ((h w (Chg.refl _ _)).2 i hi)⟩
theorem wpAnyT_first {i : Nat} {oi : Oper} {v : Value} (hi : ops[i]? = some oi) (hsel : ∀ (j : Nat) (o : Oper) cs b, ops[j]? = some o → o.op ≠ .select cs b)
    (hQ : ∀ c a w, Q (.panic c) (a.put oi.dst v) w → Q (.panic c) a w) :
    ∀ (fuel : Nat) (listed : Array Bool) (a : Act) (w : World),
      (∀ j oj, ops[j]? = some oj → j ≠ i → listed.getD j true = false → (∀ e ∈ oj.after, Region.binds md e = true → e.on ≠ i) → oi.apart ops oj = true) →
      i ∈ Region.ready md ops listed → YieldsT P ops oi v a w →
      wpAnyT P md ops Q fuel (listed.setIfInBounds i true) (a.put oi.dst v) w → wpAnyT P md ops Q (fuel + 1) listed a w := by
  intro fuel
  induction fuel with
  | zero =>
    intro listed a w _ hr hy H w1 c1
    refine ⟨fun h => (by rw [h] at hr; cases hr), fun j hj => ?_⟩
    by_cases hji : j = i
    · subst hji; exact hy.wpOp hi c1 fun w' c' => ⟨c', H.mono (c1.nil c')⟩
    · have := ready_mono hj hji
      rw [H.1] at this
      cases this
  | succ fuel ih =>
    intro listed a w hfree hr hy H w1 c1
    refine ⟨fun h => (by rw [h] at hr; cases hr), fun j hj => ?_⟩
    by_cases hji : j = i
    · subst hji; exact hy.wpOp hi c1 fun w' c' => ⟨c', H.mono (c1.nil c')⟩
    · have h1 := (H w1 c1).2 j (ready_mono hj hji)
      obtain ⟨hjun, oj, hoj, hall⟩ := mem_ready.1 hj
      have hnot : ∀ e ∈ oj.after, Region.binds md e = true → e.on ≠ i := fun e he hb heq => by
        have h1 := hall e he hb
        have h0 := (mem_ready.1 hr).1
        rw [heq] at h1
        rcases Nat.lt_or_ge i listed.size with h' | h'
        · simp [h'] at h0 h1; rw [h0] at h1; cases h1
        · simp [Array.getElem?_eq_none h'] at h1
      have h2 := wpOp_putT hoj (hfree j oj hoj hji hjun hnot) (fun cs b => hsel i oi cs b hi) (fun cs b => hsel j oj cs b hoj) hQ hy h1
      have hfree' : ∀ k ok, ops[k]? = some ok → k ≠ i → (listed.setIfInBounds j true).getD k true = false →
          (∀ e ∈ ok.after, Region.binds md e = true → e.on ≠ i) → oi.apart ops ok = true := fun k ok hk hki hun hno => by
        refine hfree k ok hk hki ?_ hno
        by_cases hjk : j = k
        · subst hjk; exact hjun
        · rw [getD_set_ne true hjk] at hun; exact hun
      refine wpOp_mono (fun a' w' h3 => ⟨h3.2.1, ih (listed.setIfInBounds j true) a' w' hfree' (ready_mono hr (Ne.symm hji)) (h3.1.mono (c1.nil h3.2.1)) ?_⟩) h2
      rw [Array.setIfInBounds_comm _ _ hji]
      exact h3.2.2
/-- Number i is taken first: no call. -/
theorem wpAnyT_take (i : Nat) {oi : Oper} {v : Value} {fuel : Nat} {listed : Array Bool} {a : Act} {w : World} (hi : ops[i]? = some oi)
    (hs : Region.noSelect ops = true) (hf : Region.free md ops listed i = true) (hr : (Region.ready md ops listed).contains i = true)
    (hQ : ∀ c a w, Q (.panic c) (a.put oi.dst v) w → Q (.panic c) a w) (hw : Region.wanted oi (yielded ops a.tmps) = true)
    (hy : ∀ w1, Chg [] w w1 → (execOp a.eval oi).run P w1 = .ok (.value v) w1)
    (h : wpAnyT P md ops Q fuel (listed.setIfInBounds i true) (a.put oi.dst v) w) : wpAnyT P md ops Q (fuel + 1) listed a w :=
  wpAnyT_first hi (Region.noSelect_spec hs) hQ fuel listed a w (Region.free_spec hi hf) (by simpa using hr)
    (.inl ⟨hw, fun w1 c1 => by rw [hy w1 c1]; exact ⟨rfl, rfl⟩⟩) h
/-- Number i is taken first: a call. -/
theorem wpAnyT_call (i : Nat) {oi : Oper} {f : FuncId} {args : Array Value} {v : Value} {fuel : Nat} {listed : Array Bool} {a : Act} {w : World} (hi : ops[i]? = some oi)
    (hs : Region.noSelect ops = true) (hf : Region.free md ops listed i = true) (hr : (Region.ready md ops listed).contains i = true)
    (hQ : ∀ c a w, Q (.panic c) (a.put oi.dst v) w → Q (.panic c) a w) (hw : Region.wanted oi (yielded ops a.tmps) = true)
    (hy : ∀ w1, Chg [] w w1 → (execOp a.eval oi).run P w1 = .ok (.enter f args) w1)
    (hc : ∀ w1, Chg [] w w1 → Calls P f args w1 (fun e w'' => e = .returned v ∧ Chg [] w1 w''))
    (h : wpAnyT P md ops Q fuel (listed.setIfInBounds i true) (a.put oi.dst v) w) : wpAnyT P md ops Q (fuel + 1) listed a w :=
  wpAnyT_first hi (Region.noSelect_spec hs) hQ fuel listed a w (Region.free_spec hi hf) (by simpa using hr)
    (.inl ⟨hw, fun w1 c1 => by rw [hy w1 c1]; exact ⟨rfl, hc w1 c1⟩⟩) h
/-- One alone may come up. -/
theorem wpAnyT_only (i : Nat) {oi : Oper} {fuel : Nat} {listed : Array Bool} {a : Act} {w : World} (hi : ops[i]? = some oi) (hr : Region.ready md ops listed = [i])
    (hw : Region.wanted oi (yielded ops a.tmps) = true)
    (h : ∀ w1, Chg [] w w1 → oi.wp P a w1 (fun a' w' => Chg [] w1 w' ∧ wpAnyT P md ops Q fuel (listed.setIfInBounds i true) a' w') Q) : wpAnyT P md ops Q (fuel + 1) listed a w := by
  intro w1 c1
  refine ⟨fun h0 => (by rw [hr] at h0; cases h0), fun j hj => ?_⟩
  rw [hr] at hj
  simp only [List.mem_singleton] at hj
  subst hj
  unfold wpOp
  simp only [hi, hw, if_true]
  exact .inl (h w1 c1)
theorem wpAnyT_done {listed : Array Bool} {a : Act} {w : World} (hr : Region.ready md ops listed = []) (h : ∀ w1, Chg [] w w1 → Q .normal a w1) : ∀ fuel, wpAnyT P md ops Q fuel listed a w
  | 0 => ⟨hr, h⟩
  | _ + 1 => fun w1 c1 => ⟨fun _ => h w1 c1, by rw [hr]; simp⟩
theorem wp_region_T {id : Nat} {a : Act} {w : World} (hm : P.follows .mixedOrders = true)
    (h : wpAnyT P .any ops Q ops.size (Array.replicate ops.size false) a w) : (Code.region id ops true).wp P Q a w :=
  wp_region_any hm (wpAny_of_T _ _ _ _ (h.mono (Chg.refl [] w).drew))
end
end Go.Aq
