/- Laws for arrays and structs loaded and stored whole, in the words of Base. No statement of the seat is proved here. -/
import Derived.Test.YtihoohhngiomdaaGreatDoorBase
import Derived.Laws.Rows
namespace Go.Aq
open Go.RowKit
/-- What a program's tables say of an array's or struct's type of n cells. -/
def ArrTy (P : Program) (ty : TypeId) (n : Nat) : Prop := (∃ d, P.underlying ty = some d ∧ (match d with | .struct _ | .array _ _ => true | _ => false) = true) ∧ (P.info? ty).map (·.size) = some n
theorem wpList_ldA {P : Program} {ops : Array Oper} {rest : List Oper} {o : Oper} {a : Act} {w : World} {Q : Exit → Act → World → Prop} (hgd : o.guard = none) (ty : TypeId) (x : Operand) (ho : o.op = .load ty x)
    {g : Nat} {cs : Array Value} {e : TypeId} (hb : Blk w g cs e) (ht : ArrTy P ty cs.size) (hx : a.eval x = .pointer (some ⟨g, 0, none⟩))
    (h : wpList P ops Q rest (a.put o.dst (.agg cs)) w) : wpList P ops Q (o :: rest) a w := by
  obtain ⟨⟨d, h1, h2⟩, h3⟩ := ht
  exact wpList_load_row hgd ty x ho g hx e cs (0, 0) d hb h1 (by cases d <;> simp_all) h3 h
theorem wpList_stA {P : Program} {ops : Array Oper} {rest : List Oper} {o : Oper} {a : Act} {w : World} {Q : Exit → Act → World → Prop} (hgd : o.guard = none) (ty : TypeId) (x y : Operand) (ho : o.op = .store ty x y)
    {g : Nat} {old cs : Array Value} {e : TypeId} (hb : Blk w g old e) (ht : ArrTy P ty cs.size) (hs : old.size = cs.size) (h1 : ∀ v ∈ cs.toList, v.oneCell' = true) (hx : a.eval x = .pointer (some ⟨g, 0, none⟩)) (hy : a.eval y = .agg cs)
    (h : ∀ w', Blk w' g cs e → Chg [g] w w' → w'.heap.size = w.heap.size → wpList P ops Q rest (a.put o.dst undef) w') : wpList P ops Q (o :: rest) a w := by
  obtain ⟨-, h3⟩ := ht
  refine wpList_store_row hgd ty x y ho g cs hx hy e old hb h3 hs (Array.all_eq_true_iff_forall_mem.2 fun v hv => h1 v (by simpa using hv)) ?_
  exact h _ (setRow_heap w g old cs e _ hb) ⟨rfl, rfl, rfl, by simp, fun k _ hk => setRow_other w g k cs (fun e => hk (by simp [e]))⟩ (by simp)
theorem results_A {P : Program} {fn : Func} {p : Tmp} {ty : TypeId} (h : fn.results = #[.cell p ty]) (tmps : Array Value) (w : World) {g : Nat} {e : TypeId} {cs : Array Value}
    (hb : Blk w g cs e) (ht : ArrTy P ty cs.size) (hp : tmps.getD p undef = .pointer (some ⟨g, 0, none⟩)) : (results fn tmps).run P w = .ok (.agg cs) w := by
  obtain ⟨⟨d, h1, h2⟩, h3⟩ := ht
  exact results_cell_row h tmps w g e cs (0, 0) d hp hb h1 (by cases d <;> simp_all) h3
/-- One-cell elements in a block of their own. -/
theorem Sees.row {W : World} {k : Nat} {cs : Array Value} {e : TypeId} {m : Nat} (h : Blk W k cs e) (hm : cs.size = m) : Sees W 1 (.slice (some ⟨k, 0, none⟩) m m) m cs.toList := by
  subst hm
  refine ⟨by simp, _, _, rfl, Nat.le_refl _, by simp, fun ad had j u hu => ?_⟩
  cases had
  rw [Addr.add_lit, Nat.zero_add, h.cell]
  simpa using hu

/-- A slice that was made since w, and nothing else has turned. -/
structure Fresh (w wr : World) (e : TypeId) (size : Nat) (v : Value) (n : Nat) (xs : List Value) : Prop where
  own : Own wr e size v n xs
  chg : Chg [] w wr
  new : ∀ k ∈ v.ownBlock.toList, w.heap.size ≤ k
theorem Fresh.nil (w : World) (e : TypeId) (size : Nat) : Fresh w w e size (.slice none 0 0) 0 [] := ⟨Own.nil w e size, Chg.refl _ _, by simp [Value.ownBlock]⟩
theorem Fresh.to {w wr w' : World} {e : TypeId} {size : Nat} {v : Value} {n : Nat} {xs : List Value} (h : Fresh w wr e size v n xs) (c : Chg [] wr w') : Fresh w w' e size v n xs :=
  ⟨h.own.chg c (fun _ _ => by simp), h.chg.trans c (by simp), h.new⟩
theorem Fresh.app {w wr w' : World} {e : TypeId} {size : Nat} {v v' : Value} {n n' : Nat} {xs xs' : List Value} (h : Fresh w wr e size v n xs) (ho : Own w' e size v' n' xs') (hc : Chg v.ownBlock.toList wr w')
    (hn : ∀ k ∈ v'.ownBlock.toList, k ∈ v.ownBlock.toList ∨ wr.heap.size ≤ k) : Fresh w w' e size v' n' xs' :=
  ⟨ho, h.chg.trans hc (fun i hi => .inr (h.new i hi)), fun k hk => by
    rcases hn k hk with h1 | h1
    · exact h.new k h1
    · exact Nat.le_trans h.chg.size h1⟩
theorem wpList_appF {P : Program} {w0 W : World} {ops : Array Oper} {rest : List Oper} {o : Oper} {a : Act} {Q : Exit → Act → World → Prop} (hgd : o.guard = none) (s x : Operand) (t : TypeId)
    (ho : o.op = .call { callee := .builtin .append, args := #[s, x], argTypes := #[t, t] })
    {e : TypeId} {z : Value} {size bytes : Nat} (ht : SliceTy P t e z size bytes)
    {v : Value} {n : Nat} {xs : List Value} (hf : Fresh w0 W e size v n xs) (hs : a.eval s = v) {vx : Value} {m : Nat} {news : List Value} (hsrc : Sees W size vx m news) (hx : a.eval x = vx)
    (h1 : ∀ u ∈ news, u.oneCell' = true) (hb : (n + m) * bytes ≤ 140737488355328) (h63 : n + m ≤ 9223372036854775807)
    (h : ∀ v' W', Fresh w0 W' e size v' (n + m) (xs ++ news) → Chg v.ownBlock.toList W W' → wpList P ops Q rest (a.put o.dst v') W') : wpList P ops Q (o :: rest) a W :=
  wpList_app hgd s x t ho ht hf.own hs hsrc hx h1 hb h63 fun v' W' h2 h3 h4 => h v' W' (hf.app h2 h3 h4) h3
theorem step_appF {P : Program} {w0 W : World} {ops : Array Oper} {o : Oper} {a : Act} {K : Act → World → Prop} {Q : Exit → Act → World → Prop} {E : Prop} (hgd : o.guard = none) (s x : Operand) (t : TypeId)
    (ho : o.op = .call { callee := .builtin .append, args := #[s, x], argTypes := #[t, t] })
    {e : TypeId} {z : Value} {size bytes : Nat} (ht : SliceTy P t e z size bytes)
    {v : Value} {n : Nat} {xs : List Value} (hf : Fresh w0 W e size v n xs) (hs : a.eval s = v) {vx : Value} {m : Nat} {news : List Value} (hsrc : Sees W size vx m news) (hx : a.eval x = vx)
    (h1 : ∀ u ∈ news, u.oneCell' = true) (hb : (n + m) * bytes ≤ 140737488355328) (h63 : n + m ≤ 9223372036854775807)
    (h : ∀ v' W', Fresh w0 W' e size v' (n + m) (xs ++ news) → Chg v.ownBlock.toList W W' → K (a.put o.dst v') W') :
    if Region.wanted o (yielded ops a.tmps) = true then Oper.wp P o a W K Q else E :=
  step_app hgd s x t ho ht hf.own hs hsrc hx h1 hb h63 fun v' W' h2 h3 h4 => h v' W' (hf.app h2 h3 h4) h3
theorem Fresh.shape {w wr : World} {e : TypeId} {size : Nat} {v : Value} {n : Nat} {xs : List Value} (h : Fresh w wr e size v n xs) : ∃ ao cap, v = .slice ao n cap ∧ n ≤ cap := by
  obtain ⟨ao, cap, h1, h2, -⟩ := h.own.sees.shape
  exact ⟨ao, cap, h1, h2⟩
end Go.Aq
