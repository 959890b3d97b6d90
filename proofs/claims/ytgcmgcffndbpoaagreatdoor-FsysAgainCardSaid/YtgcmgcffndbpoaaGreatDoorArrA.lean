/- Map, Arr, AppZ in one text. No statement of the seat is proved here. -/
import Derived.Test.YtgcmgcffndbpoaaGreatDoorBase
import Derived.Maps.Own
import Derived.Maps.OwnOps
import Derived.Laws.Rows
import Derived.Lib.AppendZerosOnto
import Derived.Lib.AppendZeros

/- Maps in memory as functions from keys to values, and what a lookup and a store do to them. No statement of the seat is proved here. -/
namespace Go.Aq
open Go.RowKit Go.Maps

/-- A value that can be a key of type k. -/
def GoodKey (P : Program) (k : TypeId) (v : Value) : Prop := ∃ l, keyOf P k v = some l

/-- Block b is a map from keys of type k that holds what f says. -/
def MapF (P : Program) (k : TypeId) (w : World) (b : Nat) (f : Value → Option Value) : Prop :=
  ∃ es clock, w.heap[b]? = some (.map es clock) ∧ (es.toList.map (·.key)).Nodup ∧ (∀ e ∈ es.toList, GoodKey P k e.key ∧ f e.key = some e.val) ∧ ∀ key v, f key = some v → ∃ e ∈ es.toList, e.key = key

theorem run_obj {P : Program} {w : World} {r : Nat} {es : Array MapEntry} {c : Nat} (h : w.heap[r]? = some (.map es c)) : (getObj r).run P w = .ok (.map es c) w := by
  simp [getObj, Sem.run, h]
theorem run_setMap {P : Program} {w : World} {r : Nat} {es : Array MapEntry} {c : Nat} (h : w.heap[r]? = some (.map es c)) (o : Obj) : (setObj r o).run P w = .ok () (ChangeMaps.setBlock w r o) := by
  simp [setObj, Sem.run, h, ChangeMaps.setBlock]
theorem nodup_get {α β : Type} {g : α → β} {l : List α} (h : (l.map g).Nodup) {i j : Nat} {x y : α} (hi : l[i]? = some x) (hj : l[j]? = some y) (hxy : g x = g y) : i = j := by
  have h1 : (l.map g)[i]? = some (g x) := by simp [hi]
  have h2 : (l.map g)[j]? = some (g y) := by simp [hj]
  obtain ⟨hi', e1⟩ := List.getElem?_eq_some_iff.1 h1
  obtain ⟨hj', e2⟩ := List.getElem?_eq_some_iff.1 h2
  exact (List.getElem_inj h).1 (by rw [e1, e2, hxy])

theorem MapF.lt {P : Program} {k : TypeId} {w : World} {b : Nat} {f : Value → Option Value} (h : MapF P k w b f) : b < w.heap.size := by
  obtain ⟨es, clock, h1, _⟩ := h
  exact (Array.getElem?_eq_some_iff.1 h1).1
theorem MapF.chg {P : Program} {k : TypeId} {w w' : World} {b : Nat} {f : Value → Option Value} {S : List Nat} (h : MapF P k w b f) (c : Chg S w w') (hb : b ∉ S) : MapF P k w' b f := by
  have hl := h.lt
  obtain ⟨es, clock, h1, h2⟩ := h
  exact ⟨es, clock, by rw [c.block b hl hb]; exact h1, h2⟩
theorem MapF.new (P : Program) (k : TypeId) (w : World) : MapF P k (w.alloc (.map #[] 0)) w.heap.size fun _ => none :=
  ⟨#[], 0, heap_alloc_new w _, by simp, by simp, by simp⟩
theorem MapF.blk {P : Program} {k : TypeId} {w : World} {b p : Nat} {f : Value → Option Value} {cs : Array Value} {e : TypeId} (h : MapF P k w b f) (hb : Blk w p cs e) : b ≠ p := by
  rintro rfl
  obtain ⟨es, clock, h1, _⟩ := h
  unfold Blk at hb
  rw [h1] at hb
  simp at hb
theorem MapF.own {P : Program} {k : TypeId} {w : World} {b : Nat} {f : Value → Option Value} {e : TypeId} {size : Nat} {v : Value} {n : Nat} {xs : List Value} (h : MapF P k w b f) (ho : Own w e size v n xs) : b ∉ v.ownBlock.toList := by
  intro hb
  rcases ho.2 with ⟨rfl, _⟩ | ⟨g, cap, cur, rfl, _, hg, _⟩
  · simp [Value.ownBlock] at hb
  · simp [Value.ownBlock] at hb
    subst hb
    obtain ⟨es, clock, h1, _⟩ := h
    rw [h1] at hg
    simp at hg

theorem MapF.find {P : Program} {k : TypeId} (K : Keyed P k) {f : Value → Option Value} {es : Array MapEntry} {key : Value} (hkey : GoodKey P k key)
    (h2 : ∀ e ∈ es.toList, GoodKey P k e.key ∧ f e.key = some e.val) (h3 : ∀ key v, f key = some v → ∃ e ∈ es.toList, e.key = key) (w : World) :
    (f key = none ∧ (Instr.findKey k key es.toList).run P w = .ok none w) ∨ ∃ j e, f key = some e.val ∧ e.key = key ∧ es.toList[j]? = some e ∧ (Instr.findKey k key es.toList).run P w = .ok (some (j, e.val)) w := by
  obtain ⟨l, hl⟩ := hkey
  rcases K.find w hl es.toList (fun e he => (h2 e he).1) with ⟨h4, h5⟩ | ⟨j, e, h4, h5, h6⟩
  · left
    refine ⟨?_, h4⟩
    cases hf : f key with
    | none => rfl
    | some v => obtain ⟨e, he, hk⟩ := h3 key v hf; exact absurd hk (h5 e he)
  · right
    have hm : e ∈ es.toList := List.mem_of_getElem? h5
    exact ⟨j, e, by rw [← h6]; exact (h2 e hm).2, h6, h5, h4⟩

/-- What a lookup answers. -/
theorem MapF.look {P : Program} {t k e : TypeId} {w : World} {b : Nat} {f : Value → Option Value} (h : MapF P k w b f) (K : Keyed P k) (ht : P.underlying t = some (.map k e)) {z : Value} (hz : (zeroValue e).run P w = .ok z w) {key : Value} (hkey : GoodKey P k key) :
    (Instr.lookup t (.map (some b)) key false).run P w = .ok ((f key).getD z) w ∧ (Instr.lookup t (.map (some b)) key true).run P w = .ok (.tuple #[(f key).getD z, .bool (f key).isSome]) w := by
  obtain ⟨es, clock, h1, hnd, h2, h3⟩ := h
  have hc : ∀ em, (Instr.checkKey em 10000 k key).run P w = .ok () w := fun em => by obtain ⟨l, hl⟩ := hkey; exact K.check w em hl
  rcases MapF.find K hkey h2 h3 w with ⟨h4, h5⟩ | ⟨j, e0, h4, _, _, h5⟩
  · constructor <;> simp [Instr.lookup, run_underlying ht, run_obj h1, hc, h5, h4, hz]
  · constructor <;> simp [Instr.lookup, run_underlying ht, run_obj h1, hc, h5, h4]

open Classical in
/-- f with key turned to v. -/
noncomputable def updF (f : Value → Option Value) (key v : Value) : Value → Option Value := fun x => if x = key then some v else f x

/-- What a store does. -/
theorem MapF.put {P : Program} {t k e : TypeId} {w : World} {b : Nat} {f : Value → Option Value} (h : MapF P k w b f) (K : Keyed P k) (ht : P.underlying t = some (.map k e)) {key v : Value} (hkey : GoodKey P k key) :
    ∃ w', (Instr.mapUpdate t (.map (some b)) key v).run P w = .ok () w' ∧ MapF P k w' b (updF f key v) ∧ Chg [b] w w' := by
  have hlt := h.lt
  obtain ⟨es, clock, h1, hnd, h2, h3⟩ := h
  have hc : ∀ em, (Instr.checkKey em 10000 k key).run P w = .ok () w := fun em => by obtain ⟨l, hl⟩ := hkey; exact K.check w em hl
  have hs : (Instr.keyThatStays key key).run P w = .ok key w := by obtain ⟨l, hl⟩ := hkey; exact K.stays w hl
  have chg : ∀ o, Chg [b] w (ChangeMaps.setBlock w b o) := fun o => ⟨rfl, rfl, rfl, by simp [ChangeMaps.setBlock], fun k _ hk => by
    have hne : b ≠ k := fun e => hk (by simp [e])
    simp [ChangeMaps.setBlock, hne]⟩
  have at_ : ∀ o, (ChangeMaps.setBlock w b o).heap[b]? = some o := fun o => by
    simp [ChangeMaps.setBlock, hlt]
  rcases MapF.find K hkey h2 h3 w with ⟨h4, h5⟩ | ⟨j, e0, h4, h6, h7, h5⟩
  · refine ⟨_, by simp [Instr.mapUpdate, run_underlying ht, run_obj h1, hc, h5, run_setMap h1]; rfl, ⟨_, _, at_ _, ?_, ?_, ?_⟩, chg _⟩
    · simp only [Array.toList_push, List.map_append, List.map_cons, List.map_nil]
      rw [List.nodup_append]
      refine ⟨hnd, by simp, ?_⟩
      intro x hx y hy
      simp at hy
      subst hy
      obtain ⟨e, he, rfl⟩ := List.mem_map.1 hx
      rintro rfl
      have := (h2 e he).2
      rw [h4] at this
      simp at this
    · intro e he
      simp at he
      rcases he with he | rfl
      · have := h2 e (by simpa using he)
        refine ⟨this.1, ?_⟩
        have hne : e.key ≠ key := fun hk => by rw [hk, h4] at this; simp at this
        simp [updF, hne, this.2]
      · exact ⟨hkey, by simp [updF]⟩
    · intro x v' hx
      by_cases hxk : x = key
      · exact ⟨⟨key, v, clock⟩, by simp, hxk.symm⟩
      · simp [updF, hxk] at hx
        obtain ⟨e, he, hk⟩ := h3 x v' hx
        exact ⟨e, by simp at he ⊢; exact .inl he, hk⟩
  · have hj : j < es.size := by have := (List.getElem?_eq_some_iff.1 h7).1; simpa using this
    have hes : es[j]? = some e0 := by simpa using h7
    have hkeys : (es.modify j fun e => { e with key := key, val := v }).toList.map (·.key) = es.toList.map (·.key) := by
      apply List.ext_getElem?
      intro i
      rw [List.getElem?_map, List.getElem?_map, Array.getElem?_toList, Array.getElem?_toList, Array.getElem?_modify]
      split
      · rename_i hij
        subst hij
        rw [hes]
        simp [h6]
      · rfl
    refine ⟨_, by simp [Instr.mapUpdate, run_underlying ht, run_obj h1, hc, h5, hes, h6, hs, run_setMap h1]; rfl, ⟨_, _, at_ _, ?_, ?_, ?_⟩, chg _⟩
    · rw [hkeys]; exact hnd
    · intro e he
      obtain ⟨i, hi⟩ := List.getElem?_of_mem he
      rw [Array.getElem?_toList, Array.getElem?_modify] at hi
      split at hi
      · rename_i hij
        subst hij
        rw [hes] at hi
        simp at hi
        subst hi
        exact ⟨hkey, by simp [updF]⟩
      · rename_i hij
        have hi' : es.toList[i]? = some e := by rw [Array.getElem?_toList]; exact hi
        have hm : e ∈ es.toList := List.mem_of_getElem? hi'
        have hh := h2 e hm
        refine ⟨hh.1, ?_⟩
        have hek : e.key ≠ key := fun hk => hij (nodup_get hnd h7 hi' (by rw [h6, hk]))
        simp [updF, hek, hh.2]
    · intro x v' hx
      have hx' : ∃ e ∈ es.toList, e.key = x := by
        by_cases hxk : x = key
        · exact ⟨e0, List.mem_of_getElem? h7, by rw [h6, hxk]⟩
        · simp [updF, hxk] at hx
          exact h3 x v' hx
      obtain ⟨e, he, hk⟩ := hx'
      have : x ∈ (es.modify j fun e => { e with key := key, val := v }).toList.map (·.key) := by
        rw [hkeys]; exact List.mem_map.2 ⟨e, he, hk⟩
      obtain ⟨e', he', hk'⟩ := List.mem_map.1 this
      exact ⟨e', he', hk'⟩

/-- m[k] = v at the operation. -/
theorem wpList_put {P : Program} {w : World} {ops : Array Oper} {rest : List Oper} {o : Oper} {a : Act} {Q : Exit → Act → World → Prop} (hg : o.guard = none) (m x v : Operand) (t : TypeId) (hop : o.op = Op.mapUpdate t m x v)
    {k e : TypeId} (K : Keyed P k) (ht : P.underlying t = some (.map k e)) {b : Nat} {f : Value → Option Value} (h : MapF P k w b f) (hm : a.eval m = .map (some b)) {key val : Value} (hkey : GoodKey P k key) (hx : a.eval x = key) (hv : a.eval v = val)
    (hK : ∀ w', MapF P k w' b (updF f key val) → Chg [b] w w' → wpList P ops Q rest (a.put o.dst undef) w') : wpList P ops Q (o :: rest) a w := by
  refine wpList_plain hg fun K' hK' => ?_
  obtain ⟨w', hrun, r1, r2⟩ := h.put (v := val) K ht hkey
  unfold Oper.wp
  simp [execOp, hop, hm, hx, hv, hrun, Result.andThen]
  exact hK' _ _ (hK w' r1 r2)
/-- .. at a step of a region that draws its order. -/
theorem step_put {P : Program} {w : World} {ops : Array Oper} {o : Oper} {a : Act} {K : Act → World → Prop} {Q : Exit → Act → World → Prop} {E : Prop} (hg : o.guard = none) (m x v : Operand) (t : TypeId) (hop : o.op = Op.mapUpdate t m x v)
    {k e : TypeId} (KK : Keyed P k) (ht : P.underlying t = some (.map k e)) {b : Nat} {f : Value → Option Value} (h : MapF P k w b f) (hm : a.eval m = .map (some b)) {key val : Value} (hkey : GoodKey P k key) (hx : a.eval x = key) (hv : a.eval v = val)
    (hK : ∀ w', MapF P k w' b (updF f key val) → Chg [b] w w' → K (a.put o.dst undef) w') : if Region.wanted o (yielded ops a.tmps) = true then Oper.wp P o a w K Q else E := by
  have hw : Region.wanted o (yielded ops a.tmps) = true := by simp [Region.wanted, hg]
  rw [if_pos hw]
  obtain ⟨w', hrun, r1, r2⟩ := h.put (v := val) KK ht hkey
  unfold Oper.wp
  simp [execOp, hop, hm, hx, hv, hrun, Result.andThen]
  exact hK w' r1 r2
end Go.Aq

/- Laws for arrays and structs loaded and stored whole, in the words of Base. No statement of the seat is proved here. -/
namespace Go.Aq
open Go.RowKit
/-- What a program's tables say of an array's or struct's type of n cells. -/
def ArrTy (P : Program) (ty : TypeId) (n : Nat) : Prop := (∃ d, P.underlying ty = some d ∧ (match d with | .struct _ | .array _ _ => true | _ => false) = true) ∧ (P.info? ty).map (·.size) = some n
theorem wpList_ldA {P : Program} {ops : Array Oper} {rest : List Oper} {o : Oper} {a : Act} {w : World} {Q : Exit → Act → World → Prop} (hgd : o.guard = none) (ty : TypeId) (x : Operand) (ho : o.op = .load ty x)
    {g : Nat} {cs : Array Value} {e : TypeId} (hb : Blk w g cs e) (ht : ArrTy P ty cs.size) (hx : a.eval x = .pointer (some ⟨g, 0, none⟩))
    (h : wpList P ops Q rest (a.put o.dst (.agg cs)) w) : wpList P ops Q (o :: rest) a w := by
  obtain ⟨⟨d, h1, h2⟩, h3⟩ := ht
  exact wpList_load_row hgd ty x ho g hx e cs (0, 0) d hb h1 (by cases d <;> simp_all) h3 h
theorem wpList_stA {P : Program} {ops : Array Oper} {rest : List Oper} {o : Oper} {a : Act} {w : World} {Q : Exit → Act → World → Prop} (hgd : o.guard = none) (ty : TypeId) (x y : Operand) (ho : o.op = .store ty x y)
    {g : Nat} {old cs : Array Value} {e : TypeId} (hb : Blk w g old e) (ht : ArrTy P ty cs.size) (hs : old.size = cs.size) (h1 : ∀ v ∈ cs.toList, v.oneCell' = true) (hx : a.eval x = .pointer (some ⟨g, 0, none⟩)) (hy : a.eval y = .agg cs)
    (h : ∀ w', Blk w' g cs e → Chg [g] w w' → w'.heap.size = w.heap.size → wpList P ops Q rest (a.put o.dst undef) w') : wpList P ops Q (o :: rest) a w := by
  obtain ⟨-, h3⟩ := ht
  refine wpList_store_row hgd ty x y ho g cs hx hy e old hb h3 hs (Array.all_eq_true_iff_forall_mem.2 fun v hv => h1 v (by simpa using hv)) ?_
  exact h _ (setRow_heap w g old cs e _ hb) ⟨rfl, rfl, rfl, by simp, fun k _ hk => setRow_other w g k cs (fun e => hk (by simp [e]))⟩ (by simp)
theorem results_A {P : Program} {fn : Func} {p : Tmp} {ty : TypeId} (h : fn.results = #[.cell p ty]) (tmps : Array Value) (w : World) {g : Nat} {e : TypeId} {cs : Array Value}
    (hb : Blk w g cs e) (ht : ArrTy P ty cs.size) (hp : tmps.getD p undef = .pointer (some ⟨g, 0, none⟩)) : (results fn tmps).run P w = .ok (.agg cs) w := by
  obtain ⟨⟨d, h1, h2⟩, h3⟩ := ht
  exact results_cell_row h tmps w g e cs (0, 0) d hp hb h1 (by cases d <;> simp_all) h3
/-- One-cell elements in a block of their own. -/
theorem Sees.row {W : World} {k : Nat} {cs : Array Value} {e : TypeId} {m : Nat} (h : Blk W k cs e) (hm : cs.size = m) : Sees W 1 (.slice (some ⟨k, 0, none⟩) m m) m cs.toList := by
  subst hm
  refine ⟨by simp, _, _, rfl, Nat.le_refl _, by simp, fun ad had j u hu => ?_⟩
  cases had
  rw [Addr.add_lit, Nat.zero_add, h.cell]
  simpa using hu

/-- A slice that was made since w, and nothing else has turned. -/
structure Fresh (w wr : World) (e : TypeId) (size : Nat) (v : Value) (n : Nat) (xs : List Value) : Prop where
  own : Own wr e size v n xs
  chg : Chg [] w wr
  new : ∀ k ∈ v.ownBlock.toList, w.heap.size ≤ k
theorem Fresh.nil (w : World) (e : TypeId) (size : Nat) : Fresh w w e size (.slice none 0 0) 0 [] := ⟨Own.nil w e size, Chg.refl _ _, by simp [Value.ownBlock]⟩
theorem Fresh.to {w wr w' : World} {e : TypeId} {size : Nat} {v : Value} {n : Nat} {xs : List Value} (h : Fresh w wr e size v n xs) (c : Chg [] wr w') : Fresh w w' e size v n xs :=
  ⟨h.own.chg c (fun _ _ => by simp), h.chg.trans c (by simp), h.new⟩
theorem Fresh.app {w wr w' : World} {e : TypeId} {size : Nat} {v v' : Value} {n n' : Nat} {xs xs' : List Value} (h : Fresh w wr e size v n xs) (ho : Own w' e size v' n' xs') (hc : Chg v.ownBlock.toList wr w')
    (hn : ∀ k ∈ v'.ownBlock.toList, k ∈ v.ownBlock.toList ∨ wr.heap.size ≤ k) : Fresh w w' e size v' n' xs' :=
  ⟨ho, h.chg.trans hc (fun i hi => .inr (h.new i hi)), fun k hk => by
    rcases hn k hk with h1 | h1
    · exact h.new k h1
    · exact Nat.le_trans h.chg.size h1⟩
theorem wpList_appF {P : Program} {w0 W : World} {ops : Array Oper} {rest : List Oper} {o : Oper} {a : Act} {Q : Exit → Act → World → Prop} (hgd : o.guard = none) (s x : Operand) (t : TypeId)
    (ho : o.op = .call { callee := .builtin .append, args := #[s, x], argTypes := #[t, t] })
    {e : TypeId} {z : Value} {size bytes : Nat} (ht : SliceTy P t e z size bytes)
    {v : Value} {n : Nat} {xs : List Value} (hf : Fresh w0 W e size v n xs) (hs : a.eval s = v) {vx : Value} {m : Nat} {news : List Value} (hsrc : Sees W size vx m news) (hx : a.eval x = vx)
    (h1 : ∀ u ∈ news, u.oneCell' = true) (hb : (n + m) * bytes ≤ 140737488355328) (h63 : n + m ≤ 9223372036854775807)
    (h : ∀ v' W', Fresh w0 W' e size v' (n + m) (xs ++ news) → Chg v.ownBlock.toList W W' → wpList P ops Q rest (a.put o.dst v') W') : wpList P ops Q (o :: rest) a W :=
  wpList_app hgd s x t ho ht hf.own hs hsrc hx h1 hb h63 fun v' W' h2 h3 h4 => h v' W' (hf.app h2 h3 h4) h3
theorem step_appF {P : Program} {w0 W : World} {ops : Array Oper} {o : Oper} {a : Act} {K : Act → World → Prop} {Q : Exit → Act → World → Prop} {E : Prop} (hgd : o.guard = none) (s x : Operand) (t : TypeId)
    (ho : o.op = .call { callee := .builtin .append, args := #[s, x], argTypes := #[t, t] })
    {e : TypeId} {z : Value} {size bytes : Nat} (ht : SliceTy P t e z size bytes)
    {v : Value} {n : Nat} {xs : List Value} (hf : Fresh w0 W e size v n xs) (hs : a.eval s = v) {vx : Value} {m : Nat} {news : List Value} (hsrc : Sees W size vx m news) (hx : a.eval x = vx)
    (h1 : ∀ u ∈ news, u.oneCell' = true) (hb : (n + m) * bytes ≤ 140737488355328) (h63 : n + m ≤ 9223372036854775807)
    (h : ∀ v' W', Fresh w0 W' e size v' (n + m) (xs ++ news) → Chg v.ownBlock.toList W W' → K (a.put o.dst v') W') :
    if Region.wanted o (yielded ops a.tmps) = true then Oper.wp P o a W K Q else E :=
  step_app hgd s x t ho ht hf.own hs hsrc hx h1 hb h63 fun v' W' h2 h3 h4 => h v' W' (hf.app h2 h3 h4) h3
theorem Fresh.shape {w wr : World} {e : TypeId} {size : Nat} {v : Value} {n : Nat} {xs : List Value} (h : Fresh w wr e size v n xs) : ∃ ao cap, v = .slice ao n cap ∧ n ≤ cap := by
  obtain ⟨ao, cap, h1, h2, -⟩ := h.own.sees.shape
  exact ⟨ao, cap, h1, h2⟩
end Go.Aq

/- append(s, make([]T, k)...) onto a slice of the call's own; bytes.Clone. No statement of the seat is proved here. -/
namespace Go.Aq
open Go.RowKit
theorem zeroCells_one (z : Value) (k : Nat) : (Builtin.zeroCells #[z] k).toList = List.replicate k z := by
  apply List.ext_getElem
  · simp [Builtin.zeroCells]
  · intro i h1 h2
    simp [Builtin.zeroCells, Nat.mod_one]
theorem run_appZ {P : Program} (w : World) (t tn ty e : TypeId) (i : TypeInfo) (z : Value) (ht : P.underlying t = some (.slice e)) (kn kq : IntKind) (htn : P.underlying tn = some (.int kn)) (hi : P.info? e = some i) (hz : i.zero = some z)
    (hzc : z.cells = #[z]) (hs1 : i.size = 1) (hz1 : z.oneCell' = true) (g n cap : Nat) (xs : List Value) (hown : Own w e 1 (.slice (some ⟨g, 0, none⟩) n cap) n xs) (k : Nat) (hk : 0 < k)
    (h63 : n + k ≤ 9223372036854775807) (hbytes : (n + k) * i.bytes ≤ 140737488355328) :
    ∃ v' w', (Builtin.append_ #[t, tn] ty #[.slice (some ⟨g, 0, none⟩) n cap, .int kq k]).run P w = .ok v' w' ∧ Own w' e 1 v' (n + k) (xs ++ List.replicate k z) ∧ Chg [g] w w' ∧
      (∀ b ∈ v'.ownBlock.toList, b ∈ [g] ∨ w.heap.size ≤ b) := by
  have h63' : n + k ≤ maxLen := by simpa [maxLen] using h63
  have hxl : xs.length = n := by have := hown.1; omega
  have hkb : k * i.bytes ≤ 140737488355328 := Nat.le_trans (Nat.mul_le_mul_right _ (by omega)) hbytes
  obtain ⟨cur, hg, hnc, hcm, hcs, htake⟩ : ∃ cur : Array Value, w.heap[g]? = some (.cells cur e (0, 0)) ∧ n ≤ cap ∧ cap ≤ maxLen ∧ cur.size = cap ∧ xs = cur.toList.take n := by
    rcases hown.2 with ⟨h, _⟩ | ⟨g', cap', cur, hv, hbg, hg, hnc, hcm, hcs, htake⟩
    · simp at h
    · simp only [Value.slice.injEq, Option.some.injEq, Addr.mk.injEq, and_true, true_and] at hv
      obtain ⟨rfl, rfl⟩ := hv
      exact ⟨cur, hg, hnc, hcm, by simpa using hcs, by simpa using htake.symm⟩
  by_cases hroom : n + k ≤ cap
  · have hw : IntKind.i64.wrap (k : Int) = k := by rw [IntKind.wrap_i64]; omega
    have hst := run_storeCells_at P g n e (List.replicate k z) 0 cur w hg (by simp; omega) (by simp [hz1])
    simp only [Nat.add_zero] at hst
    have h48i : ¬ (281474976710656 < (k : Int) * (i.bytes : Int)) := by rw [← Int.natCast_mul]; omega
    have hneg : ¬ ((k : Int) < 0) := by omega
    have hk0 : k ≠ 0 := by omega
    refine ⟨.slice (some ⟨g, 0, none⟩) (n + k) cap, w.setRow g (cur.toList.take n ++ List.replicate k z ++ cur.toList.drop (n + k)).toArray, ?_, ?_, ?_, ?_⟩
    · simp only [List.length_replicate] at hst
      simp [Builtin.append_, run_underlying ht, run_underlying htn, sizeOf, typeInfo, zeroValue, hi, hz, asInt, asIntOf, hw, hneg, hk0, h48i, hroom, hs1, hzc, zeroCells_one, Addr.add_lit]
      rw [hst]
      simp
    · refine ⟨by simp; omega, .inr ⟨g, cap, _, rfl, Nat.zero_le _, setRow_heap w g cur _ e _ hg, hroom, hcm, ?_, ?_⟩⟩
      · simp; omega
      · rw [htake]
        simp only [Nat.mul_one]
        have : (cur.toList.take n ++ List.replicate k z).length = n + k := by simp; omega
        rw [← this]
        exact List.take_left
    · exact ⟨rfl, rfl, rfl, by simp, fun b _ hb => setRow_other w g b _ (fun e => hb (by simp [e]))⟩
    · intro b hb
      left
      simpa [Value.ownBlock] using hb
  · have hold : ∀ j u, xs[j]? = some u → w.cell? ((⟨g, 0, none⟩ : Addr).add j) = some u := World.ownsRow.cells hown (g := g) rfl
    have hfc : (Builtin.firstCells i.size n (.slice (some ⟨g, 0, none⟩) n cap)).run P w.drew = .ok xs.toArray w.drew :=
      run_firstCells_some (P := P) w.drew i.size n ⟨g, 0, none⟩ n cap xs (by rw [hs1]; omega) hold
    have hr := Lib.run_append_grow_zeros (P := P) w t tn ty e i z kq kn ht htn hi hz (some ⟨g, 0, none⟩) n cap xs hfc k hk (by omega) (by omega) (by omega) (by omega) (growslice_fits (by omega) hbytes)
    have hge := grownCap_ge w (n + k) cap e
    have hcm : grownCap w (n + k) cap e ≤ maxLen := grownCap_le_maxLen w (n + k) cap e h63'
    refine ⟨_, _, hr, ⟨by simp; omega, .inr ⟨w.heap.size, _, _, rfl, Nat.zero_le _, heap_alloc_new w.drew _, hge, hcm, ?_, ?_⟩⟩, ((Chg.refl [g] w).drew).alloc _, by simp [Value.ownBlock]⟩
    · rw [hzc]
      simp [size_zeroCells]
      omega
    · rw [hzc]
      simp only [Array.toList_append, zeroCells_one, Nat.mul_one]
      have : (xs ++ List.replicate k z).length = n + k := by simp; omega
      rw [← this]
      exact List.take_left
theorem wpList_appZ {P : Program} {w0 W : World} {ops : Array Oper} {rest : List Oper} {o : Oper} {a : Act} {Q : Exit → Act → World → Prop} (hgd : o.guard = none) (s x : Operand) (t tn : TypeId)
    (ho : o.op = .call { callee := .builtin .append, args := #[s, x], argTypes := #[t, tn] }) {e : TypeId} {z : Value} {bytes : Nat} (ht : SliceTy P t e z 1 bytes) (hzc : z.cells = #[z]) (hz1 : z.oneCell' = true) {kn kq : IntKind} (htn : P.underlying tn = some (.int kn))
    {g n cap : Nat} {xs : List Value} (hf : Fresh w0 W e 1 (.slice (some ⟨g, 0, none⟩) n cap) n xs) (hs : a.eval s = .slice (some ⟨g, 0, none⟩) n cap) {k : Nat} {L : Int} (hx : a.eval x = .int kq L) (hL : L = (k : Int)) (hk : 0 < k)
    (hb : (n + k) * bytes ≤ 140737488355328) (h63 : n + k ≤ 9223372036854775807)
    (h : ∀ v' W', Fresh w0 W' e 1 v' (n + k) (xs ++ List.replicate k z) → Chg [g] W W' → wpList P ops Q rest (a.put o.dst v') W') : wpList P ops Q (o :: rest) a W := by
  obtain ⟨ht1, ht2, ht3, ht4⟩ := ht
  obtain ⟨i, hi, hz0, h1, rfl⟩ := info_parts ht2
  subst hL
  obtain ⟨v', w', hr, h2, h3, h4⟩ := run_appZ (P := P) W t tn o.type e i z ht1 kn kq htn hi hz0 hzc h1 hz1 g n cap xs hf.own k hk h63 hb
  exact Lib.wpList_append_run W hgd s x t tn ho _ _ hs hx v' w' hr (h v' w' (hf.app h2 h3 h4) h3)
theorem Fresh.of_owns {w w' : World} {e : TypeId} {v : Value} {n : Nat} {xs : List Value} (h : w'.ownsRow w.heap.size e 1 v n xs) (hb : Below w.heap.size w w') : Fresh w w' e 1 v n xs := by
  refine ⟨⟨h.1, ?_⟩, Chg.of_below hb, ?_⟩
  · rcases h.2 with h2 | ⟨g, cap, cur, h3, _, h4⟩
    · exact .inl h2
    · exact .inr ⟨g, cap, cur, h3, Nat.zero_le _, h4⟩
  · intro k hk
    rcases h.2 with ⟨rfl, _⟩ | ⟨g, cap, cur, rfl, hg, _⟩
    · simp [Value.ownBlock] at hk
    · simp [Value.ownBlock] at hk
      omega
end Go.Aq

