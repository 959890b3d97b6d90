/- Maps in memory as functions from keys to values, and what a lookup and a store do to them. No statement of the seat is proved here. -/
import Derived.Test.YtphmplbcegibjaaBase
import Derived.Maps.Own
import Derived.Maps.OwnOps
namespace Go.Aq
open Go.RowKit Go.Maps

/-- A value that can be a key of type k. -/
def GoodKey (P : Program) (k : TypeId) (v : Value) : Prop := ∃ l, keyOf P k v = some l

/-- Block b is a map from keys of type k that holds what f says. -/
def MapF (P : Program) (k : TypeId) (w : World) (b : Nat) (f : Value → Option Value) : Prop :=
  ∃ es clock, w.heap[b]? = some (.map es clock) ∧ (es.toList.map (·.key)).Nodup ∧ (∀ e ∈ es.toList, GoodKey P k e.key ∧ f e.key = some e.val) ∧ ∀ key v, f key = some v → ∃ e ∈ es.toList, e.key = key

theorem run_obj {P : Program} {w : World} {r : Nat} {es : Array MapEntry} {c : Nat} (h : w.heap[r]? = some (.map es c)) : (getObj r).run P w = .ok (.map es c) w := by
  simp [getObj, Sem.run, h]
theorem run_setMap {P : Program} {w : World} {r : Nat} {es : Array MapEntry} {c : Nat} (h : w.heap[r]? = some (.map es c)) (o : Obj) : (setObj r o).run P w = .ok () (ChangeMaps.setBlock w r o) := by
  simp [setObj, Sem.run, h, ChangeMaps.setBlock]
theorem nodup_get {α β : Type} {g : α → β} {l : List α} (h : (l.map g).Nodup) {i j : Nat} {x y : α} (hi : l[i]? = some x) (hj : l[j]? = some y) (hxy : g x = g y) : i = j := by
  have h1 : (l.map g)[i]? = some (g x) := by simp [hi]
  have h2 : (l.map g)[j]? = some (g y) := by simp [hj]
  obtain ⟨hi', e1⟩ := List.getElem?_eq_some_iff.1 h1
  obtain ⟨hj', e2⟩ := List.getElem?_eq_some_iff.1 h2
  exact (List.getElem_inj h).1 (by rw [e1, e2, hxy])

theorem MapF.lt {P : Program} {k : TypeId} {w : World} {b : Nat} {f : Value → Option Value} (h : MapF P k w b f) : b < w.heap.size := by
  obtain ⟨es, clock, h1, _⟩ := h
  exact (Array.getElem?_eq_some_iff.1 h1).1
theorem MapF.chg {P : Program} {k : TypeId} {w w' : World} {b : Nat} {f : Value → Option Value} {S : List Nat} (h : MapF P k w b f) (c : Chg S w w') (hb : b ∉ S) : MapF P k w' b f := by
  have hl := h.lt
  obtain ⟨es, clock, h1, h2⟩ := h
  exact ⟨es, clock, by rw [c.block b hl hb]; exact h1, h2⟩
theorem MapF.new (P : Program) (k : TypeId) (w : World) : MapF P k (w.alloc (.map #[] 0)) w.heap.size fun _ => none :=
  ⟨#[], 0, heap_alloc_new w _, by simp, by simp, by simp⟩
theorem MapF.blk {P : Program} {k : TypeId} {w : World} {b p : Nat} {f : Value → Option Value} {cs : Array Value} {e : TypeId} (h : MapF P k w b f) (hb : Blk w p cs e) : b ≠ p := by
  rintro rfl
  obtain ⟨es, clock, h1, _⟩ := h
  unfold Blk at hb
  rw [h1] at hb
  simp at hb
theorem MapF.own {P : Program} {k : TypeId} {w : World} {b : Nat} {f : Value → Option Value} {e : TypeId} {size : Nat} {v : Value} {n : Nat} {xs : List Value} (h : MapF P k w b f) (ho : Own w e size v n xs) : b ∉ v.ownBlock.toList := by
  intro hb
  rcases ho.2 with ⟨rfl, _⟩ | ⟨g, cap, cur, rfl, _, hg, _⟩
  · simp [Value.ownBlock] at hb
  · simp [Value.ownBlock] at hb
    subst hb
    obtain ⟨es, clock, h1, _⟩ := h
    rw [h1] at hg
    simp at hg

theorem MapF.find {P : Program} {k : TypeId} (K : Keyed P k) {f : Value → Option Value} {es : Array MapEntry} {key : Value} (hkey : GoodKey P k key)
    (h2 : ∀ e ∈ es.toList, GoodKey P k e.key ∧ f e.key = some e.val) (h3 : ∀ key v, f key = some v → ∃ e ∈ es.toList, e.key = key) (w : World) :
    (f key = none ∧ (Instr.findKey k key es.toList).run P w = .ok none w) ∨ ∃ j e, f key = some e.val ∧ e.key = key ∧ es.toList[j]? = some e ∧ (Instr.findKey k key es.toList).run P w = .ok (some (j, e.val)) w := by
  obtain ⟨l, hl⟩ := hkey
  rcases K.find w hl es.toList (fun e he => (h2 e he).1) with ⟨h4, h5⟩ | ⟨j, e, h4, h5, h6⟩
  · left
    refine ⟨?_, h4⟩
    cases hf : f key with
    | none => rfl
    | some v => obtain ⟨e, he, hk⟩ := h3 key v hf; exact absurd hk (h5 e he)
  · right
    have hm : e ∈ es.toList := List.mem_of_getElem? h5
    exact ⟨j, e, by rw [← h6]; exact (h2 e hm).2, h6, h5, h4⟩

/-- What a lookup answers. -/
theorem MapF.look {P : Program} {t k e : TypeId} {w : World} {b : Nat} {f : Value → Option Value} (h : MapF P k w b f) (K : Keyed P k) (ht : P.underlying t = some (.map k e)) {z : Value} (hz : (zeroValue e).run P w = .ok z w) {key : Value} (hkey : GoodKey P k key) :
    (Instr.lookup t (.map (some b)) key false).run P w = .ok ((f key).getD z) w ∧ (Instr.lookup t (.map (some b)) key true).run P w = .ok (.tuple #[(f key).getD z, .bool (f key).isSome]) w := by
  obtain ⟨es, clock, h1, hnd, h2, h3⟩ := h
  have hc : ∀ em, (Instr.checkKey em 10000 k key).run P w = .ok () w := fun em => by obtain ⟨l, hl⟩ := hkey; exact K.check w em hl
  rcases MapF.find K hkey h2 h3 w with ⟨h4, h5⟩ | ⟨j, e0, h4, _, _, h5⟩
  · constructor <;> simp [Instr.lookup, run_underlying ht, run_obj h1, hc, h5, h4, hz]
  · constructor <;> simp [Instr.lookup, run_underlying ht, run_obj h1, hc, h5, h4]

open Classical in
/-- f with key turned to v. -/
noncomputable def updF (f : Value → Option Value) (key v : Value) : Value → Option Value := fun x => if x = key then some v else f x

/-- What a store does. -/
theorem MapF.put {P : Program} {t k e : TypeId} {w : World} {b : Nat} {f : Value → Option Value} (h : MapF P k w b f) (K : Keyed P k) (ht : P.underlying t = some (.map k e)) {key v : Value} (hkey : GoodKey P k key) :
    ∃ w', (Instr.mapUpdate t (.map (some b)) key v).run P w = .ok () w' ∧ MapF P k w' b (updF f key v) ∧ Chg [b] w w' := by
  have hlt := h.lt
  obtain ⟨es, clock, h1, hnd, h2, h3⟩ := h
  have hc : ∀ em, (Instr.checkKey em 10000 k key).run P w = .ok () w := fun em => by obtain ⟨l, hl⟩ := hkey; exact K.check w em hl
  have hs : (Instr.keyThatStays key key).run P w = .ok key w := by obtain ⟨l, hl⟩ := hkey; exact K.stays w hl
  have chg : ∀ o, Chg [b] w (ChangeMaps.setBlock w b o) := fun o => ⟨rfl, rfl, rfl, by simp [ChangeMaps.setBlock], fun k _ hk => by
    have hne : b ≠ k := fun e => hk (by simp [e])
    simp [ChangeMaps.setBlock, hne]⟩
  have at_ : ∀ o, (ChangeMaps.setBlock w b o).heap[b]? = some o := fun o => by
    simp [ChangeMaps.setBlock, hlt]
  rcases MapF.find K hkey h2 h3 w with ⟨h4, h5⟩ | ⟨j, e0, h4, h6, h7, h5⟩
  · refine ⟨_, by simp [Instr.mapUpdate, run_underlying ht, run_obj h1, hc, h5, run_setMap h1]; rfl, ⟨_, _, at_ _, ?_, ?_, ?_⟩, chg _⟩
    · simp only [Array.toList_push, List.map_append, List.map_cons, List.map_nil]
      rw [List.nodup_append]
      refine ⟨hnd, by simp, ?_⟩
      intro x hx y hy
      simp at hy
      subst hy
      obtain ⟨e, he, rfl⟩ := List.mem_map.1 hx
      rintro rfl
      have := (h2 e he).2
      rw [h4] at this
      simp at this
    · intro e he
      simp at he
      rcases he with he | rfl
      · have := h2 e (by simpa using he)
        refine ⟨this.1, ?_⟩
        have hne : e.key ≠ key := fun hk => by rw [hk, h4] at this; simp at this
        simp [updF, hne, this.2]
      · exact ⟨hkey, by simp [updF]⟩
    · intro x v' hx
      by_cases hxk : x = key
      · exact ⟨⟨key, v, clock⟩, by simp, hxk.symm⟩
      · simp [updF, hxk] at hx
        obtain ⟨e, he, hk⟩ := h3 x v' hx
        exact ⟨e, by simp at he ⊢; exact .inl he, hk⟩
  · have hj : j < es.size := by have := (List.getElem?_eq_some_iff.1 h7).1; simpa using this
    have hes : es[j]? = some e0 := by simpa using h7
    have hkeys : (es.modify j fun e => { e with key := key, val := v }).toList.map (·.key) = es.toList.map (·.key) := by
      apply List.ext_getElem?
      intro i
      rw [List.getElem?_map, List.getElem?_map, Array.getElem?_toList, Array.getElem?_toList, Array.getElem?_modify]
      split
      · rename_i hij
        subst hij
        rw [hes]
        simp [h6]
      · rfl
    refine ⟨_, by simp [Instr.mapUpdate, run_underlying ht, run_obj h1, hc, h5, hes, h6, hs, run_setMap h1]; rfl, ⟨_, _, at_ _, ?_, ?_, ?_⟩, chg _⟩
    · rw [hkeys]; exact hnd
    · intro e he
      obtain ⟨i, hi⟩ := List.getElem?_of_mem he
      rw [Array.getElem?_toList, Array.getElem?_modify] at hi
      split at hi
      · rename_i hij
        subst hij
        rw [hes] at hi
        simp at hi
        subst hi
        exact ⟨hkey, by simp [updF]⟩
      · rename_i hij
        have hi' : es.toList[i]? = some e := by rw [Array.getElem?_toList]; exact hi
        have hm : e ∈ es.toList := List.mem_of_getElem? hi'
        have hh := h2 e hm
        refine ⟨hh.1, ?_⟩
        have hek : e.key ≠ key := fun hk => hij (nodup_get hnd h7 hi' (by rw [h6, hk]))
        simp [updF, hek, hh.2]
    · intro x v' hx
      have hx' : ∃ e ∈ es.toList, e.key = x := by
        by_cases hxk : x = key
        · exact ⟨e0, List.mem_of_getElem? h7, by rw [h6, hxk]⟩
        · simp [updF, hxk] at hx
          exact h3 x v' hx
      obtain ⟨e, he, hk⟩ := hx'
      have : x ∈ (es.modify j fun e => { e with key := key, val := v }).toList.map (·.key) := by
        rw [hkeys]; exact List.mem_map.2 ⟨e, he, hk⟩
      obtain ⟨e', he', hk'⟩ := List.mem_map.1 this
      exact ⟨e', he', hk'⟩

/-- m[k] = v at the operation. -/
theorem wpList_put {P : Program} {w : World} {ops : Array Oper} {rest : List Oper} {o : Oper} {a : Act} {Q : Exit → Act → World → Prop} (hg : o.guard = none) (m x v : Operand) (t : TypeId) (hop : o.op = Op.mapUpdate t m x v)
    {k e : TypeId} (K : Keyed P k) (ht : P.underlying t = some (.map k e)) {b : Nat} {f : Value → Option Value} (h : MapF P k w b f) (hm : a.eval m = .map (some b)) {key val : Value} (hkey : GoodKey P k key) (hx : a.eval x = key) (hv : a.eval v = val)
    (hK : ∀ w', MapF P k w' b (updF f key val) → Chg [b] w w' → wpList P ops Q rest (a.put o.dst undef) w') : wpList P ops Q (o :: rest) a w := by
  refine wpList_plain hg fun K' hK' => ?_
  obtain ⟨w', hrun, r1, r2⟩ := h.put (v := val) K ht hkey
  unfold Oper.wp
  simp [execOp, hop, hm, hx, hv, hrun, Result.andThen]
  exact hK' _ _ (hK w' r1 r2)
/-- .. at a step of a region that draws its order. -/
theorem step_put {P : Program} {w : World} {ops : Array Oper} {o : Oper} {a : Act} {K : Act → World → Prop} {Q : Exit → Act → World → Prop} {E : Prop} (hg : o.guard = none) (m x v : Operand) (t : TypeId) (hop : o.op = Op.mapUpdate t m x v)
    {k e : TypeId} (KK : Keyed P k) (ht : P.underlying t = some (.map k e)) {b : Nat} {f : Value → Option Value} (h : MapF P k w b f) (hm : a.eval m = .map (some b)) {key val : Value} (hkey : GoodKey P k key) (hx : a.eval x = key) (hv : a.eval v = val)
    (hK : ∀ w', MapF P k w' b (updF f key val) → Chg [b] w w' → K (a.put o.dst undef) w') : if Region.wanted o (yielded ops a.tmps) = true then Oper.wp P o a w K Q else E := by
  have hw : Region.wanted o (yielded ops a.tmps) = true := by simp [Region.wanted, hg]
  rw [if_pos hw]
  obtain ⟨w', hrun, r1, r2⟩ := h.put (v := val) KK ht hkey
  unfold Oper.wp
  simp [execOp, hop, hm, hx, hv, hrun, Result.andThen]
  exact hK w' r1 r2
end Go.Aq
