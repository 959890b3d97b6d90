/- A list of texts that slides along its row (todo = todo[1:]), and append onto it. No statement of the seat is proved here. -/
import Derived.Test.YtphmplbcegibjaaRgB
import Derived.ArgAppend
import Derived.Deep.Upon
set_option linter.unusedVariables false
set_option linter.unusedSimpArgs false
namespace Go.Aq
open Go.RowKit
theorem blk_setCells {g : Nat} {e : TypeId} : ∀ (news : List Value) (pos : Nat) (w : World) (cs : Array Value), Blk w g cs e → pos + news.length ≤ cs.size →
    ∃ cs', Blk (w.setCells g pos news) g cs' e ∧ cs'.size = cs.size ∧ (∀ j u, news[j]? = some u → cs'[pos + j]? = some u) ∧ ∀ k, k < pos ∨ pos + news.length ≤ k → cs'[k]? = cs[k]?
  | [], pos, w, cs, h, _ => ⟨cs, h, rfl, fun j u hu => by simp at hu, fun _ _ => rfl⟩
  | v :: r, pos, w, cs, h, hs => by
    rw [List.length_cons] at hs
    obtain ⟨cs', h1, h2, h3, h4⟩ := blk_setCells r (pos + 1) (w.setCell ⟨g, pos, none⟩ v) (cs.setIfInBounds pos v) (h.set pos v) (by rw [Array.size_setIfInBounds]; omega)
    refine ⟨cs', h1, by rw [h2, Array.size_setIfInBounds], fun j u hu => ?_, fun k hk => ?_⟩
    · match j, hu with
      | 0, hu =>
        simp at hu
        subst hu
        rw [Nat.add_zero, h4 pos (.inl (by omega)), Array.getElem?_setIfInBounds, if_pos rfl, if_pos (by omega)]
      | j + 1, hu =>
        have := h3 j u (by simpa using hu)
        rw [show pos + (j + 1) = pos + 1 + j by omega]; exact this
    · rw [List.length_cons] at hk
      rw [h4 k (by omega), Array.getElem?_setIfInBounds, if_neg (by omega)]
theorem chg_setCells {g : Nat} {S : List Nat} {w0 : World} (hg : g ∈ S) : ∀ (news : List Value) (pos : Nat) (w : World), Chg S w0 w → Chg S w0 (w.setCells g pos news)
  | [], _, _, h => h
  | v :: r, pos, w, h => chg_setCells hg r (pos + 1) _ (h.setCell (p := ⟨g, pos, none⟩) (.inl hg) v)
end Go.Aq
namespace Go.Proofs.Ytphmplbcegibjaa
open Go.RowKit Go.Aq Go.Aq.Dg Go.Maps Go.Aq.So

/-- The texts xs, somewhere along block g's row. -/
def Slid (w : World) (g : Nat) (v : Value) (xs : List (List UInt8)) : Prop :=
  ∃ off cap cs, v = .slice (some ⟨g, off, none⟩) xs.length cap ∧ xs.length ≤ cap ∧ Blk w g cs 9 ∧ off + cap ≤ cs.size ∧ ∀ (j : Nat) (x : List UInt8), xs[j]? = some x → cs[off + j]? = some (.string (str x))
theorem Slid.lt {w : World} {g : Nat} {v : Value} {xs : List (List UInt8)} (h : Slid w g v xs) : g < w.heap.size := by
  obtain ⟨off, cap, cs, -, -, hb, -⟩ := h; exact hb.lt
theorem Slid.chg {w w' : World} {g : Nat} {v : Value} {xs : List (List UInt8)} {S : List Nat} (h : Slid w g v xs) (c : Chg S w w') (hg : g ∉ S) : Slid w' g v xs := by
  obtain ⟨off, cap, cs, h1, h2, h3, h4, h5⟩ := h
  exact ⟨off, cap, cs, h1, h2, h3.chg c hg, h4, h5⟩
/-- The first, and what stands behind it. -/
theorem Slid.next {w : World} {g : Nat} {v : Value} {x : List UInt8} {t : List (List UInt8)} (h : Slid w g v (x :: t)) :
    ∃ off cap, v = .slice (some ⟨g, off, none⟩) (t.length + 1) cap ∧ t.length + 1 ≤ cap ∧ w.cell? ⟨g, off, none⟩ = some (.string (str x)) ∧ (cap = 1 → Slid w g (.slice (some ⟨g, off, none⟩) t.length (cap - 1)) t) ∧ Slid w g (.slice (some ⟨g, off + 1, none⟩) t.length (cap - 1)) t := by
  obtain ⟨off, cap, cs, h1, h2, h3, h4, h5⟩ := h
  rw [List.length_cons] at h1 h2
  refine ⟨off, cap, h1, h2, ?_, fun hc => ?_, off + 1, cap - 1, cs, rfl, by omega, h3, by omega, fun j y hy => ?_⟩
  · have := h5 0 x rfl
    rw [h3.cell]; exact this
  · have ht : t = [] := List.length_eq_zero_iff.1 (by omega)
    subst ht
    exact ⟨off, cap - 1, cs, rfl, by simp, h3, by omega, fun j y hy => by simp at hy⟩
  · have := h5 (j + 1) y (by simpa using hy)
    rw [show off + 1 + j = off + (j + 1) by omega]; exact this
theorem Slid.one {w : World} {g : Nat} {x : List UInt8} (h : Blk w g #[.string (str x)] 9) : Slid w g (.slice (some ⟨g, 0, none⟩) 1 1) [x] :=
  ⟨0, 1, _, rfl, by simp, h, by simp, fun j y hy => by
    match j, hy with
    | 0, hy => simp at hy; subst hy; simp⟩
/-- append(todo, ys...). -/
theorem run_slid {ty : TypeId} {w : World} {g : Nat} {v : Value} {xs ys : List (List UInt8)} (h : Slid w g v xs) {vx : Value} (hy : Sees w 1 vx ys.length (Sk ys)) (hb : (xs.length + ys.length) * 16 ≤ 140737488355328) :
    ∃ g' v' w', (Builtin.append_ #[30, 30] ty #[v, vx]).run Try.prog w = .ok v' w' ∧ Slid w' g' v' (xs ++ ys) ∧ Chg [g] w w' ∧ (g' = g ∨ w.heap.size ≤ g') := by
  obtain ⟨off, cap, cs, rfl, h2, h3, h4, h5⟩ := h
  obtain ⟨ht1, ht2, ht3, ht4⟩ := sl_S
  obtain ⟨i, hi, hz0, hs1, hby⟩ := info_parts ht2
  obtain ⟨hl, ao, cp, rfl, hc, hno, hcells⟩ := hy
  have hlY : (Sk ys).length = ys.length := Sk_len ys
  cases ao with
  | none =>
    obtain ⟨h0, rfl⟩ := hno rfl
    have hy0 : ys = [] := List.length_eq_zero_iff.1 h0
    subst hy0
    refine ⟨g, _, w, ?_, by rw [List.append_nil]; exact ⟨off, cap, cs, rfl, h2, h3, h4, h5⟩, Chg.refl _ _, .inl rfl⟩
    simp [Builtin.append_, run_underlying ht1, sizeOf, typeInfo, hi, Builtin.lenOf, h2, Builtin.firstCells, loadCells, loadCellsFrom, storeCells]
  | some ad =>
    have hnews : ∀ j u, (Sk ys)[j]? = some u → w.cell? (ad.add j) = some u := hcells ad rfl
    have h1 := Sk_one ys
    by_cases hr : xs.length + ys.length ≤ cap
    · have hrun := run_append_room_cells (P := Try.prog) w 30 ty 9 i ht1 hi g off xs.length cap ad ys.length cp (Sk ys) (by rw [hlY, hs1, Nat.mul_one]) hnews h1 hr
        (fun j hj => by rw [hs1, h3.cell, Nat.mul_one, Array.getElem?_eq_getElem (by omega)]; rfl) (fun j _ => h3.frozen _)
      rw [hs1, Nat.mul_one] at hrun
      obtain ⟨cs', b1, b2, b3, b4⟩ := blk_setCells (Sk ys) (off + xs.length) w cs h3 (by rw [hlY]; omega)
      refine ⟨g, _, _, hrun, ⟨off, cap, cs', by rw [List.length_append], by rw [List.length_append]; exact hr, b1, by rw [b2]; exact h4, fun j x hx => ?_⟩, chg_setCells (by simp) _ _ _ (Chg.refl _ _), .inl rfl⟩
      rcases Nat.lt_or_ge j xs.length with hj | hj
      · rw [List.getElem?_append_left hj] at hx
        rw [b4 (off + j) (.inl (by omega))]
        exact h5 j x hx
      · rw [List.getElem?_append_right hj] at hx
        have := b3 (j - xs.length) _ (Sk_get hx)
        rw [show off + xs.length + (j - xs.length) = off + j by omega] at this
        exact this
    · obtain ⟨v', w', hrun, r1, r2⟩ := run_append_arg_grows (P := Try.prog) w 30 ty 9 i _ 1 16 ht1 hi hz0 hs1 hby (by rfl) (by decide) ⟨g, off, none⟩ xs.length cap (Sk xs) (by rw [Sk_len, Nat.mul_one])
        (fun j u hu => by
          rw [Sk, List.getElem?_map] at hu
          obtain ⟨x, hx, rfl⟩ := Option.map_eq_some_iff.1 hu
          rw [Addr.add_lit, h3.cell]; exact h5 j x hx) ad ys.length cp (Sk ys) (by rw [hlY, Nat.mul_one]) hnews (by omega) (by simp only [maxLen]; omega) hb
      rcases r1.2 with ⟨_, h0⟩ | ⟨g', cap', cur, rfl, hbg, hgb, hnc, hcm, hcs, htake⟩
      · omega
      · refine ⟨g', _, w', hrun, ⟨0, cap', cur, by rw [List.length_append], by rw [List.length_append]; exact hnc, hgb, by rw [Nat.zero_add, hcs]; omega, fun j x hx => ?_⟩, (Chg.of_grown r2).toS, .inr hbg⟩
        have hx2 : (Sk (xs ++ ys))[j]? = some (.string (str x)) := Sk_get hx
        rw [Sk_app] at hx2
        rw [Nat.zero_add]
        have h6 := htake
        rw [← h6, List.getElem?_take] at hx2
        split at hx2
        · simpa using hx2
        · cases hx2
theorem wp_slid {w : World} {o : Oper} {a : Act} {K : Act → World → Prop} {Q : Exit → Act → World → Prop} (s x : Operand) (ho : o.op = .call { callee := .builtin .append, args := #[s, x], argTypes := #[30, 30] })
    {g : Nat} {v : Value} {xs ys : List (List UInt8)} (h : Slid w g v xs) (hs : a.eval s = v) {vx : Value} (hy : Sees w 1 vx ys.length (Sk ys)) (hx : a.eval x = vx) (hb : (xs.length + ys.length) * 16 ≤ 140737488355328)
    (hK : ∀ g' v' w', Slid w' g' v' (xs ++ ys) → Chg [g] w w' → (g' = g ∨ w.heap.size ≤ g') → K (a.put o.dst v') w') : o.wp Try.prog a w K Q := by
  obtain ⟨g', v', w', hr, h1, h2, h3⟩ := run_slid (ty := o.type) h hy hb
  unfold Oper.wp execOp
  simp only [ho, resolve, invoke, builtin, Sem.run_bind, Sem.run_pure, Result.andThen_ok, List.map_toArray, List.map_cons, List.map_nil, hs, hx, hr]
  exact hK _ _ _ h1 h2 h3
end Go.Proofs.Ytphmplbcegibjaa
