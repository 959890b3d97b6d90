/- FyM, FyF, FyG, FyH, FyI in one text. No statement of the seat is proved here. -/
import Derived.Test.YtgcmgcffndbpoaaGreatDoorArrA
import Derived.Test.YtgcmgcffndbpoaaGreatDoorNumA
import Derived.Lib.SlBytesConst
import Derived.Test.YtgcmgcffndbpoaaGreatDoorFyAE
import Derived.BigQuiet
import Derived.Deep.QuietTactic
set_option linter.unusedSimpArgs false
set_option linter.unusedVariables false
/- Rows that were made by []byte(text): append onto them, of bytes and of noughts. No statement of the seat is proved here. -/
namespace Go.Aq
open Go.RowKit
/-- run_storeCells_at, where nothing of the row is frozen, whatever its mark. -/
theorem run_storeCells_atG (P : Program) (g o : Nat) (t : TypeId) (fz : Nat × Nat) : ∀ (vs : List Value) (i : Nat) (cur : Array Value) (w : World), w.heap[g]? = some (.cells cur t fz) → (∀ j, j < cur.size → ¬ (fz.1 ≤ j ∧ j < fz.2)) → o + i + vs.length ≤ cur.size → (∀ v ∈ vs, v.oneCell' = true) →
    (storeCells ⟨g, o, none⟩ vs i).run P w = .ok () (w.setRow g (cur.toList.take (o + i) ++ vs ++ cur.toList.drop (o + i + vs.length)).toArray)
  | [], i, cur, w, hg, _, _, _ => by
    simp only [storeCells, List.append_nil, List.length_nil, Nat.add_zero, List.take_append_drop, Array.toArray_toList]
    rw [setRow_self w g cur t fz hg]
    rfl
  | v :: rest, i, cur, w, hg, hfz, hl, h1 => by
    have hi : o + i < cur.size := by simp at hl; omega
    have hadd : (⟨g, o, none⟩ : Addr).add i = ⟨g, o + i, none⟩ := by unfold Addr.add; split <;> simp_all
    have hcell : w.cell? ⟨g, o + i, none⟩ = some cur[o + i] := by simp [World.cell?, hg, hi]
    have hfro : w.frozen? ⟨g, o + i, none⟩ = false := by
      have := hfz _ hi
      obtain ⟨lo, hi'⟩ := fz
      simp only [World.frozen?, hg, Bool.and_eq_false_iff, decide_eq_false_iff_not]
      simp only at this
      omega
    have hst : (store ((⟨g, o, none⟩ : Addr).add i) v).run P w = .ok () (w.setRow g (cur.setIfInBounds (o + i) v)) := by
      rw [hadd, run_store P w _ v _ (h1 v (by simp)), hcell]
      simp [hfro, setCell_eq_setRow w g (o + i) cur t fz v hg]
    have ih := run_storeCells_atG P g o t fz rest (i + 1) (cur.setIfInBounds (o + i) v) (w.setRow g (cur.setIfInBounds (o + i) v)) (setRow_heap w g cur _ t _ hg) (by simpa using hfz) (by simp at hl ⊢; omega) (fun x hx => h1 x (by simp [hx]))
    simp only [storeCells, Sem.run_bind, hst, Result.andThen_ok, ih, setRow_setRow]
    congr 3
    have e := list_seg_step cur.toList (o + i) v rest (by simp at hl ⊢; omega)
    simpa [Array.toList_setIfInBounds, Nat.add_assoc] using e
/-- The slice value v, of n elements of one cell each, leads to a row of its own; of that row nothing is frozen, whatever its mark. -/
def OwnM (w : World) (e : TypeId) (v : Value) (n : Nat) (xs : List Value) : Prop :=
  xs.length = n ∧ ((v = .slice none 0 0 ∧ n = 0) ∨
    ∃ g cap cur fz, v = .slice (some ⟨g, 0, none⟩) n cap ∧ w.heap[g]? = some (.cells cur e fz) ∧ (∀ j, j < cur.size → ¬ (fz.1 ≤ j ∧ j < fz.2)) ∧ n ≤ cap ∧ cap ≤ maxLen ∧ cur.size = cap ∧ cur.toList.take n = xs)
theorem OwnM.of {w : World} {e : TypeId} {v : Value} {n : Nat} {xs : List Value} (h : Own w e 1 v n xs) : OwnM w e v n xs := by
  refine ⟨by simpa using h.1, ?_⟩
  rcases h.2 with ⟨h1, h2⟩ | ⟨g, cap, cur, h1, _, h2, h3, h4, h5, h6⟩
  · exact .inl ⟨h1, h2⟩
  · exact .inr ⟨g, cap, cur, (0, 0), h1, h2, by simp, h3, h4, by simpa using h5, by simpa using h6⟩
theorem OwnM.sees {w : World} {e : TypeId} {v : Value} {n : Nat} {xs : List Value} (h : OwnM w e v n xs) : Sees w 1 v n xs := by
  obtain ⟨h0, h⟩ := h
  rcases h with ⟨rfl, rfl⟩ | ⟨g, cap, cur, fz, rfl, h2, h3, h4, h5, h6, h7⟩
  · have : xs = [] := List.eq_nil_of_length_eq_zero h0
    subst this; exact Sees.nil _ _
  · refine ⟨by omega, _, cap, rfl, h4, by simp, fun ad had j u hu => ?_⟩
    cases had
    rw [Addr.add_lit, Nat.zero_add]
    have hj : j < n := by have := (List.getElem?_eq_some_iff.1 hu).1; omega
    simp only [World.cell?, h2]
    rw [← h7, List.getElem?_take_of_lt hj] at hu
    simpa using hu
theorem OwnM.lt {w : World} {e : TypeId} {v : Value} {n : Nat} {xs : List Value} (h : OwnM w e v n xs) : In w v.ownBlock.toList := by
  intro k hk
  rcases h.2 with ⟨rfl, _⟩ | ⟨g, cap, cur, fz, rfl, h2, _⟩
  · simp [Value.ownBlock] at hk
  · simp [Value.ownBlock] at hk
    subst hk
    exact (Array.getElem?_eq_some_iff.1 h2).1
theorem OwnM.chg {w w' : World} {e : TypeId} {v : Value} {n : Nat} {xs : List Value} {S : List Nat} (h : OwnM w e v n xs) (c : Chg S w w') (hd : Disj v.ownBlock.toList S) : OwnM w' e v n xs := by
  refine ⟨h.1, ?_⟩
  rcases h.2 with h2 | ⟨g, cap, cur, fz, hv, hg, r⟩
  · exact .inl h2
  · refine .inr ⟨g, cap, cur, fz, hv, ?_, r⟩
    rw [c.block g (Array.getElem?_eq_some_iff.1 hg).1 (hd g (by rw [hv]; simp [Value.ownBlock]))]
    exact hg
/-- A slice that was made since w; nothing else has turned. -/
structure FreshM (w wr : World) (e : TypeId) (v : Value) (n : Nat) (xs : List Value) : Prop where
  own : OwnM wr e v n xs
  chg : Chg [] w wr
  new : ∀ k ∈ v.ownBlock.toList, w.heap.size ≤ k
theorem FreshM.of {w wr : World} {e : TypeId} {v : Value} {n : Nat} {xs : List Value} (h : Fresh w wr e 1 v n xs) : FreshM w wr e v n xs := ⟨OwnM.of h.own, h.chg, h.new⟩
theorem FreshM.to {w wr w' : World} {e : TypeId} {v : Value} {n : Nat} {xs : List Value} (h : FreshM w wr e v n xs) (c : Chg [] wr w') : FreshM w w' e v n xs :=
  ⟨h.own.chg c (fun _ _ => by simp), h.chg.trans c (by simp), h.new⟩
theorem FreshM.app {w wr w' : World} {e : TypeId} {v v' : Value} {n n' : Nat} {xs xs' : List Value} (h : FreshM w wr e v n xs) (ho : OwnM w' e v' n' xs') (hc : Chg v.ownBlock.toList wr w')
    (hn : ∀ k ∈ v'.ownBlock.toList, k ∈ v.ownBlock.toList ∨ wr.heap.size ≤ k) : FreshM w w' e v' n' xs' :=
  ⟨ho, h.chg.trans hc (fun i hi => .inr (h.new i hi)), fun k hk => by
    rcases hn k hk with h1 | h1
    · exact h.new k h1
    · exact Nat.le_trans h.chg.size h1⟩
theorem FreshM.sees {w wr : World} {e : TypeId} {v : Value} {n : Nat} {xs : List Value} (h : FreshM w wr e v n xs) : Sees wr 1 v n xs := h.own.sees
theorem FreshM.shape {w wr : World} {e : TypeId} {v : Value} {n : Nat} {xs : List Value} (h : FreshM w wr e v n xs) : ∃ ao cap, v = .slice ao n cap ∧ n ≤ cap := by
  obtain ⟨ao, cap, h1, h2, -⟩ := h.own.sees.shape
  exact ⟨ao, cap, h1, h2⟩
theorem FreshM.based {w0 w wr : World} {e : TypeId} {v : Value} {n : Nat} {xs : List Value} (h : FreshM w wr e v n xs) (c : Chg [] w0 w) : FreshM w0 wr e v n xs := ⟨h.own, c.nil h.chg, fun k hk => Nat.le_trans c.size (h.new k hk)⟩
/-- append(s, x...). -/
theorem run_appM {P : Program} (w : World) (t ty e : TypeId) (i : TypeInfo) (z : Value) (ht : P.underlying t = some (.slice e)) (hi : P.info? e = some i) (hz : i.zero = some z) (hzc : z.cells = #[z]) (hs1 : i.size = 1)
    (v : Value) (n : Nat) (xs : List Value) (hown : OwnM w e v n xs) (hv : v ≠ .slice none 0 0)
    (a : Addr) (m c : Nat) (news : List Value) (hl : news.length = m) (hnews : ∀ j u, news[j]? = some u → w.cell? (a.add j) = some u) (h1 : ∀ u ∈ news, u.oneCell' = true)
    (h63 : n + m ≤ 9223372036854775807) (hbytes : (n + m) * i.bytes ≤ 140737488355328) :
    ∃ v' w', (Builtin.append_ #[t, t] ty #[v, .slice (some a) m c]).run P w = .ok v' w' ∧ OwnM w' e v' (n + m) (xs ++ news) ∧ Chg v.ownBlock.toList w w' ∧
      (∀ k ∈ v'.ownBlock.toList, k ∈ v.ownBlock.toList ∨ w.heap.size ≤ k) ∧ v' ≠ .slice none 0 0 := by
  have h63' : n + m ≤ maxLen := by simpa [maxLen] using h63
  have hs := hown.sees
  obtain ⟨hx0, hown⟩ := hown
  rcases hown with ⟨e1, _⟩ | ⟨g, cap, cur, fz, rfl, hg, hfz, hnc, hcm, hcs, htake⟩
  · exact absurd e1 hv
  · by_cases hroom : n + m ≤ cap
    · have hf := run_firstCells_some (P := P) w i.size m a m c news (by rw [hs1]; omega) hnews
      have hst := run_storeCells_atG P g (n * i.size) e fz news 0 cur w hg hfz (by rw [hs1]; omega) h1
      simp only [Nat.add_zero] at hst
      have hr : (Builtin.append_ #[t, t] ty #[.slice (some ⟨g, 0, none⟩) n cap, .slice (some a) m c]).run P w =
          .ok (.slice (some ⟨g, 0, none⟩) (n + m) cap) (w.setRow g (cur.toList.take (n * i.size) ++ news ++ cur.toList.drop (n * i.size + news.length)).toArray) := by
        simp [Builtin.append_, run_underlying ht, sizeOf, typeInfo, hi, Builtin.lenOf, hroom, hf, Addr.add_lit, hst]
      refine ⟨_, _, hr, ⟨by simp; omega, .inr ⟨g, cap, _, fz, rfl, setRow_heap w g cur _ e _ hg, ?_, hroom, hcm, ?_, ?_⟩⟩, ⟨rfl, rfl, rfl, by simp, fun k _ hk => setRow_other w g k _ (fun e => hk (by simp [Value.ownBlock, e]))⟩, fun k hk => .inl hk, by simp⟩
      · intro j hj
        refine hfz j ?_
        simp only [hs1, Nat.mul_one, List.size_toArray, List.length_append, List.length_take, List.length_drop, Array.length_toList] at hj
        omega
      · simp only [hs1, Nat.mul_one, List.size_toArray, List.length_append, List.length_take, List.length_drop, Array.length_toList]
        omega
      · rw [hs1, Nat.mul_one, htake]
        have : (xs ++ news).length = n + m := by simp; omega
        rw [← this]
        exact List.take_left
    · have holds : ∀ j u, xs[j]? = some u → w.cell? ((⟨g, 0, none⟩ : Addr).add j) = some u := by
        obtain ⟨_, ao, cap', hv', _, _, hc⟩ := hs
        cases hv'
        exact hc _ rfl
      have hr := run_append_grow (P := P) w t ty e i z ht hi hz ⟨g, 0, none⟩ n cap xs (by rw [hs1]; omega) holds a m c news (by rw [hs1]; omega) hnews (by omega) (by omega) (growslice_fits (by omega) hbytes)
      have hge := grownCap_ge w (n + m) cap e
      have hcm' : grownCap w (n + m) cap e ≤ maxLen := grownCap_le_maxLen w (n + m) cap e h63'
      refine ⟨_, _, hr, ⟨by simp; omega, .inr ⟨w.heap.size, _, _, (0, 0), rfl, heap_alloc_new w.drew _, by simp, hge, hcm', ?_, ?_⟩⟩, ((Chg.refl _ w).drew).alloc _, by simp [Value.ownBlock], by simp⟩
      · simp only [Array.size_append, List.size_toArray, size_zeroCells, hzc]
        simp
        omega
      · simp only [Array.toList_append, List.append_assoc]
        rw [← List.append_assoc, ← show (xs ++ news).length = n + m by simp; omega]
        exact List.take_left
/-- append(s, make([]T, k)...), also of no element. -/
theorem run_appMZ {P : Program} (w : World) (t tn ty e : TypeId) (i : TypeInfo) (z : Value) (ht : P.underlying t = some (.slice e)) (kn kq : IntKind) (htn : P.underlying tn = some (.int kn)) (hi : P.info? e = some i) (hz : i.zero = some z)
    (hzc : z.cells = #[z]) (hs1 : i.size = 1) (hz1 : z.oneCell' = true) (g n cap : Nat) (xs : List Value) (hown : OwnM w e (.slice (some ⟨g, 0, none⟩) n cap) n xs) (k : Nat) (hk : 0 < k)
    (h63 : n + k ≤ 9223372036854775807) (hbytes : (n + k) * i.bytes ≤ 140737488355328) :
    ∃ v' w', (Builtin.append_ #[t, tn] ty #[.slice (some ⟨g, 0, none⟩) n cap, .int kq k]).run P w = .ok v' w' ∧ OwnM w' e v' (n + k) (xs ++ List.replicate k z) ∧ Chg [g] w w' ∧
      (∀ b ∈ v'.ownBlock.toList, b ∈ [g] ∨ w.heap.size ≤ b) := by
  have h63' : n + k ≤ maxLen := by simpa [maxLen] using h63
  have hs := hown.sees
  have hxl : xs.length = n := hown.1
  have hkb : k * i.bytes ≤ 140737488355328 := Nat.le_trans (Nat.mul_le_mul_right _ (by omega)) hbytes
  obtain ⟨cur, fz, hg, hfz, hnc, hcm, hcs, htake⟩ : ∃ (cur : Array Value) (fz : Nat × Nat), w.heap[g]? = some (.cells cur e fz) ∧ (∀ j, j < cur.size → ¬ (fz.1 ≤ j ∧ j < fz.2)) ∧ n ≤ cap ∧ cap ≤ maxLen ∧ cur.size = cap ∧ xs = cur.toList.take n := by
    rcases hown.2 with ⟨h, _⟩ | ⟨g', cap', cur, fz, hv, hg, hfz, hnc, hcm, hcs, htake⟩
    · simp at h
    · simp only [Value.slice.injEq, Option.some.injEq, Addr.mk.injEq, and_true, true_and] at hv
      obtain ⟨rfl, rfl⟩ := hv
      exact ⟨cur, fz, hg, hfz, hnc, hcm, hcs, htake.symm⟩
  by_cases hroom : n + k ≤ cap
  · have hw : IntKind.i64.wrap (k : Int) = k := by rw [IntKind.wrap_i64]; omega
    have hst := run_storeCells_atG P g n e fz (List.replicate k z) 0 cur w hg hfz (by simp; omega) (by simp [hz1])
    simp only [Nat.add_zero] at hst
    have h48i : ¬ (281474976710656 < (k : Int) * (i.bytes : Int)) := by rw [← Int.natCast_mul]; omega
    have hneg : ¬ ((k : Int) < 0) := by omega
    have hk0 : k ≠ 0 := by omega
    refine ⟨.slice (some ⟨g, 0, none⟩) (n + k) cap, w.setRow g (cur.toList.take n ++ List.replicate k z ++ cur.toList.drop (n + k)).toArray, ?_, ?_, ?_, ?_⟩
    · simp only [List.length_replicate] at hst
      simp [Builtin.append_, run_underlying ht, run_underlying htn, sizeOf, typeInfo, zeroValue, hi, hz, asInt, asIntOf, hw, hneg, hk0, h48i, hroom, hs1, hzc, zeroCells_one, Addr.add_lit]
      rw [hst]
      simp
    · refine ⟨by simp; omega, .inr ⟨g, cap, _, fz, rfl, setRow_heap w g cur _ e _ hg, ?_, hroom, hcm, ?_, ?_⟩⟩
      · intro j hj
        refine hfz j ?_
        simp at hj
        omega
      · simp; omega
      · rw [htake]
        have : (cur.toList.take n ++ List.replicate k z).length = n + k := by simp; omega
        rw [← this]
        exact List.take_left
    · exact ⟨rfl, rfl, rfl, by simp, fun b _ hb => setRow_other w g b _ (fun e => hb (by simp [e]))⟩
    · intro b hb
      left
      simpa [Value.ownBlock] using hb
  · have hold : ∀ j u, xs[j]? = some u → w.cell? ((⟨g, 0, none⟩ : Addr).add j) = some u := by
      obtain ⟨_, ao, cap', hv', _, _, hc⟩ := hs
      cases hv'
      exact hc _ rfl
    have hfc : (Builtin.firstCells i.size n (.slice (some ⟨g, 0, none⟩) n cap)).run P w.drew = .ok xs.toArray w.drew :=
      run_firstCells_some (P := P) w.drew i.size n ⟨g, 0, none⟩ n cap xs (by rw [hs1]; omega) hold
    have hr := Lib.run_append_grow_zeros (P := P) w t tn ty e i z kq kn ht htn hi hz (some ⟨g, 0, none⟩) n cap xs hfc k hk (by omega) (by omega) (by omega) (by omega) (growslice_fits (by omega) hbytes)
    have hge := grownCap_ge w (n + k) cap e
    have hcm : grownCap w (n + k) cap e ≤ maxLen := grownCap_le_maxLen w (n + k) cap e h63'
    refine ⟨_, _, hr, ⟨by simp; omega, .inr ⟨w.heap.size, _, _, (0, 0), rfl, heap_alloc_new w.drew _, by simp, hge, hcm, ?_, ?_⟩⟩, ((Chg.refl [g] w).drew).alloc _, by simp [Value.ownBlock]⟩
    · rw [hzc]
      simp [size_zeroCells]
      omega
    · rw [hzc]
      simp only [Array.toList_append, zeroCells_one]
      have : (xs ++ List.replicate k z).length = n + k := by simp; omega
      rw [← this]
      exact List.take_left
section
variable {P : Program} {w0 W : World} {o : Oper} {a : Act} (s x : Operand) (t : TypeId) {e : TypeId} {z : Value} {bytes : Nat} (ht : SliceTy P t e z 1 bytes) (hzc : z.cells = #[z])
include ht hzc
theorem wpList_appM {ops : Array Oper} {rest : List Oper} {Q : Exit → Act → World → Prop} (hgd : o.guard = none) (ho : o.op = .call { callee := .builtin .append, args := #[s, x], argTypes := #[t, t] })
    {v : Value} {n : Nat} {xs : List Value} (hf : FreshM w0 W e v n xs) (hv : v ≠ .slice none 0 0) (hs : a.eval s = v) {ad : Addr} {m c : Nat} {news : List Value} (hsrc : Sees W 1 (.slice (some ad) m c) m news) (hx : a.eval x = .slice (some ad) m c)
    (h1 : ∀ u ∈ news, u.oneCell' = true) (hb : (n + m) * bytes ≤ 140737488355328) (h63 : n + m ≤ 9223372036854775807)
    (h : ∀ v' W', FreshM w0 W' e v' (n + m) (xs ++ news) → v' ≠ .slice none 0 0 → Chg v.ownBlock.toList W W' → wpList P ops Q rest (a.put o.dst v') W') : wpList P ops Q (o :: rest) a W := by
  obtain ⟨ht1, ht2, ht3, ht4⟩ := ht
  obtain ⟨i, hi, hz0, hs1, rfl⟩ := info_parts ht2
  obtain ⟨hl, ao, cap, hv2, _, _, hcells⟩ := hsrc
  cases hv2
  obtain ⟨v', w', hr, h2, h3, h4, h5⟩ := run_appM (P := P) W t o.type e i z ht1 hi hz0 hzc hs1 v n xs hf.own hv ad m c news (by omega) (hcells ad rfl) h1 h63 hb
  refine wpList_plain hgd fun _ hK => ?_
  unfold Oper.wp execOp
  simp only [ho, resolve, invoke, builtin, Sem.run_bind, Sem.run_pure, Result.andThen_ok, List.map_toArray, List.map_cons, List.map_nil, hs, hx, hr]
  exact hK _ _ (h v' w' (hf.app h2 h3 h4) h5 h3)
theorem wpList_appMZ {ops : Array Oper} {rest : List Oper} {Q : Exit → Act → World → Prop} (hgd : o.guard = none) (tn : TypeId) (ho : o.op = .call { callee := .builtin .append, args := #[s, x], argTypes := #[t, tn] }) (hz1 : z.oneCell' = true) {kn kq : IntKind} (htn : P.underlying tn = some (.int kn))
    {g n cap : Nat} {xs : List Value} (hf : FreshM w0 W e (.slice (some ⟨g, 0, none⟩) n cap) n xs) (hs : a.eval s = .slice (some ⟨g, 0, none⟩) n cap) {k : Nat} {L : Int} (hx : a.eval x = .int kq L) (hL : L = (k : Int)) (hk : 0 < k)
    (hb : (n + k) * bytes ≤ 140737488355328) (h63 : n + k ≤ 9223372036854775807)
    (h : ∀ v' W', FreshM w0 W' e v' (n + k) (xs ++ List.replicate k z) → Chg [g] W W' → wpList P ops Q rest (a.put o.dst v') W') : wpList P ops Q (o :: rest) a W := by
  obtain ⟨ht1, ht2, ht3, ht4⟩ := ht
  obtain ⟨i, hi, hz0, h1, rfl⟩ := info_parts ht2
  subst hL
  obtain ⟨v', w', hr, h2, h3, h4⟩ := run_appMZ (P := P) W t tn o.type e i z ht1 kn kq htn hi hz0 hzc h1 hz1 g n cap xs hf.own k hk h63 hb
  exact Lib.wpList_append_run W hgd s x t tn ho _ _ hs hx v' w' hr (h v' w' (hf.app h2 h3 h4) h3)
end
theorem FreshM.ptr {w wr : World} {e : TypeId} {v : Value} {n : Nat} {xs : List Value} (h : FreshM w wr e v n xs) (hv : v ≠ .slice none 0 0) : ∃ g cap, v = .slice (some ⟨g, 0, none⟩) n cap ∧ w.heap.size ≤ g ∧ g < wr.heap.size := by
  rcases h.own.2 with ⟨h1, _⟩ | ⟨g, cap, cur, fz, rfl, h2, _⟩
  · exact absurd h1 hv
  · exact ⟨g, cap, rfl, h.new g (by simp [Value.ownBlock]), (Array.getElem?_eq_some_iff.1 h2).1⟩
/-- []byte("..") of a constant. -/
theorem FreshM.const (w : World) (C : Array Value) (e : TypeId) (hC : C.size ≤ maxLen) : FreshM w (w.alloc (.cells C e (C.size, C.size + 1))) e (.slice (some ⟨w.heap.size, 0, none⟩) C.size C.size) C.size C.toList := by
  refine ⟨⟨Array.length_toList, .inr ⟨w.heap.size, C.size, C, (C.size, C.size + 1), rfl, heap_alloc_new w _, fun j hj => ?_, Nat.le_refl _, hC, rfl, ?_⟩⟩, (Chg.refl [] w).alloc _, fun k hk => ?_⟩
  · show ¬ (C.size ≤ j ∧ j < C.size + 1); omega
  · exact List.take_of_length_le (by rw [Array.length_toList]; exact Nat.le_refl _)
  · simp [Value.ownBlock] at hk; omega
end Go.Aq
namespace Go.Proofs.YtgcmgcffndbpoaaGreatDoor
open Go.RowKit Go.Aq
/-- A text's bytes as a new slice that can be appended onto. -/
theorem convM (l : List UInt8) (hl : l.length ≤ 1000000) (w : World) : ∃ v w', (convert 9 38 (.string (str l))).run Tryz.prog w = .ok v w' ∧ FreshM w w' 5 v l.length (Bs l) ∧ v ≠ .slice none 0 0 := by
  have hr := run_bytes_of_string w 9 38 5 (str l) Tryz.underlying9 Tryz.underlying38 Tryz.underlying5
  have hcm : grownCap w (str l).size 0 5 ≤ maxLen := grownCap_le_maxLen w _ _ _ (by rw [str_size]; simp only [maxLen]; omega)
  generalize hcap : grownCap w (str l).size 0 5 = cap at hr hcm
  have hge : (str l).size ≤ cap := by rw [← hcap]; exact grownCap_ge w _ _ _
  rw [str_size] at hr hge
  have es : ByteArray.size ⟨l.toArray⟩ = l.length := str_size l
  have hsz : (bytesRow (str l) cap).size = cap := by simp only [bytesRow, str]; simp [es]; omega
  refine ⟨_, _, hr, ⟨⟨Bs_length l, .inr ⟨w.heap.size, cap, bytesRow (str l) cap, _, rfl, heap_alloc_new w.drew _, fun j hj => by show ¬ (_ ≤ j ∧ j < _); omega, hge, hcm, hsz, ?_⟩⟩, ((Chg.refl [] w).drew).alloc _, by simp [Value.ownBlock]⟩, by simp⟩
  apply List.ext_getElem?
  intro j
  by_cases hj : j < l.length
  · rw [List.getElem?_take_of_lt hj]
    simp [bytesRow, str, Bs, Bc, List.getElem?_append, hj]
  · rw [List.getElem?_eq_none (by simp; omega), List.getElem?_eq_none (by rw [Bs_length]; omega)]
end Go.Proofs.YtgcmgcffndbpoaaGreatDoor

/- Sectors of the log and of the files' top: big, sector, head, mark, top. No statement of the seat is proved here. -/
namespace Go.Aq.Fy
open Go.Aq Go.RowKit
theorem join_flat (ls : List (List UInt8)) : Lib.join ls [] = ls.flatten := by
  unfold Lib.join
  induction ls with
  | nil => rfl
  | cons l r ih =>
    cases r with
    | nil => simp [List.intercalate]
    | cons m r =>
      simp only [List.intercalate, List.intersperse, List.flatten_cons, List.nil_append] at ih ⊢
      rw [ih]
theorem lens_flat (ls : List (List UInt8)) : Lib.lens ls = ls.flatten.length := by
  induction ls with
  | nil => rfl
  | cons l r ih => simp [Lib.lens] at ih ⊢
theorem sees_fresh {B : Nat} {w' : World} {v : Value} {l : List UInt8} (h : Lib.FreshBytes B w' v l) : ∃ g cap, v = .slice (some ⟨g, 0, none⟩) l.length cap ∧ Sees w' 1 v l.length (Bs l) ∧ B ≤ g := by
  obtain ⟨g, cap, zs, rfl, h1, h2, h3, h4, h5, h6, h7, -⟩ := h
  refine ⟨g, cap, rfl, ⟨by rw [Bs_length, Nat.mul_one], _, cap, rfl, h2, by simp, fun ad had j u hu => ?_⟩, h1⟩
  cases had
  have hj : j < l.length := by have := (List.getElem?_eq_some_iff.1 hu).1; rwa [Bs_length] at this
  rw [Addr.add_lit, Nat.zero_add, h7 j (by omega)]
  rw [Bs_get l j hj] at hu
  have hz : j < zs.length := by omega
  have h8 := h5 _ (List.getElem_mem hz)
  have e : l[j]? = some (UInt8.ofNat (zs[j]).toNat) := by
    rw [← h6]
    simp [Lib.bytesOf, List.getElem?_take_of_lt hj, hz]
  have e2 : l[j] = UInt8.ofNat (zs[j]).toNat := by rw [List.getElem?_eq_getElem hj] at e; injection e
  rw [← hu, e2]
  simp [List.getD_eq_getElem?_getD, hz, UInt8.toNat_ofNat']
  omega
end Go.Aq.Fy
namespace Go.Proofs.YtgcmgcffndbpoaaGreatDoor
open Go.RowKit Go.Aq Go.Aq.Fy
theorem bigW (w : World) (n wd : Nat) (c : Int) (hc : c = (n : Nat)) (h1 : 1 ≤ wd) (h6 : wd ≤ 6) (hn : n < 2 ^ (8 * wd)) :
    Calls Tryz.prog 96 #[.int .i64 c, .int .i64 wd] w fun e w' => ∃ g, e = .returned (.slice (some ⟨g, 0, none⟩) wd wd) ∧ Fresh w w' 5 1 (.slice (some ⟨g, 0, none⟩) wd wd) wd (Bs (beB n wd)) := by
  subst hc
  have hb := big_ok w n wd h1 h6 hn sl_u8y
  clear h1 h6 hn
  go_enter Tryz.func96, Tryz.ntmps96
  go_wp2_with fail
  refine hb.mono ?_
  rintro e w' ⟨g, rfl, ho, hc, hg⟩
  go_wp2_with fail
  go_ret
  exact ⟨g, rfl, ho, hc, by simpa [Value.ownBlock] using hg⟩
theorem bigF (w : World) (n wd : Nat) (c : Int) (hc : c = (n : Nat)) (h1 : 1 ≤ wd) (h6 : wd ≤ 6) (hn : n < 2 ^ (8 * wd)) :
    Calls Tryz.prog 79 #[.int .i64 c, .int .i64 wd] w fun e w' => ∃ g, e = .returned (.slice (some ⟨g, 0, none⟩) wd wd) ∧ Fresh w w' 5 1 (.slice (some ⟨g, 0, none⟩) wd wd) wd (Bs (beB n wd)) := by
  subst hc
  have hb := big_ok w n wd h1 h6 hn sl_u8y
  clear h1 h6 hn
  go_enter Tryz.func79, Tryz.ntmps79
  go_wp2_with fail
  refine hb.mono ?_
  rintro e w' ⟨g, rfl, ho, hc, hg⟩
  go_wp2_with fail
  go_ret
  exact ⟨g, rfl, ho, hc, by simpa [Value.ownBlock] using hg⟩
/-- A text and joined parts, filled up to a sector. -/
theorem sector_by (w : World) (t : List UInt8) (b o n c : Nat) (l : List UInt8) (hl : t.length + l.length < 256)
    (hj : ∀ w', Chg [] w w' → Calls Tryz.prog 116 #[.slice (some ⟨b, o, none⟩) n c, .slice none 0 0] w' fun e w'' => ∃ v', e = .returned v' ∧ Lib.FreshBytes w'.heap.size w'' v' l ∧ Below w'.heap.size w' w'') :
    Calls Tryz.prog 95 #[.string (str t), .slice (some ⟨b, o, none⟩) n c] w fun e w' => ∃ v', e = .returned v' ∧ FreshM w w' 5 v' 256 (Bs (fill (t ++ l))) := by
  obtain ⟨v1, w1, hr1, hF1, hv1⟩ := convM t (by omega) w
  have h2 := hj w1 hF1.chg
  obtain ⟨k, hk, hk0⟩ : ∃ k, k + (t.length + l.length) = 256 ∧ 0 < k := ⟨256 - (t.length + l.length), by omega, by omega⟩
  have HK := Lib.hid hk
  have HK0 := Lib.hid hk0
  have HV := Lib.hid (And.intro hF1 hv1)
  obtain ⟨a1, c1, rfl, -⟩ := hF1.shape
  clear hj hF1 hv1 hl hk hk0
  go_enter Tryz.func95, Tryz.ntmps95
  go_wp2_with fail
  refine h2.mono ?_
  rintro e w2 ⟨v2, rfl, hf2, hb2⟩
  obtain ⟨g2, c2, rfl, hs2, -⟩ := sees_fresh hf2
  have hF2 := HV.out.1.to (Chg.of_below hb2)
  have hlt : t.length + l.length ≤ 256 := by have := HK.out; omega
  clear hf2 hb2 h2 hr1
  go_upto_region 2 with (at_builtin; refine wpList_appM _ _ 38 sl_u8y rfl rfl rfl hF2 HV.out.2 rfl hs2 rfl (Bs_one _) (by omega) (by omega) ?_; intro v3 w3 hF3 hv3 c3)
  obtain ⟨g3, c3', rfl, -, -⟩ := hF3.ptr hv3
  have hsub : wrap64 (256 - ((t.length + l.length : Nat) : Int)) = (k : Int) := by have := HK.out; unfold wrap64; omega
  have hsub' : (256 - ((t.length + l.length : Nat) : Int)) = (k : Int) := by have := HK.out; omega
  generalize hm : t.length + l.length = m at *
  have HM := Lib.hid hm
  clear hF2 hs2 c3 hlt hm
  go_wp2_with (at_builtin; refine wpList_appMZ (k := k) _ _ 38 sl_u8y rfl rfl 3 rfl rfl Tryz.underlying3 hF3 rfl rfl (by first | exact hsub | exact hsub' | rfl) HK0.out (by have := HK.out; omega) (by have := HK.out; omega) ?_; intro v4 w4 hF4 c4)
  go_ret
  have hk := HK.out
  have hm := HM.out
  have e : Bs (fill (t ++ l)) = Bs t ++ Bs l ++ List.replicate k (Value.int .u8 0) := by
    unfold fill
    rw [Bs_append, Bs_append, rep_nul, List.length_append, show 256 - (t.length + l.length) = k by omega]
  rw [e]
  rw [show m + k = 256 by omega] at hF4
  exact ⟨_, rfl, hF4⟩
theorem holds_of {w : World} {v : Value} {l : List UInt8} (h : Sees w 1 v l.length (Bs l)) : Lib.HoldsBytes w v l := by
  obtain ⟨_, ao, cap, rfl, _, hno, hc⟩ := h
  refine ⟨ao, cap, rfl, fun e => List.eq_nil_of_length_eq_zero (hno e).1, fun a ha i x hx => hc a ha i _ ?_⟩
  obtain ⟨hi, rfl⟩ := List.getElem?_eq_some_iff.1 hx
  exact Bs_get l i hi
theorem join_ok {w : World} {b : Nat} {vs : List Value} {ls : List (List UInt8)} {e : TypeId} (hb : Blk w b vs.toArray e) (hl : vs.length = ls.length) (hs : ∀ (i : Nat) v l, vs[i]? = some v → ls[i]? = some l → Sees w 1 v l.length (Bs l)) (h2 : 2 ≤ ls.length) (h3 : ls.length ≤ 1000) (ht : ls.flatten.length ≤ 1000000)
    (n : Nat) (hn : ls.length = n) : ∀ w', Chg [] w w' → Calls Tryz.prog 116 #[.slice (some ⟨b, 0, none⟩) n n, .slice none 0 0] w' fun e w'' => ∃ v', e = .returned v' ∧ Lib.FreshBytes w'.heap.size w'' v' ls.flatten ∧ Below w'.heap.size w' w'' := by
  intro w' c
  subst hn
  have hP : Lib.PartsAt w' ⟨b, 0, none⟩ vs ls := by
    refine ⟨hl, fun i v hv => ?_, fun i v l hv hl' => holds_of ((hs i v l hv hl').chg0 c)⟩
    have := (hb.chg0 c).cell i
    rw [Addr.add_lit, Nat.zero_add, this]
    simpa using hv
  have h := Tryz.bytes_Join_many b 0 ls.length ls.length vs ls (.slice none 0 0) [] w' rfl h2 hP (Nat.le_refl _) ⟨none, 0, rfl, fun _ => rfl, by simp⟩ (by omega) (by rw [lens_flat]; simp only [List.length_nil, Nat.zero_mul]; omega)
  rw [join_flat] at h
  exact h
theorem bes_lt (n wd m : Nat) (h : n < m) (hm : m = 2 ^ (8 * wd)) : n < 2 ^ (8 * wd) := by omega
set_option maxHeartbeats 1000000 in
theorem head_any (w : World) (ring seq pos : Nat) (c1 c2 c3 : Int) (e1 : c1 = (ring : Nat)) (e2 : c2 = (seq : Nat)) (e3 : c3 = (pos : Nat)) (h1 : ring < 65536) (h2 : seq < 281474976710656) (h3 : pos < 65536) :
    Calls Tryz.prog 75 #[.int .i64 c1, .int .i64 c2, .int .i64 c3] w fun e w' => ∃ v', e = .returned v' ∧ FreshM w w' 5 v' 256 (Bs (headB ring seq pos)) := by
  have hb1 := fun w => bigW w ring 2 c1 e1 (by decide) (by decide) (bes_lt ring 2 65536 h1 (by decide))
  have hb2 := fun w => bigW w seq 6 c2 e2 (by decide) (by decide) (bes_lt seq 6 281474976710656 h2 (by decide))
  have hb3 := fun w => bigW w pos 2 c3 e3 (by decide) (by decide) (bes_lt pos 2 65536 h3 (by decide))
  clear e1 e2 e3 h1 h2 h3
  go_enter Tryz.func75, Tryz.ntmps75
  go_wp2_with fail
  refine (hb1 w).mono ?_
  rintro e w1 ⟨g1, rfl, f1⟩
  go_wp2_with fail
  refine (hb2 w1).mono ?_
  rintro e w2 ⟨g2, rfl, f2⟩
  go_wp2_with fail
  refine (hb3 w2).mono ?_
  rintro e w3 ⟨g3, rfl, f3⟩
  clear hb1 hb2 hb3
  have hB := Blk.new w3 #[.slice (some ⟨g1, 0, none⟩) 2 2, .slice (some ⟨g2, 0, none⟩) 6 6, .slice (some ⟨g3, 0, none⟩) 2 2] 38
  have ca : Chg [] w3 (w3.alloc (.cells #[.slice (some ⟨g1, 0, none⟩) 2 2, .slice (some ⟨g2, 0, none⟩) 6 6, .slice (some ⟨g3, 0, none⟩) 2 2] 38)) := (Chg.refl [] _).alloc _
  have hj := join_ok (vs := [.slice (some ⟨g1, 0, none⟩) 2 2, .slice (some ⟨g2, 0, none⟩) 6 6, .slice (some ⟨g3, 0, none⟩) 2 2]) (ls := [beB ring 2, beB seq 6, beB pos 2]) hB rfl (fun i v l hv hl => by
    match i with
    | 0 => cases hv; cases hl; rw [beB_length]; exact ((f1.own.sees.chg0 f2.chg).chg0 f3.chg).chg0 ca
    | 1 => cases hv; cases hl; rw [beB_length]; exact (f2.own.sees.chg0 f3.chg).chg0 ca
    | 2 => cases hv; cases hl; rw [beB_length]; exact f3.own.sees.chg0 ca
    | i + 3 => simp at hv) (by simp) (by simp) (by simp [beB_length]) 3 rfl
  have hs := sector_by (w3.alloc (.cells #[.slice (some ⟨g1, 0, none⟩) 2 2, .slice (some ⟨g2, 0, none⟩) 6 6, .slice (some ⟨g3, 0, none⟩) 2 2] 38)) [65, 81] _ _ _ _ _ (by simp [beB_length]) hj
  have hcc : Chg [] w (w3.alloc (.cells #[.slice (some ⟨g1, 0, none⟩) 2 2, .slice (some ⟨g2, 0, none⟩) 6 6, .slice (some ⟨g3, 0, none⟩) 2 2] 38)) := ((f1.chg.nil f2.chg).nil f3.chg).nil ca
  clear hj hB ca f1 f2 f3
  go_wp2_with fail
  refine hs.mono ?_
  rintro e w5 ⟨v5, rfl, hF⟩
  go_wp2_with fail
  go_ret
  refine ⟨_, rfl, ?_⟩
  have : headB ring seq pos = fill ([65, 81] ++ [beB ring 2, beB seq 6, beB pos 2].flatten) := by simp [headB]
  rw [this]
  exact hF.based hcc
set_option maxHeartbeats 1000000 in
theorem mark_any (w : World) (seq pos n : Nat) (c1 c2 c3 : Int) (e1 : c1 = (seq : Nat)) (e2 : c2 = (pos : Nat)) (e3 : c3 = (n : Nat)) (h1 : seq < 281474976710656) (h2 : pos < 65536) (h3 : n < 65536) :
    Calls Tryz.prog 93 #[.int .i64 c1, .int .i64 c2, .int .i64 c3] w fun e w' => ∃ v', e = .returned v' ∧ FreshM w w' 5 v' 256 (Bs (markB seq pos n)) := by
  have hb1 := fun w => bigW w seq 6 c1 e1 (by decide) (by decide) (bes_lt seq 6 281474976710656 h1 (by decide))
  have hb2 := fun w => bigW w pos 2 c2 e2 (by decide) (by decide) (bes_lt pos 2 65536 h2 (by decide))
  have hb3 := fun w => bigW w n 2 c3 e3 (by decide) (by decide) (bes_lt n 2 65536 h3 (by decide))
  clear e1 e2 e3 h1 h2 h3
  go_enter Tryz.func93, Tryz.ntmps93
  go_wp2_with fail
  refine (hb1 w).mono ?_
  rintro e w1 ⟨g1, rfl, f1⟩
  go_wp2_with fail
  refine (hb2 w1).mono ?_
  rintro e w2 ⟨g2, rfl, f2⟩
  go_wp2_with fail
  refine (hb3 w2).mono ?_
  rintro e w3 ⟨g3, rfl, f3⟩
  clear hb1 hb2 hb3
  have hB := Blk.new w3 #[.slice (some ⟨g1, 0, none⟩) 6 6, .slice (some ⟨g2, 0, none⟩) 2 2, .slice (some ⟨g3, 0, none⟩) 2 2] 38
  have ca : Chg [] w3 (w3.alloc (.cells #[.slice (some ⟨g1, 0, none⟩) 6 6, .slice (some ⟨g2, 0, none⟩) 2 2, .slice (some ⟨g3, 0, none⟩) 2 2] 38)) := (Chg.refl [] _).alloc _
  have hj := join_ok (vs := [.slice (some ⟨g1, 0, none⟩) 6 6, .slice (some ⟨g2, 0, none⟩) 2 2, .slice (some ⟨g3, 0, none⟩) 2 2]) (ls := [beB seq 6, beB pos 2, beB n 2]) hB rfl (fun i v l hv hl => by
    match i with
    | 0 => cases hv; cases hl; rw [beB_length]; exact ((f1.own.sees.chg0 f2.chg).chg0 f3.chg).chg0 ca
    | 1 => cases hv; cases hl; rw [beB_length]; exact (f2.own.sees.chg0 f3.chg).chg0 ca
    | 2 => cases hv; cases hl; rw [beB_length]; exact f3.own.sees.chg0 ca
    | i + 3 => simp at hv) (by simp) (by simp) (by simp [beB_length]) 3 rfl
  have hs := sector_by (w3.alloc (.cells #[.slice (some ⟨g1, 0, none⟩) 6 6, .slice (some ⟨g2, 0, none⟩) 2 2, .slice (some ⟨g3, 0, none⟩) 2 2] 38)) [65, 67] _ _ _ _ _ (by simp [beB_length]) hj
  have hcc : Chg [] w (w3.alloc (.cells #[.slice (some ⟨g1, 0, none⟩) 6 6, .slice (some ⟨g2, 0, none⟩) 2 2, .slice (some ⟨g3, 0, none⟩) 2 2] 38)) := ((f1.chg.nil f2.chg).nil f3.chg).nil ca
  clear hj hB ca f1 f2 f3
  go_wp2_with fail
  refine hs.mono ?_
  rintro e w5 ⟨v5, rfl, hF⟩
  go_wp2_with fail
  go_ret
  refine ⟨_, rfl, ?_⟩
  have : markB seq pos n = fill ([65, 67] ++ [beB seq 6, beB pos 2, beB n 2].flatten) := by simp [markB]
  rw [this]
  exact hF.based hcc
set_option maxHeartbeats 1000000 in
theorem top_any (w : World) (n : Nat) (h3 : n < 65536) :
    Calls Tryz.prog 51 #[.int .i64 n] w fun e w' => ∃ v', e = .returned v' ∧ FreshM w w' 5 v' 256 (Bs (topB n)) := by
  have hb1 := fun w => bigF w n 2 n rfl (by decide) (by decide) (bes_lt n 2 65536 h3 (by decide))
  have kc := fun w C n c => Lib.run_convert_bytes_const (P := Tryz.prog) w 38 5 C n c Tryz.underlying38 Tryz.underlying5
  have hF0 : FreshM w (w.alloc (.cells #[.int .u8 65, .int .u8 70] 5 (2, 3))) 5 (.slice (some ⟨w.heap.size, 0, none⟩) 2 2) 2 (Bs [65, 70]) := FreshM.const w #[.int .u8 65, .int .u8 70] 5 (by decide)
  clear h3
  go_enter Tryz.func51, Tryz.ntmps51
  go_wp2_with fail
  refine (hb1 _).mono ?_
  rintro e w2 ⟨g2, rfl, f2⟩
  have hF2 := hF0.to f2.chg
  clear hb1 hF0 kc
  go_upto_region 2 with (at_builtin; refine wpList_appM _ _ 38 sl_u8y rfl rfl rfl hF2 (by simp) rfl f2.own.sees rfl (Bs_one _) (by decide) (by decide) ?_; intro v3 w3 hF3 hv3 c3)
  obtain ⟨g3, c3', rfl, -, -⟩ := hF3.ptr hv3
  clear hF2 f2 c3
  go_wp2_with (at_builtin; refine wpList_appMZ (k := 252) _ _ 38 sl_u8y rfl rfl 3 rfl rfl Tryz.underlying3 hF3 rfl rfl (by decide) (by decide) (by decide) (by decide) ?_; intro v4 w4 hF4 c4)
  go_ret
  refine ⟨_, rfl, ?_⟩
  have : Bs (topB n) = Bs [65, 70] ++ Bs (beB n 2) ++ List.replicate 252 (Value.int .u8 0) := by
    unfold topB fill
    rw [Bs_append, Bs_append, rep_nul, List.length_append, beB_length]
    rfl
  rw [this]
  exact hF4
end Go.Proofs.YtgcmgcffndbpoaaGreatDoor

/- The log in memory: its numbers; writes of a list of sectors; done; Format. No statement of the seat is proved here. -/
namespace Go.Aq
theorem Blk.c4b {w : World} {p : Nat} {a b c d : Value} {t : TypeId} (h : Blk w p #[a, b, c, d] t) :
    (w.cell? ⟨p, 0, none⟩ = some a ∧ w.cell? ⟨p, 1, none⟩ = some b ∧ w.cell? ⟨p, 2, none⟩ = some c ∧ w.cell? ⟨p, 3, none⟩ = some d) ∧ w.frozen? ⟨p, 0, none⟩ = false ∧ w.frozen? ⟨p, 1, none⟩ = false ∧ w.frozen? ⟨p, 2, none⟩ = false ∧ w.frozen? ⟨p, 3, none⟩ = false :=
  ⟨⟨h.cell 0, h.cell 1, h.cell 2, h.cell 3⟩, h.frozen 0, h.frozen 1, h.frozen 2, h.frozen 3⟩
end Go.Aq
namespace Go.Aq.Fy
open Go.Aq Go.RowKit
theorem putD_code (D : DiskD) (k : Nat) (b : Sec) : (putD D k b).2 = 0 ∧ (putD D k b).1.down = D.down ∨ (putD D k b).2 = 12 := by
  unfold putD
  split
  · exact .inl ⟨rfl, rfl⟩
  · split
    · exact .inr rfl
    · exact .inl ⟨rfl, rfl⟩
theorem crashD_n (D : DiskD) (m : Sec) : (crashD D m).n = D.n := by unfold crashD; split <;> rfl
theorem crashD_pend (D : DiskD) (m : Sec) : (crashD D m).pend.length ≤ D.pend.length := by unfold crashD; split <;> simp
theorem putD_n (D : DiskD) (k : Nat) (b : Sec) : (putD D k b).1.n = D.n := by
  unfold putD
  split
  · rfl
  · split
    · exact crashD_n _ _
    · rfl
theorem putD_pend (D : DiskD) (k : Nat) (b : Sec) : (putD D k b).1.pend.length ≤ D.pend.length + 1 := by
  unfold putD
  split
  · simp
  · split
    · exact Nat.le_trans (crashD_pend _ _) (by simp)
    · simp
theorem writeD_put {D : DiskD} {k : Nat} {b : Sec} (hd : D.down = false) (hk : k < D.n) (hb : b.length = 256) : writeD D k b = putD D k b := by
  unfold writeD
  rw [hd, if_neg (by decide), if_neg (by omega), if_neg (by omega)]
theorem wIq {a b : Int} (h : wrap64 a = b) : IntKind.i64.wrap a = b := by rw [IntKind.wrap_i64]; unfold wrap64 at h; omega
end Go.Aq.Fy
namespace Go.Proofs.YtgcmgcffndbpoaaGreatDoor
open Go.RowKit Go.Aq Go.Aq.Fy Go.Maps
theorem PendR.lens {w : World} {S : List Nat} : ∀ {l : Puts} {xs : List Value}, PendR w S l xs → ∀ q ∈ l, q.2.length = 256
  | _, _, .cons h1 h2, q, hq => by
    rcases List.mem_cons.1 hq with rfl | hq
    · exact h1.len
    · exact PendR.lens h2 q hq
set_option maxRecDepth 100000 in
set_option maxHeartbeats 2000000 in
theorem writes_ok (w : World) (S : List Nat) (p : Nat) (D : DiskD) (h : DiskR w S p D) (hd : D.down = false) (l : Puts) (hp : D.pend.length + l.length ≤ 900000) (hk : ∀ q ∈ l, q.1 < D.n) (v : Value) (xs : List Value) (hs : Sees w 2 v l.length xs) (hx : PendR w S l xs) (ho : Disj (eyes v) S) :
    Calls Tryz.prog 84 #[.pointer (some ⟨p, 0, none⟩), v] w fun e w' => e = .returned (.int .i64 (writesD D l).2) ∧ ∃ S', DiskR w' S' p (writesD D l).1 ∧ Upd S S' w w' := by
  obtain ⟨m, hm⟩ : ∃ m, l.length = m := ⟨_, rfl⟩
  rw [hm] at hs hp
  obtain ⟨ao, cap, rfl, -⟩ := hs.shape
  have HM := Lib.hid hm
  have HS := Lib.hid (And.intro hs (And.intro hx ho))
  have HK := Lib.hid hk
  have HB := Lib.hid hp
  have HH := Lib.hid (And.intro h hd)
  clear hm hs hx ho hk hp h hd
  go_enter Tryz.func84, Tryz.ntmps84
  go_wp2_with fail
  go_loopg [10] m (fun k (v10 : Value) wr => ∃ (i : Nat) (S' : List Nat) (Di : DiskD), v10 = .int .i64 (i : Int) ∧ i ≤ m ∧ k = m - i ∧ DiskR wr S' p Di ∧ Upd S S' w wr ∧ Hid (Di.down = false ∧ Di.n = D.n ∧ Di.pend.length ≤ D.pend.length + i ∧ eachD D l = eachD Di (l.drop i)))
  case atStart => exact ⟨0, S, D, rfl, by omega, by omega, HH.out.1, Upd.refl _ _, HH.out.2, rfl, Nat.le_refl _, rfl⟩
  case round =>
    obtain ⟨i, S', Di, rfl, hi, hk1, hR, hU, hI⟩ := hrel
    by_cases him : i < m
    · have t1 : decide ((i : Int) < (m : Int)) = true := decide_eq_true (by omega)
      have him' : i < l.length := by rw [HM.out]; exact him
      have hpd : PendR wr S' l xs := HS.out.2.1.upd hU
      have hsw : Sees wr 2 (.slice ao m cap) m xs := HS.out.1.chg hU.chg HS.out.2.2
      obtain ⟨g', off', cap', a5, q5, e1, hmc, x0, x1, hsv⟩ := hpd.cells hsw HM.out him'
      injection e1 with e1 _ e2
      subst e1 e2
      have hkn : (l[i]).1 < Di.n := by rw [hI.out.2.1]; exact HK.out _ (List.getElem_mem him')
      have hdrop : l.drop i = l[i] :: l.drop (i + 1) := List.drop_eq_getElem_cons him'
      generalize l[i] = pt at *
      obtain ⟨pk, pb⟩ := pt
      simp only at x0 hsv hkn
      have hca : Chg [] wr (wr.alloc (.cells #[.int .i64 pk, .slice a5 256 q5] 120)) := (Chg.refl [] wr).alloc _
      have hbx : Blk (wr.alloc (.cells #[.int .i64 pk, .slice a5 256 q5] 120)) wr.heap.size #[.int .i64 pk, .slice a5 256 q5] 120 := Blk.new _ _ _
      obtain ⟨⟨z0, z1⟩, -⟩ := hbx.c2
      have hwr := write_ok (wr.alloc (.cells #[.int .i64 pk, .slice a5 256 q5] 120)) S' p Di pk pb (.slice a5 256 q5) (hR.chg hca) hI.out.1 hkn (by have := hI.out.2.2.1; have := HB.out; omega) (hsv.chg hca (by simp))
      have hwd := writeD_put hI.out.1 hkn hsv.len
      have hstep : eachD Di (l.drop i) = if (putD Di pk pb).2 = 0 then eachD (putD Di pk pb).1 (l.drop (i + 1)) else putD Di pk pb := by
        rw [hdrop]; simp only [eachD, hwd]
      have hu1 : Upd S S' w (wr.alloc (.cells #[.int .i64 pk, .slice a5 256 q5] 120)) := hU.nil hca
      have hcode := putD_code Di pk pb
      have hpn := putD_n Di pk pb
      have hpp := putD_pend Di pk pb
      have hwi : Hid (wrap64 ((i : Int) + 1) = (i : Int) + 1) := by have := HB.out; show _ = _; unfold wrap64; omega
      have HQ := Lib.hid (And.intro hk1 (And.intro hstep (And.intro hu1 (And.intro hpn hpp))))
      clear hk1 hstep hu1 hpn hpp hpd hsw hmc hsv hkn hdrop hwd hbx hca hR hU hi him'
      generalize putD Di pk pb = R at *
      obtain ⟨D2, c2⟩ := R
      simp only at hcode hwr
      rcases hcode with ⟨rfl, hdn⟩ | rfl
      · go_wp2_with fail
        refine hwr.mono ?_
        rintro e w2 ⟨rfl, S2, hR2, hU2⟩
        have HD2 := Lib.hid hdn
        clear hwr x0 x1 z0 z1 hdn
        go_wp2_with fail
        go_roundg (gk - 1)
        case measure => have := HQ.out.1; omega
        case rel =>
          have hi1 : i + 1 ≤ m := him
          obtain ⟨q1, q2, q3, q4, q5⟩ := HQ.out
          refine ⟨i + 1, S2, D2, by rw [hwi.out]; rfl, hi1, by omega, hR2, q3.trans hU2, ?_⟩
          have := hI.out.2.2.1
          exact ⟨by rw [HD2.out]; exact hI.out.1, by rw [q4]; exact hI.out.2.1, by omega, by rw [hI.out.2.2.2, q2]; simp⟩
      · go_wp2_with fail
        refine hwr.mono ?_
        rintro e w2 ⟨rfl, S2, hR2, hU2⟩
        clear hwr x0 x1 z0 z1
        go_wp2_with fail
        go_ret
        obtain ⟨q1, q2, q3, q4, q5⟩ := HQ.out
        have he : eachD D l = (D2, 12) := by rw [hI.out.2.2.2, q2]; simp
        have hw : writesD D l = (D2, 12) := by unfold writesD; rw [he]; simp
        rw [hw]
        exact ⟨rfl, S2, hR2, q3.trans hU2⟩
    · have t1 : decide ((i : Int) < (m : Int)) = false := decide_eq_false (by omega)
      have e : i = m := by omega
      subst e
      have hfl := flush_ok wr S' p Di hR hI.out.1 (by have := hI.out.2.2.1; have := HB.out; omega)
      have he : eachD D l = (Di, 0) := by rw [hI.out.2.2.2, List.drop_of_length_le (by rw [HM.out]; exact Nat.le_refl _)]; rfl
      have hw : writesD D l = flushD Di := by unfold writesD; rw [he]; simp
      have h2 : (flushD Di).2 = 0 := by unfold flushD; rw [hI.out.1]; rfl
      have HW := Lib.hid (And.intro hw (And.intro h2 hU))
      clear hw h2 hU hR he hk1 hi
      go_wp2_with fail
      refine hfl.mono ?_
      rintro e w2 ⟨rfl, S2, hR2, hU2⟩
      clear hfl
      go_wp2_with fail
      go_ret
      rw [HW.out.1, HW.out.2.1]
      exact ⟨rfl, S2, hR2, HW.out.2.2.trans hU2⟩
/-- Pointer l is the log L on the disk p. -/
def LogR (w : World) (l p : Nat) (L : LogD) : Prop := Blk w l #[.pointer (some ⟨p, 0, none⟩), .int .i64 L.ring, .int .i64 L.seq, .int .i64 L.pos] 127
theorem LogR.chg {w w' : World} {S : List Nat} {l p : Nat} {L : LogD} (h : LogR w l p L) (c : Chg S w w') (hl : l ∉ S) : LogR w' l p L := Blk.chg h c hl
theorem tdiv_nat (a b : Nat) : ((a : Int)).tdiv (b : Int) = ((a / b : Nat) : Int) := by
  rw [Int.tdiv_eq_ediv_of_nonneg (by omega)]; exact (Int.natCast_ediv a b).symm
theorem tmod_nat (a b : Nat) : ((a : Int)).tmod (b : Int) = ((a % b : Nat) : Int) := by
  rw [Int.tmod_eq_emod_of_nonneg (by omega)]; exact (Int.natCast_emod a b).symm
theorem need_ok (w : World) (v : Value) (n : Nat) (hn : n ≤ 1000000) :
    Calls Tryz.prog 37 #[v, .int .i64 n] w fun e w' => e = .returned (.int .i64 (need n)) ∧ w' = w := by
  by_cases h1 : n < 1
  · have t1 : decide ((n : Int) < 1) = true := decide_eq_true (by omega)
    have e : need n = 0 := by unfold need; rw [if_pos h1]
    rw [e]
    clear h1 hn
    go_enter Tryz.func37, Tryz.ntmps37
    go_wp2_with fail
    go_ret
    exact ⟨rfl, rfl⟩
  · have t1 : decide ((n : Int) < 1) = false := decide_eq_false (by omega)
    have e : need n = n + (n - 1) / 64 + 1 := by unfold need; rw [if_neg h1]
    have e1 : wrap64 ((n : Int) - 1) = ((n - 1 : Nat) : Int) := by unfold wrap64; omega
    have hle : (n - 1) / 64 ≤ n := Nat.le_trans (Nat.div_le_self _ _) (Nat.sub_le _ _)
    have e2 := tdiv_nat (n - 1) 64
    generalize (n - 1) / 64 = q at *
    have e3 : wrap64 (q : Int) = (q : Int) := by unfold wrap64; omega
    have e4 : wrap64 ((n : Int) + (q : Int)) = ((n + q : Nat) : Int) := by unfold wrap64; omega
    have e5 : wrap64 (((n + q : Nat) : Int) + 1) = ((n + q + 1 : Nat) : Int) := by unfold wrap64; omega
    rw [e]
    generalize hs : n + q + 1 = s at *
    generalize hm : n - 1 = m at *
    generalize hr : n + q = r at *
    have e2' : ((m : Int)).tdiv 64 = (q : Int) := e2
    clear h1 hn e hle hs hm hr e2
    go_enter Tryz.func37, Tryz.ntmps37
    go_wp2_with fail
    go_ret
    exact ⟨ret_int e5, rfl⟩
theorem ring_ok (w : World) (l p : Nat) (L : LogD) (h : LogR w l p L) :
    Calls Tryz.prog 38 #[.pointer (some ⟨l, 0, none⟩)] w fun e w' => e = .returned (.int .i64 L.ring) ∧ w' = w := by
  obtain ⟨⟨c0, c1, c2, c3⟩, -⟩ := Blk.c4b h
  clear h c0 c2 c3
  go_enter Tryz.func38, Tryz.ntmps38
  go_wp2_with fail
  go_ret
  exact ⟨rfl, rfl⟩
theorem home_ok (w : World) (l p : Nat) (L : LogD) (h : LogR w l p L) (hr : L.ring < 65536) :
    Calls Tryz.prog 48 #[.pointer (some ⟨l, 0, none⟩)] w fun e w' => e = .returned (.int .i64 (homeL L)) ∧ w' = w := by
  obtain ⟨⟨c0, c1, c2, c3⟩, -⟩ := Blk.c4b h
  have e : wrap64 (2 + (L.ring : Int)) = ((homeL L : Nat) : Int) := by unfold wrap64 homeL; omega
  generalize L.ring = r at *
  generalize homeL L = q at *
  clear h c0 c2 c3 hr
  go_enter Tryz.func48, Tryz.ntmps48
  go_wp2_with fail
  go_ret
  exact ⟨ret_int (by first | assumption | rfl), rfl⟩
theorem in_ok (w : World) (l p : Nat) (L : LogD) (h : LogR w l p L) (i : Nat) (hi : i ≤ 1000000) (hr : L.ring < 65536) (hp : L.pos < 65536) (h0 : 0 < L.ring) :
    Calls Tryz.prog 115 #[.pointer (some ⟨l, 0, none⟩), .int .i64 i] w fun e w' => e = .returned (.int .i64 (inL L i)) ∧ ∃ q, w' = w.drewN q := by
  obtain ⟨⟨c0, c1, c2, c3⟩, -⟩ := Blk.c4b h
  have e1 : wrap64 ((L.pos : Int) + (i : Int)) = ((L.pos + i : Nat) : Int) := by unfold wrap64; omega
  have e2 := tmod_nat (L.pos + i) L.ring
  have hq : inL L i = 2 + (L.pos + i) % L.ring := rfl
  have hlt : (L.pos + i) % L.ring < L.ring := Nat.mod_lt _ h0
  rw [hq]
  generalize (L.pos + i) % L.ring = m at *
  have e3 : wrap64 (2 + (m : Int)) = ((2 + m : Nat) : Int) := by unfold wrap64; omega
  have z0 : ((L.ring : Int) == 0) = false := by simp; omega
  have z0' : (L.ring == 0) = false := by simp; omega
  have z1 : ¬ (L.ring : Int) = 0 := by omega
  have z1' : ¬ L.ring = 0 := by omega
  generalize L.pos + i = s at *
  generalize L.ring = r at *
  generalize L.pos = q at *
  generalize 2 + m = t at *
  have e1w := wIq e1
  have e3w := wIq e3
  clear h c0 c2 hr hp h0 hq hlt hi
  go_enter Tryz.func115, Tryz.ntmps115
  go_wp2_with fail
  go_quiet (fail)
  go_wp2_with fail
  go_ret
  exact ⟨ret_int (by first | assumption | rfl), nq, rfl⟩
theorem count_ok (w : World) (n : Nat) (hn : n ≤ 1000000) :
    Calls Tryz.prog 67 #[.int .i64 n] w fun e w' => e = .returned (.int .i64 (cnt n)) ∧ w' = w := by
  have e1 : wrap64 ((n : Int) + 256) = ((n + 256 : Nat) : Int) := by unfold wrap64; omega
  have e2 : wrap64 (((n + 256 : Nat) : Int) - 1) = ((n + 255 : Nat) : Int) := by unfold wrap64; omega
  have e3 := tdiv_nat (n + 255) 256
  have e4 : ((n + 255) / 256 : Nat) ≤ n + 255 := Nat.div_le_self _ _
  have hq : cnt n = (n + 255) / 256 := rfl
  rw [hq]
  generalize (n + 255) / 256 = q at *
  have e5 : wrap64 (q : Int) = (q : Int) := by unfold wrap64; omega
  generalize n + 256 = a at *
  generalize n + 255 = b at *
  have e3' : ((b : Int)).tdiv 256 = (q : Int) := e3
  clear e4 hq hn e3
  go_enter Tryz.func67, Tryz.ntmps67
  go_wp2_with fail
  go_ret
  exact ⟨ret_int (by first | assumption | rfl), rfl⟩
/-- A ring that may be. -/
theorem wrong_no (w : World) (S : List Nat) (p : Nat) (D : DiskD) (h : DiskR w S p D) (r : Nat) (h1 : 1 ≤ r) (h2 : r + 4 ≤ D.n) :
    Calls Tryz.prog 76 #[.pointer (some ⟨p, 0, none⟩), .int .i64 r] w fun e w' => e = .returned (.bool false) ∧ w' = w := by
  have hs := sectors_ok w S p D h
  have hl := h.lt
  have hn : D.n ≤ 4096 := by obtain ⟨_, _, _, _, _, _, _, hb, _⟩ := h; exact hb.least.2
  have t1 : decide ((r : Int) < 1) = false := decide_eq_false (by omega)
  have e1 : wrap64 ((D.n : Int) - 4) = ((D.n - 4 : Nat) : Int) := by unfold wrap64; omega
  have t2 : decide (((D.n - 4 : Nat) : Int) < (r : Int)) = false := decide_eq_false (by omega)
  have t3 : decide ((D.n - 4 : Nat) < r) = false := decide_eq_false (by omega)
  generalize D.n - 4 = q at *
  clear h hl hn h1 h2
  go_enter Tryz.func76, Tryz.ntmps76
  go_wp2_with fail
  refine hs.mono ?_
  rintro e w' ⟨rfl, rfl⟩
  go_wp2_with fail
  go_ret
  exact ⟨rfl, rfl⟩
end Go.Proofs.YtgcmgcffndbpoaaGreatDoor

/- The log in memory: done, Format. No statement of the seat is proved here. -/
namespace Go.Aq.Fy
open Go.Aq Go.RowKit
/-- Where the log stands: behind what went well, else where it stood. -/
def afterL (c : Nat) (L N : LogD) : LogD := if c = 0 then N else L
theorem need_le (n : Nat) : need n ≤ 2 * n + 1 := by
  unfold need
  split
  · omega
  · have : (n - 1) / 64 ≤ n - 1 := Nat.div_le_self _ _
    omega
end Go.Aq.Fy
namespace Go.Proofs.YtgcmgcffndbpoaaGreatDoor
open Go.RowKit Go.Aq Go.Aq.Fy Go.Maps
/-- A row that holds no byte is no row of bytes. -/
theorem sees_notin {w : World} {v : Value} {n l : Nat} {b : List UInt8} {cs : Array Value} {e : TypeId} (h : Sees w 1 v n (Bs b)) (hb : Blk w l cs e) (hcs : ∀ (i : Nat) x, cs[i]? ≠ some (.int .u8 x)) : l ∉ eyes v := by
  intro hl
  obtain ⟨h1, ao, cap, rfl, _, _, hc⟩ := h
  unfold eyes at hl
  split at hl
  · rename_i a n' cap' he
    simp only [Value.slice.injEq] at he
    obtain ⟨rfl, rfl, rfl⟩ := he
    split at hl
    · simp at hl
    · rename_i hn
      simp only [List.mem_singleton] at hl
      have hb0 : 0 < b.length := by rw [Bs_length] at h1; omega
      have h2 := hc a rfl 0 _ (Bs_get b 0 hb0)
      have h3 : w.cell? a = some (.int .u8 ((b[0]'hb0).toNat : Int)) := by simpa [Addr.add] using h2
      unfold World.cell? at h3
      have hb' : w.heap[a.block]? = some (.cells cs e (0, 0)) := by rw [← hl]; exact hb
      rw [hb'] at h3
      simp only at h3
      split at h3
      · cases h3
      · exact hcs _ _ h3
  · simp at hl
/-- A row beside the disk has turned. -/
theorem DiskR.off1 {w w' : World} {S : List Nat} {p l : Nat} {D : DiskD} {cs : Array Value} {e : TypeId} (h : DiskR w S p D) (hb : Blk w l cs e) (hcs : ∀ (i : Nat) x, cs[i]? ≠ some (.int .u8 x)) (c : Chg [l] w w') (hl : l ∉ S) : DiskR w' S p D := by
  obtain ⟨bn, bd, fn, fd, pv, xs, mv, h, rfl⟩ := h
  simp only [List.mem_cons, not_or] at hl
  have sec : ∀ {v : Value} {b : Sec}, SecV w (p :: bn :: bd :: pv.ownBlock.toList) v b → SecV w' (p :: bn :: bd :: pv.ownBlock.toList) v b := fun {v b} hv =>
    ⟨hv.sees.chg c (fun k hk hk' => by rw [List.mem_singleton.1 hk'] at hk; exact sees_notin hv.sees hb hcs hk), hv.off⟩
  have secs : ∀ {f : Value → Option Value} {g : Nat → Sec}, SecsF w (p :: bn :: bd :: pv.ownBlock.toList) f g → SecsF w' (p :: bn :: bd :: pv.ownBlock.toList) f g := fun {f g} hf k => by
    rcases hf k with h1 | ⟨v, h1, h2⟩
    · exact .inl h1
    · exact .inr ⟨v, h1, sec h2⟩
  have pend : ∀ {l : Puts} {xs : List Value}, PendR w (p :: bn :: bd :: pv.ownBlock.toList) l xs → PendR w' (p :: bn :: bd :: pv.ownBlock.toList) l xs := by
    intro l xs hx
    induction hx with
    | nil => exact .nil
    | cons h1 _ ih => exact .cons (sec h1) ih
  refine ⟨bn, bd, fn, fd, pv, xs, mv, ⟨h.blk.chg c (by simpa using fun e => hl.1 e.symm), h.now.chg c (by simpa using fun e => hl.2.1 e.symm), h.dur.chg c (by simpa using fun e => hl.2.2.1 e.symm), h.ne, secs h.nowS, secs h.durS, h.own.chg c (fun k hk => by simp; rintro rfl; exact hl.2.2.2 hk), pend h.pend, ⟨h.mask.1.chg c (fun k hk hk' => by rw [List.mem_singleton.1 hk'] at hk; exact sees_notin h.mask.1 hb hcs hk), h.mask.2⟩, h.least, h.plc, h.room, h.nil0⟩, rfl⟩
set_option maxRecDepth 100000 in
set_option maxHeartbeats 4000000 in
theorem done_ok (w : World) (S : List Nat) (l p : Nat) (D : DiskD) (L : LogD) (n : Nat) (hD : DiskR w S p D) (hL : LogR w l p L) (hl : l ∉ S) (hd : D.down = false) (hp : D.pend.length ≤ 800000) (hn : n ≤ 100000) (h0 : 0 < L.ring) (hr : L.ring < 65536) (hpos : L.pos < 65536) (hq : L.seq < 281474976710655) :
    Calls Tryz.prog 94 #[.pointer (some ⟨l, 0, none⟩), .int .i64 n] w fun e w' => e = .returned (.int .i64 (writesD D (headL (nextL L n))).2) ∧ ∃ S', DiskR w' S' p (writesD D (headL (nextL L n))).1 ∧
      LogR w' l p (afterL (writesD D (headL (nextL L n))).2 L (nextL L n)) ∧ l ∉ S' ∧ Upd (l :: S) (l :: S') w w' := by
  obtain ⟨⟨c0, c1, c2, c3⟩, -⟩ := Blk.c4b hL
  have hne := need_le n
  have hnd := fun w => need_ok w (.pointer (some ⟨l, 0, none⟩)) n (by omega)
  have e1 : wrap64 ((L.pos : Int) + (need n : Int)) = ((L.pos + need n : Nat) : Int) := by unfold wrap64; omega
  have e1w := wIq e1
  have e2 := tmod_nat (L.pos + need n) L.ring
  have z1 : ¬ (L.ring : Int) = 0 := by omega
  have z1' : ¬ L.ring = 0 := by omega
  have e3 : wrap64 ((L.seq : Int) + 1) = ((L.seq + 1 : Nat) : Int) := by unfold wrap64; omega
  have e3w := wIq e3
  have hlt : (L.pos + need n) % L.ring < L.ring := Nat.mod_lt _ h0
  have hn0 : 0 < D.n := by obtain ⟨_, _, _, _, _, _, _, hb, _⟩ := hD; have := hb.least.1; omega
  have hN : nextL L n = ⟨L.ring, L.seq + 1, (L.pos + need n) % L.ring⟩ := rfl
  have HH := Lib.hid (And.intro hD (And.intro hL (And.intro hl (And.intro hd (And.intro hp (And.intro hn0 (And.intro hr (And.intro hq (And.intro hlt hN)))))))))
  generalize nextL L n = N at *
  generalize (L.pos + need n) % L.ring = ps at *
  generalize L.pos + need n = sm at *
  generalize need n = nd at *
  obtain ⟨ring, seq, pos⟩ := L
  simp only at c0 c1 c2 c3 e1 e1w e2 z1 z1' e3 e3w
  have hst : Hid (N.ring = ring ∧ N.seq = seq + 1 ∧ N.pos = ps) := by have := HH.out.2.2.2.2.2.2.2.2.2; rw [this]; exact ⟨rfl, rfl, rfl⟩
  obtain ⟨sq, hsq⟩ : ∃ sq, seq + 1 = sq := ⟨_, rfl⟩
  rw [hsq] at e3 e3w hst
  have HSQ := Lib.hid hsq
  clear hsq
  clear hD hL hl hd hp hn h0 hr hpos hq hne hlt hn0 hN
  go_enter Tryz.func94, Tryz.ntmps94
  go_wp2_with fail
  go_quiet ((exact Calls.quiet_of_same (hnd _)))
  go_upto_region 2 with (fail)
  have cq : Chg [] w (w.drewN nq) := (Chg.refl _ _).drewN nq
  generalize w.drewN nq = w1 at *
  clear hnd e1 e1w e2 z1 z1'
  have hLR1 : LogR w1 l p _ := HH.out.2.1.chg cq (by simp)
  have H1 := Lib.hid (And.intro (HH.out.1.chg cq) (And.intro hLR1 cq))
  clear hLR1 cq c0 c1 c2 c3
  obtain ⟨⟨c0, c1, c2, c3⟩, -⟩ := Blk.c4b H1.out.2.1
  simp only at c0 c1 c2 c3
  obtain ⟨W0, hW0⟩ : ∃ W0, w1.drew = W0 := ⟨_, rfl⟩
  have cd : Chg [] w1 W0 := by rw [← hW0]; exact (Chg.refl _ _).drew
  refine wp_region_U S (fun _ => false) (by kernel_rfl) ?_
  rw [hW0]
  clear hW0
  have hlS := HH.out.2.2.1
  have y0 := cd.cell_some c0 (by simp)
  have y1 := cd.cell_some c1 (by simp)
  have y2 := cd.cell_some c2 (by simp)
  clear c0 c1 c2 c3
  have C0 : Chg S W0 W0 := Chg.refl _ _
  refine wpAnyU_take 0 (v := (.pointer (some ⟨l, 0, none⟩))) C0 rfl (by kernel_rfl) (by kernel_rfl) (by kernel_rfl) (by kernel_rfl) (fun _ _ _ h => h) (by rfl) (fun w4 c4 => ?_) ?_
  · go_simp
  try simp only [Act.put, List.getElem_toArray, List.getElem_cons_succ, List.getElem_cons_zero, List.setIfInBounds_toArray, List.set_cons_zero, List.set_cons_succ]
  refine wpAnyU_take 1 (v := (.pointer (some ⟨l, 0, none⟩))) C0 rfl (by kernel_rfl) (by kernel_rfl) (by kernel_rfl) (by kernel_rfl) (fun _ _ _ h => h) (by rfl) (fun w4 c4 => ?_) ?_
  · go_simp
  try simp only [Act.put, List.getElem_toArray, List.getElem_cons_succ, List.getElem_cons_zero, List.setIfInBounds_toArray, List.set_cons_zero, List.set_cons_succ]
  refine wpAnyU_take 2 (v := (.pointer (some ⟨l, 0, none⟩))) C0 rfl (by kernel_rfl) (by kernel_rfl) (by kernel_rfl) (by kernel_rfl) (fun _ _ _ h => h) (by rfl) (fun w4 c4 => ?_) ?_
  · go_simp
  try simp only [Act.put, List.getElem_toArray, List.getElem_cons_succ, List.getElem_cons_zero, List.setIfInBounds_toArray, List.set_cons_zero, List.set_cons_succ]
  refine wpAnyU_take 3 (v := (.pointer (some ⟨p, 0, none⟩))) C0 rfl (by kernel_rfl) (by kernel_rfl) (by kernel_rfl) (by kernel_rfl) (fun _ _ _ h => h) (by rfl) (fun w4 c4 => ?_) ?_
  · have z := c4.cell_some y0 hlS
    go_simp
  try simp only [Act.put, List.getElem_toArray, List.getElem_cons_succ, List.getElem_cons_zero, List.setIfInBounds_toArray, List.set_cons_zero, List.set_cons_succ]
  refine wpAnyU_take 4 (v := (.pointer (some ⟨l, 0, none⟩))) C0 rfl (by kernel_rfl) (by kernel_rfl) (by kernel_rfl) (by kernel_rfl) (fun _ _ _ h => h) (by rfl) (fun w4 c4 => ?_) ?_
  · go_simp
  try simp only [Act.put, List.getElem_toArray, List.getElem_cons_succ, List.getElem_cons_zero, List.setIfInBounds_toArray, List.set_cons_zero, List.set_cons_succ]
  refine wpAnyU_take 5 (v := (.pointer (some ⟨l, 0, none⟩))) C0 rfl (by kernel_rfl) (by kernel_rfl) (by kernel_rfl) (by kernel_rfl) (fun _ _ _ h => h) (by rfl) (fun w4 c4 => ?_) ?_
  · go_simp
  try simp only [Act.put, List.getElem_toArray, List.getElem_cons_succ, List.getElem_cons_zero, List.setIfInBounds_toArray, List.set_cons_zero, List.set_cons_succ]
  refine wpAnyU_take 6 (v := (.pointer (some ⟨l, 1, none⟩))) C0 rfl (by kernel_rfl) (by kernel_rfl) (by kernel_rfl) (by kernel_rfl) (fun _ _ _ h => h) (by rfl) (fun w4 c4 => ?_) ?_
  · go_simp
  try simp only [Act.put, List.getElem_toArray, List.getElem_cons_succ, List.getElem_cons_zero, List.setIfInBounds_toArray, List.set_cons_zero, List.set_cons_succ]
  refine wpAnyU_take 7 (v := (.int .i64 ring)) C0 rfl (by kernel_rfl) (by kernel_rfl) (by kernel_rfl) (by kernel_rfl) (fun _ _ _ h => h) (by rfl) (fun w4 c4 => ?_) ?_
  · have z := c4.cell_some y1 hlS
    go_simp
  try simp only [Act.put, List.getElem_toArray, List.getElem_cons_succ, List.getElem_cons_zero, List.setIfInBounds_toArray, List.set_cons_zero, List.set_cons_succ]
  refine wpAnyU_take 8 (v := (.pointer (some ⟨l, 0, none⟩))) C0 rfl (by kernel_rfl) (by kernel_rfl) (by kernel_rfl) (by kernel_rfl) (fun _ _ _ h => h) (by rfl) (fun w4 c4 => ?_) ?_
  · go_simp
  try simp only [Act.put, List.getElem_toArray, List.getElem_cons_succ, List.getElem_cons_zero, List.setIfInBounds_toArray, List.set_cons_zero, List.set_cons_succ]
  refine wpAnyU_take 9 (v := (.pointer (some ⟨l, 0, none⟩))) C0 rfl (by kernel_rfl) (by kernel_rfl) (by kernel_rfl) (by kernel_rfl) (fun _ _ _ h => h) (by rfl) (fun w4 c4 => ?_) ?_
  · go_simp
  try simp only [Act.put, List.getElem_toArray, List.getElem_cons_succ, List.getElem_cons_zero, List.setIfInBounds_toArray, List.set_cons_zero, List.set_cons_succ]
  refine wpAnyU_take 10 (v := (.pointer (some ⟨l, 2, none⟩))) C0 rfl (by kernel_rfl) (by kernel_rfl) (by kernel_rfl) (by kernel_rfl) (fun _ _ _ h => h) (by rfl) (fun w4 c4 => ?_) ?_
  · go_simp
  try simp only [Act.put, List.getElem_toArray, List.getElem_cons_succ, List.getElem_cons_zero, List.setIfInBounds_toArray, List.set_cons_zero, List.set_cons_succ]
  refine wpAnyU_take 11 (v := (.int .i64 seq)) C0 rfl (by kernel_rfl) (by kernel_rfl) (by kernel_rfl) (by kernel_rfl) (fun _ _ _ h => h) (by rfl) (fun w4 c4 => ?_) ?_
  · have z := c4.cell_some y2 hlS
    go_simp
  try simp only [Act.put, List.getElem_toArray, List.getElem_cons_succ, List.getElem_cons_zero, List.setIfInBounds_toArray, List.set_cons_zero, List.set_cons_succ]
  refine wpAnyU_take 12 (v := (.int .i64 sq)) C0 rfl (by kernel_rfl) (by kernel_rfl) (by kernel_rfl) (by kernel_rfl) (fun _ _ _ h => h) (by rfl) (fun w4 c4 => ?_) ?_
  · go_simp
  try simp only [Act.put, List.getElem_toArray, List.getElem_cons_succ, List.getElem_cons_zero, List.setIfInBounds_toArray, List.set_cons_zero, List.set_cons_succ]
  refine wpAnyU_take 13 (v := (.int .i64 ps)) C0 rfl (by kernel_rfl) (by kernel_rfl) (by kernel_rfl) (by kernel_rfl) (fun _ _ _ h => h) (by rfl) (fun w4 c4 => ?_) ?_
  · go_simp
  try simp only [Act.put, List.getElem_toArray, List.getElem_cons_succ, List.getElem_cons_zero, List.setIfInBounds_toArray, List.set_cons_zero, List.set_cons_succ]
  refine wpAnyU_only 14 rfl (by kernel_rfl) (by rfl) (by rfl) ?_
  go_simp
  refine (head_any W0 ring sq ps _ _ _ rfl rfl rfl (by exact HH.out.2.2.2.2.2.2.1) (by have h1 := HH.out.2.2.2.2.2.2.2.1; have h2 := HSQ.out; omega) (by have h1 := HH.out.2.2.2.2.2.2.2.2.1; have h2 := HH.out.2.2.2.2.2.2.1; omega)).mono ?_
  rintro e w2 ⟨v2, rfl, hF2⟩
  refine ⟨hF2.chg.toS, ?_⟩
  try simp only [Act.put, List.getElem_toArray, List.getElem_cons_succ, List.getElem_cons_zero, List.setIfInBounds_toArray, List.set_cons_zero, List.set_cons_succ]
  obtain ⟨a2, k2, rfl, -⟩ := hF2.shape
  refine wpAnyU_take 15 (v := (.agg #[.int .i64 0, .slice a2 256 k2])) hF2.chg.toS rfl (by kernel_rfl) (by kernel_rfl) (by kernel_rfl) (by kernel_rfl) (fun _ _ _ h => h) (by rfl) (fun w4 c4 => ?_) ?_
  · go_simp
  try simp only [Act.put, List.getElem_toArray, List.getElem_cons_succ, List.getElem_cons_zero, List.setIfInBounds_toArray, List.set_cons_zero, List.set_cons_succ]
  refine wpAnyU_only 16 rfl (by kernel_rfl) (by rfl) (by rfl) ?_
  go_simp
  have hcA : Chg [] w2 (w2.alloc (.cells #[.int .i64 0, .slice a2 256 k2] 120)) := (Chg.refl [] _).alloc _
  refine ⟨(hF2.chg.nil hcA).toS, ?_⟩
  try simp only [Act.put, List.getElem_toArray, List.getElem_cons_succ, List.getElem_cons_zero, List.setIfInBounds_toArray, List.set_cons_zero, List.set_cons_succ]
  have hbx : Blk (w2.alloc (.cells #[.int .i64 0, .slice a2 256 k2] 120)) w2.heap.size #[.int .i64 0, .slice a2 256 k2] 120 := Blk.new _ _ _
  have c03 : Chg [] w1 (w2.alloc (.cells #[.int .i64 0, .slice a2 256 k2] 120)) := (cd.nil hF2.chg).nil hcA
  have hR3 := H1.out.1.chg c03
  have hin := H1.out.1.lt
  have hoff : Disj (eyes (.slice a2 256 k2)) S := fun j hj hj' => by
    have h1 := hF2.new j (eyes_own _ j hj)
    have h2 := hin j hj'
    have h3 := cd.size
    omega
  have hhd : headL N = [(0, headB ring sq ps)] := by unfold headL; rw [hst.out.1, hst.out.2.1, hst.out.2.2]
  have hwr := writes_ok _ S p D hR3 HH.out.2.2.2.1 (headL N) (by rw [hhd]; have := HH.out.2.2.2.2.1; simp; omega) (by rw [hhd]; intro q hq; simp at hq; rw [hq]; exact HH.out.2.2.2.2.2.1) (.slice (some ⟨w2.heap.size, 0, none⟩) 1 1) [.int .i64 0, .slice a2 256 k2] (by rw [hhd]; exact Sees.blk hbx) (by rw [hhd]; exact .cons ⟨hF2.sees.chg0 hcA, hoff⟩ .nil) (fun j hj hj' => by
    simp [eyes] at hj; subst hj; have h2 := hin _ hj'; have h3 := cd.size; have h4 := hF2.chg.size; omega)
  refine wpAnyU_only 17 rfl (by kernel_rfl) (by rfl) (by rfl) ?_
  go_simp
  refine hwr.mono ?_
  rintro e w4 ⟨rfl, S4, hR4, hU4⟩
  have c4' : Chg S W0 w4 := (hF2.chg.nil hcA).toS.tr hU4.chg
  refine ⟨c4', ?_⟩
  try simp only [Act.put, List.getElem_toArray, List.getElem_cons_succ, List.getElem_cons_zero, List.setIfInBounds_toArray, List.set_cons_zero, List.set_cons_succ]
  refine wpAnyU_take 18 (v := (.int .i64 (writesD D (headL N)).2)) c4' rfl (by kernel_rfl) (by kernel_rfl) (by kernel_rfl) (by kernel_rfl) (fun _ _ _ h => h) (by rfl) (fun w4 c4 => ?_) ?_
  · go_simp
  try simp only [Act.put, List.getElem_toArray, List.getElem_cons_succ, List.getElem_cons_zero, List.setIfInBounds_toArray, List.set_cons_zero, List.set_cons_succ]
  refine wpAnyU_done (by kernel_rfl) ?_ _
  have hLR4 : LogR w4 l p _ := H1.out.2.1.chg (c03.toS.tr hU4.chg) hlS
  have hl4 : l ∉ S4 := fun hh => by
    rcases hU4.new l hh with h1 | h1
    · exact hlS h1
    · have := Blk.lt (LogR.chg H1.out.2.1 c03 (by simp)); omega
  have hu4 : Upd (l :: S) (l :: S4) w w4 := by
    refine ⟨H1.out.2.2.toS.tr ((c03.toS.tr hU4.chg).mono (fun k hk => .inl (by simp [hk]))), fun k hk => ?_⟩
    rcases List.mem_cons.1 hk with rfl | hk
    · simp
    · rcases hU4.new k hk with h1 | h1
      · simp [h1]
      · exact .inr (Nat.le_trans (H1.out.2.2.nil c03).size h1)
  have HR := Lib.hid (And.intro hR4 (And.intro hLR4 (And.intro hl4 hu4)))
  clear hR4 hLR4 hl4 hu4 hU4 c4' hwr hoff hin hR3 c03 hbx hcA hF2 C0 y0 y1 y2 cd hhd
  generalize hres : writesD D (headL N) = R at *
  obtain ⟨D4, c⟩ := R
  simp only at *
  have HRES := Lib.hid hres
  clear hres
  by_cases hc0 : c = 0
  · subst hc0
    obtain ⟨⟨d0, d1, d2, d3⟩, g0, g1, g2, g3⟩ := Blk.c4b HR.out.2.1
    simp only at d0 d1 d2 d3
    clear d0 d1 g0 g1
    go_wp2_with fail
    go_ret
    have hb := (Blk.set HR.out.2.1 2 (.int .i64 sq)).set 3 (.int .i64 ps)
    simp only [List.setIfInBounds_toArray, List.set_cons_zero, List.set_cons_succ] at hb
    obtain ⟨w5, hw5⟩ : ∃ w5, (w4.setCell ⟨l, 2, none⟩ (.int .i64 sq)).setCell ⟨l, 3, none⟩ (.int .i64 ps) = w5 := ⟨_, rfl⟩
    have c5 : Chg [l] w4 w5 := by rw [← hw5]; exact ((Chg.refl _ _).setCell (by simp) _).setCell (by simp) _
    rw [hw5] at hb ⊢
    obtain ⟨hR4, hLR4, hl4, hu4⟩ := HR.out
    have hN : N = ⟨ring, sq, ps⟩ := by obtain ⟨a, b, c⟩ := N; have h1 := hst.out.1; have h2 := hst.out.2.1; have h3 := hst.out.2.2; simp only at h1 h2 h3; rw [h1, h2, h3]
    rw [HRES.out]
    show _ ∧ ∃ S', DiskR w5 S' p D4 ∧ LogR w5 l p (afterL 0 _ N) ∧ _
    have ha : ∀ L, afterL 0 L N = N := fun L => rfl
    rw [ha]
    have hdis : ∀ k ∈ [l], k ∉ S4 := fun k hk => by rw [List.mem_singleton.1 hk]; exact hl4
    refine ⟨rfl, S4, DiskR.off1 hR4 hLR4 (fun i x => by match i with | 0 => simp | 1 => simp | 2 => simp | 3 => simp | i + 4 => simp) c5 hl4, by rw [hN]; exact hb, hl4, hu4.trans ⟨c5.mono (fun k hk => .inl (by rw [List.mem_singleton.1 hk]; simp)), fun _ h => .inl h⟩⟩
  · have t0 : ((c : Int) == 0) = false := by simp; omega
    have t0' : (c == 0) = false := by simp; omega
    have HC := Lib.hid hc0
    clear hc0
    go_wp2_with fail
    go_ret
    rw [HRES.out]
    obtain ⟨hR4, hLR4, hl4, hu4⟩ := HR.out
    have ha : ∀ L, afterL c L N = L := fun L => if_neg HC.out
    rw [ha]
    exact ⟨rfl, S4, hR4, hLR4, hl4, hu4⟩
end Go.Proofs.YtgcmgcffndbpoaaGreatDoor

/- The log in memory: Format, marked. No statement of the seat is proved here. -/
namespace Go.Aq
open Go.RowKit
theorem Sees.rowsY {W : World} {k : Nat} {cs : Array Value} {e : TypeId} {m s : Nat} (h : Blk W k cs e) (hm : cs.size = m * s) : Sees W s (.slice (some ⟨k, 0, none⟩) m m) m cs.toList := by
  refine ⟨by simpa using hm, _, _, rfl, Nat.le_refl _, by simp, fun ad had j u hu => ?_⟩
  cases had
  rw [Addr.add_lit, Nat.zero_add, h.cell]
  simpa using hu
/-- make([]T, n), said of one operation. -/
theorem wp_mkU {P : Program} {w : World} {o : Oper} {a : Act} {K : Act → World → Prop} {Q : Exit → Act → World → Prop} (l c : Operand) (t : TypeId) (hop : o.op = Op.makeSlice t l c)
    {e : TypeId} {z : Value} {bytes : Nat} (ht : SliceTy P t e z 1 bytes) (hz : z.cells = #[z]) (kl kc : IntKind) (n : Nat) {L C : Int} (hl : a.eval l = .int kl L) (hc : a.eval c = .int kc C) (hL : L = (n : Int)) (hC : C = (n : Int))
    (hb : bytes * n ≤ 281474976710656) (h63 : n ≤ 9223372036854775807)
    (h : ∀ w', Fresh w w' e 1 (.slice (some ⟨w.heap.size, 0, none⟩) n n) n (List.replicate n z) → K (a.put o.dst (.slice (some ⟨w.heap.size, 0, none⟩) n n)) w') : o.wp P a w K Q := by
  obtain ⟨ht1, ht2, ht3, ht4⟩ := ht
  obtain ⟨i, hi, hz0, hz1, rfl⟩ := info_parts ht2
  obtain ⟨w', hrun, r1, r2⟩ := run_make_full (P := P) w 0 t e i z 1 ht1 hi hz0 hz1 kl kc n hb (by simpa [maxLen] using h63) (Nat.zero_le _)
  subst hL hC
  unfold Oper.wp
  simp [execOp, hop, hl, hc, hrun, Result.andThen]
  rw [hz, Nat.mul_one, toList_madeCells_one] at r1
  exact h w' ⟨r1, Chg.of_grown r2, by simp [Value.ownBlock]⟩
end Go.Aq
namespace Go.Proofs.YtgcmgcffndbpoaaGreatDoor
open Go.RowKit Go.Aq Go.Aq.Fy Go.Maps
theorem equal_any (w : World) (v v' : Value) (n n' : Nat) (a b : List UInt8) (h1 : Sees w 1 v n (Bs a)) (h2 : Sees w 1 v' n' (Bs b)) :
    Calls Tryz.prog 50 #[v, v'] w fun e w' => e = .returned (.bool (decide (a = b))) ∧ w' = w := by
  have h := Tryz.bytes_Equal_strs v v' (str a) (str b) w (run_str8 h1) (run_str8 h2)
  rw [str_eq] at h
  exact h
set_option maxRecDepth 100000 in
set_option maxHeartbeats 4000000 in
theorem formatL_ok (w : World) (S : List Nat) (p : Nat) (D : DiskD) (r : Nat) (hD : DiskR w S p D) (hd : D.down = false) (hp : D.pend.length ≤ 800000) (h1 : 1 ≤ r) (h2 : r + 4 ≤ D.n) (h3 : r < 65536) :
    Calls Tryz.prog 56 #[.pointer (some ⟨p, 0, none⟩), .int .i64 r] w fun e w' => e = .returned (.int .i64 (writesD D [(0, headB r 1 0), (1, zsec)]).2) ∧ ∃ S', DiskR w' S' p (writesD D [(0, headB r 1 0), (1, zsec)]).1 ∧ Upd S S' w w' := by
  have hwn := wrong_no w S p D hD r h1 h2
  have HH := Lib.hid (And.intro hD (And.intro hd (And.intro hp (And.intro h3 (show 1 < D.n by omega)))))
  clear hD hd hp h1 h2 h3
  go_enter Tryz.func56, Tryz.ntmps56
  go_wp2_with fail
  refine hwn.mono ?_
  rintro e w' ⟨rfl, rfl⟩
  clear hwn
  go_upto_region 3 with (fail)
  obtain ⟨W0, hW0⟩ : ∃ W0, w'.drew = W0 := ⟨_, rfl⟩
  have cd : Chg [] w' W0 := by rw [← hW0]; exact (Chg.refl _ _).drew
  refine wp_region_U S (fun _ => false) (by kernel_rfl) ?_
  rw [hW0]
  clear hW0
  have C0 : Chg S W0 W0 := Chg.refl _ _
  refine wpAnyU_take 0 (v := (.pointer (some ⟨p, 0, none⟩))) C0 rfl (by kernel_rfl) (by kernel_rfl) (by kernel_rfl) (by kernel_rfl) (fun _ _ _ h => h) (by rfl) (fun w4 c4 => ?_) ?_
  · go_simp
  try simp only [Act.put, List.getElem_toArray, List.getElem_cons_succ, List.getElem_cons_zero, List.setIfInBounds_toArray, List.set_cons_zero, List.set_cons_succ]
  refine wpAnyU_take 1 (v := (.int .i64 r)) C0 rfl (by kernel_rfl) (by kernel_rfl) (by kernel_rfl) (by kernel_rfl) (fun _ _ _ h => h) (by rfl) (fun w4 c4 => ?_) ?_
  · go_simp
  try simp only [Act.put, List.getElem_toArray, List.getElem_cons_succ, List.getElem_cons_zero, List.setIfInBounds_toArray, List.set_cons_zero, List.set_cons_succ]
  refine wpAnyU_two 2 4 rfl rfl (by kernel_rfl) (by rfl) (by rfl) (by rfl) (by rfl) ?_ ?_
  · go_simp
    refine (head_any W0 r 1 0 _ _ _ rfl rfl rfl HH.out.2.2.2.1 (by decide) (by decide)).mono ?_
    rintro e w2 ⟨v2, rfl, hF2⟩
    refine ⟨hF2.chg.toS, ?_⟩
    try simp only [Act.put, List.getElem_toArray, List.getElem_cons_succ, List.getElem_cons_zero, List.setIfInBounds_toArray, List.set_cons_zero, List.set_cons_succ]
    obtain ⟨a2, k2, rfl, -⟩ := hF2.shape
    refine wpAnyU_take 3 (v := (.agg #[.int .i64 0, .slice a2 256 k2])) hF2.chg.toS rfl (by kernel_rfl) (by kernel_rfl) (by kernel_rfl) (by kernel_rfl) (fun _ _ _ h => h) (by rfl) (fun w4 c4 => ?_) ?_
    · go_simp
    try simp only [Act.put, List.getElem_toArray, List.getElem_cons_succ, List.getElem_cons_zero, List.setIfInBounds_toArray, List.set_cons_zero, List.set_cons_succ]
    refine wpAnyU_only 4 rfl (by kernel_rfl) (by rfl) (by rfl) ?_
    refine wp_mkU _ _ 38 rfl sl_u8y rfl .i64 .i64 256 rfl rfl rfl rfl (by decide) (by decide) ?_
    intro w3 hF3
    rw [rep_nul] at hF3
    obtain ⟨z, hz⟩ : ∃ z, w2.heap.size = z := ⟨_, rfl⟩
    rw [hz] at hF3 ⊢
    have cA : Chg [] W0 w3 := hF2.chg.nil hF3.chg
    refine ⟨cA.toS, ?_⟩
    try simp only [Act.put, List.getElem_toArray, List.getElem_cons_succ, List.getElem_cons_zero, List.setIfInBounds_toArray, List.set_cons_zero, List.set_cons_succ]
    refine wpAnyU_take 5 (v := (.agg #[.int .i64 1, .slice (some ⟨z, 0, none⟩) 256 256])) cA.toS rfl (by kernel_rfl) (by kernel_rfl) (by kernel_rfl) (by kernel_rfl) (fun _ _ _ h => h) (by rfl) (fun w4 c4 => ?_) ?_
    · go_simp
    try simp only [Act.put, List.getElem_toArray, List.getElem_cons_succ, List.getElem_cons_zero, List.setIfInBounds_toArray, List.set_cons_zero, List.set_cons_succ]
    have hnew2 := hF2.new
    have hnew3 : ∀ k ∈ (Value.slice (some ⟨z, 0, none⟩) 256 256).ownBlock.toList, W0.heap.size ≤ k := fun k hk => Nat.le_trans hF2.chg.size (hF3.new k hk)
    refine wpAnyU_only 6 rfl (by kernel_rfl) (by rfl) (by rfl) ?_
    go_simp
    have hcA : Chg [] w3 (w3.alloc (.cells #[.int .i64 0, .slice a2 256 k2, .int .i64 1, .slice (some ⟨z, 0, none⟩) 256 256] 120)) := (Chg.refl [] _).alloc _
    refine ⟨(cA.nil hcA).toS, ?_⟩
    try simp only [Act.put, List.getElem_toArray, List.getElem_cons_succ, List.getElem_cons_zero, List.setIfInBounds_toArray, List.set_cons_zero, List.set_cons_succ]
    have hbx : Blk (w3.alloc (.cells #[.int .i64 0, .slice a2 256 k2, .int .i64 1, .slice (some ⟨z, 0, none⟩) 256 256] 120)) w3.heap.size #[.int .i64 0, .slice a2 256 k2, .int .i64 1, .slice (some ⟨z, 0, none⟩) 256 256] 120 := Blk.new _ _ _
    have c03 : Chg [] w' (w3.alloc (.cells #[.int .i64 0, .slice a2 256 k2, .int .i64 1, .slice (some ⟨z, 0, none⟩) 256 256] 120)) := (cd.nil cA).nil hcA
    have hR3 := HH.out.1.chg c03
    have hin := HH.out.1.lt
    have hsz := cd.size
    have hsz3 := cA.size
    have hwr := writes_ok _ S p D hR3 HH.out.2.1 [(0, headB r 1 0), (1, zsec)] (by have := HH.out.2.2.1; simp; omega) (by intro q hq; simp at hq; have := HH.out.2.2.2.2; rcases hq with rfl | rfl <;> simp <;> omega) (.slice (some ⟨w3.heap.size, 0, none⟩) 2 2) [.int .i64 0, .slice a2 256 k2, .int .i64 1, .slice (some ⟨z, 0, none⟩) 256 256]
      (Sees.rowsY hbx rfl)
      (.cons ⟨(hF2.sees.chg0 hF3.chg).chg0 hcA, fun j hj hj' => by have h1 := hnew2 j (eyes_own _ j hj); have h2 := hin j hj'; omega⟩ (.cons ⟨hF3.own.sees.chg0 hcA, fun j hj hj' => by have h1 := hnew3 j (eyes_own _ j hj); have h2 := hin j hj'; omega⟩ .nil)) (fun j hj hj' => by simp [eyes] at hj; subst hj; have h2 := hin _ hj'; omega)
    refine wpAnyU_only 7 rfl (by kernel_rfl) (by rfl) (by rfl) ?_
    go_simp
    refine hwr.mono ?_
    rintro e w4 ⟨rfl, S4, hR4, hU4⟩
    have c4' : Chg S W0 w4 := (cA.nil hcA).toS.tr hU4.chg
    refine ⟨c4', ?_⟩
    try simp only [Act.put, List.getElem_toArray, List.getElem_cons_succ, List.getElem_cons_zero, List.setIfInBounds_toArray, List.set_cons_zero, List.set_cons_succ]
    refine wpAnyU_take 8 (v := (.int .i64 (writesD D [(0, headB r 1 0), (1, zsec)]).2)) c4' rfl (by kernel_rfl) (by kernel_rfl) (by kernel_rfl) (by kernel_rfl) (fun _ _ _ h => h) (by rfl) (fun w4 c4 => ?_) ?_
    · go_simp
    try simp only [Act.put, List.getElem_toArray, List.getElem_cons_succ, List.getElem_cons_zero, List.setIfInBounds_toArray, List.set_cons_zero, List.set_cons_succ]
    refine wpAnyU_done (by kernel_rfl) ?_ _
    go_wp2_with fail
    go_ret
    exact ⟨rfl, S4, hR4, ⟨c03.toS.tr hU4.chg, fun k hk => by
      rcases hU4.new k hk with h1 | h1
      · exact .inl h1
      · exact .inr (Nat.le_trans c03.size h1)⟩⟩
  · refine wp_mkU _ _ 38 rfl sl_u8y rfl .i64 .i64 256 rfl rfl rfl rfl (by decide) (by decide) ?_
    intro w2 hF3
    rw [rep_nul] at hF3
    obtain ⟨z, hz⟩ : ∃ z, W0.heap.size = z := ⟨_, rfl⟩
    rw [hz] at hF3 ⊢
    refine ⟨hF3.chg.toS, ?_⟩
    try simp only [Act.put, List.getElem_toArray, List.getElem_cons_succ, List.getElem_cons_zero, List.setIfInBounds_toArray, List.set_cons_zero, List.set_cons_succ]
    refine wpAnyU_take 5 (v := (.agg #[.int .i64 1, .slice (some ⟨z, 0, none⟩) 256 256])) hF3.chg.toS rfl (by kernel_rfl) (by kernel_rfl) (by kernel_rfl) (by kernel_rfl) (fun _ _ _ h => h) (by rfl) (fun w4 c4 => ?_) ?_
    · go_simp
    try simp only [Act.put, List.getElem_toArray, List.getElem_cons_succ, List.getElem_cons_zero, List.setIfInBounds_toArray, List.set_cons_zero, List.set_cons_succ]
    refine wpAnyU_only 2 rfl (by kernel_rfl) (by rfl) (by rfl) ?_
    go_simp
    refine (head_any w2 r 1 0 _ _ _ rfl rfl rfl HH.out.2.2.2.1 (by decide) (by decide)).mono ?_
    rintro e w3 ⟨v2, rfl, hF2⟩
    have cA : Chg [] W0 w3 := hF3.chg.nil hF2.chg
    refine ⟨cA.toS, ?_⟩
    try simp only [Act.put, List.getElem_toArray, List.getElem_cons_succ, List.getElem_cons_zero, List.setIfInBounds_toArray, List.set_cons_zero, List.set_cons_succ]
    obtain ⟨a2, k2, rfl, -⟩ := hF2.shape
    refine wpAnyU_take 3 (v := (.agg #[.int .i64 0, .slice a2 256 k2])) cA.toS rfl (by kernel_rfl) (by kernel_rfl) (by kernel_rfl) (by kernel_rfl) (fun _ _ _ h => h) (by rfl) (fun w4 c4 => ?_) ?_
    · go_simp
    try simp only [Act.put, List.getElem_toArray, List.getElem_cons_succ, List.getElem_cons_zero, List.setIfInBounds_toArray, List.set_cons_zero, List.set_cons_succ]
    have hnew3 := hF3.new
    have hnew2 : ∀ k ∈ (Value.slice a2 256 k2).ownBlock.toList, W0.heap.size ≤ k := fun k hk => Nat.le_trans hF3.chg.size (hF2.new k hk)
    refine wpAnyU_only 6 rfl (by kernel_rfl) (by rfl) (by rfl) ?_
    go_simp
    have hcA : Chg [] w3 (w3.alloc (.cells #[.int .i64 0, .slice a2 256 k2, .int .i64 1, .slice (some ⟨z, 0, none⟩) 256 256] 120)) := (Chg.refl [] _).alloc _
    refine ⟨(cA.nil hcA).toS, ?_⟩
    try simp only [Act.put, List.getElem_toArray, List.getElem_cons_succ, List.getElem_cons_zero, List.setIfInBounds_toArray, List.set_cons_zero, List.set_cons_succ]
    have hbx : Blk (w3.alloc (.cells #[.int .i64 0, .slice a2 256 k2, .int .i64 1, .slice (some ⟨z, 0, none⟩) 256 256] 120)) w3.heap.size #[.int .i64 0, .slice a2 256 k2, .int .i64 1, .slice (some ⟨z, 0, none⟩) 256 256] 120 := Blk.new _ _ _
    have c03 : Chg [] w' (w3.alloc (.cells #[.int .i64 0, .slice a2 256 k2, .int .i64 1, .slice (some ⟨z, 0, none⟩) 256 256] 120)) := (cd.nil cA).nil hcA
    have hR3 := HH.out.1.chg c03
    have hin := HH.out.1.lt
    have hsz := cd.size
    have hsz3 := cA.size
    have hwr := writes_ok _ S p D hR3 HH.out.2.1 [(0, headB r 1 0), (1, zsec)] (by have := HH.out.2.2.1; simp; omega) (by intro q hq; simp at hq; have := HH.out.2.2.2.2; rcases hq with rfl | rfl <;> simp <;> omega) (.slice (some ⟨w3.heap.size, 0, none⟩) 2 2) [.int .i64 0, .slice a2 256 k2, .int .i64 1, .slice (some ⟨z, 0, none⟩) 256 256]
      (Sees.rowsY hbx rfl)
      (.cons ⟨hF2.sees.chg0 hcA, fun j hj hj' => by have h1 := hnew2 j (eyes_own _ j hj); have h2 := hin j hj'; omega⟩ (.cons ⟨(hF3.own.sees.chg0 hF2.chg).chg0 hcA, fun j hj hj' => by have h1 := hnew3 j (eyes_own _ j hj); have h2 := hin j hj'; omega⟩ .nil)) (fun j hj hj' => by simp [eyes] at hj; subst hj; have h2 := hin _ hj'; omega)
    refine wpAnyU_only 7 rfl (by kernel_rfl) (by rfl) (by rfl) ?_
    go_simp
    refine hwr.mono ?_
    rintro e w4 ⟨rfl, S4, hR4, hU4⟩
    have c4' : Chg S W0 w4 := (cA.nil hcA).toS.tr hU4.chg
    refine ⟨c4', ?_⟩
    try simp only [Act.put, List.getElem_toArray, List.getElem_cons_succ, List.getElem_cons_zero, List.setIfInBounds_toArray, List.set_cons_zero, List.set_cons_succ]
    refine wpAnyU_take 8 (v := (.int .i64 (writesD D [(0, headB r 1 0), (1, zsec)]).2)) c4' rfl (by kernel_rfl) (by kernel_rfl) (by kernel_rfl) (by kernel_rfl) (fun _ _ _ h => h) (by rfl) (fun w4 c4 => ?_) ?_
    · go_simp
    try simp only [Act.put, List.getElem_toArray, List.getElem_cons_succ, List.getElem_cons_zero, List.setIfInBounds_toArray, List.set_cons_zero, List.set_cons_succ]
    refine wpAnyU_done (by kernel_rfl) ?_ _
    go_wp2_with fail
    go_ret
    exact ⟨rfl, S4, hR4, ⟨c03.toS.tr hU4.chg, fun k hk => by
      rcases hU4.new k hk with h1 | h1
      · exact .inl h1
      · exact .inr (Nat.le_trans c03.size h1)⟩⟩
set_option maxRecDepth 100000 in
set_option maxHeartbeats 4000000 in
theorem marked_ok (w : World) (S : List Nat) (l p : Nat) (D : DiskD) (L : LogD) (hD : DiskR w S p D) (hL : LogR w l p L) (hd : D.down = false) (hr : L.ring < 65536) (hpos : L.pos < 65536) (hq : L.seq < 281474976710656) (hs : (D.now 1).length = 256) :
    Calls Tryz.prog 97 #[.pointer (some ⟨l, 0, none⟩)] w fun e w' => e = .returned (.tuple #[.int .i64 (markedN D L), .int .i64 0]) ∧ Chg [] w w' := by
  have hrd := read_ok w S p D 1 hD hd (by obtain ⟨_, _, _, _, _, _, _, hb, _⟩ := hD; have := hb.least.1; omega)
  obtain ⟨⟨c0, c1, c2, c3⟩, -⟩ := Blk.c4b hL
  have hM : markedN D L = if D.now 1 = markB L.seq L.pos (beVal (((D.now 1).drop 10).take 2)) ∧ need (beVal (((D.now 1).drop 10).take 2)) ≤ L.ring then beVal (((D.now 1).drop 10).take 2) else 0 := rfl
  obtain ⟨res, hres⟩ : ∃ r, markedN D L = r := ⟨_, rfl⟩
  rw [hres] at hM ⊢
  clear hres hD hL hd
  generalize D.now 1 = b at *
  have hn : beVal ((b.drop 10).take 2) < 65536 := by
    have h1 := beVal_lt ((b.drop 10).take 2)
    have h2 : ((b.drop 10).take 2).length = 2 := by simp; omega
    rw [h2] at h1
    exact h1
  obtain ⟨n, hnn⟩ : ∃ n, beVal ((b.drop 10).take 2) = n := ⟨_, rfl⟩
  rw [hnn] at hn hM
  have HRES := Lib.hid hM
  clear hM
  have HB := Lib.hid (And.intro hnn (And.intro hn (And.intro hr (And.intro hpos (And.intro hq hs)))))
  clear hnn hn hr hpos hq hs
  go_enter Tryz.func97, Tryz.ntmps97
  go_wp2_with fail
  refine hrd.mono ?_
  rintro e w1 ⟨v1, rfl, hF1⟩
  obtain ⟨a1, k1, rfl, -⟩ := hF1.shape
  have hrb := readBig_ok w1 (.slice a1 256 k1) 256 10 2 b hF1.own.sees (by decide) (by decide) (by decide) (by decide)
  rw [HB.out.1] at hrb
  have HF := Lib.hid hF1
  clear hrd hF1
  go_wp2_with fail
  refine hrb.mono ?_
  rintro e w2 ⟨rfl, rfl⟩
  clear hrb
  go_upto_region 6 with (fail)
  have hnd := fun w => need_ok w (.pointer (some ⟨l, 0, none⟩)) n (by have := HB.out.2.1; omega)
  obtain ⟨W0, hW0⟩ : ∃ W0, w1.drew = W0 := ⟨_, rfl⟩
  have cd : Chg [] w1 W0 := by rw [← hW0]; exact (Chg.refl _ _).drew
  refine wp_region_U [] (fun _ => false) (by kernel_rfl) ?_
  rw [hW0]
  clear hW0
  have C0 : Chg [] W0 W0 := Chg.refl _ _
  have cw := HF.out.chg.nil cd
  have y1 := cw.cell_some c1 (by simp)
  have y2 := cw.cell_some c2 (by simp)
  have y3 := cw.cell_some c3 (by simp)
  clear c0 c1 c2 c3
  refine wpAnyU_take 0 (v := (.slice a1 256 k1)) C0 rfl (by kernel_rfl) (by kernel_rfl) (by kernel_rfl) (by kernel_rfl) (fun _ _ _ h => h) (by rfl) (fun w4 c4 => ?_) ?_
  · go_simp
  try simp only [Act.put, List.getElem_toArray, List.getElem_cons_succ, List.getElem_cons_zero, List.setIfInBounds_toArray, List.set_cons_zero, List.set_cons_succ]
  refine wpAnyU_take 1 (v := (.pointer (some ⟨l, 0, none⟩))) C0 rfl (by kernel_rfl) (by kernel_rfl) (by kernel_rfl) (by kernel_rfl) (fun _ _ _ h => h) (by rfl) (fun w4 c4 => ?_) ?_
  · go_simp
  try simp only [Act.put, List.getElem_toArray, List.getElem_cons_succ, List.getElem_cons_zero, List.setIfInBounds_toArray, List.set_cons_zero, List.set_cons_succ]
  refine wpAnyU_take 2 (v := (.pointer (some ⟨l, 0, none⟩))) C0 rfl (by kernel_rfl) (by kernel_rfl) (by kernel_rfl) (by kernel_rfl) (fun _ _ _ h => h) (by rfl) (fun w4 c4 => ?_) ?_
  · go_simp
  try simp only [Act.put, List.getElem_toArray, List.getElem_cons_succ, List.getElem_cons_zero, List.setIfInBounds_toArray, List.set_cons_zero, List.set_cons_succ]
  refine wpAnyU_take 3 (v := (.pointer (some ⟨l, 2, none⟩))) C0 rfl (by kernel_rfl) (by kernel_rfl) (by kernel_rfl) (by kernel_rfl) (fun _ _ _ h => h) (by rfl) (fun w4 c4 => ?_) ?_
  · go_simp
  try simp only [Act.put, List.getElem_toArray, List.getElem_cons_succ, List.getElem_cons_zero, List.setIfInBounds_toArray, List.set_cons_zero, List.set_cons_succ]
  refine wpAnyU_take 4 (v := (.int .i64 L.seq)) C0 rfl (by kernel_rfl) (by kernel_rfl) (by kernel_rfl) (by kernel_rfl) (fun _ _ _ h => h) (by rfl) (fun w4 c4 => ?_) ?_
  · have z := c4.cell_some y2 (by simp)
    go_simp
  try simp only [Act.put, List.getElem_toArray, List.getElem_cons_succ, List.getElem_cons_zero, List.setIfInBounds_toArray, List.set_cons_zero, List.set_cons_succ]
  refine wpAnyU_take 5 (v := (.pointer (some ⟨l, 0, none⟩))) C0 rfl (by kernel_rfl) (by kernel_rfl) (by kernel_rfl) (by kernel_rfl) (fun _ _ _ h => h) (by rfl) (fun w4 c4 => ?_) ?_
  · go_simp
  try simp only [Act.put, List.getElem_toArray, List.getElem_cons_succ, List.getElem_cons_zero, List.setIfInBounds_toArray, List.set_cons_zero, List.set_cons_succ]
  refine wpAnyU_take 6 (v := (.pointer (some ⟨l, 0, none⟩))) C0 rfl (by kernel_rfl) (by kernel_rfl) (by kernel_rfl) (by kernel_rfl) (fun _ _ _ h => h) (by rfl) (fun w4 c4 => ?_) ?_
  · go_simp
  try simp only [Act.put, List.getElem_toArray, List.getElem_cons_succ, List.getElem_cons_zero, List.setIfInBounds_toArray, List.set_cons_zero, List.set_cons_succ]
  refine wpAnyU_take 7 (v := (.pointer (some ⟨l, 3, none⟩))) C0 rfl (by kernel_rfl) (by kernel_rfl) (by kernel_rfl) (by kernel_rfl) (fun _ _ _ h => h) (by rfl) (fun w4 c4 => ?_) ?_
  · go_simp
  try simp only [Act.put, List.getElem_toArray, List.getElem_cons_succ, List.getElem_cons_zero, List.setIfInBounds_toArray, List.set_cons_zero, List.set_cons_succ]
  refine wpAnyU_take 8 (v := (.int .i64 L.pos)) C0 rfl (by kernel_rfl) (by kernel_rfl) (by kernel_rfl) (by kernel_rfl) (fun _ _ _ h => h) (by rfl) (fun w4 c4 => ?_) ?_
  · have z := c4.cell_some y3 (by simp)
    go_simp
  try simp only [Act.put, List.getElem_toArray, List.getElem_cons_succ, List.getElem_cons_zero, List.setIfInBounds_toArray, List.set_cons_zero, List.set_cons_succ]
  refine wpAnyU_take 9 (v := (.int .i64 n)) C0 rfl (by kernel_rfl) (by kernel_rfl) (by kernel_rfl) (by kernel_rfl) (fun _ _ _ h => h) (by rfl) (fun w4 c4 => ?_) ?_
  · go_simp
  try simp only [Act.put, List.getElem_toArray, List.getElem_cons_succ, List.getElem_cons_zero, List.setIfInBounds_toArray, List.set_cons_zero, List.set_cons_succ]
  refine wpAnyU_only 10 rfl (by kernel_rfl) (by rfl) (by rfl) ?_
  go_simp
  refine (mark_any W0 L.seq L.pos n _ _ _ rfl rfl rfl HB.out.2.2.2.2.1 HB.out.2.2.2.1 HB.out.2.1).mono ?_
  rintro e w2 ⟨v2, rfl, hF2⟩
  refine ⟨hF2.chg, ?_⟩
  try simp only [Act.put, List.getElem_toArray, List.getElem_cons_succ, List.getElem_cons_zero, List.setIfInBounds_toArray, List.set_cons_zero, List.set_cons_succ]
  obtain ⟨a2, k2, rfl, -⟩ := hF2.shape
  have heq := fun w' (c : Chg [] w2 w') => equal_any w' (.slice a1 256 k1) (.slice a2 256 k2) 256 256 b (markB L.seq L.pos n) (HF.out.own.sees.chg0 ((cd.nil hF2.chg).nil c)) (hF2.sees.chg0 c)
  have c02 := hF2.chg
  have cw2 := cw.nil c02
  have HQ := Lib.hid cw2
  clear cw2
  by_cases hb : b = markB L.seq L.pos n
  · rw [decide_eq_true hb] at heq
    refine wpAnyU_only 11 rfl (by kernel_rfl) (by rfl) (by rfl) ?_
    go_simp
    refine (heq _ (Chg.refl [] _)).mono ?_
    rintro e w3 ⟨rfl, rfl⟩
    refine ⟨c02, ?_⟩
    try simp only [Act.put, List.getElem_toArray, List.getElem_cons_succ, List.getElem_cons_zero, List.setIfInBounds_toArray, List.set_cons_zero, List.set_cons_succ]
    have HBB := Lib.hid hb
    clear heq hb
    refine wpAnyU_take 12 (v := (.bool false)) c02 rfl (by kernel_rfl) (by kernel_rfl) (by kernel_rfl) (by kernel_rfl) (fun _ _ _ h => h) (by rfl) (fun w4 c4 => ?_) ?_
    · go_simp
    try simp only [Act.put, List.getElem_toArray, List.getElem_cons_succ, List.getElem_cons_zero, List.setIfInBounds_toArray, List.set_cons_zero, List.set_cons_succ]
    refine wpAnyU_take 13 (v := (.bool false)) c02 rfl (by kernel_rfl) (by kernel_rfl) (by kernel_rfl) (by kernel_rfl) (fun _ _ _ h => h) (by rfl) (fun w4 c4 => ?_) ?_
    · go_simp
    try simp only [Act.put, List.getElem_toArray, List.getElem_cons_succ, List.getElem_cons_zero, List.setIfInBounds_toArray, List.set_cons_zero, List.set_cons_succ]
    refine wpAnyU_take 14 (v := (.pointer (some ⟨l, 0, none⟩))) c02 rfl (by kernel_rfl) (by kernel_rfl) (by kernel_rfl) (by kernel_rfl) (fun _ _ _ h => h) (by rfl) (fun w4 c4 => ?_) ?_
    · go_simp
    try simp only [Act.put, List.getElem_toArray, List.getElem_cons_succ, List.getElem_cons_zero, List.setIfInBounds_toArray, List.set_cons_zero, List.set_cons_succ]
    refine wpAnyU_take 15 (v := (.int .i64 n)) c02 rfl (by kernel_rfl) (by kernel_rfl) (by kernel_rfl) (by kernel_rfl) (fun _ _ _ h => h) (by rfl) (fun w4 c4 => ?_) ?_
    · go_simp
    try simp only [Act.put, List.getElem_toArray, List.getElem_cons_succ, List.getElem_cons_zero, List.setIfInBounds_toArray, List.set_cons_zero, List.set_cons_succ]
    refine wpAnyU_take 17 (v := (.pointer (some ⟨l, 0, none⟩))) c02 rfl (by kernel_rfl) (by kernel_rfl) (by kernel_rfl) (by kernel_rfl) (fun _ _ _ h => h) (by rfl) (fun w4 c4 => ?_) ?_
    · go_simp
    try simp only [Act.put, List.getElem_toArray, List.getElem_cons_succ, List.getElem_cons_zero, List.setIfInBounds_toArray, List.set_cons_zero, List.set_cons_succ]
    refine wpAnyU_take 18 (v := (.pointer (some ⟨l, 0, none⟩))) c02 rfl (by kernel_rfl) (by kernel_rfl) (by kernel_rfl) (by kernel_rfl) (fun _ _ _ h => h) (by rfl) (fun w4 c4 => ?_) ?_
    · go_simp
    try simp only [Act.put, List.getElem_toArray, List.getElem_cons_succ, List.getElem_cons_zero, List.setIfInBounds_toArray, List.set_cons_zero, List.set_cons_succ]
    refine wpAnyU_take 19 (v := (.pointer (some ⟨l, 1, none⟩))) c02 rfl (by kernel_rfl) (by kernel_rfl) (by kernel_rfl) (by kernel_rfl) (fun _ _ _ h => h) (by rfl) (fun w4 c4 => ?_) ?_
    · go_simp
    try simp only [Act.put, List.getElem_toArray, List.getElem_cons_succ, List.getElem_cons_zero, List.setIfInBounds_toArray, List.set_cons_zero, List.set_cons_succ]
    refine wpAnyU_take 20 (v := (.int .i64 L.ring)) c02 rfl (by kernel_rfl) (by kernel_rfl) (by kernel_rfl) (by kernel_rfl) (fun _ _ _ h => h) (by rfl) (fun w4 c4 => ?_) ?_
    · have z := c4.cell_some y1 (by simp)
      go_simp
    try simp only [Act.put, List.getElem_toArray, List.getElem_cons_succ, List.getElem_cons_zero, List.setIfInBounds_toArray, List.set_cons_zero, List.set_cons_succ]
    refine wpAnyU_only 16 rfl (by kernel_rfl) (by rfl) (by rfl) ?_
    go_simp
    refine (hnd _).mono ?_
    rintro e w4 ⟨rfl, rfl⟩
    refine ⟨c02, ?_⟩
    try simp only [Act.put, List.getElem_toArray, List.getElem_cons_succ, List.getElem_cons_zero, List.setIfInBounds_toArray, List.set_cons_zero, List.set_cons_succ]
    by_cases hnr : need n ≤ L.ring
    · have t : decide ((L.ring : Int) < (need n : Int)) = false := decide_eq_false (by omega)
      have HN := Lib.hid hnr
      clear hnr
      refine wpAnyU_take 21 (v := (.bool false)) c02 rfl (by kernel_rfl) (by kernel_rfl) (by kernel_rfl) (by kernel_rfl) (fun _ _ _ h => h) (by rfl) (fun w4 c4 => ?_) ?_
      · go_simp; exact HN.out
      try simp only [Act.put, List.getElem_toArray, List.getElem_cons_succ, List.getElem_cons_zero, List.setIfInBounds_toArray, List.set_cons_zero, List.set_cons_succ]
      refine wpAnyU_take 22 (v := (.bool false)) c02 rfl (by kernel_rfl) (by kernel_rfl) (by kernel_rfl) (by kernel_rfl) (fun _ _ _ h => h) (by rfl) (fun w4 c4 => ?_) ?_
      · go_simp
      try simp only [Act.put, List.getElem_toArray, List.getElem_cons_succ, List.getElem_cons_zero, List.setIfInBounds_toArray, List.set_cons_zero, List.set_cons_succ]
      refine wpAnyU_done (by kernel_rfl) ?_ _
      go_wp2_with fail
      go_ret2
      have e := HRES.out
      rw [if_pos ⟨HBB.out, HN.out⟩] at e
      subst e
      exact ⟨rfl, HQ.out⟩
    · have t : decide ((L.ring : Int) < (need n : Int)) = true := decide_eq_true (by omega)
      have HN := Lib.hid hnr
      clear hnr
      refine wpAnyU_take 21 (v := (.bool true)) c02 rfl (by kernel_rfl) (by kernel_rfl) (by kernel_rfl) (by kernel_rfl) (fun _ _ _ h => h) (by rfl) (fun w4 c4 => ?_) ?_
      · go_simp; have := HN.out; omega
      try simp only [Act.put, List.getElem_toArray, List.getElem_cons_succ, List.getElem_cons_zero, List.setIfInBounds_toArray, List.set_cons_zero, List.set_cons_succ]
      refine wpAnyU_take 22 (v := (.bool true)) c02 rfl (by kernel_rfl) (by kernel_rfl) (by kernel_rfl) (by kernel_rfl) (fun _ _ _ h => h) (by rfl) (fun w4 c4 => ?_) ?_
      · go_simp
      try simp only [Act.put, List.getElem_toArray, List.getElem_cons_succ, List.getElem_cons_zero, List.setIfInBounds_toArray, List.set_cons_zero, List.set_cons_succ]
      refine wpAnyU_done (by kernel_rfl) ?_ _
      go_wp2_with fail
      go_ret2
      have e := HRES.out
      rw [if_neg (fun h => HN.out h.2)] at e
      subst e
      exact ⟨rfl, HQ.out⟩
  · rw [decide_eq_false hb] at heq
    refine wpAnyU_only 11 rfl (by kernel_rfl) (by rfl) (by rfl) ?_
    go_simp
    refine (heq _ (Chg.refl [] _)).mono ?_
    rintro e w3 ⟨rfl, rfl⟩
    refine ⟨c02, ?_⟩
    try simp only [Act.put, List.getElem_toArray, List.getElem_cons_succ, List.getElem_cons_zero, List.setIfInBounds_toArray, List.set_cons_zero, List.set_cons_succ]
    have HBB := Lib.hid hb
    clear heq hb
    refine wpAnyU_take 12 (v := (.bool true)) c02 rfl (by kernel_rfl) (by kernel_rfl) (by kernel_rfl) (by kernel_rfl) (fun _ _ _ h => h) (by rfl) (fun w4 c4 => ?_) ?_
    · go_simp
    try simp only [Act.put, List.getElem_toArray, List.getElem_cons_succ, List.getElem_cons_zero, List.setIfInBounds_toArray, List.set_cons_zero, List.set_cons_succ]
    refine wpAnyU_take 13 (v := (.bool true)) c02 rfl (by kernel_rfl) (by kernel_rfl) (by kernel_rfl) (by kernel_rfl) (fun _ _ _ h => h) (by rfl) (fun w4 c4 => ?_) ?_
    · go_simp
    try simp only [Act.put, List.getElem_toArray, List.getElem_cons_succ, List.getElem_cons_zero, List.setIfInBounds_toArray, List.set_cons_zero, List.set_cons_succ]
    refine wpAnyU_skip 14 c02 rfl (by kernel_rfl) (by kernel_rfl) (by kernel_rfl) (by kernel_rfl) (fun _ _ _ h => h) (by rfl) ?_
    try simp only [Act.put, List.getElem_toArray, List.getElem_cons_succ, List.getElem_cons_zero, List.setIfInBounds_toArray, List.set_cons_zero, List.set_cons_succ]
    refine wpAnyU_skip 15 c02 rfl (by kernel_rfl) (by kernel_rfl) (by kernel_rfl) (by kernel_rfl) (fun _ _ _ h => h) (by rfl) ?_
    try simp only [Act.put, List.getElem_toArray, List.getElem_cons_succ, List.getElem_cons_zero, List.setIfInBounds_toArray, List.set_cons_zero, List.set_cons_succ]
    refine wpAnyU_skip 16 c02 rfl (by kernel_rfl) (by kernel_rfl) (by kernel_rfl) (by kernel_rfl) (fun _ _ _ h => h) (by rfl) ?_
    try simp only [Act.put, List.getElem_toArray, List.getElem_cons_succ, List.getElem_cons_zero, List.setIfInBounds_toArray, List.set_cons_zero, List.set_cons_succ]
    refine wpAnyU_skip 17 c02 rfl (by kernel_rfl) (by kernel_rfl) (by kernel_rfl) (by kernel_rfl) (fun _ _ _ h => h) (by rfl) ?_
    try simp only [Act.put, List.getElem_toArray, List.getElem_cons_succ, List.getElem_cons_zero, List.setIfInBounds_toArray, List.set_cons_zero, List.set_cons_succ]
    refine wpAnyU_skip 18 c02 rfl (by kernel_rfl) (by kernel_rfl) (by kernel_rfl) (by kernel_rfl) (fun _ _ _ h => h) (by rfl) ?_
    try simp only [Act.put, List.getElem_toArray, List.getElem_cons_succ, List.getElem_cons_zero, List.setIfInBounds_toArray, List.set_cons_zero, List.set_cons_succ]
    refine wpAnyU_skip 19 c02 rfl (by kernel_rfl) (by kernel_rfl) (by kernel_rfl) (by kernel_rfl) (fun _ _ _ h => h) (by rfl) ?_
    try simp only [Act.put, List.getElem_toArray, List.getElem_cons_succ, List.getElem_cons_zero, List.setIfInBounds_toArray, List.set_cons_zero, List.set_cons_succ]
    refine wpAnyU_skip 20 c02 rfl (by kernel_rfl) (by kernel_rfl) (by kernel_rfl) (by kernel_rfl) (fun _ _ _ h => h) (by rfl) ?_
    try simp only [Act.put, List.getElem_toArray, List.getElem_cons_succ, List.getElem_cons_zero, List.setIfInBounds_toArray, List.set_cons_zero, List.set_cons_succ]
    refine wpAnyU_skip 21 c02 rfl (by kernel_rfl) (by kernel_rfl) (by kernel_rfl) (by kernel_rfl) (fun _ _ _ h => h) (by rfl) ?_
    try simp only [Act.put, List.getElem_toArray, List.getElem_cons_succ, List.getElem_cons_zero, List.setIfInBounds_toArray, List.set_cons_zero, List.set_cons_succ]
    refine wpAnyU_take 22 (v := (.bool true)) c02 rfl (by kernel_rfl) (by kernel_rfl) (by kernel_rfl) (by kernel_rfl) (fun _ _ _ h => h) (by rfl) (fun w4 c4 => ?_) ?_
    · go_simp
    try simp only [Act.put, List.getElem_toArray, List.getElem_cons_succ, List.getElem_cons_zero, List.setIfInBounds_toArray, List.set_cons_zero, List.set_cons_succ]
    refine wpAnyU_done (by kernel_rfl) ?_ _
    go_wp2_with fail
    go_ret2
    have e := HRES.out
    rw [if_neg (fun h => HBB.out h.1)] at e
    subst e
    exact ⟨rfl, HQ.out⟩
end Go.Proofs.YtgcmgcffndbpoaaGreatDoor

