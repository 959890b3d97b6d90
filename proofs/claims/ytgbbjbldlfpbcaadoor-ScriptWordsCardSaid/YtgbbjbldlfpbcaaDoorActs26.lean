/- Contracts of script.Acts and aquref24.Acts. No statement of the seat is proved here. -/
import Derived.Test.YtgbbjbldlfpbcaaDoorRAct26
import Derived.Deep.DeepCutAuto
set_option linter.unusedVariables false
namespace Go.Aq
open Go.RowKit
/-- An act with the slices of its picture and its mask. -/
abbrev ActT := ActD × Value × Value
def rowsT (l : List ActT) : List Value := l.flatMap fun t => actL t.1 t.2.1 t.2.2
theorem actL_len (a : ActD) (pv mv : Value) : (actL a pv mv).length = 13 := rfl
theorem rowsT_len (l : List ActT) : (rowsT l).length = l.length * 13 := by
  induction l with
  | nil => rfl
  | cons t r ih => simp only [rowsT, List.flatMap_cons, List.length_append, List.length_cons] at ih ⊢; rw [ih, actL_len]; omega
theorem rowsT_app (l m : List ActT) : rowsT (l ++ m) = rowsT l ++ rowsT m := by simp [rowsT]
theorem rowsT_one (t : ActT) : rowsT [t] = actL t.1 t.2.1 t.2.2 := by simp [rowsT]
theorem rowsT_get (l : List ActT) (i : Nat) (hi : i < l.length) (j : Nat) (hj : j < 13) : (rowsT l)[i * 13 + j]? = (actL l[i].1 l[i].2.1 l[i].2.2)[j]? := by
  induction l generalizing i with
  | nil => simp at hi
  | cons t r ih =>
    have e : rowsT (t :: r) = actL t.1 t.2.1 t.2.2 ++ rowsT r := by simp [rowsT]
    rw [e]
    cases i with
    | zero => rw [List.getElem?_append_left (by rw [actL_len]; omega)]; simp
    | succ i =>
      rw [List.getElem?_append_right (by rw [actL_len]; omega), actL_len, show (i + 1) * 13 + j - 13 = i * 13 + j by omega]
      exact ih i (by simpa using hi)
/-- A list of acts made since w0, their pictures and masks seen, in blocks apart from the list's. -/
structure ActsR (w0 w : World) (e : TypeId) (v : Value) (l : List ActT) : Prop where
  own : Own w e 13 v l.length (rowsT l)
  chg : Chg [] w0 w
  new : ∀ k ∈ v.ownBlock.toList, w0.heap.size ≤ k
  each : ∀ t ∈ l, ActR w0 w t.1 t.2.1 t.2.2 ∧ (∀ k ∈ eyes t.2.1, k ∉ v.ownBlock.toList) ∧ ∀ k ∈ eyes t.2.2, k ∉ v.ownBlock.toList
theorem ActsR.nil (w : World) (e : TypeId) : ActsR w w e (.slice none 0 0) [] := ⟨Own.nil w e 13, Chg.refl _ _, by simp [Value.ownBlock], by simp⟩
theorem ActR.to {w0 w w' : World} {a : ActD} {pv mv : Value} {S : List Nat} (h : ActR w0 w a pv mv) (c : Chg S w w') (hp : ∀ k ∈ eyes pv, k ∉ S) (hm : ∀ k ∈ eyes mv, k ∉ S) : ActR w0 w' a pv mv :=
  ⟨h.pix.chg c hp, h.mask.chg c hm, h.newP, h.newM⟩
theorem ActR.wid {w0 w1 w : World} {a : ActD} {pv mv : Value} (h : ActR w1 w a pv mv) (c : Chg [] w0 w1) : ActR w0 w a pv mv :=
  ⟨h.pix, h.mask, fun k hk => Nat.le_trans c.size (h.newP k hk), fun k hk => Nat.le_trans c.size (h.newM k hk)⟩
theorem ActsR.to {w0 w w' : World} {e : TypeId} {v : Value} {l : List ActT} (h : ActsR w0 w e v l) (c : Chg [] w w') : ActsR w0 w' e v l :=
  ⟨h.own.chg c (fun _ _ => by simp), h.chg.trans c (by simp), h.new, fun t ht => ⟨(h.each t ht).1.to c (by simp) (by simp), (h.each t ht).2⟩⟩
/-- An act is appended. -/
theorem ActsR.app {w0 w w1 w2 w3 : World} {e : TypeId} {v v' : Value} {l : List ActT} {a : ActD} {pv mv : Value} (h : ActsR w0 w e v l) (ha : ActR w w1 a pv mv) (c1 : Chg [] w w1) (c2 : Chg [] w1 w2)
    (ho : Own w3 e 13 v' (l.length + 1) (rowsT l ++ actL a pv mv)) (c3 : Chg v.ownBlock.toList w2 w3) (hn : ∀ k ∈ v'.ownBlock.toList, k ∈ v.ownBlock.toList ∨ w2.heap.size ≤ k) : ActsR w0 w3 e v' (l ++ [(a, pv, mv)]) := by
  have c12 := c1.nil c2
  have cv : Chg v.ownBlock.toList w w3 := c12.toS.trans c3 fun k hk => .inl hk
  have cw : Chg v.ownBlock.toList w1 w3 := c2.toS.trans c3 fun k hk => .inl hk
  have hlt := h.own.lt
  have apart : ∀ x : Value, (∀ k ∈ eyes x, w.heap.size ≤ k) → (∀ k ∈ eyes x, k < w1.heap.size) → (∀ k ∈ eyes x, k ∉ v.ownBlock.toList) ∧ ∀ k ∈ eyes x, k ∉ v'.ownBlock.toList := by
    intro x h1 h2
    have h3 : ∀ k ∈ eyes x, k ∉ v.ownBlock.toList := fun k hk hv => by
      have := hlt k hv
      have := h1 k hk
      omega
    refine ⟨h3, fun k hk hv => ?_⟩
    rcases hn k hv with h4 | h4
    · exact h3 k hk h4
    · have := h2 k hk
      have := c2.size
      omega
  have ap := apart pv ha.newP (ha.pix.lt (by decide))
  have am := apart mv ha.newM (ha.mask.lt (by decide))
  refine ⟨?_, h.chg.trans cv (fun k hk => .inr (h.new k hk)), fun k hk => ?_, fun t ht => ?_⟩
  · rw [rowsT_app, rowsT_one, List.length_append]; exact ho
  · rcases hn k hk with h1 | h1
    · exact h.new k h1
    · have := h.chg.size
      have := c12.size
      omega
  · rcases List.mem_append.1 ht with ht | ht
    · obtain ⟨h1, h2, h3⟩ := h.each t ht
      refine ⟨h1.to cv h2 h3, fun k hk hv => ?_, fun k hk hv => ?_⟩
      · rcases hn k hv with h4 | h4
        · exact h2 k hk h4
        · have := h1.pix.lt (by decide) k hk
          have := c12.size
          omega
      · rcases hn k hv with h4 | h4
        · exact h3 k hk h4
        · have := h1.mask.lt (by decide) k hk
          have := c12.size
          omega
    · simp only [List.mem_singleton] at ht
      subst ht
      exact ⟨(ha.to cw ap.1 am.1).wid h.chg, ap.2, am.2⟩
end Go.Aq
namespace Go.Aq
theorem cell_al {w : World} {a : Addr} {u : Value} (h : w.cell? a = some u) (o : Obj) : (w.alloc o).cell? a = some u := ((Chg.refl [] w).alloc o).cell_some h (by simp)
theorem Sees.bytes {w : World} {v : Value} {n : Nat} {b : List UInt8} (h : Sees w 1 v n (Bs b)) (hn : 0 < n) :
    ∃ g off cap, v = .slice (some ⟨g, off, none⟩) n cap ∧ n ≤ cap ∧ g < w.heap.size ∧ ∀ j, j < n → w.cell? ⟨g, off + j, none⟩ = some (.int .u8 ((b.getD j 0).toNat : Int)) := by
  have hbl : b.length = n := by have := h.len; simpa [Bs] using this
  obtain ⟨g, off, cap, h1, h2, h3, h4⟩ := h.cells (by omega)
  refine ⟨g, off, cap, h1, h2, h3, fun j hj => ?_⟩
  rw [h4 j (by omega)]
  simp [Bs, Bc, List.getElem?_eq_getElem (show j < b.length by omega)]
end Go.Aq
namespace Go.Proofs.YtgbbjbldlfpbcaaDoor
open Go.RowKit Go.Aq Go.Aq.Wd
theorem sl_act : SliceTy Tryd.prog 25 38 (.agg actZs) 13 160 := ⟨Tryd.underlying25, by kernel_rfl, rfl, by decide⟩
set_option maxRecDepth 100000 in
set_option maxHeartbeats 4000000 in
theorem acts_any (v : Value) (n : Nat) (b : List UInt8) (w : World) (hv : Sees w 1 v n (Bs b)) (hl : n ≤ 1000000000) :
    Calls Tryd.prog 8 #[v] w fun e w' => ∃ v' l, e = .returned v' ∧ ActsR w w' 38 v' l ∧ l.map (·.1) = actsA b := by
  have hbl : b.length = n := by have := hv.len; simpa [Bs] using this
  obtain ⟨ao, cap, rfl, hcap, hno⟩ := hv.shape
  obtain ⟨N, hN⟩ : ∃ N, N = actsN n := ⟨_, rfl⟩
  have HN := Lib.hid (And.intro hN hbl)
  have HV := Lib.hid (And.intro hv hno)
  clear hN hbl hv hno
  go_enter Tryd.func8, Tryd.ntmps8
  go_wp2_with fail
  go_loopg [3, 4] N (fun kk v3 v4 wr => ∃ (j i : Nat) (l : List ActT), j + kk = N ∧ v4 = .int .i64 i ∧ i = 4 * j ∧ l.map (·.1) = (List.range j).map (actAt b) ∧ ActsR w wr 38 v3 l)
  case atStart => exact ⟨0, 0, [], by omega, rfl, rfl, rfl, ActsR.nil w _⟩
  case round =>
    obtain ⟨j, i, l, hj, rfl, hi, hm, hA⟩ := hrel
    have hlj : l.length = j := by have := congrArg List.length hm; simpa using this
    have hown := hA.own
    rw [hlj] at hown
    obtain ⟨ao2, cap2, rfl, hcap2, -⟩ := hown.sees.shape
    have hN := HN.out.1
    have hNle : N ≤ n / 4 ∧ N ≤ 300 := by rw [hN]; unfold actsN; omega
    have hj300 : j ≤ 300 := by omega
    have hj300' : (j : Int) ≤ 300 := by omega
    have hin : i ≤ n := by omega
    have hin' : (i : Int) ≤ (n : Int) := by omega
    have hn' : (n : Int) ≤ 1000000000 := by omega
    by_cases hjN : j < N
    · have t1 : decide ((i : Int) + 3 < (n : Int)) = true := by simp; omega
      have t1' : decide (i + 3 < n) = true := by simp; omega
      have t2 : decide ((j : Int) < 300) = true := by simp; omega
      have t2' : decide (j < 300) = true := by simp; omega
      obtain ⟨g, off, cap', hs, -, hgl, hcell⟩ := HV.out.1.bytes (by omega)
      simp only [Value.slice.injEq, true_and] at hs
      obtain ⟨rfl, rfl⟩ := hs
      have m0 := hA.chg.cell_some (hcell i (by omega)) (by simp)
      have m1 := hA.chg.cell_some (hcell (i + 1) (by omega)) (by simp)
      have m2 := hA.chg.cell_some (hcell (i + 2) (by omega)) (by simp)
      have m3 := hA.chg.cell_some (hcell (i + 3) (by omega)) (by simp)
      have b1 : ((i : Int) + 1 < (n : Int)) := by omega
      have b2 : ((i : Int) + 2 < (n : Int)) := by omega
      have b3 : ((i : Int) + 3 < (n : Int)) := by omega
      have b0 : ((i : Int) < (n : Int)) := by omega
      have hact : actAt b j = actK ((b.getD i 0).toNat % 16) (b.getD (i + 1) 0).toNat (b.getD (i + 2) 0).toNat (b.getD (i + 3) 0).toNat := by rw [hi]; rfl
      have x0 := (b.getD i 0).toNat_lt
      have x1 := (b.getD (i + 1) 0).toNat_lt
      have x2 := (b.getD (i + 2) 0).toNat_lt
      have x3 := (b.getD (i + 3) 0).toNat_lt
      have hk16 : (((b.getD i 0).toNat : Int) % 16) = (((b.getD i 0).toNat % 16 : Nat) : Int) := by omega
      have hk : (b.getD i 0).toNat % 16 < 16 := by omega
      generalize (b.getD (i + 1) 0).toNat = X at *
      generalize (b.getD (i + 2) 0).toNat = Y at *
      generalize (b.getD (i + 3) 0).toNat = Z at *
      generalize (b.getD i 0).toNat = k0 at *
      generalize k0 % 16 = k at *
      have HA := Lib.hid (And.intro hA (And.intro hact (And.intro hm (And.intro hj (And.intro hi (And.intro hlj (And.intro hown (And.intro hNle hjN))))))))
      clear hA hact hm hj hi hlj hown hN hNle hcell hjN
      go_wp2_with fail
      go_quiet (fail)
      rw [hk16]
      have HA2 : Hid (ActsR w (wr.drewN nq) 38 (.slice ao2 j cap2) l) := HA.out.1.to ((Chg.refl [] wr).drewN nq)
      have HA := Lib.hid HA.out.2
      generalize wr.drewN nq = w2 at *
      clear m0 m1 m2 m3
      by_cases hk11 : k < 11
      · have tk : decide ((k : Int) < 11) = true := by simp; omega
        have tk' : decide (k < 11) = true := by simp; omega
        have hf := fun w' => front_any k X Y Z hk11 (by omega) (by omega) (by omega) w'
        have hK : actK k X Y Z = frontA k X Y Z := by unfold actK; rw [if_pos hk11]
        generalize frontA k X Y Z = A at *
        have HK := Lib.hid hK
        clear hk11 hK hk16
        go_wp2_with fail
        refine (hf _).mono ?_
        rintro e w3 ⟨pv, mv, rfl, hR, c3⟩
        clear hf
        obtain ⟨ao5, cap5, rfl, -⟩ := hR.pix.shape
        obtain ⟨ao6, cap6, rfl, -⟩ := hR.mask.shape
        obtain ⟨n5, hn5⟩ : ∃ q, A.pix.length = q := ⟨_, rfl⟩
        obtain ⟨n6, hn6⟩ : ∃ q, A.mask.length = q := ⟨_, rfl⟩
        rw [hn5, hn6] at hR
        rw [hn5, hn6]
        clear hn5 hn6
        have HR := Lib.hid hR
        have hO2 := HA2.out.own
        rw [HA.out.2.2.2.2.1] at hO2
        have hO3 := hO2.chg c3 (fun _ _ => by simp)
        clear hO2 hR
        unfold actV actL
        go_wp2_with (at_builtin; refine wpList_app (v := .slice ao2 j cap2) rfl _ _ 25 rfl sl_act (by exact hO3.alloc (.cells (actL A (.slice ao5 n5 cap5) (.slice ao6 n6 cap6)).toArray 38)) rfl (Sees.blk (cs := (actL A (.slice ao5 n5 cap5) (.slice ao6 n6 cap6)).toArray) (by exact Blk.new w3 _ 38)) rfl (by simp [actL, Value.oneCell']) (by omega) (by omega) ?_; intro v7 w7 hO7 c7 n7)
        go_roundg (gk - 1)
        case measure => have := HA.out.2.2.1; have := HA.out.2.2.2.2.2.2.2; omega
        case rel =>
          refine ⟨j + 1, i + 4, l ++ [(A, .slice ao5 n5 cap5, .slice ao6 n6 cap6)], by have := HA.out.2.2.1; have := HA.out.2.2.2.2.2.2.2; omega, by go_num, by have := HA.out.2.2.2.1; omega, ?_, ?_⟩
          · rw [List.map_append, HA.out.2.1, List.range_succ, List.map_append, List.map_singleton, List.map_singleton, HA.out.1, HK.out]
          · refine HA2.out.app HR.out c3 ((Chg.refl [] w3).alloc _) ?_ c7 n7
            rw [HA.out.2.2.2.2.1]
            exact hO7
      · have tk : decide ((k : Int) < 11) = false := by simp; omega
        have tk' : decide (k < 11) = false := by simp; omega
        have hf := fun w' => back_any k X Y Z (by omega) (by omega) (by omega) (by omega) w'
        have hK : actK k X Y Z = backA k X Y Z := by unfold actK; rw [if_neg hk11]
        generalize backA k X Y Z = A at *
        have HK := Lib.hid hK
        clear hk11 hK hk16
        go_wp2_with fail
        refine (hf _).mono ?_
        rintro e w3 ⟨pv, mv, rfl, hR, c3⟩
        clear hf
        obtain ⟨ao5, cap5, rfl, -⟩ := hR.pix.shape
        obtain ⟨ao6, cap6, rfl, -⟩ := hR.mask.shape
        obtain ⟨n5, hn5⟩ : ∃ q, A.pix.length = q := ⟨_, rfl⟩
        obtain ⟨n6, hn6⟩ : ∃ q, A.mask.length = q := ⟨_, rfl⟩
        rw [hn5, hn6] at hR
        rw [hn5, hn6]
        clear hn5 hn6
        have HR := Lib.hid hR
        have hO2 := HA2.out.own
        rw [HA.out.2.2.2.2.1] at hO2
        have hO3 := hO2.chg c3 (fun _ _ => by simp)
        clear hO2 hR
        unfold actV actL
        go_wp2_with (at_builtin; refine wpList_app (v := .slice ao2 j cap2) rfl _ _ 25 rfl sl_act (by exact hO3.alloc (.cells (actL A (.slice ao5 n5 cap5) (.slice ao6 n6 cap6)).toArray 38)) rfl (Sees.blk (cs := (actL A (.slice ao5 n5 cap5) (.slice ao6 n6 cap6)).toArray) (by exact Blk.new w3 _ 38)) rfl (by simp [actL, Value.oneCell']) (by omega) (by omega) ?_; intro v7 w7 hO7 c7 n7)
        go_roundg (gk - 1)
        case measure => have := HA.out.2.2.1; have := HA.out.2.2.2.2.2.2.2; omega
        case rel =>
          refine ⟨j + 1, i + 4, l ++ [(A, .slice ao5 n5 cap5, .slice ao6 n6 cap6)], by have := HA.out.2.2.1; have := HA.out.2.2.2.2.2.2.2; omega, by go_num, by have := HA.out.2.2.2.1; omega, ?_, ?_⟩
          · rw [List.map_append, HA.out.2.1, List.range_succ, List.map_append, List.map_singleton, List.map_singleton, HA.out.1, HK.out]
          · refine HA2.out.app HR.out c3 ((Chg.refl [] w3).alloc _) ?_ c7 n7
            rw [HA.out.2.2.2.2.1]
            exact hO7
    · have hjn : j = N := by omega
      by_cases h4 : i + 3 < n
      · have t1 : decide ((i : Int) + 3 < (n : Int)) = true := by simp; omega
        have t1' : decide (i + 3 < n) = true := by simp; omega
        have h300 : j = 300 := by rw [hjn, hN]; unfold actsN; rw [hjn, hN] at hi; unfold actsN at hi; omega
        have t2 : decide ((j : Int) < 300) = false := by simp; omega
        have t2' : decide (j < 300) = false := by simp; omega
        have HE := Lib.hid (And.intro hA (And.intro hm (And.intro hjn (And.intro hN (And.intro HN.out.2 hl)))))
        clear hA hm hjn hN hown hNle hi hjN hj hlj h300 h4
        go_wp2_with fail
        go_ret
        obtain ⟨hA, hm, hjn, hN, hbl, -⟩ := HE.out
        refine ⟨_, l, rfl, hA, ?_⟩
        rw [hm]; unfold actsA; rw [hjn, hN, hbl]
      · have t1 : decide ((i : Int) + 3 < (n : Int)) = false := by simp; omega
        have t1' : decide (i + 3 < n) = false := by simp; omega
        have HE := Lib.hid (And.intro hA (And.intro hm (And.intro hjn (And.intro hN (And.intro HN.out.2 hl)))))
        clear hA hm hjn hN hown hNle hi hjN hj hlj h4
        go_wp2_with fail
        go_ret
        obtain ⟨hA, hm, hjn, hN, hbl, -⟩ := HE.out
        refine ⟨_, l, rfl, hA, ?_⟩
        rw [hm]; unfold actsA; rw [hjn, hN, hbl]
theorem rsl_act : SliceTy Tryd.prog 27 39 (.agg actZs) 13 160 := ⟨Tryd.underlying27, by kernel_rfl, rfl, by decide⟩
set_option maxRecDepth 100000 in
set_option maxHeartbeats 4000000 in
theorem racts_any (v : Value) (n : Nat) (b : List UInt8) (w : World) (hv : Sees w 1 v n (Bs b)) (hl : n ≤ 1000000000) :
    Calls Tryd.prog 9 #[v] w fun e w' => ∃ v' l, e = .returned v' ∧ ActsR w w' 39 v' l ∧ l.map (·.1) = actsA b := by
  have hbl : b.length = n := by have := hv.len; simpa [Bs] using this
  obtain ⟨ao, cap, rfl, hcap, hno⟩ := hv.shape
  obtain ⟨N, hN⟩ : ∃ N, N = actsN n := ⟨_, rfl⟩
  have HN := Lib.hid (And.intro hN hbl)
  have HV := Lib.hid (And.intro hv hno)
  clear hN hbl hv hno
  go_enter Tryd.func9, Tryd.ntmps9
  go_wp2_with fail
  go_loopg [3, 4] N (fun kk v3 v4 wr => ∃ (j : Nat) (l : List ActT), j + kk = N ∧ v4 = .int .i64 j ∧ l.map (·.1) = (List.range j).map (actAt b) ∧ ActsR w wr 39 v3 l)
  case atStart => exact ⟨0, [], by omega, rfl, rfl, ActsR.nil w _⟩
  case round =>
    obtain ⟨j, l, hj, rfl, hm, hA⟩ := hrel
    have hlj : l.length = j := by have := congrArg List.length hm; simpa using this
    have hown := hA.own
    rw [hlj] at hown
    obtain ⟨ao2, cap2, rfl, hcap2, -⟩ := hown.sees.shape
    have hN := HN.out.1
    have hNle : N ≤ n / 4 ∧ N ≤ 300 := by rw [hN]; unfold actsN; omega
    have hj300 : j ≤ 300 := by omega
    have hj300' : (j : Int) ≤ 300 := by omega
    have hn' : (n : Int) ≤ 1000000000 := by omega
    by_cases hjN : j < N
    · have t1 : decide (4 * (j : Int) + 3 < (n : Int)) = true := by simp; omega
      have t1' : decide (4 * j + 3 < n) = true := by simp; omega
      have t2 : decide ((j : Int) < 300) = true := by simp; omega
      have t2' : decide (j < 300) = true := by simp; omega
      obtain ⟨g, off, cap', hs, -, hgl, hcell⟩ := HV.out.1.bytes (by omega)
      simp only [Value.slice.injEq, true_and] at hs
      obtain ⟨rfl, rfl⟩ := hs
      have m0 := hA.chg.cell_some (hcell (4 * j) (by omega)) (by simp)
      have m1 := hA.chg.cell_some (hcell (4 * j + 1) (by omega)) (by simp)
      have m2 := hA.chg.cell_some (hcell (4 * j + 2) (by omega)) (by simp)
      have m3 := hA.chg.cell_some (hcell (4 * j + 3) (by omega)) (by simp)
      have hgo : g ∉ (Value.slice ao2 j cap2).ownBlock.toList := fun hk => by have := hA.new g hk; omega
      have b0 : (4 * (j : Int) < (n : Int)) := by omega
      have b1 : (4 * (j : Int) + 1 < (n : Int)) := by omega
      have b2 : (4 * (j : Int) + 2 < (n : Int)) := by omega
      have b3 : (4 * (j : Int) + 3 < (n : Int)) := by omega
      have hact : actAt b j = actK ((b.getD (4 * j) 0).toNat % 16) (b.getD (4 * j + 1) 0).toNat (b.getD (4 * j + 2) 0).toNat (b.getD (4 * j + 3) 0).toNat := rfl
      have x0 := (b.getD (4 * j) 0).toNat_lt
      have x1 := (b.getD (4 * j + 1) 0).toNat_lt
      have x2 := (b.getD (4 * j + 2) 0).toNat_lt
      have x3 := (b.getD (4 * j + 3) 0).toNat_lt
      have hk16 : (((b.getD (4 * j) 0).toNat : Int) % 16) = (((b.getD (4 * j) 0).toNat % 16 : Nat) : Int) := by omega
      have hk : (b.getD (4 * j) 0).toNat % 16 < 16 := by omega
      generalize (b.getD (4 * j + 1) 0).toNat = X at *
      generalize (b.getD (4 * j + 2) 0).toNat = Y at *
      generalize (b.getD (4 * j + 3) 0).toNat = Z at *
      generalize (b.getD (4 * j) 0).toNat = k0 at *
      generalize k0 % 16 = k at *
      have hf := fun w' => ract_all k X Y Z hk (by omega) (by omega) (by omega) w'
      generalize actK k X Y Z = A at *
      unfold actV actL at hf
      have HA := Lib.hid (And.intro hA (And.intro hact (And.intro hm (And.intro hj (And.intro hlj (And.intro hown (And.intro hNle hjN)))))))
      clear hA hact hm hj hlj hown hN hNle hcell hjN
      have hO2 := (HA.out.1.to (Chg.refl [] wr).drew).own
      rw [HA.out.2.2.2.2.1] at hO2
      have g0 : (0 : Int) ≤ 4 * (j : Int) := by omega
      have g1 : (0 : Int) ≤ 4 * (j : Int) + 1 := by omega
      have g2 : (0 : Int) ≤ 4 * (j : Int) + 2 := by omega
      have g3 : (0 : Int) ≤ 4 * (j : Int) + 3 := by omega
      have r0 : (4 * (j : Int)).toNat = 4 * j := by omega
      have r1 : (4 * (j : Int) + 1).toNat = 4 * j + 1 := by omega
      have r2 : (4 * (j : Int) + 2).toNat = 4 * j + 2 := by omega
      have r3 : (4 * (j : Int) + 3).toNat = 4 * j + 3 := by omega
      have wj : IntKind.i64.wrap (4 * (j : Int)) = 4 * (j : Int) := wrap_i64_nat (4 * j) (by omega)
      have wj1 : IntKind.i64.wrap (4 * (j : Int) + 1) = 4 * (j : Int) + 1 := wrap_i64_nat (4 * j + 1) (by omega)
      have wj2 : IntKind.i64.wrap (4 * (j : Int) + 2) = 4 * (j : Int) + 2 := wrap_i64_nat (4 * j + 2) (by omega)
      have wj3 : IntKind.i64.wrap (4 * (j : Int) + 3) = 4 * (j : Int) + 3 := wrap_i64_nat (4 * j + 3) (by omega)
      have wX := wrap_i64_nat X (by omega)
      have wY := wrap_i64_nat Y (by omega)
      have wZ := wrap_i64_nat Z (by omega)
      have wK := wrap_i64_nat k0 (by omega)
      have wk : (k0 : Int).tmod 16 = (k : Int) := by rw [Int.tmod_eq_emod_of_nonneg (by omega)]; exact hk16
      clear hk16
      go_upto_region 5 with (fail)
      go_region_held3 (fun w' => w'.cell? ⟨g, off + 4 * j, none⟩ = some (.int .u8 k0) ∧ w'.cell? ⟨g, off + (4 * j + 1), none⟩ = some (.int .u8 X) ∧ w'.cell? ⟨g, off + (4 * j + 2), none⟩ = some (.int .u8 Y) ∧ w'.cell? ⟨g, off + (4 * j + 3), none⟩ = some (.int .u8 Z))
        (first | exact ⟨m0, m1, m2, m3⟩ | exact ⟨q0, q1, q2, q3⟩ | go_keep | exact ⟨y0, y1, y2, y3⟩)
        (first
          | (go_at_call 23; refine (hf _).mono ?_; rintro e w3 ⟨pv, mv, rfl, hR, c3⟩; have q0 := c3.cell_some m0 (by simp); have q1 := c3.cell_some m1 (by simp); have q2 := c3.cell_some m2 (by simp); have q3 := c3.cell_some m3 (by simp); obtain ⟨ao5, cap5, rfl, -⟩ := hR.pix.shape; obtain ⟨ao6, cap6, rfl, -⟩ := hR.mask.shape; have hO3 := hO2.chg c3 (fun _ _ => by simp))
          | (refine step_app (by rfl) _ _ 27 (by rfl) rsl_act (by exact hO3.alloc (.cells (actL A (.slice ao5 A.pix.length cap5) (.slice ao6 A.mask.length cap6)).toArray 39)) (by rfl) (Sees.blk (cs := (actL A (.slice ao5 A.pix.length cap5) (.slice ao6 A.mask.length cap6)).toArray) (by exact Blk.new w3 _ 39)) (by rfl) (by simp [actL, Value.oneCell']) (by omega) (by omega) ?_; intro v7 w7 hO7 c7 n7; have y0 := c7.cell_some (cell_al q0 _) hgo; have y1 := c7.cell_some (cell_al q1 _) hgo; have y2 := c7.cell_some (cell_al q2 _) hgo; have y3 := c7.cell_some (cell_al q3 _) hgo))
      clear m0 m1 m2 m3 q0 q1 q2 q3 y0 y1 y2 y3
      have hA2 := HA.out.1.to (Chg.refl [] wr).drew
      go_wp2_with fail
      go_roundg (gk - 1)
      case measure => have := HA.out.2.2.2.1; have := HA.out.2.2.2.2.2.2.2; omega
      case rel =>
        refine ⟨j + 1, l ++ [(A, .slice ao5 A.pix.length cap5, .slice ao6 A.mask.length cap6)], by have := HA.out.2.2.2.1; have := HA.out.2.2.2.2.2.2.2; omega, by go_num, ?_, ?_⟩
        · rw [List.map_append, HA.out.2.2.1, List.range_succ, List.map_append, List.map_singleton, List.map_singleton, HA.out.2.1]
        · refine hA2.app hR c3 ((Chg.refl [] w3).alloc _) ?_ c7 n7
          rw [HA.out.2.2.2.2.1]
          exact hO7
    · have hjn : j = N := by omega
      have wj : IntKind.i64.wrap (4 * (j : Int)) = 4 * (j : Int) := wrap_i64_nat (4 * j) (by omega)
      by_cases h4 : 4 * j + 3 < n
      · have t1 : decide (4 * (j : Int) + 3 < (n : Int)) = true := by simp; omega
        have t1' : decide (4 * j + 3 < n) = true := by simp; omega
        have h300 : j = 300 := by rw [hjn, hN]; unfold actsN; rw [hjn, hN] at h4; unfold actsN at h4; omega
        have t2 : decide ((j : Int) < 300) = false := by simp; omega
        have t2' : decide (j < 300) = false := by simp; omega
        have HE := Lib.hid (And.intro hA (And.intro hm (And.intro hjn (And.intro hN (And.intro HN.out.2 hl)))))
        clear hA hm hjn hN hown hNle hjN hj hlj h300 h4
        go_wp2_with fail
        go_ret
        obtain ⟨hA, hm, hjn, hN, hbl, -⟩ := HE.out
        refine ⟨_, l, rfl, hA, ?_⟩
        rw [hm]; unfold actsA; rw [hjn, hN, hbl]
      · have t1 : decide (4 * (j : Int) + 3 < (n : Int)) = false := by simp; omega
        have t1' : decide (4 * j + 3 < n) = false := by simp; omega
        have HE := Lib.hid (And.intro hA (And.intro hm (And.intro hjn (And.intro hN (And.intro HN.out.2 hl)))))
        clear hA hm hjn hN hown hNle hjN hj hlj h4
        go_wp2_with fail
        go_ret
        obtain ⟨hA, hm, hjn, hN, hbl, -⟩ := HE.out
        refine ⟨_, l, rfl, hA, ?_⟩
        rw [hm]; unfold actsA; rw [hjn, hN, hbl]
end Go.Proofs.YtgbbjbldlfpbcaaDoor
