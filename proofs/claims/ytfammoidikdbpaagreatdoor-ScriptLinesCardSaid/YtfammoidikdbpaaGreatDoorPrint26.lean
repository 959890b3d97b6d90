/- Contract of script.Print. No statement of the seat is proved here. -/
import Derived.Test.YtfammoidikdbpaaGreatDoorKinds
import Derived.Test.YtfammoidikdbpaaGreatDoorSame26
import Derived.Lib.ItoaLen
set_option linter.unusedVariables false
set_option linter.unusedSimpArgs false
namespace Go.Aq.Wd
/-- A number in tens. -/
def decI (n : Int) : List UInt8 := Lib.itoa n
/-- An act as a line, its picture as pl, pe. -/
def printL (a : ActD) (pl : List UInt8) (pe : Int) : List UInt8 × Int :=
  if ¬ (1 ≤ a.kind ∧ a.kind ≤ 14) then ([], 4)
  else if ∃ x ∈ [a.name, a.other, a.text], (quoteL x).2 ≠ 0 then ([], 4)
  else if pe ≠ 0 then ([], pe)
  else (joinB [kindL.getD (a.kind - 1).toNat [], decI a.n, decI a.m, decI a.key, (quoteL a.name).1, (quoteL a.other).1, (quoteL a.text).1, pl, digitsL a.mask], 0)
theorem quoteL_err (l : List UInt8) (h : (quoteL l).2 ≠ 0) : quoteL l = ([], 4) := by
  unfold quoteL at h ⊢
  cases hs : sigs l with
  | none => rfl
  | some rs => rw [hs] at h; exact absurd rfl h
theorem quoteL_len (l : List UInt8) : (quoteL l).1.length ≤ 10 * l.length + 2 := by
  unfold quoteL
  cases hs : sigs l with
  | none => simp
  | some rs =>
    have h1 := encL_len rs
    rw [← (sigs_enc hs).1] at h1
    have h2 := writs_len rs
    simp only [quoteR, List.length_append, List.length_cons, List.length_nil]
    omega
theorem kind_len (k : Nat) : (kindL.getD k []).length ≤ 8 := by
  by_cases h : k < 14
  · revert k; decide
  · rw [List.getD_eq_getElem?_getD, List.getElem?_eq_none (by show kindL.length ≤ k; have : kindL.length = 14 := rfl; omega)]; simp
end Go.Aq.Wd
namespace Go.Aq
open Go.RowKit
theorem own_blk {w : World} {K n : Nat} {cs : Array Value} {e : TypeId} (h : Blk w K cs e) (hn : cs.size = n) (h63 : n ≤ 9223372036854775807) : Own w e 1 (.slice (some ⟨K, 0, none⟩) n n) n cs.toList :=
  ⟨by simpa using hn, .inr ⟨K, n, cs, rfl, Nat.zero_le _, h, Nat.le_refl _, by simpa [maxLen] using h63, by omega, by subst hn; rw [Nat.mul_one, ← Array.length_toList, List.take_length]⟩⟩
end Go.Aq
namespace Go.Proofs.YtfammoidikdbpaaGreatDoor
open Go.RowKit Go.Aq Go.Aq.Wd
set_option maxRecDepth 100000 in
set_option maxHeartbeats 4000000 in
theorem print_good (a : ActD) (pv mv : Value) (w : World) (hT : Tabs w) (pl : List UInt8) (pe : Int) (k : Nat) (hk : k < 14) (hak : a.kind = (k : Int) + 1)
    (hI : ∀ n, n = a.n ∨ n = a.m ∨ n = a.key → ∀ w', Chg [] w w' → Calls Tryz.prog 13 #[.int .i64 n] w' fun e w'' => e = .returned (.string (str (decI n))) ∧ Chg [] w' w'')
    (hp : ∀ w', Chg [] w w' → Calls Tryz.prog 15 #[rasV a.shp pv] w' fun e w'' => e = .returned (.tuple #[.string (str pl), .int .i64 pe]) ∧ Chg [] w' w'')
    (hm : Sees w 1 mv a.mask.length (Bs a.mask)) (h1 : a.name.length ≤ 100000000) (h2 : a.other.length ≤ 100000000) (h3 : a.text.length ≤ 100000000) (h4 : pl.length ≤ 1000000000) (h5 : a.mask.length ≤ 1000000)
    (hr : ∀ n, n = a.n ∨ n = a.m ∨ n = a.key → -9223372036854775808 ≤ n ∧ n ≤ 9223372036854775807) :
    Calls Tryz.prog 6 #[actV a pv mv] w fun e w' => e = .returned (.tuple #[.string (str (printL a pl pe).1), .int .i64 (printL a pl pe).2]) ∧ Chg [] w w' := by
  obtain ⟨K, hK⟩ : ∃ K, w.heap.size = K := ⟨_, rfl⟩
  have hbA : Blk (w.alloc (.cells (actL a pv mv).toArray 28)) K (actL a pv mv).toArray 28 := Blk.new_at w _ _ hK
  have hc : Chg [] w (w.alloc (.cells (actL a pv mv).toArray 28)) := (Chg.refl [] w).alloc _
  obtain ⟨⟨x0, x1, x2, x3, x4, x5, x6⟩, x7, x8, x9, x10, x11, x12⟩ := Blk13 hbA
  have HS := Lib.hid (And.intro hbA (And.intro hc (And.intro hm (And.intro h1 (And.intro h2 (And.intro h3 (And.intro h4 (And.intro h5 hak))))))))
  have t1 : decide (a.kind < 1) = false := by simp; omega
  have t2 : decide (14 < a.kind) = false := by simp; omega
  have w3' : IntKind.i64.wrap (a.kind - 1) = (k : Int) := by rw [hak, Int.add_sub_cancel]; exact wrap_i64_nat k (by omega)
  have k14 : (k : Int) < 14 := by omega
  clear hbA hc hm h1 h2 h3 h4 h5 hak
  unfold actV
  go_enter Tryz.func6, Tryz.ntmps6
  go_upto_region 3 with (fail)
  generalize (w.alloc (.cells (actL a pv mv).toArray 28)) = w1 at *
  refine wp_region_T (by kernel_rfl) ?_
  refine wpAnyT_take 1 (v := .pointer (some ⟨K, 0, none⟩)) rfl (by kernel_rfl) (by kernel_rfl) (by kernel_rfl) (fun _ _ _ h => h) (by rfl) (fun w2 c2 => ?_) ?_
  · have z0 := c2.cell_some x0 (by simp)
    have z1 := c2.cell_some x1 (by simp)
    have z2 := c2.cell_some x2 (by simp)
    have z6 := c2.cell_some x6 (by simp)
    go_simp
  try simp only [Act.put, List.getElem_toArray, List.getElem_cons_succ, List.getElem_cons_zero, List.setIfInBounds_toArray, List.set_cons_zero, List.set_cons_succ]
  refine wpAnyT_take 2 (v := .int .i64 a.kind) rfl (by kernel_rfl) (by kernel_rfl) (by kernel_rfl) (fun _ _ _ h => h) (by rfl) (fun w2 c2 => ?_) ?_
  · have z0 := c2.cell_some x0 (by simp)
    have z1 := c2.cell_some x1 (by simp)
    have z2 := c2.cell_some x2 (by simp)
    have z6 := c2.cell_some x6 (by simp)
    go_simp
  try simp only [Act.put, List.getElem_toArray, List.getElem_cons_succ, List.getElem_cons_zero, List.setIfInBounds_toArray, List.set_cons_zero, List.set_cons_succ]
  refine wpAnyT_take 3 (v := .int .i64 k) rfl (by kernel_rfl) (by kernel_rfl) (by kernel_rfl) (fun _ _ _ h => h) (by rfl) (fun w2 c2 => ?_) ?_
  · have z0 := c2.cell_some x0 (by simp)
    have z1 := c2.cell_some x1 (by simp)
    have z2 := c2.cell_some x2 (by simp)
    have z6 := c2.cell_some x6 (by simp)
    go_simp
  try simp only [Act.put, List.getElem_toArray, List.getElem_cons_succ, List.getElem_cons_zero, List.setIfInBounds_toArray, List.set_cons_zero, List.set_cons_succ]
  refine wpAnyT_take 6 (v := .pointer (some ⟨K, 1, none⟩)) rfl (by kernel_rfl) (by kernel_rfl) (by kernel_rfl) (fun _ _ _ h => h) (by rfl) (fun w2 c2 => ?_) ?_
  · have z0 := c2.cell_some x0 (by simp)
    have z1 := c2.cell_some x1 (by simp)
    have z2 := c2.cell_some x2 (by simp)
    have z6 := c2.cell_some x6 (by simp)
    go_simp
  try simp only [Act.put, List.getElem_toArray, List.getElem_cons_succ, List.getElem_cons_zero, List.setIfInBounds_toArray, List.set_cons_zero, List.set_cons_succ]
  refine wpAnyT_take 7 (v := .int .i64 a.n) rfl (by kernel_rfl) (by kernel_rfl) (by kernel_rfl) (fun _ _ _ h => h) (by rfl) (fun w2 c2 => ?_) ?_
  · have z0 := c2.cell_some x0 (by simp)
    have z1 := c2.cell_some x1 (by simp)
    have z2 := c2.cell_some x2 (by simp)
    have z6 := c2.cell_some x6 (by simp)
    go_simp
  try simp only [Act.put, List.getElem_toArray, List.getElem_cons_succ, List.getElem_cons_zero, List.setIfInBounds_toArray, List.set_cons_zero, List.set_cons_succ]
  refine wpAnyT_take 9 (v := .pointer (some ⟨K, 2, none⟩)) rfl (by kernel_rfl) (by kernel_rfl) (by kernel_rfl) (fun _ _ _ h => h) (by rfl) (fun w2 c2 => ?_) ?_
  · have z0 := c2.cell_some x0 (by simp)
    have z1 := c2.cell_some x1 (by simp)
    have z2 := c2.cell_some x2 (by simp)
    have z6 := c2.cell_some x6 (by simp)
    go_simp
  try simp only [Act.put, List.getElem_toArray, List.getElem_cons_succ, List.getElem_cons_zero, List.setIfInBounds_toArray, List.set_cons_zero, List.set_cons_succ]
  refine wpAnyT_take 10 (v := .int .i64 a.m) rfl (by kernel_rfl) (by kernel_rfl) (by kernel_rfl) (fun _ _ _ h => h) (by rfl) (fun w2 c2 => ?_) ?_
  · have z0 := c2.cell_some x0 (by simp)
    have z1 := c2.cell_some x1 (by simp)
    have z2 := c2.cell_some x2 (by simp)
    have z6 := c2.cell_some x6 (by simp)
    go_simp
  try simp only [Act.put, List.getElem_toArray, List.getElem_cons_succ, List.getElem_cons_zero, List.setIfInBounds_toArray, List.set_cons_zero, List.set_cons_succ]
  refine wpAnyT_take 12 (v := .pointer (some ⟨K, 6, none⟩)) rfl (by kernel_rfl) (by kernel_rfl) (by kernel_rfl) (fun _ _ _ h => h) (by rfl) (fun w2 c2 => ?_) ?_
  · have z0 := c2.cell_some x0 (by simp)
    have z1 := c2.cell_some x1 (by simp)
    have z2 := c2.cell_some x2 (by simp)
    have z6 := c2.cell_some x6 (by simp)
    go_simp
  try simp only [Act.put, List.getElem_toArray, List.getElem_cons_succ, List.getElem_cons_zero, List.setIfInBounds_toArray, List.set_cons_zero, List.set_cons_succ]
  refine wpAnyT_take 13 (v := .int .i64 a.key) rfl (by kernel_rfl) (by kernel_rfl) (by kernel_rfl) (fun _ _ _ h => h) (by rfl) (fun w2 c2 => ?_) ?_
  · have z0 := c2.cell_some x0 (by simp)
    have z1 := c2.cell_some x1 (by simp)
    have z2 := c2.cell_some x2 (by simp)
    have z6 := c2.cell_some x6 (by simp)
    go_simp
  try simp only [Act.put, List.getElem_toArray, List.getElem_cons_succ, List.getElem_cons_zero, List.setIfInBounds_toArray, List.set_cons_zero, List.set_cons_succ]
  refine wpAnyT_only 0 rfl (by kernel_rfl) (by rfl) (fun w2 c2 => ?_)
  go_simp
  refine (kinds_any _).mono ?_
  rintro e w3 ⟨rfl, hbk, c3⟩
  obtain ⟨K3, hK3⟩ : ∃ K3, w2.heap.size = K3 := ⟨_, rfl⟩
  rw [hK3] at hbk
  rw [hK3]
  have hw3 : Chg [] w w3 := HS.out.2.1.nil (c2.nil c3)
  have kc : w3.cell? ⟨K3, k, none⟩ = some (.string (str (kindL.getD k []))) := by
    rw [hbk.cell]
    have : k < (Ss kindL).toArray.size := hk
    rw [Array.getElem?_eq_getElem this]
    simp only [Ss, List.getElem_toArray, List.getElem_map]
    rw [List.getD_eq_getElem?_getD, List.getElem?_eq_getElem (show k < kindL.length from hk)]
    rfl
  have hkd := kind_len k
  obtain ⟨kd, hkd2⟩ : ∃ kd, kindL.getD k [] = kd := ⟨_, rfl⟩
  rw [hkd2] at kc hkd
  have HKD := Lib.hid (And.intro hkd2 hkd)
  clear hkd hkd2
  refine ⟨c2.nil c3 |> fun _ => c3, ?_⟩
  try simp only [Act.put, List.getElem_toArray, List.getElem_cons_succ, List.getElem_cons_zero, List.setIfInBounds_toArray, List.set_cons_zero, List.set_cons_succ]
  refine wpAnyT_take 4 (v := .pointer (some ⟨K3, k, none⟩)) rfl (by kernel_rfl) (by kernel_rfl) (by kernel_rfl) (fun _ _ _ h => h) (by rfl) (fun w4 c4 => ?_) ?_
  · go_simp
  try simp only [Act.put, List.getElem_toArray, List.getElem_cons_succ, List.getElem_cons_zero, List.setIfInBounds_toArray, List.set_cons_zero, List.set_cons_succ]
  refine wpAnyT_take 5 (v := .string (str kd)) rfl (by kernel_rfl) (by kernel_rfl) (by kernel_rfl) (fun _ _ _ h => h) (by rfl) (fun w4 c4 => ?_) ?_
  · have z := c4.cell_some kc (by simp)
    go_simp
  try simp only [Act.put, List.getElem_toArray, List.getElem_cons_succ, List.getElem_cons_zero, List.setIfInBounds_toArray, List.set_cons_zero, List.set_cons_succ]
  refine wpAnyT_call 8 (f := 13) (args := #[.int .i64 a.n]) (v := .string (str (decI a.n))) rfl (by kernel_rfl) (by kernel_rfl) (by kernel_rfl) (fun _ _ _ h => h) (by rfl) (fun w4 c4 => by go_simp) (fun w4 c4 => hI _ (.inl rfl) _ (hw3.nil c4)) ?_
  try simp only [Act.put, List.getElem_toArray, List.getElem_cons_succ, List.getElem_cons_zero, List.setIfInBounds_toArray, List.set_cons_zero, List.set_cons_succ]
  refine wpAnyT_call 11 (f := 13) (args := #[.int .i64 a.m]) (v := .string (str (decI a.m))) rfl (by kernel_rfl) (by kernel_rfl) (by kernel_rfl) (fun _ _ _ h => h) (by rfl) (fun w4 c4 => by go_simp) (fun w4 c4 => hI _ (.inr (.inl rfl)) _ (hw3.nil c4)) ?_
  try simp only [Act.put, List.getElem_toArray, List.getElem_cons_succ, List.getElem_cons_zero, List.setIfInBounds_toArray, List.set_cons_zero, List.set_cons_succ]
  refine wpAnyT_call 14 (f := 13) (args := #[.int .i64 a.key]) (v := .string (str (decI a.key))) rfl (by kernel_rfl) (by kernel_rfl) (by kernel_rfl) (fun _ _ _ h => h) (by rfl) (fun w4 c4 => by go_simp) (fun w4 c4 => hI _ (.inr (.inr rfl)) _ (hw3.nil c4)) ?_
  try simp only [Act.put, List.getElem_toArray, List.getElem_cons_succ, List.getElem_cons_zero, List.setIfInBounds_toArray, List.set_cons_zero, List.set_cons_succ]
  refine wpAnyT_only 15 rfl (by kernel_rfl) (by rfl) (fun w4 c4 => ?_)
  go_simp
  obtain ⟨K4, hK4⟩ : ∃ K4, w4.heap.size = K4 := ⟨_, rfl⟩
  rw [hK4]
  have hb4 : Blk (w4.alloc (.cells (Ss [kd, decI a.n, decI a.m, decI a.key]).toArray 9)) K4 (Ss [kd, decI a.n, decI a.m, decI a.key]).toArray 9 := Blk.new_at w4 _ _ hK4
  have hc4 : Chg [] w4 (w4.alloc (.cells (Ss [kd, decI a.n, decI a.m, decI a.key]).toArray 9)) := (Chg.refl [] w4).alloc _
  refine ⟨hc4, ?_⟩
  try simp only [Act.put, List.getElem_toArray, List.getElem_cons_succ, List.getElem_cons_zero, List.setIfInBounds_toArray, List.set_cons_zero, List.set_cons_succ]
  refine wpAnyT_take 16 (v := .slice (some ⟨K4, 0, none⟩) 4 4) rfl (by kernel_rfl) (by kernel_rfl) (by kernel_rfl) (fun _ _ _ h => h) (by rfl) (fun w5 c5 => by go_simp) ?_
  try simp only [Act.put, List.getElem_toArray, List.getElem_cons_succ, List.getElem_cons_zero, List.setIfInBounds_toArray, List.set_cons_zero, List.set_cons_succ]
  refine wpAnyT_done (by kernel_rfl) (fun w5 c5 => ?_) _
  have hw5 : Chg [] w w5 := ((hw3.nil c4).nil hc4).nil c5
  have hf5 : Fresh w w5 9 1 (.slice (some ⟨K4, 0, none⟩) 4 4) 4 (Ss [kd, decI a.n, decI a.m, decI a.key]) :=
    ⟨own_blk (hb4.chg0 c5) rfl (by decide), hw5, fun q hq => by simp [Value.ownBlock] at hq; have := (hw3.nil c4).size; omega⟩
  have hbA5 : Blk w5 K (actL a pv mv).toArray 28 := ((((HS.out.1.chg0 c2).chg0 c3).chg0 c4).chg0 hc4).chg0 c5
  clear hb4 hbk kc x0 x1 x2 x3 x4 x5 x6 x7 x8 x9 x10 x11 x12
  clear c5 hc4 c4 hw3 c3 c2
  clear hK3 hK4
  generalize (K4 : Nat) = K4 at *
  obtain ⟨⟨-, -, -, x3, x4, x5, -⟩, -⟩ := Blk13 hbA5
  obtain ⟨K5, hK5⟩ : ∃ K5, w5.heap.size = K5 := ⟨_, rfl⟩
  have hb5 : Blk (w5.alloc (.cells (Ss [a.name, a.other, a.text]).toArray 9)) K5 (Ss [a.name, a.other, a.text]).toArray 9 := Blk.new_at w5 _ _ hK5
  have hf6 := hf5.to ((Chg.refl [] w5).alloc (.cells (Ss [a.name, a.other, a.text]).toArray 9))
  have hbA6 := hbA5.alloc (.cells (Ss [a.name, a.other, a.text]).toArray 9)
  have hne : K5 ∉ (Value.slice (some ⟨K4, 0, none⟩) 4 4).ownBlock.toList := fun hk => by have := hf5.own.lt K5 hk; omega
  have HW := Lib.hid (And.intro hb5 (And.intro hf6 (And.intro hbA6 (And.intro hne hw5))))
  have HS := Lib.hid HS.out.2.2
  clear hb5 hf6 hbA6 hne hf5 hbA5 hw5 t1 t2 w3' k14 hI
  go_wp2_with fail
  go_loopg [4, 43] 3 (fun kk v4 v43 wr => ∃ (i : Nat), i + kk = 3 ∧ v43 = .int .i64 i ∧ Fresh w wr 9 1 v4 (4 + i) (Ss ([kd, decI a.n, decI a.m, decI a.key] ++ ([a.name, a.other, a.text].take i).map fun x => (quoteL x).1)) ∧ (∀ x ∈ [a.name, a.other, a.text].take i, (quoteL x).2 = 0) ∧
    Blk wr K5 (Ss [a.name, a.other, a.text]).toArray 9 ∧ Blk wr K (actL a pv mv).toArray 28 ∧ K5 ∉ v4.ownBlock.toList)
  case atStart => exact ⟨0, by omega, rfl, HW.out.2.1, by simp, HW.out.1, HW.out.2.2.1, HW.out.2.2.2.1⟩
  case round =>
    obtain ⟨i, hi, rfl, hF, hq, hb5, hbA, hne⟩ := hrel
    generalize hnm : [a.name, a.other, a.text] = nm at *
    have hl3 : nm.length = 3 := by rw [← hnm]; rfl
    have hlq : ((nm.take i).map fun x => (quoteL x).1).length = i := by rw [List.length_map, List.length_take]; omega
    by_cases h3 : i < 3
    · have t1 : decide ((i : Int) < 3) = true := by simp; omega
      have t1' : decide (i < 3) = true := by simp; omega
      have i3 : (i : Int) < 3 := by omega
      have hil : i < nm.length := by omega
      have hyl : (nm[i]).length ≤ 1000000000 := by
        have hm : nm[i] ∈ [a.name, a.other, a.text] := by rw [hnm]; exact List.getElem_mem hil
        obtain ⟨-, a1, a2, a3, -⟩ := HS.out
        rcases List.mem_cons.1 hm with h | hm
        · simp only [h]; omega
        · rcases List.mem_cons.1 hm with h | hm
          · simp only [h]; omega
          · simp only [List.mem_singleton] at hm; simp only [hm]; omega
      have m5 : wr.cell? ⟨K5, i, none⟩ = some (.string (str nm[i])) := by
        rw [hb5.cell, Array.getElem?_eq_getElem (by simpa [Ss] using hil)]
        simp [Ss]
      have hts := List.take_succ_eq_append_getElem hil
      have hmem : nm[i] ∈ nm := List.getElem_mem hil
      generalize nm[i] = y at *
      have hqa := quote_any y wr (hT.chg hF.chg) hyl
      obtain ⟨q1, hq1⟩ : ∃ q, (quoteL y).1 = q := ⟨_, rfl⟩
      obtain ⟨ao, cap, rfl, hcap⟩ := hF.shape
      have HR := Lib.hid (And.intro hi (And.intro hF (And.intro hq (And.intro hb5 (And.intro hbA (And.intro hne (And.intro hts (And.intro hmem (And.intro hnm h3)))))))))
      by_cases hz : (quoteL y).2 = 0
      · rw [hz, hq1] at hqa
        have HZ := Lib.hid (And.intro hz hq1)
        have hF0 := hF
        clear hi hF hq hb5 hbA hne hts hmem hnm h3 hz hq1 hlq hil hl3 hyl
        go_wp2_with fail
        refine hqa.mono ?_
        rintro e w6 ⟨rfl, c6⟩
        have hO6 := (hF0.to c6).own
        clear hqa hF0 m5
        have hi4 : i ≤ 3 := by omega
        go_wp2_with (at_builtin; refine wpList_app (v := .slice ao (4 + i) cap) rfl _ _ 43 rfl sl_str (by exact hO6.alloc (.cells #[.string (str q1)] 9)) rfl (Sees.blk (cs := #[.string (str q1)]) (by exact Blk.new w6 _ 9)) rfl (by simp [Value.oneCell']) (by omega) (by omega) ?_; intro v7 w7 hO7 c7 n7)
        go_roundg (gk - 1)
        case measure => obtain ⟨a1, -, -, -, -, -, -, -, -, a2⟩ := HR.out; omega
        case rel =>
          obtain ⟨hi, hF, hq, hb5, hbA, hne, hts, hmem, hnm, h3⟩ := HR.out
          obtain ⟨hz, hq1⟩ := HZ.out
          have c67 := c6.alloc (.cells #[.string (str q1)] 9)
          have hF7 := (hF.to c67).app hO7 c7 n7
          have hb6 := hb5.chg0 c67
          refine ⟨i + 1, by omega, by go_num, ?_, ?_, hb6.chg c7 hne, (hbA.chg0 c67).chg c7 (Own.ne (hF.to c67).own (hbA.chg0 c67) (by decide)), fun hk => ?_⟩
          · have e : Ss ([kd, decI a.n, decI a.m, decI a.key] ++ (nm.take (i + 1)).map fun x => (quoteL x).1) = Ss ([kd, decI a.n, decI a.m, decI a.key] ++ (nm.take i).map fun x => (quoteL x).1) ++ #[Value.string (str q1)].toList := by
              rw [hts, List.map_append, ← List.append_assoc, Ss_append, List.map_singleton, hq1]; rfl
            rw [e]
            exact hF7
          · intro x hx
            rw [hts] at hx
            rcases List.mem_append.1 hx with hx | hx
            · exact hq x hx
            · simp only [List.mem_singleton] at hx; rw [hx]; exact hz
          · rcases n7 _ hk with h | h
            · exact hne h
            · have := hb6.lt; omega
      · have hqe := quoteL_err y hz
        have hpr : printL a pl pe = ([], 4) := by
          have hak := HS.out.2.2.2.2.2.2
          unfold printL
          rw [if_neg (by omega), if_pos ⟨y, by rw [hnm]; exact hmem, hz⟩]
        have HPR := Lib.hid hpr
        rw [hqe] at hqa
        have hF0 := hF.chg
        clear hi hF hq hb5 hbA hne hts hmem hnm h3 hz hq1 hlq hil hl3 hyl hpr hqe
        go_wp2_with fail
        refine hqa.mono ?_
        rintro e w6 ⟨rfl, c6⟩
        go_wp2_with fail
        go_ret2
        rw [HPR.out]
        exact ⟨rfl, hF0.nil c6⟩
    · have t1 : decide ((i : Int) < 3) = false := by simp; omega
      have t1' : decide (i < 3) = false := by simp; omega
      have hti : nm.take i = nm := List.take_of_length_le (by omega)
      rw [hti] at hF hq
      have h43 : 4 + i = 7 := by omega
      rw [h43] at hF
      obtain ⟨ao, cap, rfl, hcap⟩ := hF.shape
      obtain ⟨-, x7, x8, x9, x10, x11, x12⟩ := Blk13 hbA
      have hpw := hp wr hF.chg
      unfold rasV at hpw
      have hm := (HS.out.1.chg0 hF.chg)
      have hall : ¬ ∃ x ∈ [a.name, a.other, a.text], (quoteL x).2 ≠ 0 := fun ⟨x, hx, h⟩ => h (hq x (by rw [← hnm]; exact hx))
      have hE : ([kd, decI a.n, decI a.m, decI a.key] ++ nm.map fun x => (quoteL x).1) = [kd, decI a.n, decI a.m, decI a.key, (quoteL a.name).1, (quoteL a.other).1, (quoteL a.text).1] := by rw [← hnm]; rfl
      rw [hE] at hF
      obtain ⟨aom, capm, rfl, -, -⟩ := hm.shape
      have hak := HS.out.2.2.2.2.2.2
      have HR := Lib.hid (And.intro hF (And.intro hm (And.intro hbA (And.intro hall (And.intro hak x12)))))
      have hF0 := hF
      clear hi hF hq hb5 hbA hne hnm h3 hlq hl3 hti h43 hall hE hm hak x12 hp
      by_cases hpe : pe = 0
      · subst hpe
        go_wp2_with fail
        refine hpw.mono ?_
        rintro e w6 ⟨rfl, c6⟩
        have x12 := c6.cell_some HR.out.2.2.2.2.2 (by simp)
        have hdg := digits_any w6 _ _ a.mask (HR.out.2.1.chg0 c6) HS.out.2.2.2.2.2.1
        have hF6 := hF0.to c6
        clear x7 x8 x9 x10 x11 hpw hF0
        go_wp2_with fail
        refine hdg.mono ?_
        rintro e w7 ⟨rfl, c7⟩
        have hO7 := (hF6.to c7).own
        clear hdg hF6 x12
        go_wp2_with (at_builtin; refine wpList_app (v := .slice ao 7 cap) rfl _ _ 43 rfl sl_str (by exact hO7.alloc (.cells #[.string (str pl), .string (str (digitsL a.mask))] 9)) rfl (Sees.row (cs := #[.string (str pl), .string (str (digitsL a.mask))]) (by exact Blk.new w7 _ 9) (m := 2) rfl) rfl (by simp [Value.oneCell']) (by omega) (by omega) ?_; intro v8 w8 hO8 c8 n8)
        have hs8 : Sees w8 1 v8 9 (Ss [kd, decI a.n, decI a.m, decI a.key, (quoteL a.name).1, (quoteL a.other).1, (quoteL a.text).1, pl, digitsL a.mask]) := hO8.sees
        have hbig : ∀ y ∈ [kd, decI a.n, decI a.m, decI a.key, (quoteL a.name).1, (quoteL a.other).1, (quoteL a.text).1, pl, digitsL a.mask], y.length ≤ 10000000000 := by
          obtain ⟨-, b1, b2, b3, b4, b5, -⟩ := HS.out
          have q1 := quoteL_len a.name
          have q2 := quoteL_len a.other
          have q3 := quoteL_len a.text
          have d1 := Lib.itoa_length_le a.n (hr _ (.inl rfl)).1 (hr _ (.inl rfl)).2
          have d2 := Lib.itoa_length_le a.m (hr _ (.inr (.inl rfl))).1 (hr _ (.inr (.inl rfl))).2
          have d3 := Lib.itoa_length_le a.key (hr _ (.inr (.inr rfl))).1 (hr _ (.inr (.inr rfl))).2
          have g1 : (digitsL a.mask).length ≤ 2 * a.mask.length + 1 := by
            unfold digitsL
            split
            · simp
            · rw [hexL_length]; omega
          have k1 := HKD.out.2
          intro y hy
          simp only [List.mem_cons, List.not_mem_nil, or_false] at hy
          unfold decI at hy
          rcases hy with rfl | rfl | rfl | rfl | rfl | rfl | rfl | rfl | rfl <;> omega
        have hj := join9 v8 _ w8 hs8 hbig
        go_wp2_with fail
        refine hj.mono ?_
        rintro e w9 ⟨rfl, c9⟩
        go_wp2_with fail
        go_ret2
        obtain ⟨hF, -, -, hall, hak, -⟩ := HR.out
        have hpr : printL a pl 0 = (joinB [kd, decI a.n, decI a.m, decI a.key, (quoteL a.name).1, (quoteL a.other).1, (quoteL a.text).1, pl, digitsL a.mask], 0) := by
          unfold printL
          rw [if_neg (by omega), if_neg hall, if_neg (by simp), show (a.kind - 1).toNat = k by omega, HKD.out.1]
        rw [hpr]
        exact ⟨rfl, ((((hF.to c6).to c7).to ((Chg.refl [] w7).alloc _)).app hO8 c8 n8).chg.nil c9⟩
      · have hpr : printL a pl pe = ([], pe) := by
          unfold printL
          rw [if_neg (by have := HR.out.2.2.2.2.1; omega), if_neg HR.out.2.2.2.1, if_pos hpe]
        have HPR := Lib.hid (And.intro hpr hF0.chg)
        have tp : (pe == 0) = false := by simpa using hpe
        have tp' : (pe != 0) = true := by simpa using hpe
        clear hpr hF0 hpe
        go_wp2_with fail
        refine hpw.mono ?_
        rintro e w6 ⟨rfl, c6⟩
        clear hpw x7 x8 x9 x10 x11
        go_wp2_with fail
        go_ret2
        rw [HPR.out.1]
        exact ⟨rfl, HPR.out.2.nil c6⟩
set_option maxRecDepth 100000 in
set_option maxHeartbeats 4000000 in
theorem print_kind (a : ActD) (pv mv : Value) (w : World) (pl : List UInt8) (pe : Int) (hk : ¬ (1 ≤ a.kind ∧ a.kind ≤ 14)) :
    Calls Tryz.prog 6 #[actV a pv mv] w fun e w' => e = .returned (.tuple #[.string (str (printL a pl pe).1), .int .i64 (printL a pl pe).2]) ∧ Chg [] w w' := by
  obtain ⟨K, hK⟩ : ∃ K, w.heap.size = K := ⟨_, rfl⟩
  have hbA : Blk (w.alloc (.cells (actL a pv mv).toArray 28)) K (actL a pv mv).toArray 28 := Blk.new_at w _ _ hK
  have hc : Chg [] w (w.alloc (.cells (actL a pv mv).toArray 28)) := (Chg.refl [] w).alloc _
  obtain ⟨⟨x0, x1, x2, x3, x4, x5, x6⟩, x7, x8, x9, x10, x11, x12⟩ := Blk13 hbA
  have hpr : printL a pl pe = ([], 4) := by unfold printL; rw [if_pos hk]
  rw [hpr]
  have HC := Lib.hid hc
  clear hbA hc hpr x1 x2 x3 x4 x5 x6 x7 x8 x9 x10 x11 x12
  unfold actV
  by_cases h1 : a.kind < 1
  · have t1 : decide (a.kind < 1) = true := by simp; omega
    clear hk h1
    go_enter Tryz.func6, Tryz.ntmps6
    go_wp2_with fail
    go_ret2
    exact ⟨rfl, HC.out⟩
  · have t1 : decide (a.kind < 1) = false := by simp; omega
    have t2 : decide (14 < a.kind) = true := by simp; omega
    clear hk h1
    go_enter Tryz.func6, Tryz.ntmps6
    go_wp2_with fail
    go_ret2
    exact ⟨rfl, HC.out⟩
def openA : ActD := { actZ with kind := 14 }
def openL : List UInt8 := [111, 112, 101, 110, 32, 48, 32, 48, 32, 48, 32, 34, 34, 32, 34, 34, 32, 34, 34, 32, 45, 32, 45]
theorem print_open : printL openA [45] 0 = (openL, 0) := by decide +kernel
theorem itoa0 (w : World) : Calls Tryz.prog 13 #[.int .i64 0] w fun e w' => e = .returned (.string (str (decI 0))) ∧ Chg [] w w' :=
  (Tryz.strconv_Itoa_small 0 (by decide) w).mono fun e w' ⟨h1, h2⟩ => ⟨h1, h2 ▸ Chg.refl _ _⟩
set_option maxRecDepth 100000 in
set_option maxHeartbeats 4000000 in
theorem first26 (w : World) (hT : Tabs w) : Calls Tryz.prog 4 #[] w fun e w' => e = .returned (.bool true) ∧ Chg [] w w' := by
  have hI : ∀ n : Int, n = openA.n ∨ n = openA.m ∨ n = openA.key → n = 0 := fun n h => by rcases h with h | h | h <;> exact h
  have hp := print_good openA (.slice none 0 0) (.slice none 0 0) w hT [45] 0 13 (by decide) rfl (fun n h w' _ => by rw [hI n h]; exact itoa0 w') (fun w' _ => picture_none w') (Sees.nil _ _) (by decide) (by decide) (by decide) (by decide) (by decide) (fun n h => by rw [hI n h]; decide)
  rw [print_open] at hp
  unfold actV actL openA actZ shpZ at hp
  have e1 : ((str openL).toList == [111, 112, 101, 110, 32, 48, 32, 48, 32, 48, 32, 34, 34, 32, 34, 34, 32, 34, 34, 32, 45, 32, 45]) = true := by rw [str_toList]; decide
  go_enter Tryz.func4, Tryz.ntmps4
  go_wp2_with fail
  refine hp.mono ?_
  rintro e w1 ⟨rfl, c1⟩
  go_wp2_with fail
  go_ret
  exact ⟨rfl, c1⟩
end Go.Proofs.YtfammoidikdbpaaGreatDoor
