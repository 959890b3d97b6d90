/- Contract of constants.mix. No statement of the seat is proved here. -/
import Derived.Test.YtgjmcpmdhilkeaaShaMix
set_option linter.unusedVariables false
namespace Go.Aq.Sha
def stL (s : St) : List Nat := [s.a, s.b, s.c, s.d, s.e, s.f, s.g, s.h]
def wfS (s : St) : Prop := s.a < 4294967296 ∧ s.b < 4294967296 ∧ s.c < 4294967296 ∧ s.d < 4294967296 ∧ s.e < 4294967296 ∧ s.f < 4294967296 ∧ s.g < 4294967296 ∧ s.h < 4294967296
theorem rounds_snoc (w : List Nat) : ∀ (n i : Nat) (s : St), rounds s w (n + 1) i = round (rounds s w n i) (K.getD (i + n) 0) (w.getD (i + n) 0)
  | 0, i, s => rfl
  | n + 1, i, s => by
    rw [rounds, rounds_snoc w n (i + 1), rounds, show i + 1 + n = i + (n + 1) by omega]
theorem round_wf (s : St) (k w : Nat) (h : wfS s) : wfS (round s k w) := by
  obtain ⟨h1, h2, h3, h4, h5, h6, h7, h8⟩ := h
  exact ⟨Nat.mod_lt _ (by decide), h1, h2, h3, Nat.mod_lt _ (by decide), h5, h6, h7⟩
theorem rounds_wf (w : List Nat) (s : St) (h : wfS s) : ∀ n, wfS (rounds s w n 0)
  | 0 => h
  | n + 1 => by rw [rounds_snoc]; exact round_wf _ _ _ (rounds_wf w s h n)
theorem mix_wf (s : St) (b : List UInt8) (a : Nat) : wfS (mix s b a) :=
  ⟨Nat.mod_lt _ (by decide), Nat.mod_lt _ (by decide), Nat.mod_lt _ (by decide), Nat.mod_lt _ (by decide), Nat.mod_lt _ (by decide), Nat.mod_lt _ (by decide), Nat.mod_lt _ (by decide), Nat.mod_lt _ (by decide)⟩
theorem K_len : K.length = 64 := by decide
theorem K_lt (i : Nat) : K.getD i 0 < 4294967296 := by
  have h : (K.all fun n => decide (n < 4294967296)) = true := by decide
  rw [List.getD_eq_getElem?_getD]
  by_cases hi : i < K.length
  · rw [List.getElem?_eq_getElem hi]
    have := List.all_eq_true.1 h _ (List.getElem_mem hi)
    simpa using this
  · rw [List.getElem?_eq_none (by omega)]; decide
theorem cellsK_get (i : Nat) (h : i < 64) : cellsK.toArray[8 + i]? = some (.int .u32 (K.getD i 0 : Nat)) := by
  unfold cellsK
  rw [List.getElem?_toArray, List.getElem?_map, List.getElem?_append_right (by simp [H0]), show 8 + i - H0.length = i by simp [H0]]
  rw [List.getElem?_eq_getElem (by rw [K_len]; exact h), List.getD_eq_getElem?_getD, List.getElem?_eq_getElem (by rw [K_len]; exact h)]
  rfl
def addL (s t : St) (j : Nat) : List Nat := (List.range 8).map fun m => if m < j then ((stL s).getD m 0 + (stL t).getD m 0) % m32 else (stL s).getD m 0
theorem addL_zero (s t : St) : addL s t 0 = stL s := rfl
theorem addL_len (s t : St) (j : Nat) : (addL s t j).length = 8 := by simp [addL]
theorem addL_get (s t : St) (j : Nat) (h : j < 8) : (addL s t j).getD j 0 = (stL s).getD j 0 := by simp [addL, List.getD_eq_getElem?_getD, h]
theorem addL_set (s t : St) (j : Nat) (h : j < 8) : (addL s t j).set j (((stL s).getD j 0 + (stL t).getD j 0) % m32) = addL s t (j + 1) := by
  apply List.ext_getElem
  · simp [addL]
  · intro i h1 h2
    simp only [List.getElem_set, addL, List.getElem_map, List.getElem_range]
    by_cases hij : j = i
    · subst hij; rw [if_pos rfl, if_pos (by omega)]
    · rw [if_neg hij]
      by_cases hi : i < j
      · rw [if_pos hi, if_pos (by omega)]
      · rw [if_neg hi, if_neg (by omega)]
theorem addL_all (s t : St) : addL s t 8 = [(s.a + t.a) % m32, (s.b + t.b) % m32, (s.c + t.c) % m32, (s.d + t.d) % m32, (s.e + t.e) % m32, (s.f + t.f) % m32, (s.g + t.g) % m32, (s.h + t.h) % m32] := by
  unfold addL
  have e : List.range 8 = [0, 1, 2, 3, 4, 5, 6, 7] := rfl
  rw [e]
  simp only [List.map_cons, List.map_nil]
  generalize m32 = m
  rfl
theorem stL_lt (s : St) (h : wfS s) (j : Nat) (hj : j < 8) : (stL s).getD j 0 < 4294967296 := by
  obtain ⟨h0, h1, h2, h3, h4, h5, h6, h7⟩ := h
  match j, hj with
  | 0, _ => exact h0
  | 1, _ => exact h1
  | 2, _ => exact h2
  | 3, _ => exact h3
  | 4, _ => exact h4
  | 5, _ => exact h5
  | 6, _ => exact h6
  | 7, _ => exact h7
end Go.Aq.Sha
namespace Go.Proofs.Ytgjmcpmdhilkeaa
open Go.RowKit Go.Aq Go.Aq.Sha
theorem not32 (e : Nat) (he : e < 4294967296) : bits .xor .u32 (if IntKind.u32.signed = true then -1 else IntKind.u32.max) (e : Int) = ((4294967295 - e : Nat) : Int) := by
  have h1 : (if IntKind.u32.signed = true then -1 else IntKind.u32.max) = ((4294967295 : Nat) : Int) := by decide
  rw [h1, (bits_u32 4294967295 e (by decide) he).2.2]
  congr 1
  have : BitVec.toNat (~~~ (BitVec.ofNat 32 e)) = 4294967295 - e := by rw [BitVec.toNat_not, BitVec.toNat_ofNat, Nat.mod_eq_of_lt he]
  rw [← this]
  have h2 : ~~~ (BitVec.ofNat 32 e) = (BitVec.allOnes 32) ^^^ (BitVec.ofNat 32 e) := by rw [BitVec.allOnes_xor]
  rw [h2, BitVec.toNat_xor, BitVec.toNat_allOnes, BitVec.toNat_ofNat, Nat.mod_eq_of_lt he]
theorem Ws_one (l : List Nat) : ∀ v ∈ (Ws l).toArray.toList, v.oneCell' = true := by
  intro v hv
  simp only [Ws, List.mem_map] at hv
  obtain ⟨n, -, rfl⟩ := hv
  rfl
theorem arr64 (l : List Nat) (h : l.length = 64) : ArrTy Try.prog 35 (Ws l).toArray.size := ⟨⟨_, Try.underlying35, rfl⟩, by rw [List.size_toArray, Ws_length, h]; kernel_rfl⟩
theorem arr8 (l : List Nat) (h : l.length = 8) : ArrTy Try.prog 34 (Ws l).toArray.size := ⟨⟨_, Try.underlying34, rfl⟩, by rw [List.size_toArray, Ws_length, h]; kernel_rfl⟩
theorem idx8 (T : St) (j : Nat) (hj : j < 8) (w : World) : (Instr.index 34 (.agg (Ws (stL T)).toArray) (.int .i64 (j : Int))).run Try.prog w = .ok (.int .u32 ((stL T).getD j 0 : Nat)) w := by
  match j, hj with
  | 0, _ => rfl
  | 1, _ => rfl
  | 2, _ => rfl
  | 3, _ => rfl
  | 4, _ => rfl
  | 5, _ => rfl
  | 6, _ => rfl
  | 7, _ => rfl
def z8 : List Nat := List.replicate 8 0
def z64 : List Nat := List.replicate 64 0
set_option maxHeartbeats 1000000 in
set_option maxRecDepth 100000 in
theorem mix_any (w : World) (C S : Nat) (v : Value) (b : List UInt8) (s : St) (hs : wfS s) (hC : Blk w C cellsK.toArray 37) (hS : Blk w S (Ws (stL s)).toArray 34) (hv : Sees w 1 v 64 (Bs b)) (hSC : S ≠ C) (hSv : S ∉ eyes v) :
    Calls Try.prog 17 #[.pointer (some ⟨C, 0, none⟩), .pointer (some ⟨S, 0, none⟩), v] w fun e w' => e = .returned (.tuple #[]) ∧ Blk w' S (Ws (stL (mix s b 0))).toArray 34 ∧ Chg [S] w w' := by
  have hz64 : ∀ w, (zeroValue 35).run Try.prog w = .ok (.agg (Ws z64).toArray) w := fun _ => by kernel_rfl
  have hz8 : ∀ w, (zeroValue 34).run Try.prog w = .ok (.agg (Ws z8).toArray) w := fun _ => by kernel_rfl
  have l8 : (stL s).length = 8 := rfl
  have W64 := sched_len b 0
  have a64 := arr64 (sched b 0) W64
  have s64 : (Ws z64).toArray.size = (Ws (sched b 0)).toArray.size := by rw [List.size_toArray, Ws_length, List.size_toArray, Ws_length, W64]; rfl
  have o64 := Ws_one (sched b 0)
  have a8 := arr8 (stL s) rfl
  have s8 : (Ws z8).toArray.size = (Ws (stL s)).toArray.size := by rw [List.size_toArray, Ws_length, List.size_toArray, Ws_length]; rfl
  have o8 := Ws_one (stL s)
  have A64 := Lib.hid a64
  have S64 := Lib.hid s64
  have O64 := Lib.hid o64
  have A8 := Lib.hid a8
  have S8 := Lib.hid s8
  have O8 := Lib.hid o8
  clear a64 s64 o64 a8 s8 o8 W64 l8
  have hmix : ∀ T : St, T = rounds s (sched b 0) 64 0 → stL (mix s b 0) = [(s.a + T.a) % m32, (s.b + T.b) % m32, (s.c + T.c) % m32, (s.d + T.d) % m32, (s.e + T.e) % m32, (s.f + T.f) % m32, (s.g + T.g) % m32, (s.h + T.h) % m32] := by
    rintro T rfl; rfl
  have HM := Lib.hid hmix; clear hmix
  go_enter Try.func17, Try.ntmps17
  go_wp2_with fail
  refine (schedule_any w v b hv).mono ?_
  rintro e w1 ⟨rfl, hc1⟩
  have hS1 := hS.chg0 hc1
  have hC1 := hC.chg0 hc1
  have hl1 := hS1.lt
  have HL1 := Lib.hid hl1; clear hl1
  go_upto_region 1 with (with_reducible refine wpList_stA rfl 35 _ _ rfl (Blk.new w1 (Ws z64).toArray 35) A64.out S64.out O64.out rfl rfl ?_; intro w2 hB2 hc2 hs2)
  have hcA : Chg [] w1 (w1.alloc (.cells (Ws z64).toArray 35)) := (Chg.refl [] w1).alloc _
  have hcB : Chg [] w w2 := hc1.trans (hcA.trans hc2 (by simp)) (by simp)
  have hS2 := (hS1.chg0 hcA).chg hc2 (by have := HL1.out; simp; omega)
  have hC2 := (hC1.chg0 hcA).chg hc2 (by have := hC1.lt; simp; omega)
  have hB1l : w.heap.size ≤ w1.heap.size := hc1.size
  have hSl := hS.lt
  have hCl := hC.lt
  have hw2s : w2.heap.size = w1.heap.size + 1 := by rw [hs2]; simp
  generalize w1.heap.size = B1 at *
  have HF := Lib.hid (And.intro hB1l (And.intro hSl (And.intro hCl hw2s)))
  clear hcA hc1 hc2 hs2 hS1 hC1 HL1 hB1l hSl hCl hw2s w1
  go_upto_region 2 with (first
    | (with_reducible refine wpList_ldA rfl 34 _ rfl hS2 A8.out rfl ?_)
    | (with_reducible refine wpList_stA rfl 34 _ _ rfl (Blk.new w2 (Ws z8).toArray 34) A8.out S8.out O8.out rfl rfl ?_; intro w3 hB3 hc3 hs3))
  have hcA : Chg [] w2 (w2.alloc (.cells (Ws z8).toArray 34)) := (Chg.refl [] w2).alloc _
  have hcC : Chg [] w w3 := hcB.trans (hcA.trans hc3 (by simp)) (by simp)
  have hS3 := (hS2.chg0 hcA).chg hc3 (by have := hS2.lt; simp; omega)
  have hC3 := (hC2.chg0 hcA).chg hc3 (by have := hC2.lt; simp; omega)
  have hB13 := (hB2.chg0 hcA).chg hc3 (by have := hB2.lt; simp; omega)
  have hne : B1 ≠ w2.heap.size ∧ S ≠ w2.heap.size ∧ C ≠ w2.heap.size ∧ S ≠ B1 ∧ w.heap.size ≤ w2.heap.size := by have := HF.out; omega
  clear HF
  generalize w2.heap.size = B2 at *
  have HN := Lib.hid hne
  clear hcA hcB hc3 hs3 hS2 hC2 hB2 hne w2 hz64 hz8 A64 S64 O64 A8 S8 O8
  have HW := Lib.hid (sched_lt b 0)
  have HWL := Lib.hid (sched_len b 0)
  generalize sched b 0 = W at *
  have HSW := Lib.hid hs; clear hs
  go_wp2_with fail
  go_loopg [22] 64 (fun k vi wr => ∃ (i : Nat), vi = .int .i64 i ∧ i + k = 64 ∧ Blk wr B2 (Ws (stL (rounds s W i 0))).toArray 34 ∧ Chg [B2] w3 wr)
  case atStart => exact ⟨0, rfl, by omega, hB3, Chg.refl _ _⟩
  case round =>
    clear hB3
    obtain ⟨i, rfl, hik, hb, hcr⟩ := hrel
    by_cases hlt : i < 64
    · have hwf := rounds_wf W s HSW.out i
      have hstep := rounds_snoc W i 0 s
      rw [Nat.zero_add] at hstep
      have hk := K_lt i
      have hwi := HW.out i
      obtain ⟨k, hkk⟩ : ∃ k, K.getD i 0 = k := ⟨_, rfl⟩
      obtain ⟨x, hxx⟩ : ∃ x, W.getD i 0 = x := ⟨_, rfl⟩
      rw [hkk] at hk hstep
      rw [hxx] at hwi hstep
      have HK := Lib.hid hkk; clear hkk
      have HX := Lib.hid hxx; clear hxx
      have kc : wr.cell? ⟨C, 8 + i, none⟩ = some (.int .u32 (k : Nat)) := by
        rw [(hC3.chg hcr (by simpa using HN.out.2.2.1)).cell, cellsK_get i hlt, HK.out]
      have wc : wr.cell? ⟨B1, i, none⟩ = some (.int .u32 (x : Nat)) := by
        rw [(hB13.chg hcr (by simpa using HN.out.1)).cell, List.getElem?_toArray, Ws_get _ _ (by rw [HWL.out]; exact hlt), HX.out]
      generalize rounds s W i 0 = T at *
      obtain ⟨a, b', c, d, e, f, g, h⟩ := T
      obtain ⟨la, lb, lc, ld, le, lf, lg, lh⟩ := hwf
      simp only at la lb lc ld le lf lg lh
      have m0 : wr.cell? ⟨B2, 0, none⟩ = some (.int .u32 (a : Nat)) := by rw [hb.cell]; rfl
      have m1 : wr.cell? ⟨B2, 1, none⟩ = some (.int .u32 (b' : Nat)) := by rw [hb.cell]; rfl
      have m2 : wr.cell? ⟨B2, 2, none⟩ = some (.int .u32 (c : Nat)) := by rw [hb.cell]; rfl
      have m3 : wr.cell? ⟨B2, 3, none⟩ = some (.int .u32 (d : Nat)) := by rw [hb.cell]; rfl
      have m4 : wr.cell? ⟨B2, 4, none⟩ = some (.int .u32 (e : Nat)) := by rw [hb.cell]; rfl
      have m5 : wr.cell? ⟨B2, 5, none⟩ = some (.int .u32 (f : Nat)) := by rw [hb.cell]; rfl
      have m6 : wr.cell? ⟨B2, 6, none⟩ = some (.int .u32 (g : Nat)) := by rw [hb.cell]; rfl
      have m7 : wr.cell? ⟨B2, 7, none⟩ = some (.int .u32 (h : Nat)) := by rw [hb.cell]; rfl
      have t64 : decide ((i : Int) < 64) = true := by simp; omega
      have i64 : (i : Int) < 64 := by omega
      have HIK := Lib.hid hik; clear hik
      have HST := Lib.hid hstep; clear hstep
      go_wp2_with fail
      go_quiet (fail)
      have hb' : Blk (wr.drewN nq) B2 (Ws (stL ⟨a, b', c, d, e, f, g, h⟩)).toArray 34 := hb
      have hcr' := hcr.drewN nq
      have CF := Lib.hid (show (wr.drewN nq).cell? ⟨C, 8 + i, none⟩ = some (.int .u32 (k : Nat)) ∧ (wr.drewN nq).cell? ⟨B1, i, none⟩ = some (.int .u32 (x : Nat)) from ⟨kc, wc⟩)
      clear m0 m1 m2 m3 m4 m5 m6 m7 kc wc hb hcr
      generalize wr.drewN nq = w4 at *
      clear wr
      obtain ⟨p6, b6, e6⟩ : ∃ p, p < 4294967296 ∧ rotr e 6 = p := ⟨_, rotr_lt _ _, rfl⟩
      obtain ⟨p11, b11, e11⟩ : ∃ p, p < 4294967296 ∧ rotr e 11 = p := ⟨_, rotr_lt _ _, rfl⟩
      obtain ⟨p25, b25, e25⟩ : ∃ p, p < 4294967296 ∧ rotr e 25 = p := ⟨_, rotr_lt _ _, rfl⟩
      obtain ⟨p2, b2, e2⟩ : ∃ p, p < 4294967296 ∧ rotr a 2 = p := ⟨_, rotr_lt _ _, rfl⟩
      obtain ⟨p13, b13, e13⟩ : ∃ p, p < 4294967296 ∧ rotr a 13 = p := ⟨_, rotr_lt _ _, rfl⟩
      obtain ⟨p22, b22, e22⟩ : ∃ p, p < 4294967296 ∧ rotr a 22 = p := ⟨_, rotr_lt _ _, rfl⟩
      have HE := Lib.hid (And.intro (And.intro e6 (And.intro e11 e25)) (And.intro e2 (And.intro e13 e22)))
      obtain ⟨y1, by1, hy1, ey1⟩ := x32 p6 p11 b6 b11
      obtain ⟨y2, by2, hy2, ey2⟩ := x32 y1 p25 by1 b25
      obtain ⟨z1, bz1, hz1, ez1⟩ := x32 p2 p13 b2 b13
      obtain ⟨z2, bz2, hz2, ez2⟩ := x32 z1 p22 bz1 b22
      have r6 := rotL w4 e (-6) 6 (by decide) le (by decide) (by decide)
      have r11 := rotL w4 e (-11) 11 (by decide) le (by decide) (by decide)
      have r25 := rotL w4 e (-25) 25 (by decide) le (by decide) (by decide)
      have r2 := rotL w4 a (-2) 2 (by decide) la (by decide) (by decide)
      have r13 := rotL w4 a (-13) 13 (by decide) la (by decide) (by decide)
      have r22 := rotL w4 a (-22) 22 (by decide) la (by decide) (by decide)
      rw [e6] at r6
      rw [e11] at r11
      rw [e25] at r25
      rw [e2] at r2
      rw [e13] at r13
      rw [e22] at r22
      clear e6 e11 e25 e2 e13 e22
      have R6 := Lib.hid r6
      have R11 := Lib.hid r11
      have R25 := Lib.hid r25
      have R2 := Lib.hid r2
      have R13 := Lib.hid r13
      have R22 := Lib.hid r22
      clear r6 r11 r25 r2 r13 r22
      go_wp2_with fail
      refine R6.out.mono ?_
      rintro e' w5 ⟨rfl, rfl⟩
      go_wp2_with fail
      refine R11.out.mono ?_
      rintro e' w5 ⟨rfl, rfl⟩
      go_wp2_with fail
      refine R25.out.mono ?_
      rintro e' w5 ⟨rfl, rfl⟩
      go_wp2_with fail
      refine R2.out.mono ?_
      rintro e' w5 ⟨rfl, rfl⟩
      go_wp2_with fail
      refine R13.out.mono ?_
      rintro e' w5 ⟨rfl, rfl⟩
      go_wp2_with fail
      refine R22.out.mono ?_
      rintro e' w5 ⟨rfl, rfl⟩
      obtain ⟨kc, wc⟩ := CF.out
      have m7 : w4.cell? ⟨B2, 7, none⟩ = some (.int .u32 (h : Nat)) := by rw [hb'.cell]; rfl
      have m5 : w4.cell? ⟨B2, 5, none⟩ = some (.int .u32 (f : Nat)) := by rw [hb'.cell]; rfl
      have m6 : w4.cell? ⟨B2, 6, none⟩ = some (.int .u32 (g : Nat)) := by rw [hb'.cell]; rfl
      obtain ⟨n1, bn1, hn1, en1⟩ : ∃ n : Nat, n < 4294967296 ∧ bits .xor .u32 (if IntKind.u32.signed = true then -1 else IntKind.u32.max) (e : Int) = (n : Int) ∧ Hid (n = 4294967295 - e) := ⟨_, by omega, not32 e le, Lib.hid rfl⟩
      obtain ⟨y3, by3, hy3, ey3⟩ := a32 e f le lf
      obtain ⟨y4, by4, hy4, ey4⟩ := a32 n1 g bn1 lg
      obtain ⟨y5, by5, hy5, ey5⟩ := x32 y3 y4 by3 by4
      go_wp2_with fail
      go_quiet (fail)
      obtain ⟨t, bt, ht, et⟩ : ∃ t : Nat, t < 4294967296 ∧ (((h : Int) + y2 + y5 + k) % 4294967296 + x) % 4294967296 = (t : Int) ∧ Hid (t = (h + y2 + y5 + k + x) % m32) := ⟨(h + y2 + y5 + k + x) % m32, Nat.mod_lt _ (by decide), by simp [m32], Lib.hid rfl⟩
      rw [ht]
      have hb2 : Blk (w4.drewN nq) B2 (Ws (stL ⟨a, b', c, d, e, f, g, h⟩)).toArray 34 := hb'
      have hcr2 := hcr'.drewN nq
      clear ht hn1 hy3 hy4 hy5 m5 m6 m7 kc wc hb' hcr' CF R6 R11 R25 R2 R13 R22 hy1 hy2 hz1 hz2
      generalize w4.drewN nq = w5 at *
      clear w4
      have m1 : w5.cell? ⟨B2, 1, none⟩ = some (.int .u32 (b' : Nat)) := by rw [hb2.cell]; rfl
      have m2 : w5.cell? ⟨B2, 2, none⟩ = some (.int .u32 (c : Nat)) := by rw [hb2.cell]; rfl
      have m3 : w5.cell? ⟨B2, 3, none⟩ = some (.int .u32 (d : Nat)) := by rw [hb2.cell]; rfl
      have m5 : w5.cell? ⟨B2, 5, none⟩ = some (.int .u32 (f : Nat)) := by rw [hb2.cell]; rfl
      have m6 : w5.cell? ⟨B2, 6, none⟩ = some (.int .u32 (g : Nat)) := by rw [hb2.cell]; rfl
      obtain ⟨j1, bj1, hj1, ej1⟩ := a32 a b' la lb
      obtain ⟨j2, bj2, hj2, ej2⟩ := a32 a c la lc
      obtain ⟨j3, bj3, hj3, ej3⟩ := x32 j1 j2 bj1 bj2
      obtain ⟨j4, bj4, hj4, ej4⟩ := a32 b' c lb lc
      obtain ⟨j5, bj5, hj5, ej5⟩ := x32 j3 j4 bj3 bj4
      go_upto_region 10 with (fail)
      obtain ⟨u, bu, hu, eu⟩ : ∃ u : Nat, u < 4294967296 ∧ ((z2 : Int) + j5) % 4294967296 = (u : Int) ∧ Hid (u = (z2 + j5) % m32) := ⟨(z2 + j5) % m32, Nat.mod_lt _ (by decide), by simp [m32], Lib.hid rfl⟩
      rw [hu]
      clear hu hj1 hj2 hj3 hj4 hj5
      obtain ⟨na, bna, hna, ena⟩ : ∃ u' : Nat, u' < 4294967296 ∧ ((t : Int) + u) % 4294967296 = (u' : Int) ∧ Hid (u' = (t + u) % m32) := ⟨(t + u) % m32, Nat.mod_lt _ (by decide), by simp [m32], Lib.hid rfl⟩
      obtain ⟨ne, bne, hne, ene⟩ : ∃ u' : Nat, u' < 4294967296 ∧ ((d : Int) + t) % 4294967296 = (u' : Int) ∧ Hid (u' = (d + t) % m32) := ⟨(d + t) % m32, Nat.mod_lt _ (by decide), by simp [m32], Lib.hid rfl⟩
      have hR : rounds s W (i + 1) 0 = ⟨na, a, b', c, ne, e, f, g⟩ := by
        rw [HST.out]
        unfold round
        simp only
        have q1 : S1 e = y2 := by unfold S1; rw [ey2.out, ey1.out, HE.out.1.1, HE.out.1.2.1, HE.out.1.2.2]
        have q2 : ch e f g = y5 := by unfold ch; rw [ey5.out, ey3.out, ey4.out, en1.out]; rfl
        have q3 : S0 a = z2 := by unfold S0; rw [ez2.out, ez1.out, HE.out.2.1, HE.out.2.2.1, HE.out.2.2.2]
        have q4 : maj a b' c = j5 := by unfold maj; rw [ej5.out, ej3.out, ej1.out, ej2.out, ej4.out]
        rw [q1, q2, q3, q4, ← et.out, ← eu.out, ← ena.out, ← ene.out]
      have HR := Lib.hid hR; clear hR
      go_wp2_with (refine wpList_stA rfl 34 _ _ rfl (cs := (Ws (stL ⟨na, a, b', c, ne, e, f, g⟩)).toArray) hb2 (arr8 _ rfl) rfl (Ws_one _) rfl rfl ?_; intro w6 hb6 hc6 hs6)
      go_roundg (gk - 1)
      case measure => have := HIK.out; omega
      case rel => exact ⟨i + 1, by go_num, by have := HIK.out; omega, by rw [HR.out]; exact hb6, hcr2.tr hc6⟩
    · have hi : i = 64 := by omega
      subst hi
      have hwf := rounds_wf W s HSW.out 64
      have hmm := HM.out (rounds s W 64 0) rfl
      have hS4 := hS3.chg hcr (by simpa using HN.out.2.1)
      generalize rounds s W 64 0 = T at *
      have HMM := Lib.hid hmm
      have HWF := Lib.hid hwf
      clear hmm hwf HM hik
      have hcw : Chg [S] w wr := hcC.trans hcr (by have := HN.out; simp; omega) |>.toS
      have hne2 : S ≠ B2 := HN.out.2.1
      clear hcr hcC hS3 hC3 hB13 HN HW HWL hS hC hv
      rw [← addL_zero s T] at hS4
      obtain ⟨G, hG⟩ : ∃ G, G = gk := ⟨_, rfl⟩
      obtain ⟨wo, hwo⟩ : ∃ wo : World, wo = wr := ⟨_, rfl⟩
      clear hG
      rw [← hwo] at hS4 hb hcw
      subst hwo
      go_wp2_with (with_reducible refine wpList_ldA rfl 34 _ rfl hb (arr8 _ rfl) rfl ?_)
      go_loopg [108] 8 (fun k vi wr => ∃ (j : Nat), vi = .int .i64 j ∧ j + k = 8 ∧ Blk wr S (Ws (addL s T j)).toArray 34 ∧ Chg [S] w wr)
      case atStart => exact ⟨0, rfl, by omega, hS4, hcw⟩
      case round =>
        clear hS4 hcw hb
        obtain ⟨j, rfl, hjk, hS5, hcw⟩ := hrel
        by_cases hj : j < 8
        · have t8 : decide ((j : Int) < 8) = true := by simp; omega
          have i8 : (j : Int) < 8 := by omega
          have hix := idx8 T j hj
          have hst := addL_set s T j hj
          have lx := stL_lt T HWF.out j hj
          have ls := stL_lt s HSW.out j hj
          have x0 : wr.cell? ⟨S, j, none⟩ = some (.int .u32 ((stL s).getD j 0 : Nat)) := by
            rw [hS5.cell, List.getElem?_toArray, Ws_get _ _ (by rw [addL_len]; exact hj), addL_get s T j hj]
          have f0 := hS5.frozen j
          generalize (stL T).getD j 0 = x at *
          generalize (stL s).getD j 0 = y at *
          have hb2 := (hS5.set j (.int .u32 (((y + x) % m32 : Nat) : Int))).drew
          have hc2 := (hcw.setCell (p := ⟨S, j, none⟩) (by simp) (.int .u32 (((y + x) % m32 : Nat) : Int))).drew
          rw [List.setIfInBounds_toArray, Ws_set, hst] at hb2
          have e4 : (((y + x) % m32 : Nat) : Int) = ((y : Int) + x) % 4294967296 := by simp [m32]
          rw [e4] at hb2 hc2
          have HJK := Lib.hid hjk
          clear e4 hst hjk
          go_wp2_with fail
          go_region
          generalize (wr.setCell ⟨S, j, none⟩ (.int .u32 (((y : Int) + x) % 4294967296))).drew = w7 at *
          go_wp2_with fail
          go_roundg (gk - 1)
          case measure => have := HJK.out; omega
          case rel => exact ⟨j + 1, by go_num, by have := HJK.out; omega, hb2, hc2⟩
        · have hj8 : j = 8 := by omega
          subst hj8
          go_wp2_with fail
          go_end0
          refine ⟨rfl, ?_, hcw⟩
          rw [HMM.out, ← addL_all]
          exact hS5
end Go.Proofs.Ytgjmcpmdhilkeaa
