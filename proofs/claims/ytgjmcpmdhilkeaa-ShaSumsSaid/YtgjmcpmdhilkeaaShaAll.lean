/- Contracts of sha.root, sha.all. No statement of the seat is proved here. -/
import Derived.Test.YtgjmcpmdhilkeaaShaRoot
import Derived.StillTailTactics
namespace Go.Aq.Sha
def fC (ps : List Nat) (i : Nat) : Nat := if i < 8 then (if i < ps.length then rootN (ps.getD i 0) false else 0) else (if i - 8 < ps.length then rootN (ps.getD (i - 8) 0) true else 0)
def cellsAt (ps : List Nat) : List Value := (List.range 72).map fun i => .int .u32 (fC ps i)
theorem fC_all : (List.range 72).map (fC primes) = H0 ++ K := by decide +kernel
def cellsK : List Value := (H0 ++ K).map fun (n : Nat) => .int .u32 n
theorem cellsAt_all : cellsAt primes = cellsK := by
  unfold cellsAt cellsK
  rw [← fC_all, List.map_map]
  rfl
theorem set_range (f : Nat → Value) (n j : Nat) (v : Value) : ((List.range n).map f).set j v = (List.range n).map fun i => if i = j then v else f i := by
  apply List.ext_getElem
  · simp
  · intro i h1 h2
    simp only [List.getElem_set, List.getElem_map, List.getElem_range]
    by_cases h : j = i
    · subst h; simp
    · rw [if_neg h, if_neg (by omega)]
theorem cells_step2 (ps : List Nat) (p : Nat) (h : ps.length < 8) :
    ((cellsAt ps).set (8 + ps.length) (.int .u32 (rootN p true : Nat))).set ps.length (.int .u32 (rootN p false : Nat)) = cellsAt (ps ++ [p]) := by
  unfold cellsAt
  rw [set_range, set_range]
  refine List.map_congr_left fun i hi => ?_
  simp only [fC, List.length_append, List.length_cons, List.length_nil, List.getD_eq_getElem?_getD, List.getElem?_append]
  by_cases h8 : i < 8
  · by_cases hl : i < ps.length
    · rw [if_neg (by omega), if_neg (by omega), if_pos h8, if_pos hl, if_pos h8, if_pos (by omega), if_pos hl]
    · by_cases he : i = ps.length
      · subst he; simp [h8]
      · rw [if_neg he, if_neg (by omega), if_pos h8, if_neg hl, if_pos h8, if_neg (by omega)]
  · by_cases hl : i - 8 < ps.length
    · rw [if_neg (by omega), if_neg (by omega), if_neg h8, if_pos hl, if_neg h8, if_pos (by omega), if_pos hl]
    · by_cases he : i = 8 + ps.length
      · subst he; simp [h8]
      · rw [if_neg (by omega), if_neg he, if_neg h8, if_neg hl, if_neg h8, if_neg (by omega)]
theorem cells_step1 (ps : List Nat) (p : Nat) (h : 8 ≤ ps.length) : (cellsAt ps).set (8 + ps.length) (.int .u32 (rootN p true : Nat)) = cellsAt (ps ++ [p]) := by
  unfold cellsAt
  rw [set_range]
  refine List.map_congr_left fun i hi => ?_
  simp only [fC, List.length_append, List.length_cons, List.length_nil, List.getD_eq_getElem?_getD, List.getElem?_append]
  by_cases h8 : i < 8
  · rw [if_neg (by omega), if_pos h8, if_pos (by omega), if_pos h8, if_pos (by omega), if_pos (by omega)]
  · by_cases hl : i - 8 < ps.length
    · rw [if_neg (by omega), if_neg h8, if_pos hl, if_neg h8, if_pos (by omega), if_pos hl]
    · by_cases he : i = 8 + ps.length
      · subst he; simp [h8]
      · rw [if_neg he, if_neg h8, if_neg hl, if_neg h8, if_neg (by omega)]
def primesTo (p : Nat) : List Nat := ((List.range (p - 2)).map (· + 2)).filter prime
theorem primesTo_succ (p : Nat) (h : 2 ≤ p) : primesTo (p + 1) = primesTo p ++ (if prime p then [p] else []) := by
  unfold primesTo
  rw [show p + 1 - 2 = (p - 2) + 1 by omega, List.range_succ, List.map_append, List.filter_append]
  congr 1
  simp only [List.map_cons, List.map_nil, Nat.sub_add_cancel h]
  by_cases hp : prime p = true
  · simp [hp]
  · simp [hp]
theorem primesTo_lt : ∀ p, p < 312 → (primesTo p).length < 64 := by
  have h : ((List.range 312).all fun p => decide ((primesTo p).length < 64)) = true := by decide +kernel
  intro p hp
  have := List.all_eq_true.1 h p (by simpa using hp)
  simpa using this
theorem primesTo_all : primesTo 312 = primes := rfl
end Go.Aq.Sha
namespace Go.Aq
theorem bits_u64 (a b : Nat) (ha : a < 18446744073709551616) (hb : b < 18446744073709551616) : bits .and .u64 a b = ((a &&& b : Nat) : Int) ∧ bits .or .u64 a b = ((a ||| b : Nat) : Int) ∧ bits .xor .u64 a b = ((a ^^^ b : Nat) : Int) :=
  bits_nat_full .u64 (fun n h => by rw [IntKind.wrap_u64]; simp only [IntKind.bits] at h; omega) a b ha hb
end Go.Aq
namespace Go.Proofs.Ytgjmcpmdhilkeaa
open Go.RowKit Go.Aq Go.Aq.Sha
theorem above_any (w : World) (x p : Nat) (cube : Bool) (hx : x < 137438953472) (hp : p ≤ 400) :
    Calls Try.prog 34 #[.int .u64 x, .int .i64 p, .bool cube] w fun e w' => e = .returned (.bool (aboveN x p cube)) ∧ w = w' := by
  cases cube
  · exact above_sq_any w x p hx hp
  · exact above_cu_any w x p hx hp

set_option maxHeartbeats 400000 in
theorem root_any (w : World) (p : Nat) (cube : Bool) (hp : p ≤ 400) :
    Calls Try.prog 26 #[.int .i64 p, .bool cube] w fun e w' => e = .returned (.int .u32 (rootN p cube : Nat)) ∧ w = w' := by
  obtain ⟨R, hR⟩ : ∃ R, rootF p cube 37 0 = R := ⟨_, rfl⟩
  have hN : rootN p cube = R % 4294967296 := by unfold rootN; rw [hR]
  rw [hN]
  clear hN
  have HR := Lib.hid hR; clear hR
  go_enter Try.func26, Try.ntmps26
  go_wp2
  go_loopg [5, 6, 7] 37 (fun n vx vb _ wr => ∃ (x : Nat) (b : Int), vx = .int .u64 x ∧ vb = .int .i64 b ∧ b = (n : Int) - 1 ∧ n ≤ 37 ∧ x < 137438953472 ∧ rootF p cube n x = R ∧ wr = w)
  case atStart => exact ⟨0, 36, rfl, rfl, by omega, by omega, by omega, HR.out, rfl⟩
  case round =>
    obtain ⟨x, b, rfl, rfl, hvb, hn, hx, hF, rfl⟩ := hrel
    by_cases h0 : gk = 0
    · have hb1 : b = -1 := by omega
      have hxR : x = R := by rw [h0] at hF; exact hF
      subst hb1 hxR
      clear hF hvb h0 HR
      go_wp2
      go_ret
      exact ⟨ret_int (by omega), rfl⟩
    · obtain ⟨k, hk⟩ : ∃ k, gk = k + 1 := ⟨gk - 1, by omega⟩
      have hbk : b = (k : Int) := by omega
      rw [hk] at hF
      simp only [rootF] at hF
      have hk36 : k ≤ 36 := by omega
      subst hbk
      have HK := Lib.hid hk; clear hk hvb h0 hn
      have h2 : (2 : Nat) ^ k < 137438953472 := by
        have : (2 : Nat) ^ k ≤ 2 ^ 36 := Nat.pow_le_pow_right (by decide) (by omega)
        have h36 : (2 : Nat) ^ 36 = 68719476736 := by decide
        omega
      have hor : bits .or .u64 (x : Int) (IntKind.u64.wrap (2 ^ k)) = ((x ||| 2 ^ k : Nat) : Int) := by
        have h1 : IntKind.u64.wrap (2 ^ k) = ((2 ^ k : Nat) : Int) := by
          have : (2 : Int) ^ k = ((2 ^ k : Nat) : Int) := by simp
          rw [this, IntKind.wrap_u64]
          exact Int.emod_eq_of_lt (Int.natCast_nonneg _) (by omega)
        rw [h1]
        exact (bits_u64 x (2 ^ k) (by omega) (by omega)).2.1
      have hYlt : x ||| 2 ^ k < 137438953472 := by
        have h37 : (137438953472 : Nat) = 2 ^ 37 := by decide
        rw [h37] at hx h2 ⊢
        exact Nat.or_lt_two_pow hx h2
      obtain ⟨Y, hY⟩ : ∃ Y, x ||| 2 ^ k = Y := ⟨_, rfl⟩
      rw [hY] at hF hor hYlt
      have HE := Lib.hid hF; clear hF
      clear hY h2
      have s1 : decide ((64 : Int) ≤ (k : Int)) = false := by simp; omega
      by_cases hab : aboveN Y p cube = true
      · have e := HE.out
        rw [if_pos hab] at e
        have HE2 := Lib.hid e; clear e HE
        go_wp2_with fail
        refine (above_any _ Y p cube hYlt hp).mono ?_
        rintro e w1 ⟨rfl, rfl⟩
        rw [hab]
        go_wp2_with fail
        go_roundg k
        case measure => have := HK.out; omega
        case rel => exact ⟨x, _, rfl, rfl, by omega, by omega, hx, HE2.out, rfl⟩
      · have hab' : aboveN Y p cube = false := by simpa using hab
        clear hab
        have e := HE.out
        rw [if_neg (by rw [hab']; decide)] at e
        have HE2 := Lib.hid e; clear e HE
        go_wp2_with fail
        refine (above_any _ Y p cube hYlt hp).mono ?_
        rintro e w1 ⟨rfl, rfl⟩
        rw [hab']
        go_wp2_with fail
        go_roundg k
        case measure => have := HK.out; omega
        case rel => exact ⟨Y, _, rfl, rfl, by omega, by omega, hYlt, HE2.out, rfl⟩

set_option maxHeartbeats 400000 in
theorem all_any (w : World) :
    Calls Try.prog 15 #[] w fun e w' => ∃ B, e = .returned (.pointer (some ⟨B, 0, none⟩)) ∧ Blk w' B cellsK.toArray 37 ∧ Chg [] w w' ∧ w.heap.size ≤ B := by
  have hz : ∀ w, (zeroValue 37).run Try.prog w = .ok (.agg (cellsAt []).toArray) w := fun _ => by kernel_rfl
  go_enter Try.func15, Try.ntmps15
  go_upto_region 2 with (fail)
  clear hz
  have hB := Blk.new w (cellsAt []).toArray 37
  have hc := (Chg.refl [] w).alloc (.cells (cellsAt []).toArray 37)
  have hBl : w.heap.size ≤ w.heap.size := Nat.le_refl _
  generalize w.alloc (.cells (cellsAt []).toArray 37) = w1 at *
  obtain ⟨B, hBe⟩ : ∃ B, B = w.heap.size := ⟨_, rfl⟩
  rw [← hBe] at hB ⊢
  rw [← hBe] at hBl
  have HBE := Lib.hid hBe; clear hBe hBl
  go_wp2
  go_loopg [2, 3] 310 (fun k vn vp wr => ∃ (p n : Nat), vn = .int .i64 n ∧ vp = .int .i64 p ∧ n = (primesTo p).length ∧ 2 ≤ p ∧ p + k = 312 ∧ Blk wr B (cellsAt (primesTo p)).toArray 37 ∧ Chg [] w wr)
  case atStart => exact ⟨2, 0, rfl, rfl, rfl, by omega, by omega, hB, hc⟩
  case round =>
    clear hB hc
    obtain ⟨p, n, rfl, rfl, hn, hp2, hpk, hB, hc⟩ := hrel
    have HN := Lib.hid hn; clear hn
    by_cases hlt : p < 312
    · have hn64 : n < 64 := by have := HN.out; have := primesTo_lt p hlt; omega
      have HPK := Lib.hid hpk; clear hpk
      have t1 : decide ((n : Int) < 64) = true := by simp; omega
      by_cases hpr : prime p = true
      · go_wp2_with fail
        refine (prime_any _ p hp2 (by omega)).mono ?_
        rintro e w2 ⟨rfl, rfl⟩
        rw [hpr]
        go_wp2_with fail
        have x0 : wr.cell? ⟨B, 8 + n, none⟩ = some (.int .u32 (fC (primesTo p) (8 + n) : Nat)) := by
          rw [hB.cell]; simp [cellsAt, show 8 + n < 72 by omega]
        have x1 := hB.frozen (8 + n)
        have i64 : (n : Int) < 64 := by omega
        refine wp_region_still_tail 7 (by kernel_rfl) (by kernel_rfl) ?_
        simp only [List.take_succ_cons, List.take_zero, List.drop_succ_cons, List.drop_zero]
        repeat still_step
        still_call ((root_any _ p true (by omega)).mono fun e w' ⟨h1, h2⟩ => ⟨h1, h2.symm⟩)
        repeat still_step
        refine wpStill_nil ?_
        change wpList _ _ _ _ _ wr.drew
        go_upto_region 8 with (fail)
        have hB2 := (hB.set (8 + n) (.int .u32 (rootN p true : Nat))).drew
        have hc2 := (hc.setCell (p := ⟨B, 8 + n, none⟩) (by right; have := HBE.out; simp; omega) (.int .u32 (rootN p true : Nat))).drew
        generalize (wr.setCell ⟨B, 8 + n, none⟩ (.int .u32 (rootN p true : Nat))).drew = w2 at *
        rw [List.setIfInBounds_toArray] at hB2
        have hpe : primesTo (p + 1) = primesTo p ++ [p] := by have e := primesTo_succ p hp2; rw [hpr] at e; exact e
        have hlen : (primesTo (p + 1)).length = n + 1 := by rw [hpe, List.length_append, ← HN.out]; rfl
        have HL := Lib.hid hlen
        have HPE := Lib.hid hpe
        clear hlen hpe x0 x1 i64 hB hc t1
        by_cases h8 : n < 8
        · have t8 : decide ((n : Int) < 8) = true := by simp; omega
          have i8 : (n : Int) < 8 := by omega
          have y0 : ∃ u, w2.cell? ⟨B, n, none⟩ = some u := by
            rw [hB2.cell]
            exact ⟨_, List.getElem?_toArray ▸ List.getElem?_eq_getElem (by simp [cellsAt]; omega)⟩
          obtain ⟨u, y0⟩ := y0
          have y1 := hB2.frozen n
          go_upto_region 9 with (fail)
          refine wp_region_still_tail 7 (by kernel_rfl) (by kernel_rfl) ?_
          simp only [List.take_succ_cons, List.take_zero, List.drop_succ_cons, List.drop_zero]
          repeat still_step
          still_call ((root_any _ p false (by omega)).mono fun e w' ⟨h1, h2⟩ => ⟨h1, h2.symm⟩)
          repeat still_step
          refine wpStill_nil ?_
          change wpList _ _ _ _ _ w2.drew
          go_wp2_with fail
          go_roundg (gk - 1)
          case measure => have := HPK.out; omega
          case rel =>
            have hB3 := (hB2.set n (.int .u32 (rootN p false : Nat))).drew
            have hc3 := (hc2.setCell (p := ⟨B, n, none⟩) (by right; have := HBE.out; simp; omega) (.int .u32 (rootN p false : Nat))).drew
            rw [List.setIfInBounds_toArray] at hB3
            refine ⟨p + 1, n + 1, by go_num, by go_num, HL.out.symm, by omega, by have := HPK.out; omega, ?_, hc3⟩
            have e := cells_step2 (primesTo p) p (by rw [← HN.out]; exact h8)
            rw [← HN.out, ← HPE.out] at e
            rw [← e]
            exact hB3
        · have t8 : decide ((n : Int) < 8) = false := by simp; omega
          go_wp2_with fail
          go_roundg (gk - 1)
          case measure => have := HPK.out; omega
          case rel =>
            refine ⟨p + 1, n + 1, by go_num, by go_num, HL.out.symm, by omega, by have := HPK.out; omega, ?_, hc2⟩
            have e := cells_step1 (primesTo p) p (by rw [← HN.out]; omega)
            rw [← HN.out, ← HPE.out] at e
            rw [← e]
            exact hB2
      · have hpr' : prime p = false := by simpa using hpr
        clear hpr
        go_wp2_with fail
        refine (prime_any _ p hp2 (by omega)).mono ?_
        rintro e w2 ⟨rfl, rfl⟩
        rw [hpr']
        go_wp2_with fail
        go_roundg (gk - 1)
        case measure => have := HPK.out; omega
        case rel =>
          have e := primesTo_succ p hp2
          rw [hpr'] at e
          simp only [Bool.false_eq_true, if_false, List.append_nil] at e
          exact ⟨p + 1, n, rfl, by go_num, by rw [e]; exact HN.out, by omega, by have := HPK.out; omega, by rw [e]; exact hB, hc⟩
    · have hp : p = 312 := by omega
      subst hp
      have hn64 : n = 64 := by rw [HN.out, primesTo_all, primes_len]
      subst hn64
      clear HN
      rw [primesTo_all, cellsAt_all] at hB
      go_wp2
      go_ret
      exact ⟨B, rfl, hB, hc, by have := HBE.out; omega⟩
end Go.Proofs.Ytgjmcpmdhilkeaa
