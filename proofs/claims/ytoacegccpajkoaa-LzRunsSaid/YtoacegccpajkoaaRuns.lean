/- LzRuns: one byte again and again: the law's function returns true at all arguments. -/
import Derived.Test.YtoacegccpajkoaaLaw6
import Derived.Test.YtoacegccpajkoaaRunsPlain
import Derived.Test.YtoacegccpajkoaaOpen
namespace Go.Proofs.Ytoacegccpajkoaa
open Go.RowKit Go.Aq

theorem runs_out (c : Int) (n : Int) (w : World) (h : n < 4 ∨ 20000 < n) :
    Calls Try.prog 9 #[.int .u8 c, .int .i64 n] w fun e w' => e = .returned (.bool true) ∧ Chg [] w w' := by
  go_enter Try.func9, Try.ntmps9
  go_wp2_with fail
  refine (first6 _).mono ?_
  rintro e w0 ⟨rfl, c0⟩
  by_cases h4 : n < 4
  · have t1 : decide (n < 4) = true := by simp; omega
    go_wp2_with fail
    refine (first6 _).mono ?_
    rintro e w1 ⟨rfl, c1⟩
    go_wp2_with fail
    go_ret
    exact ⟨rfl, c0.nil c1⟩
  · have t1 : decide (n < 4) = false := by simp; omega
    have t2 : decide (20000 < n) = true := by simp; omega
    go_wp2_with fail
    refine (first6 _).mono ?_
    rintro e w1 ⟨rfl, c1⟩
    go_wp2_with fail
    go_ret
    exact ⟨rfl, c0.nil c1⟩

set_option maxRecDepth 100000 in
set_option maxHeartbeats 2000000 in
theorem runs_in (c : UInt8) (n : Nat) (w : World) (h4 : 4 ≤ n) (h2 : n ≤ 20000) :
    Calls Try.prog 9 #[.int .u8 c.toNat, .int .i64 n] w fun e w' => e = .returned (.bool true) ∧ Chg [] w w' := by
  have t1 : decide ((n : Int) < 4) = false := by simp; omega
  have t2 : decide (20000 < (n : Int)) = false := by simp; omega
  have hcc : (c.toNat : Int) ≤ 255 := by have := c.toNat_lt; omega
  go_enter Try.func9, Try.ntmps9
  go_wp2_with fail
  refine (first6 _).mono ?_
  rintro e w0 ⟨rfl, c0⟩
  go_wp2_with (at_make; refine wpList_mk rfl _ _ 31 rfl sl_u8' rfl .i64 .i64 n rfl rfl (by omega) (by omega) (by omega) (by omega) ?_; intro w1 ho1 hc1 hs1)
  obtain ⟨g, hg⟩ : ∃ g, w0.heap.size = g := ⟨_, rfl⟩
  rw [hg] at ho1 hs1
  rw [hg]
  have hgw : w.heap.size ≤ g := by have := c0.size; omega
  clear hg
  have C1 : Chg [] w w1 := c0.nil hc1
  clear hc1 c0
  go_loopg [6] n (fun k i wr => ∃ (j : Nat) (xs : List Value), j + k = n ∧ i = .int .i64 j ∧ Own wr 5 1 (.slice (some ⟨g, 0, none⟩) n n) n xs ∧ (∀ m, m < j → xs[m]? = some (.int .u8 c.toNat)) ∧ Chg [] w wr)
  case atStart => exact ⟨0, _, by omega, rfl, ho1, by simp, C1⟩
  case round =>
    obtain ⟨j, xs, hj, rfl, ho, hxs, hC⟩ := hrel
    have HJ := Lib.hid hj; clear hj
    have hjn : j ≤ n := by have := HJ.out; omega
    by_cases hlt : j < n
    · have t3 : decide ((j : Int) < (n : Int)) = true := by simp; omega
      have t3' : decide (j < n) = true := by simp; omega
      have hl : xs.length = n := by have := ho.len; omega
      obtain ⟨u, hce⟩ : ∃ u, wr.cell? ⟨g, j, none⟩ = some u := ⟨xs[j]'(by omega), by rw [ho.cellAt j (by omega), List.getElem?_eq_getElem]⟩
      have hfr := ho.frozenAt j
      have HX := Lib.hid hxs; clear hxs
      have HL := Lib.hid hl; clear hl
      go_wp2_with fail
      go_roundg (gk - 1)
      case measure => have := HJ.out; omega
      case rel =>
        refine ⟨j + 1, _, by have := HJ.out; omega, by go_num, ho.set j _, ?_, hC.setCell (.inr hgw) _⟩
        intro m hm
        rw [List.getElem?_set]
        split
        · rename_i h
          subst h
          rw [if_pos (by rw [HL.out]; exact hlt)]
        · exact HX.out m (by omega)
    · have t3 : decide ((j : Int) < (n : Int)) = false := by simp; omega
      have t3' : decide (j < n) = false := by simp; omega
      obtain rfl : n = j := by omega
      have hx : xs = Bs (List.replicate n c) := by
        have hl : xs.length = n := by have := ho.len; omega
        apply List.ext_getElem?
        intro m
        by_cases hm : m < n
        · rw [hxs m hm]
          simp [Bs, Bc, hm]
        · rw [List.getElem?_eq_none (by omega), List.getElem?_eq_none (by simp [Bs]; omega)]
      subst hx
      clear hxs HJ
      go_wp2_with fail
      refine (find_any _ _ (List.replicate n c) (by rw [List.length_replicate]; exact ho.sees) (by rw [List.length_replicate]; omega)).mono ?_
      rintro e w2 ⟨v', rfl, ho2, hc2, hf2⟩
      have C2 : Chg [] w w2 := hC.nil hc2
      obtain ⟨l, hl⟩ : ∃ l, l = toks (List.replicate n c) := ⟨_, rfl⟩
      rw [← hl] at ho2
      have hd0 : l.drop 0 = tokF (List.replicate n c) n 0 := by rw [hl]; unfold toks; simp
      obtain ⟨x, hx⟩ : ∃ x, tokF (List.replicate n c) n 0 = ⟨0, 0, c.toNat⟩ :: x ∧ x = tokF (List.replicate n c) (n - 1) 1 := by
        obtain ⟨m, rfl⟩ : ∃ m, n = m + 1 := ⟨n - 1, by omega⟩
        refine ⟨_, ?_, rfl⟩
        show (if 0 < (List.replicate (m + 1) c).length then _ else _) = _
        rw [if_pos (by simp), if_pos (by rw [match_rep0 _ _ _ (.inl rfl)]), rep_getD _ _ _ (by omega)]
        rfl
      have hd1 : l.drop 1 = tokF (List.replicate n c) (n - 1) 1 := by rw [← hx.2, ← List.tail_drop, hd0, hx.1]; rfl
      have hl2 : 2 ≤ l.length := by
        rcases Nat.lt_or_ge l.length 2 with h | h
        · have e0 : l.drop 1 = [] := List.drop_eq_nil_of_le (by omega)
          rw [hd1] at e0
          have := tokF_nil e0 (by simp; omega)
          simp at this; omega
        · exact h
      have hln : l.length ≤ n := by rw [hl]; unfold toks; have := tokF_length (List.replicate n c) (List.replicate n c).length 0; simpa using this
      have hl0 : l[0]'(by omega) = ⟨0, 0, c.toNat⟩ := by
        have : l = ⟨0, 0, c.toNat⟩ :: x := by rw [← hx.1, ← hd0]; rfl
        simp [this]
      obtain ⟨g2, cap, rfl, hcap⟩ := ho2.pos (by omega)
      have hca := Own.cellAt ho2
      have hat := fun j hj => (congrArg (w2.cell? ⟨g2, ·, none⟩) (Nat.zero_add j)).trans (hca j hj)
      have HT := Lib.hid (fun i hi => toks_at (off := 0) rfl hat i hi)
      obtain ⟨x0, x1, x2⟩ := toks_at (off := 0) rfl hat 0 (by omega)
      rw [hl0] at x0 x1 x2
      clear hca hat
      have HD := Lib.hid hd1
      clear hd0 hx hl0 hd1
      have HLl := Lib.hid hl; clear hl
      obtain ⟨nl, HN⟩ : ∃ nl, Hid (l.length = nl) := ⟨_, rfl⟩
      rw [HN.out] at hcap hl2 hln ho2
      rw [HN.out]
      simp only [Nat.zero_mul, Nat.zero_add] at x0 x1 x2
      have t5 : decide ((nl : Int) < 2) = false := by simp; omega
      have t6 : decide (nl < 2) = false := by simp; omega
      go_wp2_with fail
      clear x0 x1 x2 t5 t6
      go_loopg [9, 10] (nl - 1) (fun kk vl vi wr => ∃ (i k f left : Nat), i + kk = nl ∧ 1 ≤ i ∧ vi = .int .i64 i ∧ vl = .int .i64 left ∧ k + left = n ∧ 1 ≤ k ∧ n ≤ k + f ∧ l.drop i = tokF (List.replicate n c) f k ∧ wr = w2)
      case atStart => exact ⟨1, 1, n - 1, n - 1, by omega, by omega, rfl, by go_num, by omega, by omega, by omega, HD.out, rfl⟩
      case round =>
        obtain ⟨i, k, f, left, hi, hi1, rfl, rfl, hk, hk1, hkf, hdr, rfl⟩ := hrel
        have HI := Lib.hid hi; clear hi
        have hinl : i ≤ nl := by have := HI.out; omega
        by_cases hlt2 : i < nl
        · have s1 : decide ((i : Int) < (nl : Int)) = true := by simp; omega
          have s1' : decide (i < nl) = true := by simp; omega
          obtain ⟨f', rfl, hkn, hst⟩ := tokF_step hdr (by rw [HN.out]; exact hlt2)
          rw [List.length_replicate] at hkn
          obtain ⟨y0, y1, y2⟩ := HT.out i (by rw [HN.out]; exact hlt2)
          simp only [Nat.zero_add] at y0 y1 y2
          clear hdr
          by_cases h3 : left < 3
          · rw [match_rep0 n c k (by omega)] at hst
            rcases hst with ⟨-, hli, hd'⟩ | ⟨h, -, -⟩
            · rw [hli, rep_getD n c k (by omega)] at y2
              rw [hli] at y0 y1
              have HD' := Lib.hid hd'
              clear hd' hli
              have hmin : min (left : Int) 258 = left := by omega
              have s3 : decide ((left : Int) < 3) = true := by simp; omega
              go_wp2_with fail
              go_roundg (gk - 1)
              case measure => have := HI.out; omega
              case rel => exact ⟨i + 1, k + 1, f', left - 1, by have := HI.out; omega, by omega, by go_num, by go_num, by omega, by omega, by omega, HD'.out, rfl⟩
            · exact absurd rfl h
          · rw [match_rep n c k (by omega) (by omega)] at hst
            rcases hst with ⟨h, -, -⟩ | ⟨-, hli, hd'⟩
            · simp only at h; omega
            · rw [hli] at y0 y1 y2
              have HD' := Lib.hid hd'
              clear hd' hli
              obtain ⟨m, hm⟩ : ∃ m, min 258 (n - k) = m := ⟨_, rfl⟩
              simp only [hm] at y0 y1 y2 HD'
              have hm2 : m = 258 ∧ 258 < left ∨ m = left ∧ left ≤ 258 := by omega
              clear hm
              rcases hm2 with ⟨rfl, hm3⟩ | ⟨rfl, hm3⟩
              · have hmin : min (left : Int) 258 = 258 := by omega
                go_wp2_with fail
                go_roundg (gk - 1)
                case measure => have := HI.out; omega
                case rel => exact ⟨i + 1, k + 258, f', left - 258, by have := HI.out; omega, by omega, by go_num, by go_num, by omega, by omega, by omega, HD'.out, rfl⟩
              · have hmin : min (m : Int) 258 = m := by omega
                go_wp2_with fail
                go_roundg (gk - 1)
                case measure => have := HI.out; omega
                case rel => exact ⟨i + 1, k + m, f', 0, by have := HI.out; omega, by omega, by go_num, by go_num, by omega, by omega, by omega, HD'.out, rfl⟩
        · have s1 : decide ((i : Int) < (nl : Int)) = false := by simp; omega
          have s1' : decide (i < nl) = false := by simp; omega
          have hnil : tokF (List.replicate n c) f k = [] := by rw [← hdr]; exact List.drop_eq_nil_of_le (by rw [HN.out]; omega)
          have hkn := tokF_nil hnil (by rw [List.length_replicate]; exact hkf)
          rw [List.length_replicate] at hkn
          obtain rfl : left = 0 := by omega
          clear hdr hnil
          go_wp2_with fail
          refine (first6 _).mono ?_
          rintro e w3 ⟨rfl, c3⟩
          go_wp2_with fail
          go_ret
          exact ⟨rfl, C2.nil c3⟩

theorem runsTop (c : Int) (_ : 0 ≤ c ∧ c ≤ 255) (n : Int) (_ : -9223372036854775808 ≤ n ∧ n ≤ 9223372036854775807) {w : World} :
    Calls Try.prog 9 #[.int .u8 c, .int .i64 n] w fun e w' => e = .returned (.bool true) ∧ Chg [] w w' := by
  by_cases h : 4 ≤ n ∧ n ≤ 20000
  · obtain ⟨m, rfl⟩ := Int.eq_ofNat_of_zero_le (by omega : 0 ≤ n)
    obtain ⟨a, rfl⟩ : ∃ a : UInt8, c = (a.toNat : Int) := by
      refine ⟨UInt8.ofNat c.toNat, ?_⟩
      simp
      omega
    exact runs_in a m w (by omega) (by omega)
  · exact runs_out c n w (by omega)
end Go.Proofs.Ytoacegccpajkoaa
