/- BitsEnds: all bits of some bytes can be got, and no more; aligned it stands at a whole byte: the law's function returns true at all arguments. -/
import Derived.Test.YtoacegccpajkoaaLaw4
import Derived.Test.YtoacegccpajkoaaRead
import Derived.Test.YtoacegccpajkoaaOpen
namespace Go.Proofs.Ytoacegccpajkoaa
open Go.RowKit Go.Aq

set_option maxRecDepth 100000 in
set_option maxHeartbeats 2000000 in
theorem ends_in (vb : Value) (bs : List UInt8) (s : Nat) (w : World) (hb : Sees w 1 vb bs.length (Bs bs)) (h1000 : bs.length ≤ 1000) (hs1 : 1 ≤ s) (hs2 : s ≤ 24) :
    Calls Try.prog 7 #[vb, .int .i64 s] w fun e w' => e = .returned (.bool true) ∧ Chg [] w w' := by
  obtain ⟨nb, HB⟩ : ∃ n, Hid (bs.length = n) := ⟨_, rfl⟩
  have hb9 : bs.length ≤ 1000 := h1000
  rw [HB.out] at hb h1000
  obtain ⟨aob, capb, rfl, hcapb, hnob⟩ := hb.shape
  have HNOb := Lib.hid hnob; clear hnob
  obtain ⟨q, hq⟩ : ∃ q, 8 * nb / s = q := ⟨_, rfl⟩
  have hq1 : s * q ≤ 8 * nb := by rw [← hq]; exact Nat.mul_div_le _ _
  have hq2 : 8 * nb < s * q + s := by rw [← hq]; have := Nat.lt_mul_div_succ (8 * nb) (by omega : 0 < s); rw [Nat.mul_add] at this; omega
  have hq3 : q ≤ 8000 := by have := Nat.le_mul_of_pos_left q (by omega : 0 < s); omega
  have hqi : (8 * (nb : Int)) / (s : Int) = (q : Int) := by rw [← hq]; simp
  have HQ := Lib.hid hqi; clear hqi hq
  go_enter Try.func7, Try.ntmps7
  go_wp2_with fail
  refine (first4 _).mono ?_
  rintro e w0 ⟨rfl, c0⟩
  go_wp2_with fail
  refine (newReader_any _ _ bs (by rw [HB.out]; exact hb.chg0 c0) (by omega)).mono ?_
  rintro e w2 ⟨a, Sa, rfl, ha, c2, la⟩
  go_wp2_with fail
  rw [HQ.out]
  have C2 := c0.nil c2
  have hSa : ∀ k ∈ Sa, w.heap.size ≤ k := fun k hk => by have := la k hk; have := c0.size; omega
  go_loopg [7] q (fun k i wr => ∃ j P, j + k = q ∧ i = .int .i64 j ∧ P = s * j ∧ Rd wr Sa a bs P ∧ Chg [] w wr)
  case atStart => exact ⟨0, 0, by omega, rfl, rfl, ha, C2⟩
  case round =>
    obtain ⟨j, P, hj, rfl, hP, hA, hC⟩ := hrel
    have HJ := Lib.hid hj; clear hj
    have HP := Lib.hid hP; clear hP
    have hjq : j ≤ q := by have := HJ.out; omega
    by_cases hlt : j < q
    · have hm : s * (j + 1) ≤ s * q := Nat.mul_le_mul_left _ (by omega)
      have hm' : s * (j + 1) = P + s := by have := HP.out; rw [Nat.mul_add]; omega
      have hPn : P + s ≤ 8 * nb := by omega
      have hw : IntKind.i64.wrap ((s : Int) * ((j : Int) + 1)) = (P : Int) + (s : Int) := by
        have e : ((s : Int) * ((j : Int) + 1)) = ((s * (j + 1) : Nat) : Int) := by simp
        rw [e, hm', IntKind.wrap_i64]; omega
      clear hm hm'
      go_wp2_with fail
      refine (get_right _ Sa a bs P s (by omega) hA hs2 (by rw [HB.out]; exact hPn)).mono ?_
      rintro e w3 ⟨rfl, hA3, u3⟩
      go_wp2_with fail
      refine (at_any _ Sa a bs _ hA3).mono ?_
      rintro e w4 ⟨rfl, rfl⟩
      go_wp2_with fail
      refine (left_any _ Sa a bs _ (by omega) (by rw [HB.out]; exact hPn) hA3).mono ?_
      rintro e w5 ⟨rfl, z, rfl⟩
      rw [HB.out]
      go_wp2_with fail
      go_roundg (gk - 1)
      case measure => have := HJ.out; omega
      case rel => exact ⟨j + 1, P + s, by have := HJ.out; omega, by go_num, by have := HP.out; rw [Nat.mul_add]; omega, hA3.drewN z, (hC.trans u3.chg fun i hi => .inr (hSa i hi)).drewN z⟩
    · obtain rfl : j = q := by omega
      have hPq : P ≤ 8 * nb := by rw [HP.out]; exact hq1
      have hPs : 8 * (nb : Int) - P < s := by have := HP.out; omega
      have hw : IntKind.i64.wrap ((j : Int) * (s : Int)) = (P : Int) := by
        have e : ((j : Int) * (s : Int)) = ((s * j : Nat) : Int) := by rw [Nat.mul_comm]; simp
        rw [e, ← HP.out, IntKind.wrap_i64]; omega
      clear hq1 hq2
      go_wp2_with fail
      refine (get_short _ Sa a bs P s (by omega) (by rw [HB.out]; exact hPq) hA (by omega) (by omega) (by rw [HB.out]; exact hPs)).mono ?_
      rintro e w3 ⟨rfl, z, rfl⟩
      go_wp2_with fail
      refine (at_any _ Sa a bs P (hA.drewN z)).mono ?_
      rintro e w4 ⟨rfl, rfl⟩
      go_wp2_with fail
      refine (ralign_any _ Sa a bs P (by omega) (hA.drewN z)).mono ?_
      rintro e w5 ⟨rfl, hA5, u5⟩
      have C5 := (hC.drewN z).trans u5.chg fun i hi => .inr (hSa i hi)
      go_wp2_with fail
      refine (first4 _).mono ?_
      rintro e w6 ⟨rfl, c6⟩
      have hA6 := hA5.chg c6 (fun _ _ => by simp)
      have C6 := C5.nil c6
      clear hA5 C5 c6 u5 hA hC
      obtain ⟨R, hR⟩ : ∃ R, 8 * ((P + 7) / 8) = R := ⟨_, rfl⟩
      rw [hR] at hA6
      have r0 : ((R : Int) % 8 == 0) = true := by simp; omega
      have r1 : (P : Int) ≤ R := by omega
      have r2 : (R : Int) < P + 8 := by omega
      clear hR
      go_wp2_with fail
      refine (at_any _ Sa a bs R hA6).mono ?_
      rintro e w7 ⟨rfl, rfl⟩
      go_wp2_with fail
      refine (at_any _ Sa a bs R hA6).mono ?_
      rintro e w7 ⟨rfl, rfl⟩
      go_wp2_with fail
      refine (at_any _ Sa a bs R hA6).mono ?_
      rintro e w7 ⟨rfl, rfl⟩
      go_wp2_with fail
      go_ret
      exact ⟨rfl, C6⟩

set_option maxRecDepth 100000 in
set_option maxHeartbeats 400000 in
theorem ends_out (vb : Value) (nb : Nat) (bs : List Value) (s : Int) (w : World) (hb : Sees w 1 vb nb bs) (h : 1000 < nb ∨ (nb ≤ 1000 ∧ s < 1) ∨ (nb ≤ 1000 ∧ 24 < s)) :
    Calls Try.prog 7 #[vb, .int .i64 s] w fun e w' => e = .returned (.bool true) ∧ Chg [] w w' := by
  obtain ⟨aob, capb, rfl, hcapb, hnob⟩ := hb.shape
  have HNOb := Lib.hid hnob; clear hnob
  rcases h with h | ⟨h1, h⟩ | ⟨h1, h⟩
  all_goals
    go_enter Try.func7, Try.ntmps7
    go_wp2_with fail
    refine (first4 _).mono ?_
    rintro e w0 ⟨rfl, c0⟩
    go_wp2_with fail
    refine (first4 _).mono ?_
    rintro e w1 ⟨rfl, c1⟩
    go_wp2_with fail
    go_ret
    exact ⟨rfl, c0.nil c1⟩

theorem endsTop (vb : Value) (nb : Nat) (bs : List UInt8) {w : World} (hb : Sees w 1 vb nb (Bs bs) ∧ nb ≤ 9223372036854775807) (s : Int) (_ : -9223372036854775808 ≤ s ∧ s ≤ 9223372036854775807) :
    Calls Try.prog 7 #[vb, .int .i64 s] w fun e w' => e = .returned (.bool true) ∧ Chg [] w w' := by
  have hl : nb = bs.length := by have := hb.1.len; simp [Bs] at this; omega
  subst hl
  by_cases h : bs.length ≤ 1000 ∧ 1 ≤ s ∧ s ≤ 24
  · obtain ⟨h1, h2, h3⟩ := h
    obtain ⟨k, rfl⟩ := Int.eq_ofNat_of_zero_le (by omega : 0 ≤ s)
    exact ends_in vb bs k w hb.1 h1 (by omega) (by omega)
  · exact ends_out vb _ _ s w hb.1 (by omega)
end Go.Proofs.Ytoacegccpajkoaa
