/- Contracts of num.Unhex and of aquref1.digit, Unhex. No statement of the seat is proved here. -/
import Derived.Test.YtihoohhngiomdaaDoorNumHex
set_option linter.unusedVariables false
namespace Go.Proofs.YtihoohhngiomdaaDoor
open Go.RowKit Go.Aq
theorem idxStr (w : World) (s : List UInt8) (j : Nat) (h : j < s.length) : (Instr.index 9 (.string (str s)) (.int .i64 (j : Int))).run Tryd.prog w = .ok (.int .u8 ((s[j]'h).toNat : Int)) w := by
  have hj : j < (str s).size := by rw [str_size]; exact h
  rw [run_index_string w 9 (str s) .i64 j Tryd.underlying9, dif_pos ⟨by omega, by omega⟩]
  rfl
def Unhexed (w : World) (s : List UInt8) (e : Ending) (w' : World) : Prop :=
  (∃ bs v', unhexL s = some bs ∧ e = .returned (.tuple #[v', .bool true]) ∧ Fresh w w' 5 1 v' bs.length (Bs bs)) ∨ (unhexL s = none ∧ e = .returned (.tuple #[.slice none 0 0, .bool false]) ∧ Chg [] w w')
theorem indexDigits (c : UInt8) (w : World) : Calls Tryd.prog 40 #[.string digitsS, .int .u8 (c.toNat : Int)] w fun e w' => e = .returned (.int .i64 (unD c)) ∧ w' = w := by
  have h := Tryd.strings_IndexByte digitsS c.toNat w
  simp only [Int.toNat_natCast] at h
  rw [show c.toNat.toUInt8 = c by simp, unD_index] at h
  exact h
theorem indexDigits' (c : UInt8) (w : World) : Calls Tryd.prog 40 #[.string ⟨#[48, 49, 50, 51, 52, 53, 54, 55, 56, 57, 97, 98, 99, 100, 101, 102]⟩, .int .u8 (c.toNat : Int)] w fun e w' => e = .returned (.int .i64 (unD c)) ∧ w' = w := indexDigits c w
theorem or_digits (a b : Nat) (ha : a < 16) (hb : b < 16) : bits .or .i64 ((a : Int) * 16) (b : Int) = ((16 * a + b : Nat) : Int) := by
  have h := (bits_i64 (a * 16) b (by omega) (by omega)).2.1
  have e : a * 16 ||| b = 16 * a + b := by
    rw [Nat.or_comm]
    have := or_shift b a 4 hb
    rw [show (2 : Nat) ^ 4 = 16 by decide] at this
    rw [this]
    omega
  rw [e] at h
  rw [← h]
  rfl
set_option maxHeartbeats 1000000 in
theorem unhex_any (w : World) (s : List UInt8) (hs : s.length ≤ 1000000) :
    Calls Tryd.prog 34 #[.string (str s)] w (Unhexed w s) := by
  have hsz := str_size s
  by_cases hodd : s.length % 2 = 0
  · obtain ⟨R, hR⟩ : ∃ R, unhexL s = R := ⟨_, rfl⟩
    have HR := Lib.hid hR; clear hR
    have t0 : (((s.length : Int) % 2) != 0) = false := by simp; omega
    go_enter Tryd.func34, Tryd.ntmps34
    go_wp2_with fail
    go_loopg [4, 5] s.length (fun k vo vi wr => ∃ (i j : Nat) (out : List UInt8), vi = .int .i64 j ∧ j = 2 * i ∧ j + k = s.length ∧ out.length = i ∧ R = (unhexL (s.drop j)).map (out ++ ·) ∧ Fresh w wr 5 1 vo i (Bs out))
    case atStart => exact ⟨0, 0, [], rfl, rfl, by omega, rfl, by rw [← HR.out]; simp, Fresh.nil w _ _⟩
    case round =>
      obtain ⟨i, j, out, rfl, hji, hik, hol, hRd, hf⟩ := hrel
      have HOL := Lib.hid hol; clear hol
      have hi5 : i ≤ 1000000 := by omega
      by_cases hlt : j < s.length
      · have hlt2 : j + 1 < s.length := by omega
        have HJI := Lib.hid hji; clear hji
        have hd : s.drop j = s[j] :: s[j + 1] :: s.drop (j + 2) := by
          rw [List.drop_eq_getElem_cons hlt, List.drop_eq_getElem_cons hlt2]
        rw [hd] at hRd
        have x1 := fun w => idxStr w s j hlt
        have x2 := fun w => idxStr w s (j + 1) hlt2
        have hz1 : ((j : Nat) : Int) + 1 = ((j + 1 : Nat) : Int) := by omega
        obtain ⟨J1, hJ1⟩ : ∃ J1, J1 = j + 1 := ⟨_, rfl⟩
        generalize s[j] = a at *
        generalize s[j + 1] = b at *
        rw [← hJ1] at x2 hz1
        obtain ⟨ra1, ra2⟩ := unD_range a
        obtain ⟨rb1, rb2⟩ := unD_range b
        simp only [unhexL] at hRd
        have HRD := Lib.hid hRd; clear hRd
        have HIK := Lib.hid hik; clear hik
        have HJ1 := Lib.hid hJ1; clear hJ1 hd
        have tj : decide ((j : Int) < (s.length : Int)) = true := by simp; omega
        have tj' : decide (j < s.length) = true := by simp; omega
        by_cases hbad : unD a < 0 ∨ unD b < 0
        · have e := HRD.out
          rw [if_pos hbad] at e
          have HRN := Lib.hid e; clear e HRD
          by_cases ha : unD a < 0
          · have t1 : decide (unD a < 0) = true := by simpa using ha
            have hcw := hf.chg.drewN
            clear hbad ha hf
            go_wp2_with fail
            go_quiet ((exact Calls.quiet_of_same (indexDigits' _ _)))
            have hcw2 := hcw nq
            generalize wr.drewN nq = w2 at *
            go_wp2_with fail
            go_ret2
            exact .inr ⟨by rw [HR.out, HRN.out]; rfl, rfl, hcw2⟩
          · have t1 : decide (unD a < 0) = false := by simpa using ha
            have t2 : decide (unD b < 0) = true := by simp; omega
            have hcw := hf.chg.drewN
            clear hbad ha hf
            go_wp2_with fail
            go_quiet ((exact Calls.quiet_of_same (indexDigits' _ _)))
            have hcw2 := hcw nq
            generalize wr.drewN nq = w2 at *
            go_wp2_with fail
            go_ret2
            exact .inr ⟨by rw [HR.out, HRN.out]; rfl, rfl, hcw2⟩
        · have e := HRD.out
          rw [if_neg hbad] at e
          have HRS := Lib.hid e; clear e HRD
          have t1 : decide (unD a < 0) = false := by simp; omega
          have t2 : decide (unD b < 0) = false := by simp; omega
          obtain ⟨A, hA⟩ : ∃ A : Nat, unD a = A := ⟨(unD a).toNat, by omega⟩
          obtain ⟨B, hB⟩ : ∃ B : Nat, unD b = B := ⟨(unD b).toNat, by omega⟩
          have hA16 : A < 16 := by omega
          have hB16 : B < 16 := by omega
          have hor := or_digits A B hA16 hB16
          rw [hA] at t1 HRS
          rw [hB] at t2 HRS
          simp only [Int.toNat_natCast] at HRS
          have HA := Lib.hid hA
          have HB := Lib.hid hB
          clear hbad hA hB ra1 ra2 rb1 rb2
          go_wp2_with fail
          go_quiet ((exact Calls.quiet_of_same (indexDigits' _ _)))
          rw [HA.out, HB.out]
          have hf2 := hf.to ((Chg.refl [] wr).drewN nq)
          generalize wr.drewN nq = w2 at *
          clear hf
          obtain ⟨N, hN⟩ : ∃ N : Nat, 16 * A + B = N := ⟨_, rfl⟩
          have hN256 : N < 256 := by omega
          rw [hN] at HRS hor
          have hev : (((UInt8.ofNat N).toNat : Nat) : Int) = (N : Int) := by rw [UInt8.toNat_ofNat', Nat.mod_eq_of_lt hN256]
          have HEV := Lib.hid hev
          clear hN hev
          go_wp2_with (at_builtin; refine wpList_appF (w0 := w) rfl _ _ 29 rfl sl_u8 (by exact hf2.to ((Chg.refl [] w2).alloc (.cells #[.int .u8 (N : Int)] 5))) rfl (Sees.row (cs := #[.int .u8 (N : Int)]) (by exact Blk.new w2 _ 5) (m := 1) rfl) rfl (by simp [Value.oneCell']) (by omega) (by omega) ?_; intro v3 w3 hF3 c3)
          go_roundg (gk - 2)
          case measure => have := HIK.out; omega
          case rel =>
            refine ⟨i + 1, j + 2, out ++ [UInt8.ofNat N], by go_num, by have := HJI.out; omega, by have := HIK.out; omega, by simp; exact HOL.out, ?_, ?_⟩
            · rw [HRS.out, Option.map_map]
              congr 1
              funext r
              simp
            · rw [Bs_append]
              have : Bs [UInt8.ofNat N] = [.int .u8 (N : Int)] := by simp only [Bs, List.map_cons, List.map_nil, Bc, HEV.out]
              rw [this]
              exact hF3
      · have hj : j = s.length := by omega
        have tj : decide ((j : Int) < (s.length : Int)) = false := by simp; omega
        have tj' : decide (j < s.length) = false := by simp; omega
        rw [List.drop_of_length_le (by omega)] at hRd
        have HRD := Lib.hid hRd
        have HX := Lib.hid hj
        clear hRd hlt hji hik hj
        go_wp2_with fail
        go_ret2
        refine .inl ⟨out, _, by rw [HR.out, HRD.out]; simp [unhexL], rfl, ?_⟩
        rw [HOL.out]
        exact hf
  · have e := unhexL_odd s (by omega)
    have HE := Lib.hid e; clear e
    have t0 : (((s.length : Int) % 2) != 0) = true := by simp; omega
    go_enter Tryd.func34, Tryd.ntmps34
    go_wp2_with fail
    go_ret2
    exact .inr ⟨HE.out, rfl, Chg.refl _ _⟩

end Go.Proofs.YtihoohhngiomdaaDoor
