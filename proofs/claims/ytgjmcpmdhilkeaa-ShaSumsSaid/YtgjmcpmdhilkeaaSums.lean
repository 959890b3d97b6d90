/- Contracts of aquref1.Key, aquref1.Valid; the walk of ShaSums. No statement of the seat is proved here. -/
import Derived.Test.YtgjmcpmdhilkeaaRefSum
set_option linter.unusedVariables false
namespace Go.Proofs.Ytgjmcpmdhilkeaa
open Go.RowKit Go.Aq Go.Aq.Sha
set_option maxHeartbeats 400000 in
theorem refKey_any (w : World) (v : Value) (n : Nat) (b : List UInt8) (hv : Sees w 1 v n (Bs b)) (hn : n ≤ 1000000) :
    Calls Try.prog 11 #[v] w fun e w' => e = .returned (.string (str (hexL (sum b)))) ∧ Chg [] w w' := by
  go_enter Try.func11, Try.ntmps11
  go_wp2_with fail
  refine (refSum_any w v n b hv hn).mono ?_
  rintro e w1 ⟨v', rfl, hf⟩
  go_wp2_with fail
  refine (refHex_any w1 v' 32 (sum b) hf.own.sees (by omega)).mono ?_
  rintro e w2 ⟨rfl, hc⟩
  go_wp2_with fail
  go_ret
  exact ⟨rfl, hf.chg.nil hc⟩
set_option maxHeartbeats 400000 in
theorem refValid_any (w : World) (s : List UInt8) (hs : s.length ≤ 1000000) :
    Calls Try.prog 13 #[.string (str s)] w fun e w' => e = .returned (.bool (validB s)) ∧ Chg [] w w' := by
  go_enter Try.func13, Try.ntmps13
  go_wp2_with fail
  refine (refUnhex_any w s hs).mono ?_
  rintro e w1 (⟨bs, v', hu, rfl, hf⟩ | ⟨hu, rfl, hc⟩)
  · obtain ⟨ao, cap, rfl, hcap⟩ := hf.shape
    have hv : validB s = (bs.length == 32) := by unfold validB; rw [hu]
    have HV := Lib.hid hv
    have hc := hf.chg
    clear hu hv hf
    generalize bs.length = k at *
    go_wp2_with fail
    go_ret
    exact ⟨ret_bool (by rw [HV.out, Bool.eq_iff_iff]; simp; omega), hc⟩
  · have hv : validB s = false := by unfold validB; rw [hu]
    have HV := Lib.hid hv
    clear hu hv
    go_wp2_with fail
    go_ret
    exact ⟨ret_bool HV.out.symm, hc⟩
set_option maxHeartbeats 1000000 in
theorem sums_out (va : Value) (n m : Nat) (a s : List UInt8) (w : World) (ha : Sees w 1 va n (Bs a)) (hs : s.length = m) (h : 4000 < n ∨ 4000 < m) (h63 : n ≤ 9223372036854775807) (h64 : m ≤ 9223372036854775807) :
    Calls Try.prog 3 #[va, .string (str s)] w fun e w' => e = .returned (.bool true) ∧ Chg [] w w' := by
  obtain ⟨ao, cap, rfl, hcap, hno⟩ := ha.shape
  have hsz : (str s).size = m := by rw [str_size, hs]
  clear hno ha hs
  by_cases h5 : 4000 < n
  · have t1 : decide (4000 < (n : Int)) = true := by simp; omega
    have t1' : decide (4000 < n) = true := by simp; omega
    go_enter Try.func3, Try.ntmps3
    go_wp2_with fail
    refine (first3 _).mono ?_
    rintro e w0 ⟨rfl, c0⟩
    go_wp2_with fail
    refine (first3 _).mono ?_
    rintro e w1 ⟨rfl, c1⟩
    go_wp2_with fail
    go_ret
    exact ⟨rfl, c0.nil c1⟩
  · have t1 : decide (4000 < (n : Int)) = false := by simp; omega
    have t1' : decide (4000 < n) = false := by simp; omega
    have t2 : decide (4000 < (m : Int)) = true := by simp; omega
    have t2' : decide (4000 < m) = true := by simp; omega
    go_enter Try.func3, Try.ntmps3
    go_wp2_with fail
    refine (first3 _).mono ?_
    rintro e w0 ⟨rfl, c0⟩
    go_wp2_with fail
    refine (first3 _).mono ?_
    rintro e w1 ⟨rfl, c1⟩
    go_wp2_with fail
    go_ret
    exact ⟨rfl, c0.nil c1⟩
theorem beqS (s : List UInt8) : ((str s).toList == (str s).toList) = true := by simp
set_option maxHeartbeats 2000000 in
theorem sums_in (va : Value) (n m : Nat) (a s : List UInt8) (w : World) (ha : Sees w 1 va n (Bs a)) (hs : s.length = m) (hn : n ≤ 4000) (hm : m ≤ 4000) :
    Calls Try.prog 3 #[va, .string (str s)] w fun e w' => e = .returned (.bool true) ∧ Chg [] w w' := by
  obtain ⟨ao, cap, rfl, hcap, hno⟩ := ha.shape
  have hsz : (str s).size = m := by rw [str_size, hs]
  clear hno
  have t1 : decide (4000 < (n : Int)) = false := by simp; omega
  have t1' : decide (4000 < n) = false := by simp; omega
  have t2 : decide (4000 < (m : Int)) = false := by simp; omega
  have t2' : decide (4000 < m) = false := by simp; omega
  have HA := Lib.hid ha
  have HS := Lib.hid hs
  clear ha hs
  go_enter Try.func3, Try.ntmps3
  go_wp2_with fail
  refine (first3 _).mono ?_
  rintro e w0 ⟨rfl, c0⟩
  go_wp2_with fail
  refine (copyF w0 _ n a (HA.out.chg0 c0) (by omega)).mono ?_
  rintro e w1 ⟨vi, rfl, hfi⟩
  have c01 := c0.nil hfi.chg
  have hIn := hfi.own
  have hInN : ∀ k ∈ vi.ownBlock.toList, w.heap.size ≤ k := fun k hk => Nat.le_trans c0.size (hfi.new k hk)
  clear hfi c0
  go_wp2_with fail
  refine (sum_any w1 _ n a hIn.sees (by omega)).mono ?_
  rintro e w2 ⟨vx, rfl, hfx⟩
  have c02 := c01.nil hfx.chg
  have hIn2 := hIn.chg hfx.chg (fun _ _ => by simp)
  have hx2 := hfx.own
  have hxN : ∀ k ∈ vx.ownBlock.toList, w.heap.size ≤ k := fun k hk => Nat.le_trans c01.size (hfx.new k hk)
  have hD : Disj vi.ownBlock.toList vx.ownBlock.toList := fun k h1 h2 => by have := hIn.lt k h1; have := hfx.new k h2; omega
  obtain ⟨gx, cx, hvx, hcx, -, -⟩ := hx2.pos (by omega)
  subst hvx
  clear hfx hIn c01
  go_wp2_with fail
  refine (refSum_any w2 _ n a (HA.out.chg0 c02) (by omega)).mono ?_
  rintro e w3 ⟨vr, rfl, hfr⟩
  have c03 := c02.nil hfr.chg
  have hIn3 := hIn2.chg hfr.chg (fun _ _ => by simp)
  have hx3 := hx2.chg hfr.chg (fun _ _ => by simp)
  have hr3 := hfr.own.sees
  clear hfr c02 hIn2 hx2
  go_wp2_with fail
  refine (same_yes w3 _ vr _ _ (sum a) (sum a) hx3.sees hr3 rfl).mono ?_
  rintro e w4 ⟨rfl, rfl⟩
  go_wp2_with fail
  refine (key_any w3 _ n a hIn3.sees (by omega)).mono ?_
  rintro e w4 ⟨rfl, c4⟩
  have c04 := c03.nil c4
  have hIn4 := hIn3.chg c4 (fun _ _ => by simp)
  have hx4 := hx3.chg c4 (fun _ _ => by simp)
  clear c03 hIn3 hx3 hr3 c4
  go_wp2_with fail
  refine (refKey_any w4 _ n a (HA.out.chg0 c04) (by omega)).mono ?_
  rintro e w5 ⟨rfl, c5⟩
  have c05 := c04.nil c5
  have hIn5 := hIn4.chg c5 (fun _ _ => by simp)
  have hx5 := hx4.chg c5 (fun _ _ => by simp)
  clear c04 hIn4 hx4 c5
  have bs := beqS (hexL (sum a))
  go_wp2_with fail
  refine (valid_any w5 s (by have := HS.out; omega)).mono ?_
  rintro e w6 ⟨rfl, c6⟩
  have c06 := c05.nil c6
  have hIn6 := hIn5.chg c6 (fun _ _ => by simp)
  have hx6 := hx5.chg c6 (fun _ _ => by simp)
  clear c05 hIn5 hx5 c6
  go_wp2_with fail
  refine (refValid_any w6 s (by have := HS.out; omega)).mono ?_
  rintro e w7 ⟨rfl, c7⟩
  have c07 := c06.nil c7
  have hIn7 := hIn6.chg c7 (fun _ _ => by simp)
  have hx7 := hx6.chg c7 (fun _ _ => by simp)
  clear c06 hIn6 hx6 c7
  have bv : (validB s == validB s) = true := by simp
  generalize validB s = V at *
  generalize sum a = X at *
  go_wp2_with fail
  go_loopg [8] 32 (fun k vi wr => ∃ (i : Nat) (Y : List UInt8), vi = .int .i64 i ∧ i + k = 32 ∧ Own wr 5 1 (.slice (some ⟨gx, 0, none⟩) 32 cx) 32 (Bs Y) ∧ Chg [gx] w7 wr)
  case atStart => exact ⟨0, X, rfl, by omega, hx7, Chg.refl _ _⟩
  case round =>
    clear hx7
    obtain ⟨i, Y, rfl, hik, hx, hcr⟩ := hrel
    have hYl : Y.length = 32 := by have := hx.len; rw [Bs_length] at this; omega
    by_cases hi : i < 32
    · have ti : decide ((i : Int) < 32) = true := by simp; omega
      have ii : (i : Int) < 32 := by omega
      have x0 : wr.cell? ⟨gx, i, none⟩ = some (.int .u8 ((Y[i]'(by omega)).toNat : Int)) := by rw [hx.cellAt i (by omega), Bs_get _ _ (by omega)]
      have f0 := hx.frozenAt i
      have hy := (Y[i]'(by omega)).toNat_lt
      generalize (Y[i]'(by omega)).toNat = y at *
      have hb9 := hx.set i (.int .u8 (((UInt8.ofNat (y + 1)).toNat : Nat) : Int))
      have hc9 := hcr.setCell (p := ⟨gx, i, none⟩) (by simp) (.int .u8 (((UInt8.ofNat (y + 1)).toNat : Nat) : Int))
      rw [Bs_set] at hb9
      have ev : (((UInt8.ofNat (y + 1)).toNat : Nat) : Int) = ((y : Int) + 1) % 256 := by rw [UInt8.toNat_ofNat']; simp
      rw [ev] at hb9 hc9
      have HIK := Lib.hid hik
      clear hik ev hYl hx hcr
      go_wp2_with fail
      go_roundg (gk - 1)
      case measure => have := HIK.out; omega
      case rel => exact ⟨i + 1, _, by go_num, by have := HIK.out; omega, hb9, hc9⟩
    · have h32 : i = 32 := by omega
      subst h32
      have c08 : Chg [] w wr := c07.trans hcr (by simp; exact hxN gx (by simp [Value.ownBlock]))
      have hIn8 := hIn7.chg hcr (fun k hk => by have := hD k hk; simp [Value.ownBlock] at this; simpa using this)
      clear hx hcr hYl hIn7 c07 hD hxN hInN
      obtain ⟨wo, hwo⟩ : ∃ wo : World, wo = wr := ⟨_, rfl⟩
      rw [← hwo] at hIn8 c08
      subst hwo
      go_wp2_with fail
      refine (first3 _).mono ?_
      rintro e w9 ⟨rfl, c9⟩
      have c09 := c08.nil c9
      have hIn9 := hIn8.chg c9 (fun _ _ => by simp)
      clear c08 hIn8 c9
      go_wp2_with fail
      refine (same_yes w9 _ _ _ _ a a hIn9.sees (HA.out.chg0 c09) rfl).mono ?_
      rintro e w10 ⟨rfl, rfl⟩
      go_wp2_with fail
      refine (key_any w9 _ n a hIn9.sees (by omega)).mono ?_
      rintro e w10 ⟨rfl, c10⟩
      have c010 := c09.nil c10
      clear c09 hIn9 c10
      go_wp2_with fail
      refine (refKey_any w10 _ n a (HA.out.chg0 c010) (by omega)).mono ?_
      rintro e w11 ⟨rfl, c11⟩
      have bs2 := beqS (hexL (sum a))
      go_wp2_with fail
      go_ret
      exact ⟨rfl, c010.nil c11⟩
theorem sumsTop (va : Value) (n : Nat) (a : List UInt8) {w : World} (ha : Sees w 1 va n (Bs a) ∧ n ≤ 9223372036854775807) (s : List UInt8) (hs : s.length ≤ 9223372036854775807) :
    Calls Try.prog 3 #[va, .string (str s)] w fun e w' => e = .returned (.bool true) ∧ Chg [] w w' := by
  by_cases h : n ≤ 4000 ∧ s.length ≤ 4000
  · exact sums_in va n _ a s w ha.1 rfl h.1 h.2
  · exact sums_out va n _ a s w ha.1 rfl (by omega) ha.2 hs
end Go.Proofs.Ytgjmcpmdhilkeaa
