/- Contracts of strconv.FormatInt at base 16 (numbers below 256), word.written, word.escapes. No statement of the seat is proved here. -/
import Derived.Test.YtihoohhngiomdaaDoorWordC
set_option linter.unusedVariables false
namespace Go.Aq
theorem str_append (a b : List UInt8) : str a ++ str b = str (a ++ b) := by
  unfold str
  apply ByteArray.ext
  rw [ByteArray.data_append]
  simp
end Go.Aq
namespace Go.Aq.Wd
theorem encode_enc1 (c : Nat) (h : okR c) : Utf8.encode (c : Int) = str (enc1 c) := by
  have hv : Utf8.valid (c : Int) = true := by
    unfold okR at h
    simp only [Utf8.valid, Bool.or_eq_true, Bool.and_eq_true, decide_eq_true_eq]
    omega
  unfold Utf8.encode enc1 str
  simp only [hv, if_true, Int.toNat_natCast]
  split
  · rfl
  · split
    · rfl
    · split <;> rfl
def z65 : List Value := List.replicate 65 (.int .u8 0)
end Go.Aq.Wd
namespace Go.Proofs.YtihoohhngiomdaaDoor
open Go.RowKit Go.Aq Go.Aq.Wd
set_option maxHeartbeats 400000 in
theorem pow16 (w : World) : Calls Tryd.prog 78 #[.int .i64 16] w fun e w' => e = .returned (.bool true) ∧ w' = w := by
  go_enter Tryd.func78, Tryd.ntmps78
  go_wp2
  go_ret
  exact ⟨rfl, rfl⟩
set_option maxHeartbeats 400000 in
theorem tz16 (w : World) (hT : Tabs w) : Calls Tryd.prog 84 #[.int .u64 16] w fun e w' => e = .returned (.int .i64 4) ∧ w' = w := by
  have h4 := hT.2.2
  have b1 : bits .and .u64 16 (IntKind.u64.wrap (-16)) = 16 := by decide +kernel
  have b2 : IntKind.u64.wrap (16 * 285870213051353865) = 4573923408821661840 := by decide +kernel
  have b3 : ((4573923408821661840 : Int) / 288230376151711744).toNat = 15 := by decide +kernel
  go_enter Tryd.func84, Tryd.ntmps84
  go_wp2
  go_ret
  exact ⟨rfl, rfl⟩
set_option maxHeartbeats 400000 in
theorem tzz16 (w : World) (hT : Tabs w) : Calls Tryd.prog 79 #[.int .u64 16] w fun e w' => e = .returned (.int .i64 4) ∧ w' = w := by
  go_enter Tryd.func79, Tryd.ntmps79
  go_wp2_with fail
  refine (tz16 w hT).mono ?_
  rintro e w1 ⟨rfl, rfl⟩
  go_wp2_with fail
  go_ret
  exact ⟨rfl, rfl⟩
def dig36 : ByteArray := ⟨#[48, 49, 50, 51, 52, 53, 54, 55, 56, 57, 97, 98, 99, 100, 101, 102, 103, 104, 105, 106, 107, 108, 109, 110, 111, 112, 113, 114, 115, 116, 117, 118, 119, 120, 121, 122]⟩
set_option maxRecDepth 100000 in
theorem idx36 (w : World) (n : Nat) (h : n < 16) : (Instr.index 9 (.string dig36) (.int .u64 (n : Int))).run Tryd.prog w = .ok (.int .u8 ((hxd n).toNat : Int)) w := by
  have h' : n = 0 ∨ n = 1 ∨ n = 2 ∨ n = 3 ∨ n = 4 ∨ n = 5 ∨ n = 6 ∨ n = 7 ∨ n = 8 ∨ n = 9 ∨ n = 10 ∨ n = 11 ∨ n = 12 ∨ n = 13 ∨ n = 14 ∨ n = 15 := by omega
  rcases h' with rfl | rfl | rfl | rfl | rfl | rfl | rfl | rfl | rfl | rfl | rfl | rfl | rfl | rfl | rfl | rfl <;> rfl
set_option maxHeartbeats 2000000 in
set_option maxRecDepth 100000 in
theorem fmt16 (c : Nat) (hc : c < 256) (w : World) (hT : Tabs w) :
    Calls Tryd.prog 71 #[.slice none 0 0, .int .u64 c, .int .i64 16, .bool false, .bool false] w fun e w' => (∃ r, e = .returned (.tuple #[r, .string (str (hexC c))])) ∧ Chg [] w w' := by
  have hz : ∀ w, (zeroValue 114).run Tryd.prog w = .ok (.agg z65.toArray) w := fun _ => by kernel_rfl
  have hzl : z65.length = 65 := rfl
  have hex : hexC c = if c < 16 then [hxd c] else [hxd (c / 16), hxd (c % 16)] := rfl
  have HEX := Lib.hid hex
  clear hex
  obtain ⟨A, hA⟩ : ∃ A, w.heap.size = A := ⟨_, rfl⟩
  go_enter Tryd.func71, Tryd.ntmps71
  go_wp2_with fail
  refine (pow16 _).mono ?_
  rintro e w1 ⟨rfl, hw1⟩
  have hb1 : Blk w1 A z65.toArray 114 := by rw [hw1, ← hA]; exact Blk.new w _ _
  have hc1 : Chg [] w w1 := by rw [hw1]; exact (Chg.refl [] w).alloc _
  clear hw1 hz
  have hT1 := hT.chg hc1
  go_wp2_with fail
  refine (tzz16 w1 hT1).mono ?_
  rintro e w2 ⟨rfl, rfl⟩
  have hbw : Blk w2 A z65.toArray 114 := hb1
  go_wp2_with fail
  clear hb1 hT1
  go_loopg [1, 13] (if c < 16 then 0 else 1) (fun k vu vi wr => ∃ (u i : Nat) (cs : List Value), vu = .int .u64 u ∧ vi = .int .i64 i ∧ Blk wr A cs.toArray 114 ∧ Chg [] w wr ∧ cs.length = 65 ∧
    ((k = 1 ∧ u = c ∧ i = 65 ∧ 16 ≤ c) ∨ (k = 0 ∧ c < 16 ∧ u = c ∧ i = 65) ∨ (k = 0 ∧ 16 ≤ c ∧ u = c / 16 ∧ i = 64 ∧ cs[64]? = some (.int .u8 ((hxd (c % 16)).toNat : Int)))))
  case atStart =>
    refine ⟨c, 65, z65, rfl, rfl, hbw, hc1, rfl, ?_⟩
    by_cases h : c < 16
    · right; left; simp [h]
    · left; simp [h]; omega
  case round =>
    obtain ⟨u, i, cs, rfl, rfl, hb, hch, hcl, hst⟩ := hrel
    rcases hst with ⟨rfl, rfl, rfl, h16⟩ | hst
    · have t1 : decide ((16 : Int) ≤ (u : Int)) = true := by simp; omega
      have x0 : ∃ v, wr.cell? ⟨A, 64, none⟩ = some v := ⟨cs[64]'(by omega), by rw [hb.cell]; simp⟩
      obtain ⟨v0, x0⟩ := x0
      have f0 := hb.frozen 64
      have band : bits .and .u64 (u : Int) 15 = ((u % 16 : Nat) : Int) := by
        have := (bits_nat_full .u64 (fun n h => by rw [IntKind.wrap_u64]; simp only [IntKind.bits] at h; omega) u 15 (by simp [IntKind.bits]; omega) (by simp [IntKind.bits])).1
        rw [show u &&& 15 = u % 16 from Nat.and_two_pow_sub_one_eq_mod u 4] at this
        exact this
      obtain ⟨r, hr⟩ : ∃ r, u % 16 = r := ⟨_, rfl⟩
      obtain ⟨q, hq⟩ : ∃ q, u / 16 = q := ⟨_, rfl⟩
      have er : (u : Int) % 16 = (r : Int) := by omega
      have eq : (u : Int) / 16 = (q : Int) := by omega
      have hr16 : r < 16 := by omega
      have hq16 : q < 16 := by omega
      rw [hr] at band
      have ix := fun w => idx36 w r hr16
      unfold dig36 at ix
      have hb2 := hb.set 64 (.int .u8 ((hxd r).toNat : Int))
      have hc2 := hch.setCell (p := ⟨A, 64, none⟩) (.inr (by simp; omega)) (.int .u8 ((hxd r).toNat : Int))
      generalize hx : (hxd r).toNat = x at *
      have HX := Lib.hid hx
      have HQ := Lib.hid hq
      have HR := Lib.hid hr
      clear hx hq hr
      go_wp2_with fail
      go_roundg 0
      case measure => omega
      case rel =>
        refine ⟨q, 64, cs.set 64 (.int .u8 (x : Int)), rfl, rfl, ?_, hc2, by simp [hcl], .inr (.inr ⟨rfl, h16, HQ.out.symm, rfl, ?_⟩)⟩
        · rw [List.setIfInBounds_toArray] at hb2; exact hb2
        · rw [HR.out, HX.out, List.getElem?_set_self (by omega)]
    · have hk : gk = 0 := by omega
      have hu : u < 16 := by omega
      have t1 : decide ((16 : Int) ≤ (u : Int)) = false := by simp; omega
      have ix := fun w => idx36 w u hu
      unfold dig36 at ix
      obtain ⟨x, hx⟩ : ∃ x, hxd u = x := ⟨_, rfl⟩
      rw [hx] at ix
      have HX := Lib.hid hx
      clear hx
      rcases hst with ⟨-, h16, rfl, rfl⟩ | ⟨-, h16, hu16, rfl, hcs⟩
      · have x0 : ∃ v, wr.cell? ⟨A, 64, none⟩ = some v := ⟨cs[64]'(by omega), by rw [hb.cell]; simp⟩
        obtain ⟨v0, x0⟩ := x0
        have f0 := hb.frozen 64
        have hb2 := hb.set 64 (.int .u8 (x.toNat : Int))
        have hc2 := hch.setCell (p := ⟨A, 64, none⟩) (.inr (by simp; omega)) (.int .u8 (x.toNat : Int))
        have hse : Sees (wr.setCell ⟨A, 64, none⟩ (.int .u8 (x.toNat : Int))) 1 (.slice (some ⟨A, 64, none⟩) 1 1) 1 (Bs [x]) := by
          refine ⟨rfl, _, _, rfl, Nat.le_refl _, by simp, fun ad had j u' hu' => ?_⟩
          cases had
          have hj : j = 0 := by have := (List.getElem?_eq_some_iff.1 hu').1; simp [Bs] at this; omega
          subst hj
          rw [Addr.add_lit, hb2.cell]
          simp [Bs, Bc] at hu'
          simp [hcl, ← hu']
        have r1 := run_str8 hse
        have hh : hexC u = [x] := by rw [HEX.out, if_pos h16, HX.out]
        have HH := Lib.hid hh
        clear hh HEX hk
        generalize x.toNat = xn at *
        go_wp2_with fail
        go_ret2
        exact ⟨⟨_, by rw [HH.out]; rfl⟩, hc2⟩
      · have x0 : ∃ v, wr.cell? ⟨A, 63, none⟩ = some v := ⟨cs[63]'(by omega), by rw [hb.cell]; simp⟩
        obtain ⟨v0, x0⟩ := x0
        have f0 := hb.frozen 63
        have hb2 := hb.set 63 (.int .u8 (x.toNat : Int))
        have hc2 := hch.setCell (p := ⟨A, 63, none⟩) (.inr (by simp; omega)) (.int .u8 (x.toNat : Int))
        have hse : Sees (wr.setCell ⟨A, 63, none⟩ (.int .u8 (x.toNat : Int))) 1 (.slice (some ⟨A, 63, none⟩) 2 2) 2 (Bs [x, hxd (c % 16)]) := by
          refine ⟨rfl, _, _, rfl, Nat.le_refl _, by simp, fun ad had j u' hu' => ?_⟩
          cases had
          have hj : j = 0 ∨ j = 1 := by have := (List.getElem?_eq_some_iff.1 hu').1; simp [Bs] at this; omega
          rcases hj with rfl | rfl
          · rw [Addr.add_lit, hb2.cell]
            simp [Bs, Bc] at hu'
            simp [hcl, ← hu']
          · rw [Addr.add_lit, hb2.cell]
            simp [Bs, Bc] at hu'
            rw [List.setIfInBounds_toArray, List.getElem?_toArray, List.getElem?_set_ne (by decide), ← hu']
            exact hcs
        have r1 := run_str8 hse
        have hh : hexC c = [x, hxd (c % 16)] := by rw [HEX.out, if_neg (by omega), ← HX.out, hu16]
        have HH := Lib.hid hh
        clear hh HEX hk hcs hu16
        generalize hxd (c % 16) = y at *
        generalize x.toNat = xn at *
        go_wp2_with fail
        go_ret2
        exact ⟨⟨_, by rw [HH.out]; rfl⟩, hc2⟩
set_option maxHeartbeats 1000000 in
set_option maxRecDepth 100000 in
theorem fmtI (c : Nat) (hc : c < 256) (w : World) (hT : Tabs w) :
    Calls Tryd.prog 57 #[.int .i64 c, .int .i64 16] w fun e w' => e = .returned (.string (str (hexC c))) ∧ Chg [] w w' := by
  have hf := fmt16 c hc w hT
  generalize hexC c = H at *
  go_enter Tryd.func57, Tryd.ntmps57
  go_wp2_with fail
  refine hf.mono ?_
  rintro e w1 ⟨⟨r, rfl⟩, c1⟩
  go_wp2_with fail
  go_ret
  exact ⟨rfl, c1⟩
set_option maxHeartbeats 400000 in
theorem fmtS (c : Nat) (hc : c < 256) (w : World) (hT : Tabs w) :
    Calls Tryd.prog 49 #[.int .i64 c, .int .i64 16] w fun e w' => e = .returned (.string (str (hexC c))) ∧ Chg [] w w' := by
  have hf := fmtI c hc w hT
  generalize hexC c = H at *
  go_enter Tryd.func49, Tryd.ntmps49
  go_wp2_with fail
  refine hf.mono ?_
  rintro e w1 ⟨rfl, c1⟩
  go_wp2_with fail
  go_ret
  exact ⟨rfl, c1⟩
set_option maxHeartbeats 1000000 in
theorem written_any (c : Nat) (hc : okR c) (w : World) (hT : Tabs w) :
    Calls Tryd.prog 37 #[.int .i32 c] w fun e w' => e = .returned (.string (str (writ c))) ∧ Chg [] w w' := by
  have henc := encode_enc1 c hc
  have hle := okR_le hc
  by_cases h1 : c = 34 ∨ c = 92
  · have hw : writ c = [92] ++ enc1 c := by
      unfold writ; rw [if_pos h1]
      rcases h1 with rfl | rfl <;> rfl
    rw [hw, ← str_append]
    clear hw hc
    rcases h1 with rfl | rfl
    · go_enter Tryd.func37, Tryd.ntmps37
      go_wp2_with fail
      go_ret
      exact ⟨rfl, Chg.refl _ _⟩
    · go_enter Tryd.func37, Tryd.ntmps37
      go_wp2_with fail
      go_ret
      exact ⟨rfl, Chg.refl _ _⟩
  · have t1 : ((c : Int) == 34) = false := by simp; omega
    have t2 : ((c : Int) == 92) = false := by simp; omega
    by_cases h10 : c = 10
    · subst h10
      have hw : writ 10 = [92, 110] := rfl
      rw [hw]
      go_enter Tryd.func37, Tryd.ntmps37
      go_wp2_with fail
      go_ret
      exact ⟨rfl, Chg.refl _ _⟩
    · have t3 : ((c : Int) == 10) = false := by simp; omega
      cases hlow : low c with
      | true =>
        have hb : c < 256 := by simp only [low, Bool.or_eq_true, Bool.and_eq_true, decide_eq_true_eq] at hlow; omega
        have hw : writ c = [92, 117, 123] ++ hexC c ++ [125] := by unfold writ; rw [if_neg h1, if_neg h10, if_pos hlow]
        have hf := fun w' h => fmtS c hb w' h
        have hHl : (hexC c).length ≤ 2 := by unfold hexC; split <;> simp
        have hHs := str_size (hexC c)
        rw [hw, ← str_append, ← str_append]
        generalize hexC c = H at *
        clear hw hc h1 h10 henc
        go_enter Tryd.func37, Tryd.ntmps37
        go_wp2_with fail
        refine (low_any c hle w).mono ?_
        rintro e w1 ⟨rfl, rfl⟩
        rw [hlow]
        go_wp2_with fail
        refine (hf w1 hT).mono ?_
        rintro e w2 ⟨rfl, c2⟩
        clear hf
        go_wp2_with fail
        go_ret
        exact ⟨rfl, c2⟩
      | false =>
        have hw : writ c = enc1 c := by unfold writ; rw [if_neg h1, if_neg h10, if_neg (by simp [hlow])]
        rw [hw]
        generalize enc1 c = E at *
        clear hw hc h1 h10
        go_enter Tryd.func37, Tryd.ntmps37
        go_wp2_with fail
        refine (low_any c hle w).mono ?_
        rintro e w1 ⟨rfl, rfl⟩
        rw [hlow]
        go_wp2_with fail
        go_ret
        exact ⟨rfl, Chg.refl _ _⟩
end Go.Proofs.YtihoohhngiomdaaDoor
