/- Contract of num.Hex, digits of 16 read. No statement of the seat is proved here. -/
import Derived.Test.YtfammoidikdbpaaGreatDoorNumBytes
import Derived.Test.YtfammoidikdbpaaGreatDoorRHex
import Derived.Test.YtfammoidikdbpaaGreatDoorShelf
set_option linter.unusedVariables false
namespace Go.Aq
open Go.RowKit
def unD (c : UInt8) : Int := if 48 ≤ c.toNat ∧ c.toNat ≤ 57 then (c.toNat : Int) - 48 else if 97 ≤ c.toNat ∧ c.toNat ≤ 102 then (c.toNat : Int) - 87 else -1
theorem unD_index (c : UInt8) : Lib.indexByte digitsS.data.toList c = unD c := by
  have h : ∀ n, n < 256 → Lib.indexByte digitsS.data.toList (UInt8.ofNat n) = unD (UInt8.ofNat n) := by decide +kernel
  have := h c.toNat c.toNat_lt
  simpa using this
theorem unD_range (c : UInt8) : -1 ≤ unD c ∧ unD c ≤ 15 := by
  unfold unD
  split
  · omega
  · split <;> omega
def unhexL : List UInt8 → Option (List UInt8)
  | [] => some []
  | [_] => none
  | a :: b :: t => if unD a < 0 ∨ unD b < 0 then none else (unhexL t).map fun r => UInt8.ofNat (16 * (unD a).toNat + (unD b).toNat) :: r
theorem unhexL_odd : ∀ (l : List UInt8), l.length % 2 ≠ 0 → unhexL l = none
  | [], h => by simp at h
  | [_], _ => rfl
  | a :: b :: t, h => by
    simp only [unhexL]
    rw [unhexL_odd t (by simp only [List.length_cons] at h; omega)]
    simp
theorem unhexL_length : ∀ (l r : List UInt8), unhexL l = some r → l.length = 2 * r.length
  | [], r, h => by simp [unhexL] at h; subst h; rfl
  | [_], r, h => by simp [unhexL] at h
  | a :: b :: t, r, h => by
    simp only [unhexL] at h
    split at h
    · simp at h
    · obtain ⟨r', h1, rfl⟩ := Option.map_eq_some_iff.1 h
      have := unhexL_length t r' h1
      simp only [List.length_cons]
      omega
end Go.Aq
namespace Go.Proofs.YtfammoidikdbpaaGreatDoor
open Go.RowKit Go.Aq
set_option maxHeartbeats 400000 in
theorem hex_any (w : World) (v : Value) (n : Nat) (b : List UInt8) (hv : Sees w 1 v n (Bs b)) (hn : n ≤ 1000000) :
    Calls Tryz.prog 42 #[v] w fun e w' => e = .returned (.string (str (hexL b))) ∧ Chg [] w w' := by
  have hbl : b.length = n := by have := hv.len; rw [Bs_length] at this; omega
  have HBL := Lib.hid hbl; clear hbl
  obtain ⟨ao, cap, rfl, hcap, hnil⟩ := hv.shape
  have HNIL := Lib.hid hnil; clear hnil
  go_enter Tryz.func42, Tryz.ntmps42
  go_wp2_with fail
  go_loopg [3, 8] n (fun k vo vi wr => ∃ (i : Nat), vi = .int .i64 i ∧ i + k = n ∧ Fresh w wr 5 1 vo (2 * i) (Bs (hexL (b.take i))))
  case atStart => exact ⟨0, rfl, by omega, Fresh.nil w _ _⟩
  case round =>
    obtain ⟨i, rfl, hik, hf⟩ := hrel
    by_cases hlt : i < n
    · obtain ⟨g, off, cap', hv', hc', hcell⟩ := (hv.chg0 hf.chg).at1 (by omega)
      simp only [Value.slice.injEq, true_and] at hv'
      obtain ⟨rfl, rfl⟩ := hv'
      have hib : i < b.length := by have := HBL.out; omega
      have x0 : wr.cell? ⟨g, off + i, none⟩ = some (.int .u8 ((b[i]'hib).toNat : Int)) := by rw [hcell i hlt, Bs_get _ _ hib]
      have hx := (b[i]'hib).toNat_lt
      have hsn := hexL_snoc (b.take i) (b[i]'hib)
      rw [← List.take_succ_eq_append_getElem hib] at hsn
      generalize (b[i]'hib).toNat = x at *
      have hand : bits .and .u8 (x : Int) 15 = ((x % 16 : Nat) : Int) := by
        have := (bits_u8 x 15 hx (by decide)).1
        rw [show x &&& 15 = x % 16 from Nat.and_two_pow_sub_one_eq_mod x 4] at this
        exact this
      have hdiv : (x : Int) / 16 = ((x / 16 : Nat) : Int) := by simp
      have i1 := fun w => idxDigits w (x / 16) (by omega)
      have i2 := fun w => idxDigits w (x % 16) (by omega)
      generalize hxD (x / 16) = d1 at *
      generalize hxD (x % 16) = d2 at *
      generalize x / 16 = q1 at *
      generalize x % 16 = q2 at *
      unfold digitsS at i1 i2
      have HSN := Lib.hid hsn; clear hsn
      have HIK := Lib.hid hik; clear hik
      clear hcell
      have hfA := (hf.to ((Chg.refl [] wr).alloc (.cells #[.int .u8 (d1.toNat : Int), .int .u8 (d2.toNat : Int)] 5)).drew)
      go_wp2_with fail
      go_region_law ((refine step_appF (w0 := w) (by rfl) _ _ 24 (by rfl) sl_u8 (by exact hfA) (by rfl) (Sees.row (cs := #[.int .u8 (d1.toNat : Int), .int .u8 (d2.toNat : Int)]) (by exact Blk.new wr _ 5) (m := 2) rfl) (by rfl) (by simp [Value.oneCell']) (by omega) (by omega) ?_; intro v3 w3 hF3 c3))
      all_goals
        go_wp2_with fail
        go_roundg (gk - 1)
        case measure => have := HIK.out; omega
        case rel =>
          refine ⟨i + 1, by go_num, by have := HIK.out; omega, ?_⟩
          rw [HSN.out, Bs_append]
          exact hF3
    · have hi : i = n := by omega
      subst hi
      rw [List.take_of_length_le (by have := HBL.out; omega)] at hf
      have r1 := run_str8 hf.own.sees
      have hcw := hf.chg
      clear hf
      go_wp2_with fail
      go_ret
      exact ⟨rfl, hcw⟩
end Go.Proofs.YtfammoidikdbpaaGreatDoor
