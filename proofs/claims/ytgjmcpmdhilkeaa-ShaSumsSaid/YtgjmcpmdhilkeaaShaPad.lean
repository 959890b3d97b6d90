/- Contracts of bytes.Clone, sha.padded. No statement of the seat is proved here. -/
import Derived.Test.YtgjmcpmdhilkeaaShaMix2
import Derived.Test.YtgjmcpmdhilkeaaAppZ
import Derived.Test.YtgjmcpmdhilkeaaNumHex
set_option linter.unusedVariables false
namespace Go.Aq
theorem Fresh.base {w w1 w' : World} {e : TypeId} {size : Nat} {v : Value} {n : Nat} {xs : List Value} (h : Fresh w1 w' e size v n xs) (c : Chg [] w w1) : Fresh w w' e size v n xs :=
  ⟨h.own, c.trans h.chg (by simp), fun k hk => Nat.le_trans c.size (h.new k hk)⟩
end Go.Aq
namespace Go.Aq.Sha
theorem beB_succ (n k : Nat) : beB n (k + 1) = UInt8.ofNat (n / 2 ^ (8 * k)) :: beB n k := by simp [beB, leB, List.range_succ]
theorem be_eq (n : Nat) : ∀ k, be n k = beB n k
  | 0 => rfl
  | k + 1 => by rw [be, be_eq n k, beB_succ, Nat.shiftRight_eq_div_pow]
theorem be8 (n : Nat) (h : n < 281474976710656) : be n 8 = List.replicate 2 0 ++ beB n 6 := by
  rw [be_eq, beB_succ, beB_succ]
  have h1 : n / 2 ^ (8 * 7) = 0 := Nat.div_eq_of_lt (by omega)
  have h2 : n / 2 ^ (8 * 6) = 0 := Nat.div_eq_of_lt (by omega)
  rw [h1, h2]
  rfl
theorem zeros_done (n : Nat) : (n + 1 + zeros n) % 64 = 56 := by unfold zeros; omega
theorem zeros_not (n j : Nat) (h : j < zeros n) : (n + 1 + j) % 64 ≠ 56 := by unfold zeros at h; omega
theorem zeros_lt (n : Nat) : zeros n < 64 := by unfold zeros; omega
theorem pad_length (b : List UInt8) : (pad b).length = b.length + 1 + zeros b.length + 8 := by
  unfold pad
  rw [be_eq]
  simp only [List.length_append, List.length_cons, List.length_nil, List.length_replicate, beB_length]
theorem pad_mod (b : List UInt8) : (pad b).length % 64 = 0 := by rw [pad_length]; have := zeros_done b.length; omega
end Go.Aq.Sha
namespace Go.Proofs.Ytgjmcpmdhilkeaa
open Go.RowKit Go.Aq Go.Aq.Sha
theorem clone_any (w : World) (v : Value) (n : Nat) (b : List UInt8) (hv : Sees w 1 v n (Bs b)) (hn : n ≤ 140737488355328) :
    Calls Try.prog 27 #[v] w fun e w' => ∃ v', e = .returned v' ∧ Fresh w w' 5 1 v' n (Bs b) := by
  obtain ⟨hl, ao, cap, rfl, hc, hno, hcells⟩ := hv
  cases ao with
  | none =>
    obtain ⟨rfl, rfl⟩ := hno rfl
    have : b = [] := List.eq_nil_of_length_eq_zero (by simpa [Bs] using hl)
    subst this
    refine (Try.bytes_Clone_nil 0 0 w).mono fun e w' ⟨h1, h2⟩ => ?_
    subst h2
    exact ⟨_, h1, Fresh.nil _ _ _⟩
  | some a =>
    have hbl : b.length = n := by rw [Bs_length] at hl; omega
    refine (Try.bytes_Clone_at a n cap (b.map fun c => (c.toNat : Int)) w (by simpa using hbl) hn (fun i hi => ?_)).mono fun e w' ⟨v', h1, h2, h3, h4⟩ => ?_
    · rw [hcells a rfl i _ (Bs_get b i (by omega))]
      simp [List.getD_eq_getElem?_getD, show i < b.length by omega]
    · refine ⟨v', h1, Fresh.of_owns ?_ h4⟩
      have : (b.map fun c => (c.toNat : Int)).map (Value.int .u8) = Bs b := by simp [Bs, Bc]
      rw [this] at h2
      exact h2
theorem bigI (w : World) (n wd : Nat) (c : Int) (hc : c = (n : Nat)) (h1 : 1 ≤ wd) (h6 : wd ≤ 6) (hn : n < 2 ^ (8 * wd)) :
    Calls Try.prog 18 #[.int .i64 c, .int .i64 wd] w fun e w' => ∃ g, e = .returned (.tuple #[.slice (some ⟨g, 0, none⟩) wd wd, .int .i64 0]) ∧ Own w' 5 1 (.slice (some ⟨g, 0, none⟩) wd wd) wd (Bs (beB n wd)) ∧ Chg [] w w' ∧ w.heap.size ≤ g := by
  subst hc
  exact big_ok w n wd h1 h6 hn sl_u8
set_option maxHeartbeats 1000000 in
theorem padded_any (w : World) (v : Value) (n : Nat) (b : List UInt8) (hv : Sees w 1 v n (Bs b)) (hn : n ≤ 1000000) :
    Calls Try.prog 16 #[v] w fun e w' => ∃ v', e = .returned v' ∧ Fresh w w' 5 1 v' (pad b).length (Bs (pad b)) := by
  have hbl : b.length = n := by have := hv.len; rw [Bs_length] at this; omega
  have hpl := pad_length b
  have hpe : pad b = b ++ [0x80] ++ List.replicate (zeros n) 0 ++ List.replicate 2 0 ++ beB (8 * n) 6 := by
    unfold pad
    rw [be8 _ (by omega), hbl]
    simp
  rw [hbl] at hpl
  have HPL := Lib.hid hpl
  have HPE := Lib.hid hpe
  have HBL := Lib.hid hbl
  clear hpl hpe hbl
  obtain ⟨ao, cap, rfl, hcap, hnil⟩ := hv.shape
  have HNIL := Lib.hid hnil; clear hnil
  have HZ := Lib.hid (zeros_not n)
  have HZD := Lib.hid (zeros_done n)
  have hzl := zeros_lt n
  generalize zeros n = Z at *
  go_enter Try.func16, Try.ntmps16
  go_wp2_with fail
  have h48 : 8 * n < 2 ^ (8 * 6) := by
    have : (2 : Nat) ^ (8 * 6) = 281474976710656 := by decide
    omega
  refine (bigI w (8 * n) 6 _ (by omega) (by omega) (by omega) h48).mono ?_
  rintro e w1 ⟨gl, rfl, hol, hc1, hgl⟩
  clear h48
  go_wp2_with fail
  refine (clone_any w1 _ n b (hv.chg0 hc1) (by omega)).mono ?_
  rintro e w2 ⟨vc, rfl, hfc⟩
  go_wp2_with (at_builtin; refine wpList_appF (w0 := w1) rfl _ _ 22 rfl sl_u8 (by exact hfc.to ((Chg.refl [] w2).alloc (.cells #[.int .u8 128] 5))) rfl (Sees.row (cs := #[.int .u8 128]) (by exact Blk.new w2 _ 5) (m := 1) rfl) rfl (by simp [Value.oneCell']) (by omega) (by omega) ?_; intro v3 w3 hF3 c3)
  have hF3' : Fresh w1 w3 5 1 v3 (n + 1 + 0) (Bs (b ++ [128] ++ List.replicate 0 0)) := by
    simpa [Bs, Bc] using hF3
  clear hF3 c3 hfc
  go_loopg [5] Z (fun k vo wr => ∃ (j m : Nat), j + k = Z ∧ m = n + 1 + j ∧ Fresh w1 wr 5 1 vo m (Bs (b ++ [128] ++ List.replicate j 0)))
  case atStart => exact ⟨0, _, by omega, rfl, hF3'⟩
  case round =>
    clear hF3'
    obtain ⟨j, m, hjk, hm, hf⟩ := hrel
    obtain ⟨g, capo, hvo, hcapo, -, -⟩ := hf.own.pos (by omega)
    subst hvo
    have hmb : 1 ≤ m ∧ m ≤ 2000000 := by omega
    obtain ⟨hm1, hm2⟩ := hmb
    by_cases hlt : j < Z
    · have hne := HZ.out j hlt
      have t1 : (((m : Int) % 64) != 56) = true := by simp; omega
      have HM := Lib.hid hm; clear hm
      have HJ := Lib.hid hjk; clear hjk hne
      go_wp2_with (at_builtin; refine wpList_appF (w0 := w1) rfl _ _ 22 rfl sl_u8 (by exact hf.to ((Chg.refl [] wr).alloc (.cells #[.int .u8 0] 5))) rfl (Sees.row (cs := #[.int .u8 0]) (by exact Blk.new wr _ 5) (m := 1) rfl) rfl (by simp [Value.oneCell']) (by omega) (by omega) ?_; intro v4 w4 hF4 c4)
      go_roundg (gk - 1)
      case measure => have := HJ.out; omega
      case rel =>
        refine ⟨j + 1, m + 1, by have := HJ.out; omega, by have := HM.out; omega, ?_⟩
        have e2 : Bs (b ++ [128] ++ List.replicate (j + 1) 0) = Bs (b ++ [128] ++ List.replicate j 0) ++ [.int .u8 0] := by
          rw [List.replicate_succ', ← List.append_assoc, Bs_append (b ++ [128] ++ List.replicate j 0)]
          rfl
        rw [e2]
        exact hF4
    · have hj : j = Z := by omega
      subst hj
      have t1 : (((m : Int) % 64) != 56) = false := by have := HZD.out; simp; omega
      have hol' := hol.sees.chg0 hf.chg
      have HM := Lib.hid hm; clear hm hjk
      go_upto_region 6 with (at_builtin; refine wpList_appZ (w0 := w1) (k := 2) rfl _ _ 22 3 rfl sl_u8 rfl rfl Try.underlying3 hf rfl rfl (by rfl) (by omega) (by omega) (by omega) ?_; intro v5 w5 hF5 c5)
      have hol5 := hol.sees.chg0 hF5.chg
      go_wp2_with (at_builtin; refine wpList_appF (w0 := w1) rfl _ _ 22 rfl sl_u8 hF5 rfl hol5 rfl (Bs_one _) (by omega) (by omega) ?_; intro v6 w6 hF6 c6)
      go_ret
      refine ⟨v6, rfl, ?_⟩
      have hF7 := hF6.base hc1
      rw [HPL.out, HPE.out]
      have e3 : Bs (b ++ [128] ++ List.replicate j 0 ++ List.replicate 2 0 ++ beB (8 * n) 6) = Bs (b ++ [128] ++ List.replicate j 0) ++ List.replicate 2 (Value.int IntKind.u8 0) ++ Bs (beB (8 * n) 6) := by
        rw [Bs_append, Bs_append (b ++ [128] ++ List.replicate j 0)]
        rfl
      rw [e3, show n + 1 + j + 8 = m + 2 + 6 by have := HM.out; omega]
      exact hF7
end Go.Proofs.Ytgjmcpmdhilkeaa
