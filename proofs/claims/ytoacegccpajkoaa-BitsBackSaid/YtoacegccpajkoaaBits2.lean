/- Contracts of package bits: what the writer's other calls do. No statement of the seat is proved here. -/
import Derived.Test.YtoacegccpajkoaaBits
import Derived.Outline
import Derived.WalkSpells
namespace Go.Proofs.Ytoacegccpajkoaa
open Go.RowKit Go.Aq

def wrongB (n : Nat) (c : Int) : Bool := decide (c < 0 ∨ 24 < c ∨ n / 2 ^ c.toNat > 0)

theorem natdiv_cast (n k : Nat) : ((n : Int) / 2 ^ k) = ((n / 2 ^ k : Nat) : Int) := by simp

set_option maxHeartbeats 400000 in
theorem wrong_any (w : World) (n : Nat) (c : Int) (_hn : n < 4294967296) :
    Calls Try.prog 43 #[.int .u32 n, .int .i64 c] w fun e w' => e = .returned (.bool (wrongB n c)) ∧ w = w' := by
  by_cases h0 : c < 0
  · go_enter Try.func43, Try.ntmps43
    go_wp2
    go_ret
    exact ⟨by simp [wrongB, h0], rfl⟩
  by_cases h1 : 24 < c
  · go_enter Try.func43, Try.ntmps43
    go_wp2
    go_ret
    exact ⟨by simp [wrongB, h1], rfl⟩
  obtain ⟨k, rfl⟩ := Int.eq_ofNat_of_zero_le (by omega : 0 ≤ c)
  go_enter Try.func43, Try.ntmps43
  go_wp2
  go_ret
  refine ⟨?_, rfl⟩
  have e : decide ((0 : Int) < ((n / 2 ^ k : Nat) : Int)) = wrongB n (k : Int) := by
    unfold wrongB
    rw [decide_eq_decide, Int.toNat_natCast]
    omega
  rw [← e, ← natdiv_cast]
  rfl
theorem wrong_yes (w : World) (n : Nat) (c : Int) (hn : n < 4294967296) (h : wrongB n c = true) :
    Calls Try.prog 43 #[.int .u32 n, .int .i64 c] w fun e w' => e = .returned (.bool true) ∧ w = w' := h ▸ wrong_any w n c hn
theorem wrong_no (w : World) (n : Nat) (c : Int) (hn : n < 4294967296) (h : wrongB n c = false) :
    Calls Try.prog 43 #[.int .u32 n, .int .i64 c] w fun e w' => e = .returned (.bool false) ∧ w = w' := h ▸ wrong_any w n c hn

/-- The bits of a number, the least first. -/
def lowBits (n c : Nat) : List Bool := (List.range c).map fun i => n.testBit i
theorem lowBits_succ (n c : Nat) : lowBits n (c + 1) = lowBits n c ++ [n.testBit c] := by simp [lowBits, List.range_succ]
theorem lowBits_length (n c : Nat) : (lowBits n c).length = c := by simp [lowBits]
theorem testBit_div (n k : Nat) : (n / 2 ^ k).testBit 0 = n.testBit k := by rw [← Nat.shiftRight_eq_div_pow]; simp

set_option maxHeartbeats 400000 in
theorem put_wrong (w : World) (p : Nat) (n : Nat) (c : Int) (hn : n < 4294967296) (h : wrongB n c = true) :
    Calls Try.prog 16 #[.pointer (some ⟨p, 0, none⟩), .int .u32 n, .int .i64 c] w fun e w' => e = .returned (.int .i64 1) ∧ w = w' := by
  go_enter Try.func16, Try.ntmps16
  go_wp2_with (go_at_call 43; refine (wrong_yes _ _ _ hn h).mono ?_; rintro e w' ⟨rfl, rfl⟩)
  go_ret
  exact ⟨rfl, rfl⟩

set_option maxHeartbeats 400000 in
theorem put_right (w : World) (S : List Nat) (p : Nat) (l : List Bool) (n : Nat) (c : Nat) (hn : n < 4294967296) (h : wrongB n c = false) (hl : l.length ≤ 100000000000) (hw : Wr w S p l) :
    Calls Try.prog 16 #[.pointer (some ⟨p, 0, none⟩), .int .u32 n, .int .i64 c] w fun e w' => e = .returned (.int .i64 0) ∧ ∃ S', Wr w' S' p (l ++ lowBits n c) ∧ Upd S S' w w' := by
  have hc : c ≤ 24 := by simp [wrongB] at h; omega
  go_enter Try.func16, Try.ntmps16
  go_wp2_with (go_at_call 43; refine (wrong_no _ _ _ hn h).mono ?_; rintro e w' ⟨rfl, rfl⟩)
  have H := Lib.hid h; clear h
  go_loopw [12] (fun i wr => ∃ k : Nat, k ≤ c ∧ i = .int .i64 k ∧ ∃ S', Wr wr S' p (l ++ lowBits n k) ∧ Upd S S' w wr) (fun i _ => c - (intOf i).toNat)
  case atStart => exact ⟨0, Nat.zero_le _, rfl, S, by simpa [lowBits] using hw, Upd.refl _ _⟩
  case round =>
    obtain ⟨k, hk, rfl, S1, hw1, hu1⟩ := hrel
    by_cases hlt : k < c
    · go_wp2_with fail
      rw [natdiv_cast]
      refine (one_any wr S1 p _ (n / 2 ^ k) (Nat.lt_of_le_of_lt (Nat.div_le_self _ _) hn) (by simp [lowBits_length]; omega) hw1).mono ?_
      rintro e w2 ⟨rfl, S2, hw2, hu2⟩
      rw [testBit_div, List.append_assoc, ← lowBits_succ] at hw2
      go_wp2
      go_roundw
      case rel => exact ⟨k + 1, by omega, by go_num, S2, hw2, hu1.trans hu2⟩
      case measure => simp [intOf]; omega
    · go_wp2
      go_ret
      have : k = c := by omega
      subst this
      exact ⟨rfl, S1, hw1, hu1⟩

/-- The bits of a number, the greatest first. -/
def highBits (n c : Nat) : List Bool := (lowBits n c).reverse
/-- What a code has put after k of its c bits. -/
def codeBits (n c k : Nat) : List Bool := (List.range k).map fun i => n.testBit (c - 1 - i)
theorem codeBits_succ (n c k : Nat) : codeBits n c (k + 1) = codeBits n c k ++ [n.testBit (c - 1 - k)] := by simp [codeBits, List.range_succ]
theorem codeBits_length (n c k : Nat) : (codeBits n c k).length = k := by simp [codeBits]
theorem codeBits_all (n c : Nat) : codeBits n c c = highBits n c := by
  unfold codeBits highBits lowBits
  apply List.ext_getElem
  · simp
  · intro i h1 h2
    simp [List.getElem_reverse]

set_option maxHeartbeats 400000 in
theorem code_wrong (w : World) (p : Nat) (n : Nat) (c : Int) (hn : n < 4294967296) (h : wrongB n c = true) :
    Calls Try.prog 17 #[.pointer (some ⟨p, 0, none⟩), .int .u32 n, .int .i64 c] w fun e w' => e = .returned (.int .i64 1) ∧ w = w' := by
  go_enter Try.func17, Try.ntmps17
  go_wp2_with (go_at_call 43; refine (wrong_yes _ _ _ hn h).mono ?_; rintro e w' ⟨rfl, rfl⟩)
  go_ret
  exact ⟨rfl, rfl⟩

set_option maxHeartbeats 400000 in
theorem code_right (w : World) (S : List Nat) (p : Nat) (l : List Bool) (n : Nat) (c : Nat) (hn : n < 4294967296) (h : wrongB n c = false) (hl : l.length ≤ 100000000000) (hw : Wr w S p l) :
    Calls Try.prog 17 #[.pointer (some ⟨p, 0, none⟩), .int .u32 n, .int .i64 c] w fun e w' => e = .returned (.int .i64 0) ∧ ∃ S', Wr w' S' p (l ++ highBits n c) ∧ Upd S S' w w' := by
  have hc : c ≤ 24 := by simp [wrongB] at h; omega
  go_enter Try.func17, Try.ntmps17
  go_wp2_with (go_at_call 43; refine (wrong_no _ _ _ hn h).mono ?_; rintro e w' ⟨rfl, rfl⟩)
  have H := Lib.hid h; clear h
  go_loopw [12] (fun i wr => ∃ k : Nat, k ≤ c ∧ i = .int .i64 k ∧ ∃ S', Wr wr S' p (l ++ codeBits n c k) ∧ Upd S S' w wr) (fun i _ => c - (intOf i).toNat)
  case atStart => exact ⟨0, Nat.zero_le _, rfl, S, by simpa [codeBits] using hw, Upd.refl _ _⟩
  case round =>
    obtain ⟨k, hk, rfl, S1, hw1, hu1⟩ := hrel
    by_cases hlt : k < c
    · go_wp2_with fail
      rw [show ((n : Int) / 2 ^ (c - 1 - k)) = ((n / 2 ^ (c - 1 - k) : Nat) : Int) from natdiv_cast _ _]
      refine (one_any wr S1 p _ (n / 2 ^ (c - 1 - k)) (Nat.lt_of_le_of_lt (Nat.div_le_self _ _) hn) (by simp [codeBits_length]; omega) hw1).mono ?_
      rintro e w2 ⟨rfl, S2, hw2, hu2⟩
      rw [testBit_div, List.append_assoc, ← codeBits_succ] at hw2
      go_wp2
      go_roundw
      case rel => exact ⟨k + 1, by omega, by go_num, S2, hw2, hu1.trans hu2⟩
      case measure => simp [intOf]; omega
    · go_wp2
      go_ret
      have : k = c := by omega
      subst this
      rw [codeBits_all] at hw1
      exact ⟨rfl, S1, hw1, hu1⟩

/-- Bits up to the next whole byte. -/
def aligned (l : List Bool) : List Bool := l ++ List.replicate (8 * ((l.length + 7) / 8) - l.length) false
theorem aligned_length (l : List Bool) : (aligned l).length = 8 * ((l.length + 7) / 8) := by simp [aligned]; omega
theorem bval_false (n : Nat) : bval (List.replicate n false) = 0 := by
  induction n with
  | zero => rfl
  | succ n ih => simp [List.replicate_succ, bval, ih]
theorem pack_aligned (l : List Bool) : pack (aligned l) = pack l := by
  unfold pack
  rw [aligned_length]
  have e : (8 * ((l.length + 7) / 8) + 7) / 8 = (l.length + 7) / 8 := by omega
  rw [e]
  refine List.map_congr_left fun j hj => ?_
  congr 1
  unfold aligned
  simp at hj
  rw [List.drop_append_of_le_length (by omega)]
  by_cases h : 8 * j + 8 ≤ l.length
  · rw [List.take_append_of_le_length (by simp; omega)]
  · rw [List.take_append, List.take_of_length_le (by simp; omega), List.take_replicate, bval_append, bval_false]
    simp

set_option maxHeartbeats 400000 in
theorem align_any (w : World) (S : List Nat) (p : Nat) (l : List Bool) (hlb : l.length ≤ 1000000000000) (hw : Wr w S p l) :
    Calls Try.prog 23 #[.pointer (some ⟨p, 0, none⟩)] w fun e w' => e = .returned (.tuple #[]) ∧ Wr w' S p (aligned l) ∧ Upd S S w w' := by
  obtain ⟨v, hp, hown, rfl⟩ := hw
  generalize hl : l.length = n at *
  have HL := Lib.hid hl; clear hl
  obtain ⟨⟨c0, c1⟩, f0, f1⟩ := hp.c2
  have hpo := hown.ne hp (by decide)
  obtain ⟨ao, cap, rfl, hcap, hno⟩ := hown.sees.shape
  have HNO := Lib.hid hno; clear hno
  go_enter Try.func23, Try.ntmps23
  go_wp2
  go_end0
  have HE : (8 * (((n : Int) + 7) / 8)) = ((8 * ((n + 7) / 8) : Nat) : Int) := by omega
  rw [HE]
  refine ⟨rfl, Wr.mk (n := 8 * ((n + 7) / 8)) (hp.set 1 _) (hown.set_ne (a := ⟨p, 1, none⟩) hpo _) ?_ ?_ (pack_aligned l).symm, Chg.setCell (Chg.refl _ _) (by simp) _, fun k hk => .inl hk⟩
  · rw [aligned_length, HL.out]
  · rw [aligned_length, HL.out]; omega

set_option maxHeartbeats 400000 in
theorem bits_any (w : World) (S : List Nat) (p : Nat) (l : List Bool) (hw : Wr w S p l) :
    Calls Try.prog 18 #[.pointer (some ⟨p, 0, none⟩)] w fun e w' => e = .returned (.int .i64 l.length) ∧ w = w' := by
  obtain ⟨v, hp, hown, rfl⟩ := hw
  generalize hl : l.length = n at *
  have HL := Lib.hid hl; clear hl
  obtain ⟨⟨c0, c1⟩, f0, f1⟩ := hp.c2
  go_enter Try.func18, Try.ntmps18
  go_wp2
  go_ret
  exact ⟨rfl, rfl⟩

set_option maxHeartbeats 400000 in
theorem newWriter_any (w : World) :
    Calls Try.prog 15 #[] w fun e w' => ∃ p, e = .returned (.pointer (some ⟨p, 0, none⟩)) ∧ Wr w' [p] p [] ∧ Chg [] w w' ∧ w.heap.size ≤ p := by
  go_enter Try.func15, Try.ntmps15
  go_wp2
  go_ret
  exact ⟨w.heap.size, rfl, ⟨.slice none 0 0, Blk.new _ _ _, Own.nil _ _ _, rfl⟩, Chg.alloc (Chg.refl _ _) _, Nat.le_refl _⟩

set_option maxHeartbeats 400000 in
theorem clone_any (w : World) (v : Value) (n : Nat) (bs : List UInt8) (hv : Sees w 1 v n (Bs bs)) (hb : n ≤ 140737488355328) :
    Calls Try.prog 45 #[v] w fun e w' => ∃ v', e = .returned v' ∧ Own w' 5 1 v' n (Bs bs) ∧ Chg [] w w' ∧ ∀ k ∈ v'.ownBlock.toList, w.heap.size ≤ k := by
  have hv0 := hv
  obtain ⟨hl, ao, cap, rfl, hcap, hno, -⟩ := hv0
  have hnil := fun (w : World) (a : Option Addr) (n c : Nat) => Lib.run_eql_slice_nil (P := Try.prog) w 31 5 a n c 0 0 Try.underlying31
  cases ao with
  | none =>
    obtain ⟨rfl, rfl⟩ := hno rfl
    have hbs : bs = [] := List.eq_nil_of_length_eq_zero (by simpa [Bs] using hl)
    subst hbs
    clear hv hno hcap hl
    go_enter Try.func45, Try.ntmps45
    go_wp2
    go_ret
    exact ⟨_, rfl, Own.nil _ _ _, Chg.refl _ _, by simp [Value.ownBlock]⟩
  | some ad =>
    clear hno
    have HL := Lib.hid hl; clear hl
    go_enter Try.func45, Try.ntmps45
    go_wp2_with (at_builtin; refine wpList_app rfl _ _ 31 rfl sl_u8 (n := 0) (xs := []) (Own.made w 5 1) rfl (hv.chg0 (Chg.alloc (Chg.refl _ _) _)) rfl (Bs_one bs) (by omega) (by omega) ?_; intro v' w' ho hc hn)
    go_ret
    refine ⟨v', rfl, by simpa using ho, Chg.trans (Chg.alloc (Chg.refl _ _) _) hc (by simp [Value.ownBlock]), fun k hk => ?_⟩
    rcases hn k hk with h | h
    · simp [Value.ownBlock] at h; omega
    · simp at h; omega

set_option maxHeartbeats 400000 in
theorem bytes_any (w : World) (S : List Nat) (p : Nat) (l : List Bool) (hl : l.length ≤ 1000000000000) (hw : Wr w S p l) :
    Calls Try.prog 20 #[.pointer (some ⟨p, 0, none⟩)] w fun e w' => ∃ v', e = .returned v' ∧ Own w' 5 1 v' (pack l).length (Bs (pack l)) ∧ Chg [] w w' ∧ ∀ k ∈ v'.ownBlock.toList, w.heap.size ≤ k := by
  obtain ⟨v, hp, hown, rfl⟩ := hw
  have hs := hown.sees
  rw [← pack_length] at hs
  have hpl : (pack l).length ≤ 140737488355328 := by rw [pack_length]; omega
  clear hown
  generalize hl : l.length = n at *
  have HL := Lib.hid hl; clear hl
  obtain ⟨⟨c0, c1⟩, f0, f1⟩ := hp.c2
  go_enter Try.func20, Try.ntmps20
  go_wp2_with (go_at_call 45; refine (clone_any _ _ _ _ hs hpl).mono ?_; rintro e w' ⟨v', rfl, h1, h2, h3⟩)
  go_ret
  exact ⟨v', rfl, h1, h2, h3⟩
end Go.Proofs.Ytoacegccpajkoaa
