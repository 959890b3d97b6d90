/- Contracts of package bits: the reader; and of the document's reader (aquref1.Reader). No statement of the seat is proved here. -/
import Derived.Test.YtoacegccpajkoaaBits2
import Derived.Test.YtoacegccpajkoaaSame
import Derived.Deep.LoopGhost
import Derived.Deep.QuietTactic
import Derived.BigQuiet
namespace Go.Aq
open Go.RowKit
theorem Chg.drewN {S : List Nat} {a w : World} (h : Chg S a w) (q : Nat) : Chg S a (w.drewN q) := ⟨h.os, h.tape, h.output, h.size, h.block⟩
theorem quiet_left {P : Program} {f : FuncId} {args : Array Value} {w : World} {n : Nat} {v : Value}
    (h : Calls P f args (w.drewN n) fun e w' => e = .returned v ∧ w.drewN n = w') : Calls P f args (w.drewN n) fun e w'' => e = .returned v ∧ ∃ m, w'' = w.drewN m :=
  h.mono fun _ _ ⟨he, hm⟩ => ⟨he, n, hm.symm⟩
/-- The bit at a place of bytes. -/
def bitAt (bs : List UInt8) (i : Nat) : Bool := (bs.getD (i / 8) 0).toNat.testBit (i % 8)
/-- The bits from a place on. -/
def bitsFrom (bs : List UInt8) (p k : Nat) : List Bool := (List.range k).map fun i => bitAt bs (p + i)
theorem bitsFrom_length (bs : List UInt8) (p k : Nat) : (bitsFrom bs p k).length = k := by simp [bitsFrom]
theorem bitsFrom_succ (bs : List UInt8) (p k : Nat) : bitsFrom bs p (k + 1) = bitsFrom bs p k ++ [bitAt bs (p + k)] := by simp [bitsFrom, List.range_succ]
/-- Why not so many bits. -/
def getE (n p : Nat) (c : Int) : Int := if c < 0 ∨ 24 < c then 1 else if 8 * (n : Int) - p < c then 2 else 0
def getV (bs : List UInt8) (p : Nat) (c : Int) : Nat := if getE bs.length p c = 0 then bval (bitsFrom bs p c.toNat) else 0
def getP (n p : Nat) (c : Int) : Nat := if getE n p c = 0 then p + c.toNat else p
theorem getE_range {n p : Nat} {c : Int} (h : getE n p c = 0) : 0 ≤ c ∧ c ≤ 24 ∧ c ≤ 8 * (n : Int) - p := by
  unfold getE at h
  split at h
  · simp at h
  · split at h
    · simp at h
    · omega
theorem getP_le {n p : Nat} {c : Int} (h : p ≤ 8 * n) : getP n p c ≤ 8 * n := by
  unfold getP
  split
  · rename_i h0
    have := getE_range h0
    omega
  · exact h
theorem bval_lt32 (l : List Bool) (h : l.length ≤ 24) : bval l < 4294967296 := by
  have := bval_lt l
  have h2 : 2 ^ l.length ≤ 2 ^ 24 := Nat.pow_le_pow_right (by decide) h
  omega
theorem shr_and (x k : Nat) (hx : x < 256) : bits BinOp.and IntKind.u8 ((x : Int) / 2 ^ k) 1 = ((x.testBit k).toNat : Int) := by
  have e : ((x : Int) / 2 ^ k) = ((x / 2 ^ k : Nat) : Int) := by simp
  rw [e, u8and1N _ (Nat.lt_of_le_of_lt (Nat.div_le_self _ _) hx)]
  have : (x / 2 ^ k) % 2 = (x.testBit k).toNat := by
    rw [← Nat.shiftRight_eq_div_pow, Nat.toNat_testBit, Nat.shiftRight_eq_div_pow]
  rw [this]
theorem or_next (l : List Bool) (b : Bool) (h : l.length < 24) : bits BinOp.or IntKind.u32 (bval l : Int) (((b.toNat : Int) * 2 ^ l.length) % 4294967296) = (bval (l ++ [b]) : Int) := by
  have hl := bval_lt l
  have h2 : 2 ^ l.length ≤ 2 ^ 23 := Nat.pow_le_pow_right (by decide) (by omega)
  have hb : b.toNat ≤ 1 := by cases b <;> simp
  have h3 : b.toNat * 2 ^ l.length ≤ 1 * 2 ^ l.length := Nat.mul_le_mul_right _ hb
  have e : (((b.toNat : Int) * 2 ^ l.length) % 4294967296) = ((b.toNat * 2 ^ l.length : Nat) : Int) := by
    have h4 : ((b.toNat : Int) * 2 ^ l.length) = ((b.toNat * 2 ^ l.length : Nat) : Int) := by simp
    rw [h4]; omega
  rw [e, u32orN _ _ (by omega) (by omega), or_shift _ _ _ hl, bval_append]
  simp [bval]
theorem get_step (bs : List UInt8) (p j m : Nat) (hj : j < 24) (hm : p + j = m) (h : m / 8 < bs.length) :
    bits BinOp.or IntKind.u32 (bval (bitsFrom bs p j) : Int) (bits BinOp.and IntKind.u8 (((bs[m / 8]'h).toNat : Int) / 2 ^ (m % 8)) 1 % 4294967296 * 2 ^ j % 4294967296) = (bval (bitsFrom bs p (j + 1)) : Int) := by
  have hx := (bs[m / 8]'h).toNat_lt
  rw [shr_and _ _ (by omega), bitsFrom_succ, ← or_next _ _ (by rw [bitsFrom_length]; exact hj), bitsFrom_length]
  have e : bitAt bs (p + j) = (bs[m / 8]'h).toNat.testBit (m % 8) := by
    unfold bitAt
    rw [hm]
    simp [List.getD, h]
  rw [e]
  have hb : ((bs[m / 8]'h).toNat.testBit (m % 8)).toNat ≤ 1 := by cases (bs[m / 8]'h).toNat.testBit (m % 8) <;> simp
  have hmod : ((((bs[m / 8]'h).toNat.testBit (m % 8)).toNat : Int) % 4294967296) = (((bs[m / 8]'h).toNat.testBit (m % 8)).toNat : Int) := by omega
  rw [hmod]
end Go.Aq
namespace Go.Proofs.Ytoacegccpajkoaa
open Go.RowKit Go.Aq

/-- At block p lies a reader of the bytes bs that has passed over so many bits; its blocks are S. -/
def Rd (w : World) (S : List Nat) (p : Nat) (bs : List UInt8) (at_ : Nat) : Prop :=
  ∃ v, Blk w p #[v, .int .i64 at_] 76 ∧ Own w 5 1 v bs.length (Bs bs) ∧ S = p :: v.ownBlock.toList
theorem Rd.chg {w w' : World} {S T : List Nat} {p : Nat} {bs : List UInt8} {at_ : Nat} (h : Rd w S p bs at_) (c : Chg T w w') (hd : Disj S T) : Rd w' S p bs at_ := by
  obtain ⟨v, h1, h2, rfl⟩ := h
  exact ⟨v, h1.chg c (hd p (by simp)), h2.chg c (fun k hk => hd k (by simp at hk ⊢; exact .inr hk)), rfl⟩
theorem Rd.drewN {w : World} {S : List Nat} {p : Nat} {bs : List UInt8} {at_ : Nat} (h : Rd w S p bs at_) (q : Nat) : Rd (w.drewN q) S p bs at_ := h.chg ((Chg.refl [] w).drewN q) (fun _ _ => by simp)
theorem Rd.lt {w : World} {S : List Nat} {p : Nat} {bs : List UInt8} {at_ : Nat} (h : Rd w S p bs at_) : In w S := by
  obtain ⟨v, h1, h2, rfl⟩ := h
  intro k hk
  rcases List.mem_cons.1 hk with rfl | hk
  · exact h1.lt
  · exact h2.lt k hk

set_option maxHeartbeats 400000 in
theorem newReader_any (w : World) (v : Value) (bs : List UInt8) (hv : Sees w 1 v bs.length (Bs bs)) (hb : bs.length ≤ 140737488355328) :
    Calls Try.prog 28 #[v] w fun e w' => ∃ p S, e = .returned (.pointer (some ⟨p, 0, none⟩)) ∧ Rd w' S p bs 0 ∧ Chg [] w w' ∧ ∀ k ∈ S, w.heap.size ≤ k := by
  go_enter Try.func28, Try.ntmps28
  go_wp2_with (go_at_call 45; refine (clone_any _ _ _ _ hv hb).mono ?_; rintro e w1 ⟨v1, rfl, h1, h2, h3⟩; obtain ⟨ao, cap, rfl, -⟩ := h1.sees.shape)
  go_ret
  refine ⟨w1.heap.size, _, rfl, ⟨.slice ao bs.length cap, Blk.new _ _ _, h1.alloc _, rfl⟩, h2.alloc _, ?_⟩
  intro k hk
  rcases List.mem_cons.1 hk with rfl | hk
  · exact h2.size
  · exact h3 k hk

set_option maxHeartbeats 400000 in
theorem left_any (w : World) (S : List Nat) (p : Nat) (bs : List UInt8) (at_ : Nat) (hl : bs.length ≤ 140737488355328) (ha : at_ ≤ 8 * bs.length) (h : Rd w S p bs at_) :
    Calls Try.prog 34 #[.pointer (some ⟨p, 0, none⟩)] w fun e w' => e = .returned (.int .i64 (8 * (bs.length : Int) - at_)) ∧ ∃ q, w' = w.drewN q := by
  obtain ⟨v, hp, hown, rfl⟩ := h
  obtain ⟨n, HN⟩ : ∃ n, Hid (bs.length = n) := ⟨_, rfl⟩
  rw [HN.out] at hown hl ha ⊢
  obtain ⟨⟨c0, c1⟩, f0, f1⟩ := hp.c2
  obtain ⟨ao, cap, rfl, hcap, hno⟩ := hown.sees.shape
  have HNO := Lib.hid hno; clear hno
  go_enter Try.func34, Try.ntmps34
  go_wp2
  go_quiet (fail)
  go_wp2
  go_ret
  exact ⟨rfl, nq, rfl⟩

set_option maxHeartbeats 400000 in
theorem at_any (w : World) (S : List Nat) (p : Nat) (bs : List UInt8) (at_ : Nat) (h : Rd w S p bs at_) :
    Calls Try.prog 33 #[.pointer (some ⟨p, 0, none⟩)] w fun e w' => e = .returned (.int .i64 at_) ∧ w = w' := by
  obtain ⟨v, hp, hown, rfl⟩ := h
  obtain ⟨⟨c0, c1⟩, f0, f1⟩ := hp.c2
  go_enter Try.func33, Try.ntmps33
  go_wp2
  go_ret
  exact ⟨rfl, rfl⟩

set_option maxHeartbeats 400000 in
theorem ralign_any (w : World) (S : List Nat) (p : Nat) (bs : List UInt8) (at_ : Nat) (ha : at_ ≤ 9223372036854775000) (h : Rd w S p bs at_) :
    Calls Try.prog 29 #[.pointer (some ⟨p, 0, none⟩)] w fun e w' => e = .returned (.tuple #[]) ∧ Rd w' S p bs (8 * ((at_ + 7) / 8)) ∧ Upd S S w w' := by
  obtain ⟨v, hp, hown, rfl⟩ := h
  obtain ⟨⟨c0, c1⟩, f0, f1⟩ := hp.c2
  have hpo := hown.ne hp (by decide)
  go_enter Try.func29, Try.ntmps29
  go_wp2
  go_end0
  have e : (((at_ : Int) + 7) / 8 * 8) = ((8 * ((at_ + 7) / 8) : Nat) : Int) := by omega
  rw [e]
  exact ⟨rfl, ⟨v, hp.set 1 _, hown.set_ne (a := ⟨p, 1, none⟩) hpo _, rfl⟩, Chg.setCell (Chg.refl _ _) (by simp) _, fun k hk => .inl hk⟩

set_option maxHeartbeats 400000 in
theorem get_range (w : World) (p : Nat) (c : Int) (hc : c < 0 ∨ 24 < c) :
    Calls Try.prog 31 #[.pointer (some ⟨p, 0, none⟩), .int .i64 c] w fun e w' => e = .returned (.tuple #[.int .u32 0, .int .i64 1]) ∧ w = w' := by
  rcases hc with hc | hc
  all_goals
    go_enter Try.func31, Try.ntmps31
    go_wp2
    go_ret2
    exact ⟨rfl, rfl⟩
set_option maxHeartbeats 400000 in
theorem get_short (w : World) (S : List Nat) (p : Nat) (bs : List UInt8) (at_ : Nat) (c : Int) (hl : bs.length ≤ 140737488355328) (ha : at_ ≤ 8 * bs.length) (h : Rd w S p bs at_) (hc0 : 0 ≤ c) (hc1 : c ≤ 24) (hc2 : 8 * (bs.length : Int) - at_ < c) :
    Calls Try.prog 31 #[.pointer (some ⟨p, 0, none⟩), .int .i64 c] w fun e w' => e = .returned (.tuple #[.int .u32 0, .int .i64 2]) ∧ ∃ q, w' = w.drewN q := by
  go_enter Try.func31, Try.ntmps31
  go_wp2_with (go_at_call 34; refine (left_any _ S p bs at_ hl ha h).mono ?_; rintro e w1 ⟨rfl, q, rfl⟩)
  go_ret2
  exact ⟨rfl, q, rfl⟩
set_option maxHeartbeats 800000 in
theorem get_right (w : World) (S : List Nat) (p : Nat) (bs : List UInt8) (at_ c : Nat) (hl : bs.length ≤ 140737488355328) (h : Rd w S p bs at_) (hc1 : c ≤ 24) (hc2 : at_ + c ≤ 8 * bs.length) :
    Calls Try.prog 31 #[.pointer (some ⟨p, 0, none⟩), .int .i64 c] w fun e w' => e = .returned (.tuple #[.int .u32 (bval (bitsFrom bs at_ c)), .int .i64 0]) ∧ Rd w' S p bs (at_ + c) ∧ Upd S S w w' := by
  have HA := Lib.hid (left_any w S p bs at_ hl (by omega) h)
  obtain ⟨v, hp, hown, rfl⟩ := h
  obtain ⟨n, HN⟩ : ∃ n, Hid (bs.length = n) := ⟨_, rfl⟩
  rw [HN.out] at hown hl hc2 HA
  obtain ⟨⟨c0, c1⟩, f0, f1⟩ := hp.c2
  obtain ⟨ao, cap, rfl, hcap, hno⟩ := hown.sees.shape
  have HNO := Lib.hid hno; clear hno
  go_enter Try.func31, Try.ntmps31
  go_wp2_with (go_at_call 34; refine HA.out.mono ?_; rintro e w1 ⟨rfl, q, rfl⟩)
  clear HA
  have hp1 : Blk (w.drewN q) p #[.slice ao n cap, .int .i64 at_] 76 := hp
  have ho1 : Own (w.drewN q) 5 1 (.slice ao n cap) n (Bs bs) := hown
  have C1 : Chg (p :: (Value.slice ao n cap).ownBlock.toList) w (w.drewN q) := (Chg.refl _ _).drewN q
  obtain ⟨w1, hw1⟩ : ∃ w1, w.drewN q = w1 := ⟨_, rfl⟩
  rw [hw1] at hp1 ho1 C1 ⊢
  clear hw1
  go_loopg [6, 21] c (fun k v i wr => ∃ j, j + k = c ∧ i = .int .i64 j ∧ v = .int .u32 (bval (bitsFrom bs at_ j)) ∧ Blk wr p #[.slice ao n cap, .int .i64 ((at_ + j : Nat) : Int)] 76 ∧ Own wr 5 1 (.slice ao n cap) n (Bs bs) ∧ Chg (p :: (Value.slice ao n cap).ownBlock.toList) w wr)
  case atStart => exact ⟨0, by omega, rfl, rfl, hp1, ho1, C1⟩
  case round =>
    obtain ⟨j, hj, rfl, rfl, hp2, ho2, C2⟩ := hrel
    clear hp1 ho1 C1
    have HJ := Lib.hid hj; clear hj
    have hjc : j ≤ c := by have := HJ.out; omega
    obtain ⟨m, hm⟩ : ∃ m, at_ + j = m := ⟨_, rfl⟩
    rw [hm] at hp2
    have HM := Lib.hid hm; clear hm
    have hpo := ho2.ne hp2 (by decide)
    obtain ⟨⟨d0, d1⟩, e0, e1⟩ := hp2.c2
    by_cases hlt : j < c
    · have hm8 : m / 8 < n := by have := HM.out; omega
      obtain ⟨g, cap', hs, -, -, hgl⟩ := ho2.pos (by omega)
      simp only [Value.slice.injEq, true_and] at hs
      obtain ⟨rfl, rfl⟩ := hs
      have gp : g ≠ p := by rintro rfl; exact hpo (by simp [Value.ownBlock])
      have hmb : m / 8 < bs.length := by rw [HN.out]; exact hm8
      have x0 : wr.cell? ⟨g, m / 8, none⟩ = some (.int .u8 (bs[m / 8]'hmb).toNat) := by rw [ho2.cellAt _ (by omega), Bs_get]
      have hx := (bs[m / 8]'hmb).toNat_lt
      have hm0 : (0 : Int) ≤ (m : Int) := by omega
      have hmx : (m : Int) ≤ 1125899906842624 := by have := HM.out; omega
      have hi0 : (0 : Int) ≤ (m : Int) / 8 := by omega
      have hi1 : (m : Int) / 8 < (n : Int) := by omega
      have hbl := bval_lt32 (bitsFrom bs at_ j) (by rw [bitsFrom_length]; omega)
      go_wp2
      go_quiet (fail)
      go_wp2
      go_roundg (gk - 1)
      case measure => have := HJ.out; omega
      case rel =>
        refine ⟨j + 1, by have := HJ.out; omega, by go_num, ?_, ?_, ?_, ?_⟩
        · rw [get_step bs at_ j m (by omega) HM.out hmb]
        · have h1 : Blk (wr.drewN nq) p #[Value.slice (some { block := g, off := 0 }) n cap, Value.int IntKind.i64 ↑m] 76 := hp2
          have h2 := h1.set 1 (.int .i64 ((m : Int) + 1))
          rw [show (at_ + (j + 1) : Nat) = m + 1 by have := HM.out; omega]
          exact h2
        · have h1 : Own (wr.drewN nq) 5 1 (Value.slice (some { block := g, off := 0 }) n cap) n (Bs bs) := ho2
          exact h1.set_ne (a := ⟨p, 1, none⟩) hpo _
        · exact (C2.drewN nq).setCell (by simp) _
    · go_wp2
      go_ret2
      have : j = c := by omega
      subst this
      rw [← HM.out] at hp2
      exact ⟨rfl, ⟨_, hp2, by rw [HN.out]; exact ho2, rfl⟩, C2, fun k hk => .inl hk⟩

theorem get_any (w : World) (S : List Nat) (p : Nat) (bs : List UInt8) (at_ : Nat) (c : Int) (hl : bs.length ≤ 140737488355328) (ha : at_ ≤ 8 * bs.length) (h : Rd w S p bs at_) :
    Calls Try.prog 31 #[.pointer (some ⟨p, 0, none⟩), .int .i64 c] w fun e w' => e = .returned (.tuple #[.int .u32 (getV bs at_ c), .int .i64 (getE bs.length at_ c)]) ∧ Rd w' S p bs (getP bs.length at_ c) ∧ Upd S S w w' := by
  unfold getV getP
  by_cases h1 : c < 0 ∨ 24 < c
  · have e : getE bs.length at_ c = 1 := by simp [getE, h1]
    rw [e]
    refine (get_range w p c h1).mono ?_
    rintro e w' ⟨rfl, rfl⟩
    exact ⟨rfl, h, Upd.refl _ _⟩
  · by_cases h2 : 8 * (bs.length : Int) - at_ < c
    · have e : getE bs.length at_ c = 2 := by simp [getE, h1, h2]
      rw [e]
      refine (get_short w S p bs at_ c hl ha h (by omega) (by omega) h2).mono ?_
      rintro e w' ⟨rfl, q, rfl⟩
      exact ⟨rfl, h.drewN q, (Chg.refl _ _).drewN q, fun k hk => .inl hk⟩
    · have e : getE bs.length at_ c = 0 := by simp [getE, h1, h2]
      rw [e]
      obtain ⟨k, rfl⟩ := Int.eq_ofNat_of_zero_le (by omega : 0 ≤ c)
      simpa using get_right w S p bs at_ k hl h (by omega) (by omega)

/-- At block p lies a reader of the document's over the slice v of the bytes bs. -/
def RRd (w : World) (p : Nat) (v : Value) (bs : List UInt8) (at_ : Nat) : Prop := Blk w p #[v, .int .i64 at_] 46 ∧ Sees w 1 v bs.length (Bs bs) ∧ p ∉ eyes v
theorem RRd.chg {w w' : World} {T : List Nat} {p : Nat} {v : Value} {bs : List UInt8} {at_ : Nat} (h : RRd w p v bs at_) (c : Chg T w w') (hd : Disj (p :: eyes v) T) : RRd w' p v bs at_ :=
  ⟨h.1.chg c (hd p (by simp)), h.2.1.chg c (fun k hk => hd k (List.mem_cons_of_mem _ hk)), h.2.2⟩
theorem RRd.drewN {w : World} {p : Nat} {v : Value} {bs : List UInt8} {at_ : Nat} (h : RRd w p v bs at_) (q : Nat) : RRd (w.drewN q) p v bs at_ := h.chg ((Chg.refl [] w).drewN q) (fun _ _ => by simp)

set_option maxHeartbeats 400000 in
theorem rleft_any (w : World) (p : Nat) (v : Value) (bs : List UInt8) (at_ : Nat) (hl : bs.length ≤ 140737488355328) (ha : at_ ≤ 8 * bs.length) (h : RRd w p v bs at_) :
    Calls Try.prog 35 #[.pointer (some ⟨p, 0, none⟩)] w fun e w' => e = .returned (.int .i64 (8 * (bs.length : Int) - at_)) ∧ ∃ q, w' = w.drewN q := by
  obtain ⟨hp, hown, hpo⟩ := h
  obtain ⟨n, HN⟩ : ∃ n, Hid (bs.length = n) := ⟨_, rfl⟩
  rw [HN.out] at hown hl ha ⊢
  obtain ⟨⟨c0, c1⟩, f0, f1⟩ := hp.c2
  obtain ⟨ao, cap, rfl, hcap, hno⟩ := hown.shape
  have HNO := Lib.hid hno; clear hno
  go_enter Try.func35, Try.ntmps35
  go_wp2
  go_quiet (fail)
  go_wp2
  go_ret
  exact ⟨rfl, nq, rfl⟩

set_option maxHeartbeats 400000 in
theorem rralign_any (w : World) (p : Nat) (v : Value) (bs : List UInt8) (at_ : Nat) (ha : at_ ≤ 9223372036854775000) (h : RRd w p v bs at_) :
    Calls Try.prog 30 #[.pointer (some ⟨p, 0, none⟩)] w fun e w' => e = .returned (.tuple #[]) ∧ RRd w' p v bs (8 * ((at_ + 7) / 8)) ∧ Chg [p] w w' := by
  obtain ⟨hp, hown, hpo⟩ := h
  obtain ⟨⟨c0, c1⟩, f0, f1⟩ := hp.c2
  go_enter Try.func30, Try.ntmps30
  go_wp2
  go_end0
  have e : (((at_ : Int) + 7) / 8 * 8) = ((8 * ((at_ + 7) / 8) : Nat) : Int) := by omega
  rw [e]
  have C : Chg [p] w (w.setCell ⟨p, 1, none⟩ (.int .i64 ((8 * ((at_ + 7) / 8) : Nat) : Int))) := Chg.setCell (Chg.refl _ _) (by simp) _
  exact ⟨rfl, ⟨hp.set 1 _, hown.chg C (fun k hk => by simp; rintro rfl; exact hpo hk), hpo⟩, C⟩

set_option maxHeartbeats 400000 in
theorem rget_range (w : World) (p : Nat) (c : Int) (hc : c < 0 ∨ 24 < c) :
    Calls Try.prog 32 #[.pointer (some ⟨p, 0, none⟩), .int .i64 c] w fun e w' => e = .returned (.tuple #[.int .u32 0, .int .i64 1]) ∧ w = w' := by
  rcases hc with hc | hc
  all_goals
    go_enter Try.func32, Try.ntmps32
    go_wp2
    go_ret2
    exact ⟨rfl, rfl⟩
set_option maxHeartbeats 400000 in
theorem rget_short (w : World) (p : Nat) (v : Value) (bs : List UInt8) (at_ : Nat) (c : Int) (hl : bs.length ≤ 140737488355328) (ha : at_ ≤ 8 * bs.length) (h : RRd w p v bs at_) (hc0 : 0 ≤ c) (hc1 : c ≤ 24) (hc2 : 8 * (bs.length : Int) - at_ < c) :
    Calls Try.prog 32 #[.pointer (some ⟨p, 0, none⟩), .int .i64 c] w fun e w' => e = .returned (.tuple #[.int .u32 0, .int .i64 2]) ∧ ∃ q, w' = w.drewN q := by
  go_enter Try.func32, Try.ntmps32
  go_wp2_with (go_at_call 35; refine (rleft_any _ p v bs at_ hl ha h).mono ?_; rintro e w1 ⟨rfl, q, rfl⟩)
  go_ret2
  exact ⟨rfl, q, rfl⟩
set_option maxHeartbeats 800000 in
theorem rget_right (w : World) (p : Nat) (v : Value) (bs : List UInt8) (at_ c : Nat) (hl : bs.length ≤ 140737488355328) (h : RRd w p v bs at_) (hc1 : c ≤ 24) (hc2 : at_ + c ≤ 8 * bs.length) :
    Calls Try.prog 32 #[.pointer (some ⟨p, 0, none⟩), .int .i64 c] w fun e w' => e = .returned (.tuple #[.int .u32 (bval (bitsFrom bs at_ c)), .int .i64 0]) ∧ RRd w' p v bs (at_ + c) ∧ Chg [p] w w' := by
  have HA := Lib.hid (rleft_any w p v bs at_ hl (by omega) h)
  obtain ⟨hp, hown, hpo⟩ := h
  obtain ⟨n, HN⟩ : ∃ n, Hid (bs.length = n) := ⟨_, rfl⟩
  rw [HN.out] at hown hl hc2 HA
  obtain ⟨⟨c0, c1⟩, f0, f1⟩ := hp.c2
  obtain ⟨ao, cap, rfl, hcap, hno⟩ := hown.shape
  have HNO := Lib.hid hno; clear hno
  go_enter Try.func32, Try.ntmps32
  go_wp2_with (go_at_call 35; refine HA.out.mono ?_; rintro e w1 ⟨rfl, q, rfl⟩)
  clear HA
  go_loopg [6, 7] c (fun k v i wr => ∃ j, j + k = c ∧ i = .int .i64 j ∧ v = .int .u32 (bval (bitsFrom bs at_ j)) ∧ Blk wr p #[.slice ao n cap, .int .i64 (at_ : Int)] 46 ∧ Sees wr 1 (.slice ao n cap) n (Bs bs) ∧ Chg [p] w wr)
  case atStart => exact ⟨0, by omega, rfl, rfl, hp, hown.chg0 ((Chg.refl _ _).drewN q), (Chg.refl _ _).drewN q⟩
  case round =>
    obtain ⟨j, hj, rfl, rfl, hp2, ho2, C2⟩ := hrel
    have HJ := Lib.hid hj; clear hj
    have hjc : j ≤ c := by have := HJ.out; omega
    obtain ⟨⟨d0, d1⟩, e0, e1⟩ := hp2.c2
    by_cases hlt : j < c
    · obtain ⟨g, off, cap', hs, -, hgl, hcell⟩ := ho2.cells (by omega)
      simp only [Value.slice.injEq, true_and] at hs
      obtain ⟨rfl, rfl⟩ := hs
      obtain ⟨m, hm⟩ : ∃ m, at_ + j = m := ⟨_, rfl⟩
      have hm8 : m / 8 < n := by omega
      have hmb : m / 8 < bs.length := by rw [HN.out]; exact hm8
      have x0 : wr.cell? ⟨g, off + (at_ + j) / 8, none⟩ = some (.int .u8 (bs[m / 8]'hmb).toNat) := by rw [hm, hcell _ (by omega), Bs_get]
      have HM := Lib.hid hm; clear hm
      clear hcell
      have hx := (bs[m / 8]'hmb).toNat_lt
      have hi0 : (0 : Int) ≤ ((at_ : Int) + j) / 8 := by omega
      have hi1 : ((at_ : Int) + j) / 8 < (n : Int) := by omega
      have hbl := bval_lt32 (bitsFrom bs at_ j) (by rw [bitsFrom_length]; omega)
      go_wp2
      go_roundg (gk - 1)
      case measure => have := HJ.out; omega
      case rel =>
        refine ⟨j + 1, by have := HJ.out; omega, by go_num, ?_, hp2, ho2, C2⟩
        rw [HM.out, get_step bs at_ j m (by omega) HM.out hmb]
    · go_wp2
      go_ret2
      have : j = c := by omega
      subst this
      have C3 : Chg [p] wr (wr.setCell ⟨p, 1, none⟩ (.int .i64 ((at_ : Int) + j))) := Chg.setCell (Chg.refl _ _) (by simp) _
      refine ⟨rfl, ⟨hp2.set 1 _, ?_, hpo⟩, C2.tr C3⟩
      rw [HN.out]
      exact ho2.chg C3 (fun k hk => by simp only [List.mem_singleton]; rintro rfl; exact hpo hk)

theorem rget_any (w : World) (p : Nat) (v : Value) (bs : List UInt8) (at_ : Nat) (c : Int) (hl : bs.length ≤ 140737488355328) (ha : at_ ≤ 8 * bs.length) (h : RRd w p v bs at_) :
    Calls Try.prog 32 #[.pointer (some ⟨p, 0, none⟩), .int .i64 c] w fun e w' => e = .returned (.tuple #[.int .u32 (getV bs at_ c), .int .i64 (getE bs.length at_ c)]) ∧ RRd w' p v bs (getP bs.length at_ c) ∧ Chg [p] w w' := by
  unfold getV getP
  by_cases h1 : c < 0 ∨ 24 < c
  · have e : getE bs.length at_ c = 1 := by simp [getE, h1]
    rw [e]
    refine (rget_range w p c h1).mono ?_
    rintro e w' ⟨rfl, rfl⟩
    exact ⟨rfl, h, Chg.refl _ _⟩
  · by_cases h2 : 8 * (bs.length : Int) - at_ < c
    · have e : getE bs.length at_ c = 2 := by simp [getE, h1, h2]
      rw [e]
      refine (rget_short w p v bs at_ c hl ha h (by omega) (by omega) h2).mono ?_
      rintro e w' ⟨rfl, q, rfl⟩
      exact ⟨rfl, h.drewN q, (Chg.refl _ _).drewN q⟩
    · have e : getE bs.length at_ c = 0 := by simp [getE, h1, h2]
      rw [e]
      obtain ⟨k, rfl⟩ := Int.eq_ofNat_of_zero_le (by omega : 0 ≤ c)
      simpa using rget_right w p v bs at_ k hl h (by omega) (by omega)
end Go.Proofs.Ytoacegccpajkoaa
