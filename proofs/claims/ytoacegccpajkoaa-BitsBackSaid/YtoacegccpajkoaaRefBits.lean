/- Contracts of the document's writer of bits (aquref1.Writer). No statement of the seat is proved here. -/
import Derived.Test.YtoacegccpajkoaaBits2
import Derived.Deep.LoopGhost
namespace Go.Proofs.Ytoacegccpajkoaa
open Go.RowKit Go.Aq

/-- A bit as a byte of its own. -/
def bitByte (b : Bool) : UInt8 := if b then 1 else 0
/-- At block p lies a writer of the document's that has the bits l; its blocks are S. -/
def RWr (w : World) (S : List Nat) (p : Nat) (l : List Bool) : Prop :=
  ∃ v, Blk w p #[v] 37 ∧ Own w 5 1 v l.length (Bs (l.map bitByte)) ∧ S = p :: v.ownBlock.toList

theorem RWr.chg {w w' : World} {S T : List Nat} {p : Nat} {l : List Bool} (h : RWr w S p l) (c : Chg T w w') (hd : Disj S T) : RWr w' S p l := by
  obtain ⟨v, h1, h2, rfl⟩ := h
  exact ⟨v, h1.chg c (hd p (by simp)), h2.chg c (fun k hk => hd k (by simp at hk ⊢; exact .inr hk)), rfl⟩
theorem RWr.drew {w : World} {S : List Nat} {p : Nat} {l : List Bool} (h : RWr w S p l) : RWr w.drew S p l := h
theorem RWr.lt {w : World} {S : List Nat} {p : Nat} {l : List Bool} (h : RWr w S p l) : In w S := by
  obtain ⟨v, h1, h2, rfl⟩ := h
  intro k hk
  rcases List.mem_cons.1 hk with rfl | hk
  · exact h1.lt
  · exact h2.lt k hk
theorem RWr.new (w : World) : RWr (w.alloc (.cells #[.slice none 0 0] 37)) [w.heap.size] w.heap.size [] :=
  ⟨.slice none 0 0, Blk.new _ _ _, Own.nil _ _ _, rfl⟩

theorem bitByte_cell (x : Nat) (hx : x < 4294967296) : Value.int IntKind.u8 (bits BinOp.and IntKind.u32 (x : Int) 1 % 256) = Bc (bitByte (x.testBit 0)) := by
  rw [u32and1N x hx]
  have e : ((bitByte (x.testBit 0)).toNat : Int) = ((x % 2 : Nat) : Int) := by
    rw [Nat.testBit_zero]; rcases Nat.mod_two_eq_zero_or_one x with h | h <;> simp [h, bitByte]
  unfold Bc
  rw [e]
  congr 1
  omega

/-- What a push leaves of the document's writer. -/
theorem RWr.push {w w1 : World} {p g n cap : Nat} {l : List Bool} {v : Value} {b : Bool} (hp : Blk w p #[v] 37) (hown : Own w 5 1 v n (Bs (l.map bitByte))) (hl : l.length = n)
    (ho : Own w1 5 1 (.slice (some ⟨g, 0, none⟩) (n + 1) cap) (n + 1) (Bs (l.map bitByte) ++ [Bc (bitByte b)])) (hc : Chg v.ownBlock.toList w w1) (hg : g ∈ v.ownBlock.toList ∨ w.heap.size ≤ g) :
    ∃ S', RWr (w1.setCell ⟨p, 0, none⟩ (.slice (some ⟨g, 0, none⟩) (n + 1) cap)) S' p (l ++ [b]) ∧ Upd (p :: v.ownBlock.toList) S' w (w1.setCell ⟨p, 0, none⟩ (.slice (some ⟨g, 0, none⟩) (n + 1) cap)) := by
  subst hl
  have hpo := hown.ne hp (by decide)
  have hp1 := hp.chg hc hpo
  have gg := ho.ne hp1 (by decide)
  refine ⟨_, ⟨.slice (some ⟨g, 0, none⟩) (l.length + 1) cap, hp1.set 0 _, ?_, rfl⟩, Chg.setCell (hc.mono fun i hi => .inl (List.mem_cons_of_mem _ hi)) (by simp) _, ?_⟩
  · have := ho.set_ne (a := ⟨p, 0, none⟩) gg (.slice (some ⟨g, 0, none⟩) (l.length + 1) cap)
    simpa [Bs] using this
  · intro k hk
    simp only [Value.ownBlock, Option.toList, List.mem_cons, List.not_mem_nil, or_false] at hk
    rcases hk with rfl | rfl
    · simp
    · rcases hg with h | h
      · left; exact List.mem_cons_of_mem _ h
      · right; exact h

theorem rput_any (w : World) (n : Nat) (c : Int) (_hn : n < 4294967296) :
    Calls Try.prog 46 #[.int .u32 n, .int .i64 c] w fun e w' => e = .returned (.bool (!wrongB n c)) ∧ w = w' := by
  by_cases h0 : c < 0
  · go_enter Try.func46, Try.ntmps46
    go_wp2
    go_ret
    exact ⟨by simp [wrongB, h0], rfl⟩
  by_cases h1 : 24 < c
  · go_enter Try.func46, Try.ntmps46
    go_wp2
    go_ret
    exact ⟨by simp [wrongB, h1], rfl⟩
  obtain ⟨k, rfl⟩ := Int.eq_ofNat_of_zero_le (by omega : 0 ≤ c)
  go_enter Try.func46, Try.ntmps46
  go_wp2
  go_ret
  refine ⟨?_, rfl⟩
  have e : ((((n / 2 ^ k : Nat) : Int)) == 0) = !wrongB n (k : Int) := by
    unfold wrongB
    rw [Bool.eq_iff_iff, beq_iff_eq, Int.toNat_natCast]
    simp only [Bool.not_eq_true', decide_eq_false_iff_not]
    generalize n / 2 ^ k = q
    omega
  rw [← e, ← natdiv_cast]
  rfl
theorem rput_yes (w : World) (n : Nat) (c : Int) (hn : n < 4294967296) (h : wrongB n c = true) :
    Calls Try.prog 46 #[.int .u32 n, .int .i64 c] w fun e w' => e = .returned (.bool false) ∧ w = w' := by
  have := rput_any w n c hn; rwa [h] at this
theorem rput_no (w : World) (n : Nat) (c : Int) (hn : n < 4294967296) (h : wrongB n c = false) :
    Calls Try.prog 46 #[.int .u32 n, .int .i64 c] w fun e w' => e = .returned (.bool true) ∧ w = w' := by
  have := rput_any w n c hn; rwa [h] at this

set_option maxHeartbeats 400000 in
theorem rPut_wrong (w : World) (p : Nat) (n : Nat) (c : Int) (hn : n < 4294967296) (h : wrongB n c = true) :
    Calls Try.prog 21 #[.pointer (some ⟨p, 0, none⟩), .int .u32 n, .int .i64 c] w fun e w' => e = .returned (.int .i64 1) ∧ w = w' := by
  go_enter Try.func21, Try.ntmps21
  go_wp2_with (go_at_call 46; refine (rput_yes _ _ _ hn h).mono ?_; rintro e w' ⟨rfl, rfl⟩)
  go_ret
  exact ⟨rfl, rfl⟩

set_option maxHeartbeats 400000 in
theorem rPut_right (w : World) (S : List Nat) (p : Nat) (l : List Bool) (n : Nat) (c : Nat) (hn : n < 4294967296) (h : wrongB n c = false) (hl : l.length ≤ 100000000000) (hw : RWr w S p l) :
    Calls Try.prog 21 #[.pointer (some ⟨p, 0, none⟩), .int .u32 n, .int .i64 c] w fun e w' => e = .returned (.int .i64 0) ∧ ∃ S', RWr w' S' p (l ++ lowBits n c) ∧ Upd S S' w w' := by
  have hc : c ≤ 24 := by simp [wrongB] at h; omega
  go_enter Try.func21, Try.ntmps21
  go_wp2_with (go_at_call 46; refine (rput_no _ _ _ hn h).mono ?_; rintro e w' ⟨rfl, rfl⟩)
  have H := Lib.hid h; clear h
  go_loopw [7] (fun i wr => ∃ k : Nat, k ≤ c ∧ i = .int .i64 k ∧ ∃ S', RWr wr S' p (l ++ lowBits n k) ∧ Upd S S' w wr) (fun i _ => c - (intOf i).toNat)
  case atStart => exact ⟨0, Nat.zero_le _, rfl, S, by simpa [lowBits] using hw, Upd.refl _ _⟩
  case round =>
    obtain ⟨k, hk, rfl, S1, hw1, hu1⟩ := hrel
    by_cases hlt : k < c
    · obtain ⟨v, hp, hown, rfl⟩ := hw1
      have hl1 : (l ++ lowBits n k).length ≤ 100000000100 := by simp [lowBits_length]; omega
      generalize hm : (l ++ lowBits n k).length = m at *
      have HM := Lib.hid hm; clear hm
      obtain ⟨c0, f0⟩ := hp.c1
      go_wp2_with (at_builtin; refine wpList_push rfl _ _ 31 rfl sl_u8 hown rfl rfl rfl (by omega) (by omega) ?_; intro g cap w1 ho1 hc1 hg1 hcap hgl; rw [natdiv_cast, bitByte_cell _ (Nat.lt_of_le_of_lt (Nat.div_le_self _ _) hn), testBit_div] at ho1; have hp1 := (hp.chg hc1 (hown.ne hp (by decide))).c1)
      go_roundw
      case rel =>
        obtain ⟨S2, h1, h2⟩ := RWr.push hp hown HM.out ho1 hc1 hg1
        rw [List.append_assoc, ← lowBits_succ] at h1
        exact ⟨k + 1, by omega, by go_num, S2, h1, hu1.trans h2⟩
      case measure => simp [intOf]; omega
    · go_wp2
      go_ret
      have : k = c := by omega
      subst this
      exact ⟨rfl, S1, hw1, hu1⟩

set_option maxHeartbeats 400000 in
theorem rCode_wrong (w : World) (p : Nat) (n : Nat) (c : Int) (hn : n < 4294967296) (h : wrongB n c = true) :
    Calls Try.prog 22 #[.pointer (some ⟨p, 0, none⟩), .int .u32 n, .int .i64 c] w fun e w' => e = .returned (.int .i64 1) ∧ w = w' := by
  go_enter Try.func22, Try.ntmps22
  go_wp2_with (go_at_call 46; refine (rput_yes _ _ _ hn h).mono ?_; rintro e w' ⟨rfl, rfl⟩)
  go_ret
  exact ⟨rfl, rfl⟩

set_option maxHeartbeats 400000 in
theorem rCode_right (w : World) (S : List Nat) (p : Nat) (l : List Bool) (n : Nat) (c : Nat) (hn : n < 4294967296) (h : wrongB n c = false) (hl : l.length ≤ 100000000000) (hw : RWr w S p l) :
    Calls Try.prog 22 #[.pointer (some ⟨p, 0, none⟩), .int .u32 n, .int .i64 c] w fun e w' => e = .returned (.int .i64 0) ∧ ∃ S', RWr w' S' p (l ++ highBits n c) ∧ Upd S S' w w' := by
  have hc : c ≤ 24 := by simp [wrongB] at h; omega
  go_enter Try.func22, Try.ntmps22
  go_wp2_with (go_at_call 46; refine (rput_no _ _ _ hn h).mono ?_; rintro e w' ⟨rfl, rfl⟩)
  have H := Lib.hid h; clear h
  go_loopw [7] (fun i wr => ∃ k : Nat, k ≤ c ∧ i = .int .i64 ((c : Int) - 1 - k) ∧ ∃ S', RWr wr S' p (l ++ codeBits n c k) ∧ Upd S S' w wr) (fun i _ => (intOf i + 1).toNat)
  case atStart => exact ⟨0, Nat.zero_le _, by go_num, S, by simpa [codeBits] using hw, Upd.refl _ _⟩
  case round =>
    obtain ⟨k, hk, rfl, S1, hw1, hu1⟩ := hrel
    by_cases hlt : k < c
    · obtain ⟨v, hp, hown, rfl⟩ := hw1
      have hl1 : (l ++ codeBits n c k).length ≤ 100000000100 := by simp [codeBits_length]; omega
      generalize hm : (l ++ codeBits n c k).length = m at *
      have HM := Lib.hid hm; clear hm
      have e1 : ((c : Int) - 1 - k) = ((c - 1 - k : Nat) : Int) := by omega
      rw [e1]
      clear e1
      generalize hj : c - 1 - k = j at *
      have HJ := Lib.hid hj; clear hj
      have hj24 : j ≤ 24 := by have := HJ.out; omega
      obtain ⟨c0, f0⟩ := hp.c1
      go_wp2_with (at_builtin; refine wpList_push rfl _ _ 31 rfl sl_u8 hown rfl rfl rfl (by omega) (by omega) ?_; intro g cap w1 ho1 hc1 hg1 hcap hgl; rw [natdiv_cast, bitByte_cell _ (Nat.lt_of_le_of_lt (Nat.div_le_self _ _) hn), testBit_div] at ho1; have hp1 := (hp.chg hc1 (hown.ne hp (by decide))).c1)
      go_roundw
      case rel =>
        obtain ⟨S2, h1, h2⟩ := RWr.push hp hown HM.out ho1 hc1 hg1
        rw [List.append_assoc, ← HJ.out, ← codeBits_succ] at h1
        exact ⟨k + 1, by omega, by have := HJ.out; go_num, S2, h1, hu1.trans h2⟩
      case measure => simp [intOf]
    · go_wp2
      go_ret
      have : k = c := by omega
      subst this
      rw [codeBits_all] at hw1
      exact ⟨rfl, S1, hw1, hu1⟩

theorem aligned_snoc (l : List Bool) (h : l.length % 8 ≠ 0) : aligned (l ++ [false]) = aligned l := by
  unfold aligned
  have e : 8 * ((l.length + 7) / 8) - l.length = 1 + (8 * (((l ++ [false]).length + 7) / 8) - (l ++ [false]).length) := by simp; omega
  rw [e, Nat.add_comm 1, List.replicate_succ]
  simp
theorem aligned_of (l : List Bool) (h : l.length % 8 = 0) : aligned l = l := by
  unfold aligned
  have e : 8 * ((l.length + 7) / 8) - l.length = 0 := by omega
  rw [e]; simp

set_option maxHeartbeats 400000 in
theorem rAlign_any (w : World) (S : List Nat) (p : Nat) (l : List Bool) (hlb : l.length ≤ 1000000000) (hw : RWr w S p l) :
    Calls Try.prog 24 #[.pointer (some ⟨p, 0, none⟩)] w fun e w' => e = .returned (.tuple #[]) ∧ ∃ S', RWr w' S' p (aligned l) ∧ Upd S S' w w' := by
  go_enter Try.func24, Try.ntmps24
  go_wp2_with fail
  go_loopg [] 8 (fun k wr => ∃ l1, l1.length ≤ 2000000000 ∧ aligned l1 = aligned l ∧ 8 * ((l1.length + 7) / 8) - l1.length ≤ k ∧ ∃ S', RWr wr S' p l1 ∧ Upd S S' w wr)
  case atStart => exact ⟨l, by omega, rfl, by omega, S, hw, Upd.refl _ _⟩
  case round =>
    obtain ⟨l1, hl1, ha, hm, S1, hw1, hu1⟩ := hrel
    have HA := Lib.hid ha; clear ha
    have HW1 := Lib.hid hw1
    obtain ⟨v, hp, hown, rfl⟩ := hw1
    obtain ⟨n, HN⟩ : ∃ n, Hid (l1.length = n) := ⟨_, rfl⟩
    rw [HN.out] at hown hl1 hm
    obtain ⟨c0, f0⟩ := hp.c1
    obtain ⟨ao, cap, rfl, hcap, hno⟩ := hown.sees.shape
    have HNO := Lib.hid hno; clear hno
    by_cases hz : n % 8 = 0
    · have ht : ((n : Int) % 8 != 0) = false := by simp; omega
      go_wp2_with fail
      go_end0
      have h2 := HW1.out
      have h3 : aligned l1 = l1 := aligned_of l1 (by rw [HN.out]; exact hz)
      rw [← HA.out, h3]
      exact ⟨rfl, _, h2, hu1⟩
    · have ht : ((n : Int) % 8 != 0) = true := by simp; omega
      go_wp2_with (at_builtin; refine wpList_push rfl _ _ 31 rfl sl_u8 hown rfl rfl rfl (by omega) (by omega) ?_; intro g cap1 w1 ho1 hc1 hg1 hcap1 hgl; have hp1 := (hp.chg hc1 (hown.ne hp (by decide))).c1)
      go_roundg (gk - 1)
      case measure => omega
      case rel =>
        obtain ⟨S2, h1, h2⟩ := RWr.push (b := false) hp hown HN.out ho1 hc1 hg1
        refine ⟨l1 ++ [false], ?_, ?_, ?_, S2, h1, hu1.trans h2⟩
        · simp [HN.out]; omega
        · rw [aligned_snoc l1 (by rw [HN.out]; exact hz)]; exact HA.out
        · simp [HN.out]; omega
set_option maxHeartbeats 400000 in
theorem rBits_any (w : World) (S : List Nat) (p : Nat) (l : List Bool) (hw : RWr w S p l) :
    Calls Try.prog 25 #[.pointer (some ⟨p, 0, none⟩)] w fun e w' => e = .returned (.int .i64 l.length) ∧ w = w' := by
  obtain ⟨v, hp, hown, rfl⟩ := hw
  generalize hl : l.length = n at *
  have HL := Lib.hid hl; clear hl
  obtain ⟨c0, f0⟩ := hp.c1
  obtain ⟨ao, cap, rfl, hcap, hno⟩ := hown.sees.shape
  have HNO := Lib.hid hno; clear hno
  go_enter Try.func25, Try.ntmps25
  go_wp2
  go_ret
  exact ⟨rfl, rfl⟩

theorem bit_or (b : Bool) (a k : Nat) (hk : k < 8) (ha : a < 2 ^ k) :
    (bits BinOp.or IntKind.u8 (a : Int) (((bitByte b).toNat : Int) * 2 ^ k % 256)) = ((UInt8.ofNat (a + 2 ^ k * b.toNat)).toNat : Int) := by
  have h8 : 2 ^ k ≤ 2 ^ 7 := Nat.pow_le_pow_right (by decide) (by omega)
  have e : (bitByte b).toNat = b.toNat := by cases b <;> rfl
  rw [e]
  have hb1 : b.toNat ≤ 1 := by cases b <;> simp
  have hb : b.toNat * 2 ^ k < 256 := by
    have : b.toNat * 2 ^ k ≤ 1 * 2 ^ k := Nat.mul_le_mul_right _ hb1
    omega
  have h : (((b.toNat : Nat) : Int) * 2 ^ k % 256) = ((b.toNat * 2 ^ k : Nat) : Int) := by
    have h2 : (((b.toNat : Nat) : Int)) * 2 ^ k = ((b.toNat * 2 ^ k : Nat) : Int) := by simp
    rw [h2]; omega
  rw [h, u8orN a _ (by omega) hb, or_shift a b.toNat k ha]
  have hs : a + 2 ^ k * b.toNat < 2 ^ (k + 1) := by
    rw [Nat.pow_succ]
    have : 2 ^ k * b.toNat ≤ 2 ^ k * 1 := Nat.mul_le_mul_left _ hb1
    omega
  have hs2 : 2 ^ (k + 1) ≤ 2 ^ 8 := Nat.pow_le_pow_right (by decide) (by omega)
  have : (UInt8.ofNat (a + 2 ^ k * b.toNat)).toNat = a + 2 ^ k * b.toNat := by rw [UInt8.toNat_ofNat']; exact Nat.mod_eq_of_lt (Nat.lt_of_lt_of_le hs hs2)
  rw [this]

set_option maxHeartbeats 400000 in
theorem rBytes_any (w : World) (S : List Nat) (p : Nat) (l : List Bool) (hlb : l.length ≤ 1000000000) (hw : RWr w S p l) :
    Calls Try.prog 26 #[.pointer (some ⟨p, 0, none⟩)] w fun e w' => ∃ v', e = .returned v' ∧ Own w' 5 1 v' (pack l).length (Bs (pack l)) ∧ Chg [] w w' ∧ ∀ k ∈ v'.ownBlock.toList, w.heap.size ≤ k := by
  have hw0 := hw
  have HW0 := Lib.hid hw; clear hw
  obtain ⟨v, hp, hown, rfl⟩ := hw0
  obtain ⟨n, HN⟩ : ∃ n, Hid (l.length = n) := ⟨_, rfl⟩
  rw [HN.out] at hown hlb
  obtain ⟨c0, f0⟩ := hp.c1
  obtain ⟨ao, cap, rfl, hcap, hno⟩ := hown.sees.shape
  have HNO := Lib.hid hno; clear hno
  go_enter Try.func26, Try.ntmps26
  go_wp2_with (at_make; refine wpList_mk rfl _ _ 31 rfl sl_u8 rfl .i64 .i64 ((n + 7) / 8) rfl rfl (by omega) (by omega) (by omega) (by omega) ?_; intro w1 ho1 hc1 hs1)
  obtain ⟨g, hg⟩ : ∃ g, w.heap.size = g := ⟨_, rfl⟩
  rw [hg] at ho1 hs1
  rw [hg]
  have HG := Lib.hid hg; clear hg
  go_loopg [4] n (fun k i wr => ∃ j, j + k = n ∧ i = .int .i64 j ∧ Own wr 5 1 (.slice (some ⟨g, 0, none⟩) ((n + 7) / 8) ((n + 7) / 8)) ((n + 7) / 8) (Bs (packN ((n + 7) / 8) (l.take j))) ∧ Chg [g] w1 wr)
  case atStart => exact ⟨0, by omega, rfl, by rw [List.take_zero, packN_nil]; simpa [Bs, Bc] using ho1, Chg.refl _ _⟩
  case round =>
    obtain ⟨j, hj, rfl, ho2, hc2⟩ := hrel
    have hpg : p ≠ g := by have := hp.lt; have := HG.out; omega
    have hpr := (hp.chg0 hc1).chg hc2 (by simpa using hpg)
    obtain ⟨d0, -⟩ := hpr.c1
    have HJ := Lib.hid hj
    by_cases hlt : j < n
    · obtain ⟨g0, cap', hv, -, -, hg0⟩ := hown.pos (by omega)
      simp only [Value.slice.injEq, true_and] at hv
      obtain ⟨rfl, rfl⟩ := hv
      have hgg : g0 ≠ g := by have := HG.out; omega
      have hlj : j < l.length := by have := HN.out; omega
      have hor := (hown.chg hc1 (fun _ _ => by simp)).chg hc2 (by intro k hk; simp [Value.ownBlock] at hk ⊢; omega)
      have x0 : wr.cell? ⟨g0, j, none⟩ = some (.int .u8 (bitByte (l[j]'hlj)).toNat) := by
        rw [hor.cellAt j (by omega), Bs_get _ _ (by simpa using hlj)]; simp
      have htl : (l.take j).length = j := by simp; omega
      have x1 : wr.cell? ⟨g, j / 8, none⟩ = some (.int .u8 ((bval ((l.take j).drop (8 * (j / 8))) : Nat) : Int)) := by
        rw [ho2.cellAt (j / 8) (by omega), Bs_get _ _ (by rw [packN_length]; omega)]
        have e := packN_get ((n + 7) / 8) (l.take j) (by rw [htl]; omega)
        simp only [htl] at e
        rw [e, UInt8.toNat_ofNat', Nat.mod_eq_of_lt (bval_lt8 _ (by simp; omega))]
      have x2 : wr.frozen? ⟨g, j / 8, none⟩ = false := ho2.frozenAt _
      have hb8 := bval_lt ((l.take j).drop (8 * (j / 8)))
      rw [List.length_drop, htl, show j - 8 * (j / 8) = j % 8 by omega] at hb8
      have HPS := Lib.hid (packN_snoc ((n + 7) / 8) (l.take j) (l[j]'hlj))
      have HT := Lib.hid htl; clear htl
      have HB := Lib.hid hb8; clear hb8
      go_wp2
      go_region
      go_wp2
      go_roundg (gk - 1)
      case measure => omega
      case rel =>
        refine ⟨j + 1, by omega, by go_num, ?_, (Chg.setCell hc2 (by simp) _).drew⟩
        rw [bit_or _ _ _ (by omega) HB.out]
        have h1 := ho2.set (j / 8) (.int .u8 ((UInt8.ofNat (bval (List.drop (8 * (j / 8)) (List.take j l)) + 2 ^ (j % 8) * (l[j]'hlj).toNat)).toNat : Int))
        rw [Bs_set] at h1
        have h2 := HPS.out
        rw [HT.out] at h2
        rw [← h2, ← List.take_succ_eq_append_getElem hlj] at h1
        exact h1
    · have hj' : j = n := by omega
      go_wp2
      go_ret
      refine ⟨_, rfl, ?_, hc1.trans hc2 (by simp; have := HG.out; omega), by simp [Value.ownBlock]; have := HG.out; omega⟩
      rw [pack_length, HN.out, pack_eq, HN.out]
      rw [List.take_of_length_le (by have := HN.out; omega)] at ho2
      exact ho2
end Go.Proofs.Ytoacegccpajkoaa
