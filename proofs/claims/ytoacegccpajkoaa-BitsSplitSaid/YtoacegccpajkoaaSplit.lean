/- BitsSplit: so many bits put at once are they put in two parts; a code is its bits turned round: the law's function returns true at all arguments. -/
import Derived.Test.YtoacegccpajkoaaLaw4
namespace Go.Proofs.Ytoacegccpajkoaa
open Go.RowKit Go.Aq

theorem lowBits_split (n c k : Nat) (h : k ≤ c) : lowBits (n % 2 ^ k) k ++ lowBits (n / 2 ^ k) (c - k) = lowBits n c := by
  apply List.ext_getElem
  · simp [lowBits]; omega
  · intro i h1 h2
    simp [lowBits] at h2
    rw [List.getElem_append]
    split
    · rename_i hi
      simp [lowBits] at hi
      simp [lowBits, Nat.testBit_mod_two_pow, hi]
    · rename_i hi
      simp [lowBits] at hi
      simp [lowBits, Nat.testBit_div_two_pow, Nat.sub_add_cancel hi]
theorem mask_and (n k : Nat) (hn : n < 4294967296) (hk : k ≤ 24) : bits .and .u32 (n : Int) ((2 ^ k - 1) % 4294967296) = ((n % 2 ^ k : Nat) : Int) := by
  have h1 : 2 ^ k ≤ 2 ^ 24 := Nat.pow_le_pow_right (by decide) hk
  have h0 : 0 < 2 ^ k := Nat.two_pow_pos k
  have e : ((2 : Int) ^ k - 1) = ((2 ^ k - 1 : Nat) : Int) := by rw [Int.natCast_sub h0]; simp
  rw [e, show (((2 ^ k - 1 : Nat) : Int) % 4294967296) = ((2 ^ k - 1 : Nat) : Int) by omega, u32andN n _ hn (by omega), Nat.and_two_pow_sub_one_eq_mod]

/-- The law's premise. -/
def splitB (n : Nat) (count cut : Int) : Bool := decide (0 ≤ count ∧ count ≤ 24 ∧ 0 ≤ cut ∧ cut ≤ count ∧ n / 2 ^ count.toNat = 0)

set_option maxHeartbeats 1000000 in
theorem split_out (n : Nat) (count cut : Int) (w : World) (h : splitB n count cut = false) :
    Calls Try.prog 3 #[.int .u32 n, .int .i64 count, .int .i64 cut] w fun e w' => e = .returned (.bool true) ∧ Chg [] w w' := by
  have hd : count < 0 ∨ (0 ≤ count ∧ 24 < count) ∨ (0 ≤ count ∧ count ≤ 24 ∧ cut < 0) ∨ (0 ≤ count ∧ count ≤ 24 ∧ 0 ≤ cut ∧ count < cut) ∨ (0 ≤ count ∧ count ≤ 24 ∧ 0 ≤ cut ∧ cut ≤ count ∧ ¬ n / 2 ^ count.toNat = 0) := by
    simp only [splitB, decide_eq_false_iff_not] at h; omega
  clear h
  rcases hd with h1 | ⟨h1, h2⟩ | ⟨h1, h2, h3⟩ | ⟨h1, h2, h3, h4⟩ | ⟨h1, h2, h3, h4, h5⟩
  rotate_right 1
  · obtain ⟨k, rfl⟩ := Int.eq_ofNat_of_zero_le h1
    have t : (((n : Int) / 2 ^ k) != 0) = true := by rw [natdiv_cast, bne_iff_ne]; simp only [Int.toNat_natCast] at h5; omega
    clear h5
    go_enter Try.func3, Try.ntmps3
    go_wp2_with fail
    refine (first4 _).mono ?_
    rintro e w1 ⟨rfl, c1⟩
    go_wp2_with fail
    refine (first4 _).mono ?_
    rintro e w2 ⟨rfl, c2⟩
    go_wp2_with fail
    go_ret
    exact ⟨rfl, c1.nil c2⟩
  all_goals
    go_enter Try.func3, Try.ntmps3
    go_wp2_with fail
    refine (first4 _).mono ?_
    rintro e w1 ⟨rfl, c1⟩
    go_wp2_with fail
    refine (first4 _).mono ?_
    rintro e w2 ⟨rfl, c2⟩
    go_wp2_with fail
    go_ret
    exact ⟨rfl, c1.nil c2⟩

set_option maxHeartbeats 2000000 in
theorem split_in (n count cut : Nat) (w : World) (hc : count ≤ 24) (hk : cut ≤ count) (hn : n < 2 ^ count) :
    Calls Try.prog 3 #[.int .u32 n, .int .i64 count, .int .i64 cut] w fun e w' => e = .returned (.bool true) ∧ Chg [] w w' := by
  have hp24 : 2 ^ count ≤ 2 ^ 24 := Nat.pow_le_pow_right (by decide) hc
  have hn' : n < 4294967296 := by omega
  have hdiv : n / 2 ^ count = 0 := Nat.div_eq_of_lt hn
  have wr1 : wrongB n count = false := by simp [wrongB, hdiv]; omega
  have wr2 : wrongB (n % 2 ^ cut) cut = false := by
    have : n % 2 ^ cut / 2 ^ cut = 0 := Nat.div_eq_of_lt (Nat.mod_lt _ (Nat.two_pow_pos _))
    simp [wrongB, this]; omega
  have wr3 : wrongB (n / 2 ^ cut) (count - cut : Nat) = false := by
    have : n / 2 ^ cut / 2 ^ (count - cut) = 0 := by rw [Nat.div_div_eq_div_mul, ← Nat.pow_add, Nat.add_sub_cancel' hk]; exact hdiv
    simp [wrongB, this]; omega
  have wr4 : ∀ i, wrongB (n / 2 ^ i % 2) (1 : Nat) = false := fun i => by
    have : n / 2 ^ i % 2 / 2 = 0 := by omega
    simp [wrongB, this]
  have t : (((n : Int) / 2 ^ count) != 0) = false := by rw [natdiv_cast, hdiv]; rfl
  have W1 := Lib.hid wr1; clear wr1
  have W2 := Lib.hid wr2; clear wr2
  have W3 := Lib.hid wr3; clear wr3
  have W4 := Lib.hid wr4; clear wr4
  have HD := Lib.hid hdiv; clear hdiv
  go_enter Try.func3, Try.ntmps3
  go_wp2_with fail
  refine (first4 _).mono ?_
  rintro e w0 ⟨rfl, c0⟩
  go_wp2_with fail
  refine (newWriter_any _).mono ?_
  rintro e wa ⟨a, rfl, ha, ca, la⟩
  go_wp2_with fail
  refine (newWriter_any _).mono ?_
  rintro e wb ⟨b, rfl, hb, cb, lb⟩
  go_wp2_with fail
  refine (newWriter_any _).mono ?_
  rintro e wc ⟨c, rfl, hcc, cc, lc⟩
  go_wp2_with fail
  refine (newWriter_any _).mono ?_
  rintro e wd ⟨d, rfl, hd, cd, ld⟩
  have la' := ha.lt a (by simp)
  have lb' := hb.lt b (by simp)
  have lc' := hcc.lt c (by simp)
  have sz0 := c0.size
  have sza := ca.size
  have szb := cb.size
  have szc := cc.size
  have szd := cd.size
  replace ha := ((ha.chg cb (fun _ _ => by simp)).chg cc (fun _ _ => by simp)).chg cd (fun _ _ => by simp)
  replace hb := (hb.chg cc (fun _ _ => by simp)).chg cd (fun _ _ => by simp)
  replace hcc := hcc.chg cd (fun _ _ => by simp)
  have ca' : Chg [] w wd := (((c0.nil ca).nil cb).nil cc).nil cd
  have dba : Disj [b] [a] := fun k hk => by simp at hk ⊢; omega
  have dca : Disj [c] [a] := fun k hk => by simp at hk ⊢; omega
  have dda : Disj [d] [a] := fun k hk => by simp at hk ⊢; omega
  have dcb : Disj [c] [b] := fun k hk => by simp at hk ⊢; omega
  have ddb : Disj [d] [b] := fun k hk => by simp at hk ⊢; omega
  have ddc : Disj [d] [c] := fun k hk => by simp at hk ⊢; omega
  go_wp2_with fail
  refine (put_right _ _ _ _ n count hn' W1.out (by simp) ha).mono ?_
  rintro e w1 ⟨rfl, Sa, ha1, ua⟩
  have hb1 := hb.chg ua.chg dba
  have hc1 := hcc.chg ua.chg dca
  have hd1 := hd.chg ua.chg dda
  have dba1 := dba.upd ua hb.lt
  have dca1 := dca.upd ua hcc.lt
  have dda1 := dda.upd ua hd.lt
  have C1 := ca'.trans ua.chg (T := [a]) (by simp; omega)
  go_wp2_with fail
  rw [mask_and n cut hn' (by omega)]
  refine (put_right _ _ _ _ (n % 2 ^ cut) cut (Nat.lt_of_le_of_lt (Nat.mod_le _ _) hn') W2.out (by simp) hb1).mono ?_
  rintro e w2 ⟨rfl, Sb, hb2, ub⟩
  have ha2 := ha1.chg ub.chg dba1.symm
  have hc2 := hc1.chg ub.chg dcb
  have hd2 := hd1.chg ub.chg ddb
  have dab2 := dba1.symm.upd ub ha1.lt
  have dcb2 := dcb.upd ub hc1.lt
  have ddb2 := ddb.upd ub hd1.lt
  have C2 := C1.trans ub.chg (T := [b]) (by simp; omega)
  go_wp2_with fail
  rw [natdiv_cast, show ((count : Int) - (cut : Int)) = ((count - cut : Nat) : Int) by omega]
  refine (put_right _ _ _ _ (n / 2 ^ cut) (count - cut) (Nat.lt_of_le_of_lt (Nat.div_le_self _ _) hn') W3.out (by simp [lowBits_length]; omega) hb2).mono ?_
  rintro e w3 ⟨rfl, Sb', hb3, ub'⟩
  have ha3 := ha2.chg ub'.chg dab2
  have hc3 := hc2.chg ub'.chg dcb2
  have hd3 := hd2.chg ub'.chg ddb2
  have dab3 := dab2.upd ub' ha2.lt
  have dcb3 := dcb2.upd ub' hc2.lt
  have ddb3 := ddb2.upd ub' hd2.lt
  have bb := ub.above C1.size (by simp; omega)
  have C3 := C2.trans ub'.chg fun i hi => .inr (bb i hi)
  rw [List.append_assoc, lowBits_split n count cut hk, List.nil_append] at hb3
  rw [List.nil_append] at ha3
  go_wp2_with fail
  refine (code_right _ _ _ _ n count hn' W1.out (by simp) hc3).mono ?_
  rintro e w4 ⟨rfl, Sc, hc4, uc⟩
  have ha4 := ha3.chg uc.chg dca1.symm
  have hb4 := hb3.chg uc.chg dcb3.symm
  have hd4 := hd3.chg uc.chg ddc
  have dac4 := dca1.symm.upd uc ha3.lt
  have dbc4 := dcb3.symm.upd uc hb3.lt
  have ddc4 := ddc.upd uc hd3.lt
  have C4 := C3.trans uc.chg (T := [c]) (by simp; omega)
  rw [List.nil_append] at hc4
  have dd0 : w.heap.size ≤ d := by omega
  clear dab2 dcb2 ddb2 dba dca dda dcb ddb ddc dba1 hb1 hc1 hd1 ha1 ha2 hc2 hd2 hb2 ha3 hb3 hc3 hd3 ha hb hcc hd
  clear ca cb cc cd la lb lc la' lb' lc' sz0 sza szb szc szd ca' C1 C2 C3 ua ub ub' uc t ld
  go_wp2_with fail
  go_loopw [15] (fun i wr => ∃ k : Nat, k ≤ count ∧ i = .int .i64 ((count : Int) - 1 - k) ∧ ∃ S, Wr wr S d (codeBits n count k) ∧ Upd [d] S w4 wr) (fun i _ => (intOf i + 1).toNat)
  case atStart => exact ⟨0, Nat.zero_le _, by go_num, [d], by simpa [codeBits] using hd4, Upd.refl _ _⟩
  case round =>
    obtain ⟨k, hk, rfl, S1, hw1, hu1⟩ := hrel
    by_cases hlt : k < count
    · have e1 : ((count : Int) - 1 - k) = ((count - 1 - k : Nat) : Int) := by omega
      rw [e1]
      clear e1
      generalize hj : count - 1 - k = j at *
      have HJ := Lib.hid hj; clear hj
      have hj24 : j ≤ 24 := by have := HJ.out; omega
      go_wp2_with fail
      rw [natdiv_cast, u32and1N _ (Nat.lt_of_le_of_lt (Nat.div_le_self _ _) hn')]
      refine (put_right wr S1 d _ (n / 2 ^ j % 2) 1 (by omega) (W4.out j) (by simp [codeBits_length]; omega) hw1).mono ?_
      rintro e w5 ⟨rfl, S2, hw2, hu2⟩
      have e2 : lowBits (n / 2 ^ j % 2) 1 = [n.testBit (count - 1 - k)] := by
        rw [HJ.out, ← testBit_div]
        simp [lowBits]
      rw [e2, ← codeBits_succ] at hw2
      clear e2
      go_wp2_with fail
      go_roundw
      case rel => exact ⟨k + 1, by omega, by rw [← HJ.out]; go_num, S2, hw2, hu1.trans hu2⟩
      case measure => simp [intOf]
    · obtain rfl : k = count := by omega
      rw [codeBits_all] at hw1
      have ha5 := ha4.chg hu1.chg dda1.symm
      have hb5 := hb4.chg hu1.chg ddb3.symm
      have hc5 := hc4.chg hu1.chg ddc4.symm
      have C5 := C4.trans hu1.chg (T := [d]) (by simp; omega)
      clear hc4 ha4 hb4 hd4 dac4 dbc4 ddc4 dda1 dca1 dab3 dcb3 ddb3 hu1 C4
      go_wp2_with fail
      refine (first4 _).mono ?_
      rintro e w6 ⟨rfl, c6⟩
      replace ha5 := ha5.chg c6 (fun _ _ => by simp)
      replace hb5 := hb5.chg c6 (fun _ _ => by simp)
      replace hc5 := hc5.chg c6 (fun _ _ => by simp)
      replace hw1 := hw1.chg c6 (fun _ _ => by simp)
      have C6 := C5.nil c6
      go_wp2_with fail
      refine (bits_any _ _ _ _ ha5).mono ?_
      rintro e w7 ⟨rfl, rfl⟩
      rw [lowBits_length]
      go_wp2_with fail
      refine (bits_any _ _ _ _ hb5).mono ?_
      rintro e w7 ⟨rfl, rfl⟩
      rw [lowBits_length]
      go_wp2_with fail
      refine (bytes_any _ _ _ _ (by rw [lowBits_length]; omega) ha5).mono ?_
      rintro e w7 ⟨v7, rfl, o7, c7, -⟩
      replace hb5 := hb5.chg c7 (fun _ _ => by simp)
      replace hc5 := hc5.chg c7 (fun _ _ => by simp)
      replace hw1 := hw1.chg c7 (fun _ _ => by simp)
      have C7 := C6.nil c7
      go_wp2_with fail
      refine (bytes_any _ _ _ _ (by rw [lowBits_length]; omega) hb5).mono ?_
      rintro e w8 ⟨v8, rfl, o8, c8, -⟩
      have o7' := o7.sees.chg0 c8
      replace hc5 := hc5.chg c8 (fun _ _ => by simp)
      replace hw1 := hw1.chg c8 (fun _ _ => by simp)
      have C8 := C7.nil c8
      go_wp2_with fail
      refine (same_yes _ _ _ _ _ _ _ o7' o8.sees rfl).mono ?_
      rintro e w9 ⟨rfl, rfl⟩
      go_wp2_with fail
      refine (bytes_any _ _ _ _ (by simp [highBits, lowBits_length]; omega) hc5).mono ?_
      rintro e w9 ⟨v9, rfl, o9, c9, -⟩
      replace hw1 := hw1.chg c9 (fun _ _ => by simp)
      have C9 := C8.nil c9
      go_wp2_with fail
      refine (bytes_any _ _ _ _ (by simp [highBits, lowBits_length]; omega) hw1).mono ?_
      rintro e w10 ⟨v10, rfl, o10, c10, -⟩
      have o9' := o9.sees.chg0 c10
      have C10 := C9.nil c10
      go_wp2_with fail
      refine (same_yes _ _ _ _ _ _ _ o9' o10.sees rfl).mono ?_
      rintro e w9 ⟨rfl, rfl⟩
      go_wp2_with fail
      go_ret
      exact ⟨rfl, C10⟩

theorem splitTop (a0 : Int) (b0 : 0 ≤ a0 ∧ a0 ≤ 4294967295) (a1 : Int) (_ : -9223372036854775808 ≤ a1 ∧ a1 ≤ 9223372036854775807) (a2 : Int) (_ : -9223372036854775808 ≤ a2 ∧ a2 ≤ 9223372036854775807) (w : World) :
    Calls Try.prog 3 #[.int .u32 a0, .int .i64 a1, .int .i64 a2] w fun e w' => e = .returned (.bool true) ∧ Chg [] w w' := by
  obtain ⟨n, rfl⟩ := Int.eq_ofNat_of_zero_le b0.1
  by_cases h : splitB n a1 a2 = true
  · simp only [splitB, decide_eq_true_eq] at h
    obtain ⟨h1, h2, h3, h4, h5⟩ := h
    obtain ⟨count, rfl⟩ := Int.eq_ofNat_of_zero_le h1
    obtain ⟨cut, rfl⟩ := Int.eq_ofNat_of_zero_le h3
    refine split_in n count cut w (by omega) (by omega) ?_
    rw [Int.toNat_natCast] at h5
    exact Nat.lt_of_div_eq_zero (Nat.two_pow_pos _) h5
  · exact split_out n a1 a2 w (by simpa using h)
end Go.Proofs.Ytoacegccpajkoaa
