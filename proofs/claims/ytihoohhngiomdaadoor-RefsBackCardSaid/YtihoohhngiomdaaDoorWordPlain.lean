/- Text as signs (UTF-8), names, quotes, in plain Lean. No statement of the seat is proved here. -/
import Derived.Lib.DecodeN
namespace Go.Aq.Wd
/-- The sign at the head of bytes and how many bytes it has; (65533, 1) where none begins. -/
def dec (l : List UInt8) : Nat × Nat := Lib.decodeN l.length (l.getD 0 0).toNat (l.getD 1 0).toNat (l.getD 2 0).toNat (l.getD 3 0).toNat
def bad (d : Nat × Nat) : Bool := d.1 == 65533 && d.2 == 1
def okR (c : Nat) : Prop := c < 55296 ∨ (57344 ≤ c ∧ c ≤ 1114111)
instance (c : Nat) : Decidable (okR c) := inferInstanceAs (Decidable (_ ∨ _))
/-- A sign's bytes. -/
def enc1 (c : Nat) : List UInt8 :=
  if c < 128 then [UInt8.ofNat c]
  else if c < 2048 then [UInt8.ofNat (192 + c / 64), UInt8.ofNat (128 + c % 64)]
  else if c < 65536 then [UInt8.ofNat (224 + c / 4096), UInt8.ofNat (128 + c / 64 % 64), UInt8.ofNat (128 + c % 64)]
  else [UInt8.ofNat (240 + c / 262144), UInt8.ofNat (128 + c / 4096 % 64), UInt8.ofNat (128 + c / 64 % 64), UInt8.ofNat (128 + c % 64)]
theorem enc1_len (c : Nat) : 1 ≤ (enc1 c).length ∧ (enc1 c).length ≤ 4 := by
  unfold enc1; repeat' split
  all_goals simp
theorem u8n (n : Nat) (h : n < 256) : (UInt8.ofNat n).toNat = n := by rw [UInt8.toNat_ofNat']; exact Nat.mod_eq_of_lt h
theorem u8e (x : UInt8) (n : Nat) (h : x.toNat = n) : UInt8.ofNat n = x := by subst h; simp
theorem dec_enc (c : Nat) (h : okR c) (t : List UInt8) : dec (enc1 c ++ t) = (c, (enc1 c).length) := by
  unfold okR at h
  unfold dec enc1
  by_cases h1 : c < 128
  · simp only [if_pos h1, List.cons_append, List.nil_append, List.getD_cons_zero, List.length_cons, List.length_nil]
    rw [u8n c (by omega)]
    simp [Lib.decodeN, h1]
  · by_cases h2 : c < 2048
    · simp only [if_neg h1, if_pos h2, List.cons_append, List.nil_append, List.getD_cons_zero, List.getD_cons_succ, List.length_cons, List.length_nil]
      rw [u8n (192 + c / 64) (by omega), u8n (128 + c % 64) (by omega)]
      unfold Lib.decodeN
      rw [if_neg (by omega), if_pos (by omega), if_pos (by omega)]
      ext
      · show (192 + c / 64) % 32 * 64 + (128 + c % 64) % 64 = c
        omega
      · rfl
    · by_cases h3 : c < 65536
      · simp only [if_neg h1, if_neg h2, if_pos h3, List.cons_append, List.nil_append, List.getD_cons_zero, List.getD_cons_succ, List.length_cons, List.length_nil]
        rw [u8n (224 + c / 4096) (by omega), u8n (128 + c / 64 % 64) (by omega), u8n (128 + c % 64) (by omega)]
        unfold Lib.decodeN
        rw [if_neg (by omega), if_neg (by omega), if_pos (by omega), if_pos (by omega)]
        ext
        · show (224 + c / 4096) % 16 * 4096 + (128 + c / 64 % 64) % 64 * 64 + (128 + c % 64) % 64 = c
          omega
        · rfl
      · simp only [if_neg h1, if_neg h2, if_neg h3, List.cons_append, List.nil_append, List.getD_cons_zero, List.getD_cons_succ, List.length_cons, List.length_nil]
        rw [u8n (240 + c / 262144) (by omega), u8n (128 + c / 4096 % 64) (by omega), u8n (128 + c / 64 % 64) (by omega), u8n (128 + c % 64) (by omega)]
        unfold Lib.decodeN
        rw [if_neg (by omega), if_neg (by omega), if_neg (by omega), if_pos (by omega), if_pos (by omega)]
        ext
        · show (240 + c / 262144) % 8 * 262144 + (128 + c / 4096 % 64) % 64 * 4096 + (128 + c / 64 % 64) % 64 * 64 + (128 + c % 64) % 64 = c
          omega
        · rfl
theorem bad_iff (d : Nat × Nat) : bad d = true ↔ d = (65533, 1) := by
  obtain ⟨a, b⟩ := d; simp [bad]
theorem not_bad (c n : Nat) (h : ¬ (c = 65533 ∧ n = 1)) : bad (c, n) = false := by
  cases hb : bad (c, n) with
  | false => rfl
  | true => rw [bad_iff] at hb; simp only [Prod.mk.injEq] at hb; exact absurd hb h
theorem dec_good (l : List UInt8) (h : l ≠ []) (hb : bad (dec l) = false) :
    okR (dec l).1 ∧ (dec l).2 = (enc1 (dec l).1).length ∧ l = enc1 (dec l).1 ++ l.drop (dec l).2 := by
  obtain ⟨x0, t0, rfl⟩ : ∃ x t, l = x :: t := by cases l; (exact absurd rfl h); exact ⟨_, _, rfl⟩
  have b0 := x0.toNat_lt
  unfold dec at hb ⊢
  simp only [List.getD_cons_zero, List.getD_cons_succ, List.length_cons] at hb ⊢
  unfold Lib.decodeN at hb ⊢
  by_cases h1 : x0.toNat < 128
  · simp only [if_pos h1] at hb ⊢
    refine ⟨.inl (by omega), by simp [enc1, h1], ?_⟩
    simp [enc1, h1]
  · simp only [if_neg h1] at hb ⊢
    split at hb
    · rename_i h2
      rw [if_pos h2]
      obtain ⟨x1, t1, rfl⟩ : ∃ x t, t0 = x :: t := by cases t0; (simp at h2); exact ⟨_, _, rfl⟩
      have b1 := x1.toNat_lt
      simp only [List.getD_cons_zero, List.length_cons] at hb h2 ⊢
      split at hb
      · rename_i h3
        rw [if_pos h3]
        have hc : x0.toNat % 32 * 64 + x1.toNat % 64 < 2048 := by omega
        have e : enc1 (x0.toNat % 32 * 64 + x1.toNat % 64) = [x0, x1] := by
          unfold enc1
          rw [if_neg (by omega), if_pos hc, u8e x0 _ (by omega), u8e x1 _ (by omega)]
        refine ⟨.inl (by omega), by simp only [e]; rfl, by simp only [e]; rfl⟩
      · simp [bad] at hb
    · rename_i h2
      rw [if_neg h2]
      split at hb
      · rename_i h3
        rw [if_pos h3]
        obtain ⟨x1, t1, rfl⟩ : ∃ x t, t0 = x :: t := by cases t0; (simp at h3); exact ⟨_, _, rfl⟩
        obtain ⟨x2, t2, rfl⟩ : ∃ x t, t1 = x :: t := by cases t1; (simp at h3); exact ⟨_, _, rfl⟩
        have b1 := x1.toNat_lt
        have b2 := x2.toNat_lt
        simp only [List.getD_cons_zero, List.getD_cons_succ, List.length_cons] at hb h3 ⊢
        split at hb
        · rename_i h4
          rw [if_pos h4]
          have e : enc1 (x0.toNat % 16 * 4096 + x1.toNat % 64 * 64 + x2.toNat % 64) = [x0, x1, x2] := by
            unfold enc1
            rw [if_neg (by omega), if_neg (by omega), if_pos (by omega), u8e x0 _ (by omega), u8e x1 _ (by omega), u8e x2 _ (by omega)]
          refine ⟨by unfold okR; simp only; omega, by simp only [e]; rfl, by simp only [e]; rfl⟩
        · simp [bad] at hb
      · rename_i h3
        rw [if_neg h3]
        split at hb
        · rename_i h4
          rw [if_pos h4]
          obtain ⟨x1, t1, rfl⟩ : ∃ x t, t0 = x :: t := by cases t0; (simp at h4); exact ⟨_, _, rfl⟩
          obtain ⟨x2, t2, rfl⟩ : ∃ x t, t1 = x :: t := by cases t1; (simp at h4); exact ⟨_, _, rfl⟩
          obtain ⟨x3, t3, rfl⟩ : ∃ x t, t2 = x :: t := by cases t2; (simp at h4); exact ⟨_, _, rfl⟩
          have b1 := x1.toNat_lt
          have b2 := x2.toNat_lt
          have b3 := x3.toNat_lt
          simp only [List.getD_cons_zero, List.getD_cons_succ, List.length_cons] at hb h4 ⊢
          split at hb
          · rename_i h5
            rw [if_pos h5]
            have e : enc1 (x0.toNat % 8 * 262144 + x1.toNat % 64 * 4096 + x2.toNat % 64 * 64 + x3.toNat % 64) = [x0, x1, x2, x3] := by
              unfold enc1
              rw [if_neg (by omega), if_neg (by omega), if_neg (by omega), u8e x0 _ (by omega), u8e x1 _ (by omega), u8e x2 _ (by omega), u8e x3 _ (by omega)]
            refine ⟨by unfold okR; simp only; omega, by simp only [e]; rfl, by simp only [e]; rfl⟩
          · simp [bad] at hb
        · simp [bad] at hb
theorem decN_snd (n b0 b1 b2 b3 : Nat) : 1 ≤ (Lib.decodeN n b0 b1 b2 b3).2 ∧ (Lib.decodeN n b0 b1 b2 b3).2 ≤ 4 := by
  unfold Lib.decodeN; repeat' split
  all_goals simp
theorem dec_pos (l : List UInt8) : 1 ≤ (dec l).2 ∧ (dec l).2 ≤ 4 := decN_snd _ _ _ _ _
theorem dec_le (l : List UInt8) (h : l ≠ []) : (dec l).2 ≤ l.length := by
  have hp : 1 ≤ l.length := List.length_pos_iff.2 h
  cases hb : bad (dec l) with
  | true => rw [bad_iff] at hb; rw [hb]; exact hp
  | false =>
    obtain ⟨-, h2, h3⟩ := dec_good l h hb
    have := congrArg List.length h3
    rw [List.length_append, List.length_drop, ← h2] at this
    omega
theorem dec_take (l : List UInt8) (h : l ≠ []) (hb : bad (dec l) = false) : l.take (dec l).2 = enc1 (dec l).1 := by
  obtain ⟨-, h2, h3⟩ := dec_good l h hb
  generalize dec l = d at *
  rw [h2] at h3 ⊢
  rw [h3]
  exact List.take_left
/-- An ASCII sign is its byte. -/
theorem dec_ascii (x : UInt8) (t : List UInt8) (h : x.toNat < 128) : dec (x :: t) = (x.toNat, 1) := by
  simp [dec, Lib.decodeN, h]
theorem dec_high (x : UInt8) (t : List UInt8) (h : 128 ≤ x.toNat) : 128 ≤ (dec (x :: t)).1 := by
  unfold dec
  simp only [List.getD_cons_zero]
  unfold Lib.decodeN
  rw [if_neg (by omega)]
  repeat' split
  all_goals simp only
  all_goals omega

/-- The signs of bytes; none where a place begins none. -/
def sigsF : Nat → List UInt8 → Option (List Nat)
  | 0, _ => some []
  | f + 1, l => if l = [] then some [] else if bad (dec l) then none else (sigsF f (l.drop (dec l).2)).map ((dec l).1 :: ·)
def sigs (l : List UInt8) : Option (List Nat) := sigsF l.length l
theorem sigsF_eq : ∀ (f g : Nat) (l : List UInt8), l.length ≤ f → l.length ≤ g → sigsF f l = sigsF g l
  | 0, 0, _, _, _ => rfl
  | 0, g + 1, l, h, _ => by
    have : l = [] := List.eq_nil_of_length_eq_zero (by omega)
    simp [sigsF, this]
  | f + 1, 0, l, _, h => by
    have : l = [] := List.eq_nil_of_length_eq_zero (by omega)
    simp [sigsF, this]
  | f + 1, g + 1, l, hf, hg => by
    simp only [sigsF]
    split
    · rfl
    · split
      · rfl
      · rename_i hne _
        have := dec_pos l
        rw [sigsF_eq f g _ (by rw [List.length_drop]; omega) (by rw [List.length_drop]; omega)]
theorem sigs_nil : sigs [] = some [] := rfl
theorem sigs_step (l : List UInt8) (h : l ≠ []) : sigs l = if bad (dec l) then none else (sigs (l.drop (dec l).2)).map ((dec l).1 :: ·) := by
  unfold sigs
  have hp : 1 ≤ l.length := List.length_pos_iff.2 h
  obtain ⟨n, hn⟩ : ∃ n, l.length = n + 1 := ⟨l.length - 1, by omega⟩
  rw [hn]
  simp only [sigsF, if_neg h]
  split
  · rfl
  · have := dec_pos l
    rw [sigsF_eq n _ _ (by rw [List.length_drop]; omega) (Nat.le_refl _)]
def encL (rs : List Nat) : List UInt8 := rs.flatMap enc1
theorem encL_cons (c : Nat) (rs : List Nat) : encL (c :: rs) = enc1 c ++ encL rs := by simp [encL]
theorem encL_append (a b : List Nat) : encL (a ++ b) = encL a ++ encL b := by simp [encL]
theorem enc1_ne (c : Nat) : enc1 c ≠ [] := by have := enc1_len c; intro h; rw [h] at this; simp at this
theorem not_bad_enc (c : Nat) (h : okR c) : bad (c, (enc1 c).length) = false := by
  refine not_bad _ _ ?_
  rintro ⟨rfl, h2⟩
  revert h2; decide
theorem sigs_encL : ∀ rs : List Nat, (∀ c ∈ rs, okR c) → sigs (encL rs) = some rs
  | [], _ => rfl
  | c :: rs, h => by
    have hc := h c (by simp)
    have hd := dec_enc c hc (encL rs)
    rw [encL_cons, sigs_step _ (by simp [enc1_ne]), hd, not_bad_enc c hc]
    simp only [Bool.false_eq_true, if_false]
    rw [List.drop_left, sigs_encL rs (fun x hx => h x (by simp [hx]))]
    rfl
theorem sigs_some : ∀ (n : Nat) (l : List UInt8) (rs : List Nat), l.length ≤ n → sigs l = some rs → l = encL rs ∧ ∀ c ∈ rs, okR c
  | 0, l, rs, hn, h => by
    have hl : l = [] := List.eq_nil_of_length_eq_zero (by omega)
    subst hl
    rw [sigs_nil] at h
    cases h
    exact ⟨rfl, by simp⟩
  | n + 1, l, rs, hn, h => by
    by_cases hl : l = []
    · subst hl
      rw [sigs_nil] at h
      cases h
      exact ⟨rfl, by simp⟩
    · rw [sigs_step l hl] at h
      cases hb : bad (dec l) with
      | true => rw [hb] at h; simp at h
      | false =>
        rw [hb] at h
        simp only [Bool.false_eq_true, if_false, Option.map_eq_some_iff] at h
        obtain ⟨r, hr, rfl⟩ := h
        obtain ⟨h1, h2, h3⟩ := dec_good l hl hb
        have hp := dec_pos l
        have hlen : 1 ≤ l.length := List.length_pos_iff.2 hl
        obtain ⟨e, ok⟩ := sigs_some n (l.drop (dec l).2) r (by rw [List.length_drop]; omega) hr
        refine ⟨?_, ?_⟩
        · rw [encL_cons, ← e]; exact h3
        · intro c hc
          simp only [List.mem_cons] at hc
          rcases hc with rfl | hc
          · exact h1
          · exact ok c hc
theorem sigs_enc {l : List UInt8} {rs : List Nat} (h : sigs l = some rs) : l = encL rs ∧ ∀ c ∈ rs, okR c := sigs_some _ l rs (Nat.le_refl _) h
end Go.Aq.Wd
