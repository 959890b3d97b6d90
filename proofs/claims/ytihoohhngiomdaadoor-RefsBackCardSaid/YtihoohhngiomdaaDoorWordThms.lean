/- Quotes and lines: what is written is read, in plain Lean. No statement of the seat is proved here. -/
import Derived.Test.YtihoohhngiomdaaDoorWordDefs
namespace Go.Aq.Wd
theorem mem_escs (c : Nat) : c ∈ escs ↔ special c = true := by
  simp only [escs, special, low, List.mem_append, List.mem_cons, List.not_mem_nil, or_false, List.mem_range, List.mem_map, Bool.or_eq_true, Bool.and_eq_true, beq_iff_eq, decide_eq_true_eq]
  constructor
  · rintro ((h | h) | ⟨a, h, rfl⟩)
    · omega
    · omega
    · omega
  · intro h
    by_cases h1 : 127 ≤ c
    · exact .inr ⟨c - 127, by omega, by omega⟩
    · exact .inl (by omega)
theorem escs_apart : ∀ a ∈ escs, ∀ b ∈ escs, (writ a).isPrefixOf (writ b) = true → a = b := by decide +kernel
theorem writ_ne (c : Nat) : writ c ≠ [] := by
  unfold writ
  split
  · simp
  · split
    · simp
    · split
      · simp
      · exact enc1_ne c
theorem escs_one (r : List UInt8) (a b : Nat) (ha : a ∈ escs) (hb : b ∈ escs) (h1 : (writ a).isPrefixOf r = true) (h2 : (writ b).isPrefixOf r = true) : a = b := by
  rw [List.isPrefixOf_iff_prefix] at h1 h2
  rcases List.prefix_or_prefix_of_prefix h1 h2 with h | h
  · exact escs_apart a ha b hb (List.isPrefixOf_iff_prefix.2 h)
  · exact (escs_apart b hb a ha (List.isPrefixOf_iff_prefix.2 h)).symm
theorem escO_some (r : List UInt8) (c : Nat) (h : escO r = some c) : c ∈ escs ∧ (writ c).isPrefixOf r = true := by
  unfold escO at h
  exact ⟨List.mem_of_find?_eq_some h, by simpa using List.find?_some h⟩
theorem escO_is (r : List UInt8) (c : Nat) (hc : c ∈ escs) (h : (writ c).isPrefixOf r = true) : escO r = some c := by
  cases he : escO r with
  | none =>
    unfold escO at he
    rw [List.find?_eq_none] at he
    exact absurd h (he c hc)
  | some d =>
    obtain ⟨h1, h2⟩ := escO_some r d he
    rw [escs_one r d c h1 hc h2 h]
theorem escO_none (r : List UInt8) : escO r = none ↔ ∀ c ∈ escs, (writ c).isPrefixOf r = false := by
  unfold escO
  rw [List.find?_eq_none]
  constructor
  · intro h c hc; simpa only [Bool.not_eq_true] using h c hc
  · intro h c hc; simp only [Bool.not_eq_true]; exact h c hc
theorem escO_writ (c : Nat) (hc : c ∈ escs) (t : List UInt8) : escO (writ c ++ t) = some c := escO_is _ c hc (by simp)
/-! ### fuel -/
theorem plainF_eq : ∀ (f g : Nat) (r : List UInt8), r.length ≤ f → r.length ≤ g → plainF f r = plainF g r
  | 0, 0, _, _, _ => rfl
  | 0, g + 1, r, h, _ => by
    have : r = [] := List.eq_nil_of_length_eq_zero (by omega)
    simp [plainF, this]
  | f + 1, 0, r, _, h => by
    have : r = [] := List.eq_nil_of_length_eq_zero (by omega)
    simp [plainF, this]
  | f + 1, g + 1, r, hf, hg => by
    have hp := dec_pos r
    by_cases hr : r = []
    · simp [plainF, hr]
    · have hl : 1 ≤ r.length := List.length_pos_iff.2 hr
      simp only [plainF]
      rw [plainF_eq f g _ (by rw [List.length_drop]; omega) (by rw [List.length_drop]; omega)]
theorem plainW_step (r : List UInt8) (h : r ≠ []) : plainW r = if bad (dec r) || low (dec r).1 then (0, false) else if (dec r).1 = 32 then (0, true) else if (dec r).1 = 34 then (0, false)
    else ((dec r).2 + (plainW (r.drop (dec r).2)).1, (plainW (r.drop (dec r).2)).2) := by
  unfold plainW
  have hl : 1 ≤ r.length := List.length_pos_iff.2 h
  have hp := dec_pos r
  obtain ⟨n, hn⟩ : ∃ n, r.length = n + 1 := ⟨r.length - 1, by omega⟩
  rw [hn]
  simp only [plainF, if_neg h]
  rw [plainF_eq n _ _ (by rw [List.length_drop]; omega) (Nat.le_refl _)]
theorem plainW_nil : plainW [] = (0, true) := rfl
theorem quotF_eq : ∀ (f g : Nat) (r : List UInt8), r.length ≤ f → r.length ≤ g → quotF f r = quotF g r
  | 0, 0, _, _, _ => rfl
  | 0, g + 1, r, h, _ => by
    have : r = [] := List.eq_nil_of_length_eq_zero (by omega)
    simp [quotF, this]
  | f + 1, 0, r, _, h => by
    have : r = [] := List.eq_nil_of_length_eq_zero (by omega)
    simp [quotF, this]
  | f + 1, g + 1, r, hf, hg => by
    have hp := dec_pos r
    by_cases hr : r = []
    · simp [quotF, hr]
    · have hl : 1 ≤ r.length := List.length_pos_iff.2 hr
      have hw : ∀ k, quotF f (r.drop (writ k).length) = quotF g (r.drop (writ k).length) := fun k => by
        have : 1 ≤ (writ k).length := List.length_pos_iff.2 (writ_ne k)
        exact quotF_eq f g _ (by rw [List.length_drop]; omega) (by rw [List.length_drop]; omega)
      simp only [quotF, hw]
      rw [quotF_eq f g (r.drop (dec r).2) (by rw [List.length_drop]; omega) (by rw [List.length_drop]; omega)]
theorem quotW_nil : quotW [] = ([], 0, 2) := rfl
theorem quotW_step (r : List UInt8) (h : r ≠ []) : quotW r = if bad (dec r) || low (dec r).1 then ([], 0, 4) else if (dec r).1 = 34 then ([], 1, 0) else if (dec r).1 = 92 then
      (match escO r with
        | some k => (enc1 k ++ (quotW (r.drop (writ k).length)).1, (writ k).length + (quotW (r.drop (writ k).length)).2.1, (quotW (r.drop (writ k).length)).2.2)
        | none => if escShort r then ([], r.length, 2) else ([], 0, 4))
    else (enc1 (dec r).1 ++ (quotW (r.drop (dec r).2)).1, (dec r).2 + (quotW (r.drop (dec r).2)).2.1, (quotW (r.drop (dec r).2)).2.2) := by
  unfold quotW
  have hl : 1 ≤ r.length := List.length_pos_iff.2 h
  have hp := dec_pos r
  obtain ⟨n, hn⟩ : ∃ n, r.length = n + 1 := ⟨r.length - 1, by omega⟩
  have hw : ∀ k, quotF n (r.drop (writ k).length) = quotF (r.drop (writ k).length).length (r.drop (writ k).length) := fun k => by
    have : 1 ≤ (writ k).length := List.length_pos_iff.2 (writ_ne k)
    exact quotF_eq n _ _ (by rw [List.length_drop]; omega) (Nat.le_refl _)
  have hd := quotF_eq n (r.drop (dec r).2).length (r.drop (dec r).2) (by rw [List.length_drop]; omega) (Nat.le_refl _)
  rw [hn]
  simp only [quotF, if_neg h, hw, hd]
  split
  · rfl
  · split
    · rfl
    · split
      · cases escO r <;> simp [hn]
      · rfl
/-! ### quotes and back -/
theorem writ_plain (c : Nat) (h : special c = false) : writ c = enc1 c := by
  simp only [special, Bool.or_eq_false_iff, beq_eq_false_iff_ne] at h
  unfold writ
  rw [if_neg (by omega), if_neg ?_, h.2]
  · simp
  · rintro rfl; simp [low] at h
theorem writ_special (c : Nat) (h : special c = true) : ∃ t, writ c = 92 :: t := by
  unfold writ
  split
  · exact ⟨_, rfl⟩
  · rename_i h1
    split
    · exact ⟨_, rfl⟩
    · have hl : low c = true := by
        simp only [special, Bool.or_eq_true, beq_iff_eq] at h
        rcases h with h | h
        · exact absurd h h1
        · exact h
      rw [if_pos hl]
      exact ⟨_, rfl⟩
theorem quot_step_writ (c : Nat) (hc : okR c) (t : List UInt8) : quotW (writ c ++ t) = (enc1 c ++ (quotW t).1, (writ c).length + (quotW t).2.1, (quotW t).2.2) := by
  have hne : writ c ++ t ≠ [] := by simp [writ_ne]
  rw [quotW_step _ hne]
  cases hs : special c with
  | true =>
    obtain ⟨u, hu⟩ := writ_special c hs
    have hd : dec (writ c ++ t) = (92, 1) := by rw [hu]; exact dec_ascii 92 _ (by decide)
    have he := escO_writ c ((mem_escs c).2 hs) t
    rw [hd, he]
    simp [bad, low]
  | false =>
    have hw := writ_plain c hs
    rw [hw, dec_enc c hc t, not_bad_enc c hc]
    simp only [special, Bool.or_eq_false_iff, beq_eq_false_iff_ne] at hs
    rw [hs.2, if_neg (by simp), if_neg hs.1.1, if_neg hs.1.2, List.drop_left]
theorem quot_back : ∀ (rs : List Nat) (t : List UInt8), (∀ c ∈ rs, okR c) → quotW (rs.flatMap writ ++ 34 :: t) = (encL rs, (rs.flatMap writ).length + 1, 0)
  | [], t, _ => by
    rw [List.flatMap_nil, List.nil_append, quotW_step _ (by simp), dec_ascii 34 t (by decide)]
    simp [bad, low, encL]
  | c :: rs, t, ok => by
    rw [List.flatMap_cons, List.append_assoc, quot_step_writ c (ok c (by simp)), quot_back rs t (fun x hx => ok x (by simp [hx])), encL_cons]
    simp [Nat.add_assoc]
theorem quot_open : ∀ (rs : List Nat), (∀ c ∈ rs, okR c) → (quotW (rs.flatMap writ)).2 = ((rs.flatMap writ).length, 2)
  | [], _ => rfl
  | c :: rs, ok => by
    have ih := quot_open rs (fun x hx => ok x (by simp [hx]))
    rw [List.flatMap_cons, quot_step_writ c (ok c (by simp)), ih]
    simp
theorem wordW_quote (rs : List Nat) (ok : ∀ c ∈ rs, okR c) (t : List UInt8) (ht : t = [] ∨ t.headD 0 = 32) : wordW (quoteR rs ++ t) = (encL rs, (quoteR rs).length, 0) := by
  have e : quoteR rs ++ t = 34 :: (rs.flatMap writ ++ 34 :: t) := by simp [quoteR]
  have hl : (quoteR rs).length = 1 + ((rs.flatMap writ).length + 1) := by simp [quoteR]; omega
  have hq := quot_back rs t ok
  rw [e]
  unfold wordW
  simp only [List.headD_cons, if_true, List.drop_one, List.tail_cons, hq]
  have hd : (34 :: (rs.flatMap writ ++ 34 :: t)).drop (1 + ((rs.flatMap writ).length + 1)) = t := by
    rw [← e, ← hl]; exact List.drop_left
  rw [hd, hl]
  rcases ht with rfl | ht
  · simp
  · rw [if_neg (by simp), if_neg (fun h => h.2 ht)]
theorem blanks_rep (n : Nat) (t : List UInt8) (h : t.headD 0 ≠ 32) : blanks (List.replicate n 32 ++ t) = n := by
  induction n with
  | zero =>
    simp only [List.replicate_zero, List.nil_append]
    unfold blanks
    split
    · simp at h
    · rfl
  | succ n ih => rw [List.replicate_succ, List.cons_append, blanks, ih]
theorem blanks_all (n : Nat) : blanks (List.replicate n 32) = n := by
  have := blanks_rep n [] (by decide)
  simpa using this
/-- A line: before each quote a gap. -/
def lineQ (g : Nat) (l : List (List Nat)) : List UInt8 := l.flatMap fun rs => List.replicate g 32 ++ quoteR rs
theorem words_back (N g : Nat) (hg : 1 ≤ g) : ∀ (l : List (List Nat)) (f : Nat) (acc : List (List UInt8)), (∀ rs ∈ l, ∀ c ∈ rs, okR c) → l.length < f → acc.length + l.length ≤ 50 →
    wordsF N f (lineQ g l ++ List.replicate g 32) acc = (acc ++ l.map encL, 0, 0)
  | [], f + 1, acc, _, _, _ => by
    simp only [lineQ, List.flatMap_nil, List.nil_append, wordsF]
    rw [blanks_all]
    simp
  | rs :: l, f + 1, acc, ok, hf, hk => by
    have hq : (quoteR rs ++ (lineQ g l ++ List.replicate g 32)).headD 0 ≠ 32 := by simp [quoteR]
    have e : lineQ g (rs :: l) ++ List.replicate g 32 = List.replicate g 32 ++ (quoteR rs ++ (lineQ g l ++ List.replicate g 32)) := by
      simp only [lineQ, List.flatMap_cons, List.append_assoc]
    have hb := blanks_rep g _ hq
    have hd : (List.replicate g (32 : UInt8) ++ (quoteR rs ++ (lineQ g l ++ List.replicate g 32))).drop g = quoteR rs ++ (lineQ g l ++ List.replicate g 32) := by
      conv => lhs; rw [show g = (List.replicate g (32 : UInt8)).length by simp]
      simp
    have hw := wordW_quote rs (ok rs (by simp)) (lineQ g l ++ List.replicate g 32) (by
      right
      obtain ⟨k, rfl⟩ : ∃ k, g = k + 1 := ⟨g - 1, by omega⟩
      cases l with
      | nil => simp [lineQ, List.replicate_succ]
      | cons a b => simp [lineQ, List.replicate_succ])
    rw [e]
    simp only [wordsF, hb, hd, hw]
    rw [if_neg (by simp [quoteR]), if_neg (by simp at hk; omega), if_neg (by simp), List.drop_left, words_back N g hg l f _ (fun r hr => ok r (by simp [hr])) (by simp at hf; omega) (by simp at hk ⊢; omega)]
    simp
/-- More than fifty: the place of the first one too many. -/
theorem words_many (N g : Nat) (hg : 1 ≤ g) : ∀ (l : List (List Nat)) (f : Nat) (acc : List (List UInt8)), (∀ rs ∈ l, ∀ c ∈ rs, okR c) → l.length < f → acc.length ≤ 50 → 50 < acc.length + l.length →
    ∃ t, (lineQ g l ++ List.replicate g 32).length = t + g + 1 ∧ ∃ k, k ≤ t ∧ wordsF N f (lineQ g l ++ List.replicate g 32) acc = ([], N - (g + 1 + k), 17)
  | [], f, acc, _, _, h1, h2 => by simp at h2; omega
  | rs :: l, f + 1, acc, ok, hf, hk, hk2 => by
    have hq : (quoteR rs ++ (lineQ g l ++ List.replicate g 32)).headD 0 ≠ 32 := by simp [quoteR]
    have e : lineQ g (rs :: l) ++ List.replicate g 32 = List.replicate g 32 ++ (quoteR rs ++ (lineQ g l ++ List.replicate g 32)) := by
      simp only [lineQ, List.flatMap_cons, List.append_assoc]
    have hb := blanks_rep g _ hq
    have hd : (List.replicate g (32 : UInt8) ++ (quoteR rs ++ (lineQ g l ++ List.replicate g 32))).drop g = quoteR rs ++ (lineQ g l ++ List.replicate g 32) := by
      conv => lhs; rw [show g = (List.replicate g (32 : UInt8)).length by simp]
      simp
    have hql : 1 ≤ (quoteR rs).length := by simp [quoteR]
    rw [e]
    by_cases h50 : acc.length = 50
    · refine ⟨g + (quoteR rs).length + (lineQ g l).length - 1, ?_, (quoteR rs).length + (lineQ g l).length - 1, by omega, ?_⟩
      · simp; omega
      · simp only [wordsF, hb, hd]
        rw [if_neg (by simp [quoteR]), if_pos h50]
        congr 2
        simp
        omega
    · have hw := wordW_quote rs (ok rs (by simp)) (lineQ g l ++ List.replicate g 32) (by
        right
        obtain ⟨k, rfl⟩ : ∃ k, g = k + 1 := ⟨g - 1, by omega⟩
        cases l with
        | nil => simp [lineQ, List.replicate_succ]
        | cons a b => simp [lineQ, List.replicate_succ])
      obtain ⟨t, ht, k, hkt, hr⟩ := words_many N g hg l f (acc ++ [encL rs]) (fun r hr => ok r (by simp [hr])) (by simp at hf; omega) (by simp; omega) (by simp at hk2 ⊢; omega)
      refine ⟨g + (quoteR rs).length + t, ?_, k, by omega, ?_⟩
      · simp only [List.length_append, List.length_replicate] at ht ⊢; omega
      · simp only [wordsF, hb, hd, hw]
        rw [if_neg (by simp [quoteR]), if_neg h50, if_neg (by simp), List.drop_left]
        exact hr
end Go.Aq.Wd
