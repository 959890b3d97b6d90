/- Names, texts, quotes and lines of words over signs, in plain Lean. No statement of the seat is proved here. -/
import Derived.Test.YtihoohhngiomdaaDoorWordPlain
import Derived.Lib.IndexMore
namespace Go.Aq.Wd
def countL (l : List UInt8) : Nat × Nat := match sigs l with | some rs => (rs.length, 0) | none => (0, 4)
def clipL (l : List UInt8) (n : Int) : List UInt8 := match sigs l with | some rs => encL (rs.take n.toNat) | none => []
def letter (c : Nat) : Bool := (decide (97 ≤ c) && decide (c ≤ 122)) || (decide (65 ≤ c) && decide (c ≤ 90)) || (decide (48 ≤ c) && decide (c ≤ 57)) || c == 45 || c == 95 || c == 46 || c == 47 ||
  (decide (192 ≤ c) && decide (c ≤ 591) && c != 215 && c != 247) || (decide (880 ≤ c) && decide (c ≤ 1279)) || (decide (19968 ≤ c) && decide (c ≤ 40959))
def low (c : Nat) : Bool := decide (c < 32) || (decide (127 ≤ c) && decide (c ≤ 159))
/-- Two slashes one behind the other? -/
def dbl : List Nat → Bool
  | a :: b :: t => (a == 47 && b == 47) || dbl (b :: t)
  | _ => false
def headBad (c : Nat) : Bool := c == 45 || c == 46 || c == 47
def lastBad (c : Nat) : Bool := c == 46 || c == 47
def nameR (rs : List Nat) : Bool := decide (1 ≤ rs.length) && decide (rs.length ≤ 40) && rs.all letter && !dbl rs && !headBad (rs.headD 0) && !lastBad (rs.getLastD 0)
def nameL (l : List UInt8) : Bool := match sigs l with | some rs => nameR rs | none => false
def textR (rs : List Nat) : Bool := decide (rs.length ≤ 200) && rs.all fun c => !low c || c == 10
def textL (l : List UInt8) : Bool := match sigs l with | some rs => textR rs | none => false
def hxd (n : Nat) : UInt8 := if n < 10 then UInt8.ofNat (48 + n) else UInt8.ofNat (87 + n)
def hexC (c : Nat) : List UInt8 := if c < 16 then [hxd c] else [hxd (c / 16), hxd (c % 16)]
/-- Must a sign be written by a backslash? -/
def special (c : Nat) : Bool := c == 34 || c == 92 || low c
def writ (c : Nat) : List UInt8 := if c = 34 ∨ c = 92 then [92, UInt8.ofNat c] else if c = 10 then [92, 110] else if low c then [92, 117, 123] ++ hexC c ++ [125] else enc1 c
def quoteR (rs : List Nat) : List UInt8 := [34] ++ rs.flatMap writ ++ [34]
def quoteL (l : List UInt8) : List UInt8 × Nat := match sigs l with | some rs => (quoteR rs, 0) | none => ([], 4)
/-- A word without quotes: how many bytes of the rest it has; did it end well? -/
def plainF : Nat → List UInt8 → Nat × Bool
  | 0, _ => (0, true)
  | f + 1, r => if r = [] then (0, true) else if bad (dec r) || low (dec r).1 then (0, false) else if (dec r).1 = 32 then (0, true) else if (dec r).1 = 34 then (0, false)
    else ((dec r).2 + (plainF f (r.drop (dec r).2)).1, (plainF f (r.drop (dec r).2)).2)
def plainW (r : List UInt8) : Nat × Bool := plainF r.length r
/-- All signs that are written by a backslash. -/
def escs : List Nat := [34, 92] ++ List.range 32 ++ (List.range 33).map (127 + ·)
def escO (r : List UInt8) : Option Nat := escs.find? fun c => (writ c).isPrefixOf r
def escShort (r : List UInt8) : Bool := escs.any fun c => r.isPrefixOf (writ c)
/-- A word between quotes, behind the first one: its text, how many bytes, the error. -/
def quotF : Nat → List UInt8 → List UInt8 × Nat × Nat
  | 0, _ => ([], 0, 2)
  | f + 1, r => if r = [] then ([], 0, 2) else if bad (dec r) || low (dec r).1 then ([], 0, 4) else if (dec r).1 = 34 then ([], 1, 0) else if (dec r).1 = 92 then
      (match escO r with
        | some k => (enc1 k ++ (quotF f (r.drop (writ k).length)).1, (writ k).length + (quotF f (r.drop (writ k).length)).2.1, (quotF f (r.drop (writ k).length)).2.2)
        | none => if escShort r then ([], r.length, 2) else ([], 0, 4))
    else (enc1 (dec r).1 ++ (quotF f (r.drop (dec r).2)).1, (dec r).2 + (quotF f (r.drop (dec r).2)).2.1, (quotF f (r.drop (dec r).2)).2.2)
def quotW (r : List UInt8) : List UInt8 × Nat × Nat := quotF r.length r
/-- The word at the head of the rest: its text, how many bytes, the error. -/
def wordW (r : List UInt8) : List UInt8 × Nat × Nat :=
  if r.headD 0 = 34 then
    (if (quotW (r.drop 1)).2.2 ≠ 0 then ([], 1 + (quotW (r.drop 1)).2.1, (quotW (r.drop 1)).2.2)
     else if r.drop (1 + (quotW (r.drop 1)).2.1) ≠ [] ∧ (r.drop (1 + (quotW (r.drop 1)).2.1)).headD 0 ≠ 32 then ([], 1 + (quotW (r.drop 1)).2.1, 4)
     else ((quotW (r.drop 1)).1, 1 + (quotW (r.drop 1)).2.1, 0))
  else (r.take (plainW r).1, (plainW r).1, if (plainW r).2 then 0 else 4)
/-- How many blanks the rest begins with. -/
def blanks : List UInt8 → Nat
  | 32 :: t => blanks t + 1
  | _ => 0
/-- The words of a line from a place on: the words, the place of an error, the error. -/
def wordsF (n : Nat) : Nat → List UInt8 → List (List UInt8) → List (List UInt8) × Nat × Nat
  | 0, _, acc => (acc, 0, 0)
  | f + 1, r, acc =>
    let r1 := r.drop (blanks r)
    if r1 = [] then (acc, 0, 0) else if acc.length = 50 then ([], n - r1.length, 17)
    else if (wordW r1).2.2 ≠ 0 then ([], n - r1.length + (wordW r1).2.1, (wordW r1).2.2)
    else wordsF n f (r1.drop (wordW r1).2.1) (acc ++ [(wordW r1).1])
def wordsL (l : List UInt8) : List (List UInt8) × Nat × Nat := wordsF l.length (l.length + 1) l []
/-! ### bytes and signs of a name -/
theorem enc1_high (c : Nat) (h : 128 ≤ c) (hc : okR c) : ∀ x ∈ enc1 c, 128 ≤ x.toNat := by
  unfold okR at hc
  unfold enc1
  rw [if_neg (by omega)]
  intro x hx
  split at hx
  · simp only [List.mem_cons, List.not_mem_nil, or_false] at hx
    rcases hx with rfl | rfl <;> rw [u8n _ (by omega)] <;> omega
  · split at hx
    · simp only [List.mem_cons, List.not_mem_nil, or_false] at hx
      rcases hx with rfl | rfl | rfl <;> rw [u8n _ (by omega)] <;> omega
    · simp only [List.mem_cons, List.not_mem_nil, or_false] at hx
      rcases hx with rfl | rfl | rfl | rfl <;> rw [u8n _ (by omega)] <;> omega
theorem enc1_low (c : Nat) (h : c < 128) : enc1 c = [UInt8.ofNat c] := by simp [enc1, h]
def has2 (l : List UInt8) : Bool := Lib.contains l [47, 47]
theorem has2_nil : has2 [] = false := rfl
theorem has2_cons (b : UInt8) (l : List UInt8) : has2 (b :: l) = ((b == 47 && l.headD 0 == 47) || has2 l) := by
  unfold has2 Lib.contains
  have hge := Lib.index_ge l [47, 47]
  have hp : ([47, 47] : List UInt8).isPrefixOf (b :: l) = (b == 47 && l.headD 0 == 47) := by
    cases l with
    | nil => simp [List.isPrefixOf]
    | cons x t => simp [List.isPrefixOf, Bool.beq_eq_decide_eq, eq_comm]
  rw [Lib.index, hp]
  cases hq : (b == 47 && l.headD 0 == 47) with
  | true => simp
  | false =>
    simp only [Bool.false_eq_true, if_false, Bool.false_or]
    split
    · rename_i h; rw [beq_iff_eq] at h; rw [h]
    · rename_i h
      have h' : ¬ (Lib.index l [47, 47] = -1) := by simpa using h
      rw [decide_eq_decide]
      omega
theorem has2_high : ∀ (a t : List UInt8), (∀ x ∈ a, 128 ≤ x.toNat) → has2 (a ++ t) = has2 t
  | [], _, _ => rfl
  | x :: a, t, h => by
    have hx := h x (by simp)
    have : (x == 47) = false := by
      rw [beq_eq_false_iff_ne]; rintro rfl; revert hx; decide
    rw [List.cons_append, has2_cons, this, has2_high a t (fun y hy => h y (by simp [hy]))]
    simp
theorem head_encL (rs : List Nat) (ok : ∀ c ∈ rs, okR c) (k : Nat) (hk : k < 128) (hk0 : 0 < k) : ((encL rs).headD 0 = UInt8.ofNat k) ↔ rs.headD 0 = k := by
  cases rs with
  | nil =>
    simp only [encL, List.flatMap_nil, List.headD_nil]
    constructor
    · intro h; have := congrArg UInt8.toNat h; rw [u8n k (by omega)] at this; simpa using this
    · rintro rfl; omega
  | cons c t =>
    rw [encL_cons]
    simp only [List.headD_cons]
    by_cases hc : c < 128
    · rw [enc1_low c hc]
      simp only [List.cons_append, List.headD_cons]
      constructor
      · intro h; have := congrArg UInt8.toNat h; rw [u8n k (by omega), u8n c (by omega)] at this; exact this
      · rintro rfl; rfl
    · have hh := enc1_high c (by omega) (ok c (by simp))
      have hne := enc1_ne c
      cases he : enc1 c with
      | nil => exact absurd he hne
      | cons x s =>
        have hx := hh x (by rw [he]; simp)
        simp only [List.cons_append, List.headD_cons]
        constructor
        · intro h; rw [h, u8n k (by omega)] at hx; omega
        · rintro rfl; omega
theorem getLastD_append {α : Type} (a b : List α) (d : α) (h : b ≠ []) : (a ++ b).getLastD d = b.getLastD d := by
  cases b with
  | nil => exact absurd rfl h
  | cons x t =>
    rw [List.getLastD_eq_getLast?, List.getLastD_eq_getLast?, List.getLast?_append, List.getLast?_eq_some_getLast (by simp : x :: t ≠ [])]
    simp
theorem last_encL : ∀ (rs : List Nat), rs ≠ [] → (∀ c ∈ rs, okR c) → ∀ k, k < 128 → 0 < k → (((encL rs).getLastD 0 = UInt8.ofNat k) ↔ rs.getLastD 0 = k)
  | [], h, _, _, _, _ => absurd rfl h
  | [c], _, ok, k, hk, hk0 => by
    have e : encL [c] = enc1 c := by simp [encL]
    rw [e]
    simp only [List.getLastD_cons, List.getLastD_nil]
    by_cases hc : c < 128
    · rw [enc1_low c hc]
      simp only [List.getLastD_cons, List.getLastD_nil]
      constructor
      · intro h; have := congrArg UInt8.toNat h; rw [u8n k (by omega), u8n c (by omega)] at this; exact this
      · rintro rfl; rfl
    · have hh := enc1_high c (by omega) (ok c (by simp))
      have hm : (enc1 c).getLastD 0 ∈ enc1 c := by
        rw [List.getLastD_eq_getLast?, List.getLast?_eq_some_getLast (enc1_ne c)]
        exact List.getLast_mem _
      have := hh _ hm
      constructor
      · intro h; rw [h, u8n k (by omega)] at this; omega
      · rintro rfl; omega
  | c :: d :: t, _, ok, k, hk, hk0 => by
    have hne : encL (d :: t) ≠ [] := by rw [encL_cons]; simp [enc1_ne]
    rw [encL_cons, getLastD_append _ _ _ hne, last_encL (d :: t) (by simp) (fun x hx => ok x (by simp at hx ⊢; right; exact hx)) k hk hk0]
    simp only [List.getLastD_cons]
theorem has2_encL : ∀ rs : List Nat, (∀ c ∈ rs, okR c) → has2 (encL rs) = dbl rs
  | [], _ => rfl
  | [c], ok => by
    have e : encL [c] = enc1 c := by simp [encL]
    rw [e]
    by_cases hc : c < 128
    · rw [enc1_low c hc, has2_cons, has2_nil]; simp [dbl]
    · have := has2_high (enc1 c) [] (enc1_high c (by omega) (ok c (by simp)))
      rw [List.append_nil] at this
      rw [this]; rfl
  | c :: d :: t, ok => by
    have ok' : ∀ x ∈ d :: t, okR x := fun x hx => ok x (by simp at hx ⊢; right; exact hx)
    have ih := has2_encL (d :: t) ok'
    rw [encL_cons, dbl]
    by_cases hc : c < 128
    · have hh := head_encL (d :: t) ok' 47 (by decide) (by decide)
      rw [enc1_low c hc, List.cons_append, List.nil_append, has2_cons, ih]
      congr 1
      have h1 : (UInt8.ofNat c == 47) = (c == 47) := by
        rw [Bool.eq_iff_iff, beq_iff_eq, beq_iff_eq]
        constructor
        · intro h; have := congrArg UInt8.toNat h; rw [u8n c (by omega)] at this; exact this
        · rintro rfl; rfl
      have h2 : ((encL (d :: t)).headD 0 == 47) = (d == 47) := by
        rw [Bool.eq_iff_iff, beq_iff_eq, beq_iff_eq]
        exact hh
      rw [h1, h2]
    · rw [has2_high _ _ (enc1_high c (by omega) (ok c (by simp))), ih]
      have : (c == 47) = false := by rw [beq_eq_false_iff_ne]; omega
      rw [this]; simp
end Go.Aq.Wd
