/- Refs read from bytes, in plain Lean: lines, words, there and back; names found, taken away, set. No statement of the seat is proved here. -/
import Derived.Test.YtihoohhngiomdaaGreatDoorRefsE
import Derived.Test.YtihoohhngiomdaaGreatDoorWPl
set_option linter.unusedVariables false
namespace Go.Aq.Wd
/-- Bytes that are read as one word t, if a blank or nothing stands behind them. -/
structure GoodP (w t : List UInt8) : Prop where
  ne : w ≠ []
  hd : w.headD 0 ≠ 32
  rd : ∀ tl : List UInt8, tl = [] ∨ tl.headD 0 = 32 → wordW (w ++ tl) = (t, w.length, 0)
theorem goodP_plain (w : List UInt8) (h : plainB w) (hne : w ≠ []) : GoodP w w :=
  ⟨hne, by have := head_plain w [] h hne; simpa using this, fun tl ht => wordW_plain w tl h hne ht⟩
theorem goodP_quote (l : List UInt8) (h : (quoteL l).2 = 0) : GoodP (quoteL l).1 l := by
  unfold quoteL at h ⊢
  cases hs : sigs l with
  | none => rw [hs] at h; cases h
  | some rs =>
    obtain ⟨e1, ok⟩ := sigs_enc hs
    have hg : GoodP (quoteR rs) (encL rs) := ⟨by simp [quoteR], by simp [quoteR], fun tl ht => wordW_quote rs ok tl ht⟩
    rw [← e1] at hg
    exact hg
theorem stepP (N f b : Nat) (w t tl : List UInt8) (acc : List (List UInt8)) (h : GoodP w t) (htl : tl = [] ∨ tl.headD 0 = 32) (ha : acc.length < 50) :
    wordsF N (f + 1) (List.replicate b 32 ++ (w ++ tl)) acc = wordsF N f tl (acc ++ [t]) := by
  have hhd : (w ++ tl).headD 0 ≠ 32 := by
    have h1 := h.hd
    have h2 := h.ne
    cases w with
    | nil => exact absurd rfl h2
    | cons x u => simpa using h1
  have hb := blanks_rep b _ hhd
  have hw := h.rd tl htl
  simp only [wordsF, hb, drop_rep, hw]
  rw [if_neg (by simp [h.ne]), if_neg (by omega), if_neg (by simp), List.drop_left]
/-- Three words with a blank between. -/
theorem words_three (a b c ta tb tc : List UInt8) (ha : GoodP a ta) (hb : GoodP b tb) (hc : GoodP c tc) : wordsL (a ++ [32] ++ b ++ [32] ++ c) = ([ta, tb, tc], 0, 0) := by
  have e : a ++ [32] ++ b ++ [32] ++ c = List.replicate 0 32 ++ (a ++ (List.replicate 1 32 ++ (b ++ (List.replicate 1 32 ++ (c ++ []))))) := by simp [List.append_assoc]
  have hla : 1 ≤ a.length := List.length_pos_iff.2 ha.ne
  have hlb : 1 ≤ b.length := List.length_pos_iff.2 hb.ne
  have hlc : 1 ≤ c.length := List.length_pos_iff.2 hc.ne
  obtain ⟨f, hf⟩ : ∃ f, (a ++ [32] ++ b ++ [32] ++ c).length + 1 = f + 1 + 1 + 1 + 1 := ⟨(a ++ [32] ++ b ++ [32] ++ c).length - 3, by simp only [List.length_append, List.length_cons, List.length_nil]; omega⟩
  unfold wordsL
  rw [hf]
  generalize (a ++ [32] ++ b ++ [32] ++ c).length = N at *
  rw [e, stepP N _ 0 a ta _ [] ha (.inr (by simp)) (by simp), stepP N _ 1 b tb _ _ hb (.inr (by simp)) (by simp), stepP N _ 1 c tc [] _ hc (.inl rfl) (by simp)]
  simp [wordsF, blanks]
end Go.Aq.Wd
namespace Go.Aq
open Go.RowKit Go.Aq.Wd
/-- The first line of a text, its end with it; what stands behind. -/
def headLn (b : List UInt8) : List UInt8 := if 10 ∈ b then b.take (b.idxOf 10 + 1) else b
def restLn (b : List UInt8) : List UInt8 := if 10 ∈ b then b.drop (b.idxOf 10 + 1) else []
theorem head_rest (b : List UInt8) : headLn b ++ restLn b = b := by
  unfold headLn restLn
  split
  · exact List.take_append_drop _ _
  · simp
theorem restLn_lt {b : List UInt8} (h : b ≠ []) : (restLn b).length < b.length := by
  have hp := List.length_pos_iff.2 h
  unfold restLn
  split
  · simp only [List.length_drop]; omega
  · simpa using hp
def linesF : Nat → List UInt8 → List (List UInt8)
  | 0, _ => []
  | f + 1, b => if b = [] then [] else headLn b :: linesF f (restLn b)
def linesL (b : List UInt8) : List (List UInt8) := linesF b.length b
theorem linesF_nil : ∀ f, linesF f [] = []
  | 0 => rfl
  | _ + 1 => by simp [linesF]
theorem linesF_more : ∀ (f : Nat) (b : List UInt8) (k : Nat), b.length ≤ f → linesF (f + k) b = linesF f b
  | 0, b, k, h => by
    have : b = [] := List.length_eq_zero_iff.1 (by omega)
    subst this
    rw [linesF_nil, linesF_nil]
  | f + 1, b, k, h => by
    by_cases hb : b = []
    · subst hb; rw [linesF_nil, linesF_nil]
    · have := restLn_lt hb
      rw [show f + 1 + k = (f + k) + 1 by omega]
      simp only [linesF, if_neg hb]
      rw [linesF_more f _ k (by omega)]
theorem linesL_cons {b : List UInt8} (h : b ≠ []) : linesL b = headLn b :: linesL (restLn b) := by
  have h1 := restLn_lt h
  obtain ⟨f, hf⟩ : ∃ f, b.length = f + 1 := ⟨b.length - 1, by omega⟩
  unfold linesL
  rw [hf]
  simp only [linesF, if_neg h]
  obtain ⟨k, hk⟩ : ∃ k, f = (restLn b).length + k := ⟨f - (restLn b).length, by omega⟩
  rw [hk, linesF_more _ _ k (Nat.le_refl _)]
theorem linesL_nil : linesL [] = [] := rfl
theorem linesL_len : ∀ (n : Nat) (b : List UInt8), b.length ≤ n → (linesL b).length ≤ b.length
  | 0, b, h => by
    have : b = [] := List.length_eq_zero_iff.1 (by omega)
    subst this
    simp [linesL_nil]
  | n + 1, b, h => by
    by_cases hb : b = []
    · subst hb; simp [linesL_nil]
    · have h1 := restLn_lt hb
      have := linesL_len n (restLn b) (by omega)
      rw [linesL_cons hb, List.length_cons]; omega
theorem idx_app {x r : List UInt8} (h : (10 : UInt8) ∉ x) : (x ++ 10 :: r).idxOf 10 = x.length := by
  induction x with
  | nil => simp
  | cons a t ih =>
    have ha : a ≠ 10 := fun e => h (by simp [e])
    have ht : (10 : UInt8) ∉ t := fun e => h (by simp [e])
    rw [List.cons_append, List.idxOf_cons, show (a == 10) = false by simpa using ha, cond_false, ih ht]; simp
theorem head_app {x r : List UInt8} (h : (10 : UInt8) ∉ x) : headLn (x ++ 10 :: r) = x ++ [10] ∧ restLn (x ++ 10 :: r) = r := by
  have hm : (10 : UInt8) ∈ x ++ 10 :: r := by simp
  have e : x ++ 10 :: r = (x ++ [10]) ++ r := by simp
  unfold headLn restLn
  rw [if_pos hm, if_pos hm, idx_app h, e]
  have hl : x.length + 1 = (x ++ [(10 : UInt8)]).length := by simp
  rw [hl]
  exact ⟨List.take_left, List.drop_left⟩
theorem lines_app {x r : List UInt8} (h : (10 : UInt8) ∉ x) : linesL (x ++ 10 :: r) = (x ++ [10]) :: linesL r := by
  rw [linesL_cons (by simp), (head_app h).1, (head_app h).2]
/-- A line without its end. -/
def trimN (x : List UInt8) : List UInt8 := if x.getLast? = some 10 then x.dropLast else x
theorem trimN_end (x : List UInt8) : trimN (x ++ [10]) = x := by
  unfold trimN
  rw [if_pos (by simp)]; simp
theorem trimN_len (x : List UInt8) : (trimN x).length ≤ x.length := by
  unfold trimN; split
  · simp
  · exact Nat.le_refl _
/-- A line as a ref. -/
def lineD (x : List UInt8) : Option RefD :=
  if (wordsL (trimN x)).2.2 = 0 ∧ (wordsL (trimN x)).1.length = 3 then some ⟨decide ((wordsL (trimN x)).1.getD 0 [] = [116, 97, 103]), (wordsL (trimN x)).1.getD 1 [], (wordsL (trimN x)).1.getD 2 []⟩ else none
def readL : List (List UInt8) → Option (List RefD)
  | [] => some []
  | x :: t => match lineD x with
    | none => none
    | some r => (readL t).map (r :: ·)
theorem readL_snoc (x : List UInt8) : ∀ (a : List (List UInt8)) (l : List RefD), readL a = some l → readL (a ++ [x]) = (lineD x).map fun r => l ++ [r]
  | [], l, h => by
    simp only [readL, Option.some.injEq] at h
    subst h
    simp only [List.nil_append, readL]
    cases lineD x <;> rfl
  | y :: t, l, h => by
    simp only [readL] at h
    cases hy : lineD y with
    | none => rw [hy] at h; cases h
    | some r =>
      rw [hy] at h
      obtain ⟨m, hm, rfl⟩ := Option.map_eq_some_iff.1 h
      simp only [List.cons_append, readL, hy, readL_snoc x t m hm]
      cases lineD x <;> rfl
theorem readL_bad {x : List UInt8} (hx : lineD x = none) : ∀ (a b : List (List UInt8)), readL (a ++ x :: b) = none
  | [], b => by simp [readL, hx]
  | y :: t, b => by
    simp only [List.cons_append, readL]
    cases lineD y with
    | none => rfl
    | some r => rw [readL_bad hx t b]; rfl
theorem readL_len : ∀ (a : List (List UInt8)) (l : List RefD), readL a = some l → l.length = a.length
  | [], l, h => by simp only [readL, Option.some.injEq] at h; subst h; rfl
  | y :: t, l, h => by
    simp only [readL] at h
    cases hy : lineD y with
    | none => rw [hy] at h; cases h
    | some r =>
      rw [hy] at h
      obtain ⟨m, hm, rfl⟩ := Option.map_eq_some_iff.1 h
      simp [readL_len t m hm]
/-- Bytes as refs, or why not. -/
def decL (b : List UInt8) : List RefD × Nat := match readL (linesL b) with
  | none => ([], 4)
  | some l => if encodeL l = (b, 0) then (l, 0) else ([], 4)
theorem unD_plain (x : UInt8) (h : ¬ unD x < 0) : 33 ≤ x.toNat ∧ x.toNat ≤ 126 ∧ x ≠ 34 := by
  have hx : x ≠ 34 ↔ x.toNat ≠ 34 := by
    constructor
    · intro h e; exact h (UInt8.toNat_inj.1 e)
    · intro h e; subst e; exact h rfl
  rw [hx]
  unfold unD at h
  split at h
  · omega
  · split at h
    · omega
    · omega
theorem unhex_plain : ∀ (l r : List UInt8), unhexL l = some r → plainB l
  | [], r, _ => by intro x hx; cases hx
  | [_], r, h => by simp [unhexL] at h
  | a :: b :: t, r, h => by
    simp only [unhexL] at h
    split at h
    · simp at h
    · rename_i hab
      obtain ⟨r', h1, -⟩ := Option.map_eq_some_iff.1 h
      have ih := unhex_plain t r' h1
      have ha := unD_plain a (fun e => hab (.inl e))
      have hb := unD_plain b (fun e => hab (.inr e))
      intro x hx
      rcases List.mem_cons.1 hx with rfl | hx
      · exact ha
      · rcases List.mem_cons.1 hx with rfl | hx
        · exact hb
        · exact ih x hx
theorem valid_plain {k : List UInt8} (h : validB k = true) : plainB k ∧ k ≠ [] := by
  unfold validB at h
  cases hu : unhexL k with
  | none => rw [hu] at h; cases h
  | some bs =>
    rw [hu] at h
    have h32 : bs.length = 32 := by simpa using h
    refine ⟨unhex_plain k bs hu, fun e => ?_⟩
    have := unhexL_length k bs hu
    rw [e, h32] at this
    simp at this
theorem plain_no10 {l : List UInt8} (h : plainB l) : (10 : UInt8) ∉ l := fun hm => by
  have := (h 10 hm).1
  exact absurd this (by decide)
theorem kind_plainP (t : Bool) : plainB (kindL t) ∧ kindL t ≠ [] := by
  unfold kindL
  cases t
  · refine ⟨?_, by simp⟩
    intro x hx
    simp only [Bool.false_eq_true, if_false, List.mem_cons, List.not_mem_nil, or_false] at hx
    rcases hx with rfl | rfl | rfl | rfl | rfl | rfl <;> decide
  · refine ⟨?_, by simp⟩
    intro x hx
    simp only [if_true, List.mem_cons, List.not_mem_nil, or_false] at hx
    rcases hx with rfl | rfl | rfl <;> decide
theorem quote_no10 (l : List UInt8) (h : (quoteL l).2 = 0) : (10 : UInt8) ∉ (quoteL l).1 := by
  unfold quoteL at h ⊢
  cases hs : sigs l with
  | none => rw [hs] at h; cases h
  | some rs =>
    obtain ⟨-, ok⟩ := sigs_enc hs
    simp only
    unfold quoteR
    intro hm
    simp only [List.mem_append, List.mem_singleton, List.mem_flatMap] at hm
    rcases hm with (hm | ⟨c, hc, hm⟩) | hm
    · exact absurd hm (by decide)
    · have := (writ_fine c (ok c hc) 10 hm).1
      exact absurd this (by decide)
    · exact absurd hm (by decide)
/-- A ref's line is read as it. -/
theorem lineD_back (r : RefD) (hn : nameL r.name = true) (hk : validB r.key = true) : ∃ x, lineR r = x ++ [10] ∧ (10 : UInt8) ∉ x ∧ lineD (x ++ [10]) = some r := by
  have hq := quoteL_name hn
  obtain ⟨k1, k2⟩ := valid_plain hk
  obtain ⟨p1, p2⟩ := kind_plainP r.tag
  refine ⟨kindL r.tag ++ [32] ++ (quoteL r.name).1 ++ [32] ++ r.key, rfl, ?_, ?_⟩
  · intro hm
    simp only [List.mem_append, List.mem_singleton] at hm
    rcases hm with (((hm | hm) | hm) | hm) | hm
    · exact plain_no10 p1 hm
    · exact absurd hm (by decide)
    · exact quote_no10 _ hq hm
    · exact absurd hm (by decide)
    · exact plain_no10 k1 hm
  · have hw := words_three _ _ _ _ _ _ (goodP_plain _ p1 p2) (goodP_quote _ hq) (goodP_plain _ k1 k2)
    unfold lineD
    rw [trimN_end, hw]
    rw [if_pos ⟨rfl, rfl⟩]
    have ht : decide (kindL r.tag = [116, 97, 103]) = r.tag := by
      cases hh : r.tag <;> rfl
    show some (RefD.mk (decide (kindL r.tag = [116, 97, 103])) r.name r.key) = some r
    rw [ht]
theorem readL_back : ∀ (l : List RefD), (∀ r ∈ l, nameL r.name = true ∧ validB r.key = true) → readL (linesL (l.flatMap lineR)) = some l
  | [], _ => rfl
  | r :: t, h => by
    obtain ⟨x, hx, h10, hr⟩ := lineD_back r (h r (by simp)).1 (h r (by simp)).2
    have e : (r :: t).flatMap lineR = x ++ 10 :: t.flatMap lineR := by rw [List.flatMap_cons, hx]; simp
    rw [e, lines_app h10]
    simp only [readL, hr, readL_back t (fun q hq => h q (by simp [hq]))]
    rfl
theorem may_parts {l : List RefD} (h : mayL l = true) : ∀ r ∈ l, nameL r.name = true ∧ validB r.key = true := by
  intro r hr
  obtain ⟨j, hj, rfl⟩ := List.mem_iff_getElem.1 hr
  have h1 := mayL_at h j hj
  unfold mayAt at h1
  simp only [Bool.and_eq_true] at h1
  have e : l.getD j default = l[j] := by rw [List.getD_eq_getElem?_getD, List.getElem?_eq_getElem hj]; rfl
  rw [e] at h1
  exact h1.1
theorem dec_back {l : List RefD} (h : mayL l = true) : decL (l.flatMap lineR) = (l, 0) := by
  have he : encodeL l = (l.flatMap lineR, 0) := by unfold encodeL; rw [if_pos h]
  unfold decL
  rw [readL_back l (may_parts h)]
  simp only
  rw [if_pos he]
theorem dec_ok {b : List UInt8} (h : (decL b).2 = 0) : encodeL (decL b).1 = (b, 0) := by
  unfold decL at h ⊢
  cases hr : readL (linesL b) with
  | none => rw [hr] at h; simp at h
  | some l =>
    rw [hr] at h
    simp only at h ⊢
    split at h
    · rename_i he; rw [if_pos he]; exact he
    · exact absurd h (by decide)
theorem dec_err {b : List UInt8} (h : (decL b).2 ≠ 0) : decL b = ([], 4) := by
  unfold decL at h ⊢
  cases hr : readL (linesL b) with
  | none => rfl
  | some l =>
    rw [hr] at h
    simp only at h ⊢
    split at h
    · exact absurd rfl h
    · rename_i he; rw [if_neg he]
/-- Is it the ref of that name? -/
def isR (t : Bool) (n : List UInt8) (r : RefD) : Bool := r.tag == t && decide (r.name = n)
def dropL (l : List RefD) (t : Bool) (n : List UInt8) : List RefD := l.filter fun r => !isR t n r
def findL (l : List RefD) (t : Bool) (n : List UInt8) : Option (List UInt8) := (l.find? (isR t n)).map (·.key)
def placeL (d : List RefD) (r : RefD) : Nat := (d.takeWhile fun x => decide (cmpR x r < 0)).length
def setL (l : List RefD) (r : RefD) : List RefD := (dropL l r.tag r.name).take (placeL (dropL l r.tag r.name) r) ++ [r] ++ (dropL l r.tag r.name).drop (placeL (dropL l r.tag r.name) r)
theorem isR_iff (t : Bool) (n : List UInt8) (r : RefD) : isR t n r = true ↔ r.tag = t ∧ r.name = n := by
  unfold isR; simp
theorem drop_not (l : List RefD) (t : Bool) (n : List UInt8) : ∀ r ∈ dropL l t n, isR t n r = false := fun r hr => by
  unfold dropL at hr
  have := (List.mem_filter.1 hr).2
  simpa using this
theorem find_drop (l : List RefD) (t : Bool) (n : List UInt8) : findL (dropL l t n) t n = none := by
  unfold findL
  rw [List.find?_eq_none.2 (fun r hr => by rw [drop_not l t n r hr]; decide)]; rfl
theorem isR_self (r : RefD) : isR r.tag r.name r = true := (isR_iff _ _ _).2 ⟨rfl, rfl⟩
theorem find_set (l : List RefD) (r : RefD) : findL (setL l r) r.tag r.name = some r.key := by
  unfold findL setL
  generalize placeL (dropL l r.tag r.name) r = i
  rw [List.append_assoc, List.find?_append, List.find?_eq_none.2 (fun x hx => by rw [drop_not l r.tag r.name x (List.mem_of_mem_take hx)]; decide)]
  simp [isR_self]
theorem drop_self {d : List RefD} {t : Bool} {n : List UInt8} (h : ∀ r ∈ d, isR t n r = false) : dropL d t n = d := by
  unfold dropL
  rw [List.filter_eq_self]
  intro r hr
  rw [h r hr]; rfl
theorem drop_set (l : List RefD) (r : RefD) : dropL (setL l r) r.tag r.name = dropL l r.tag r.name := by
  have hd := drop_not l r.tag r.name
  have e := List.take_append_drop (placeL (dropL l r.tag r.name) r) (dropL l r.tag r.name)
  unfold setL
  generalize placeL (dropL l r.tag r.name) r = i at *
  generalize dropL l r.tag r.name = d at *
  unfold dropL
  rw [List.filter_append, List.filter_append]
  have h1 : (d.take i).filter (fun x => !isR r.tag r.name x) = d.take i := List.filter_eq_self.2 fun x hx => by rw [hd x (List.mem_of_mem_take hx)]; rfl
  have h2 : (d.drop i).filter (fun x => !isR r.tag r.name x) = d.drop i := List.filter_eq_self.2 fun x hx => by rw [hd x (List.mem_of_mem_drop hx)]; rfl
  rw [h1, h2]
  simp [isR_self, e]
theorem set_len (l : List RefD) (r : RefD) : (setL l r).length = (dropL l r.tag r.name).length + 1 := by
  unfold setL
  have h : placeL (dropL l r.tag r.name) r ≤ (dropL l r.tag r.name).length := by
    unfold placeL; exact (List.takeWhile_sublist _).length_le
  simp only [List.length_append, List.length_take, List.length_drop, List.length_cons, List.length_nil]
  omega
/-- They rise, each ahead of all behind it. -/
def risesR (l : List RefD) : Prop := l.Pairwise fun a b => cmpR a b < 0
theorem cmpR_lt_trans {a b c : RefD} (h1 : cmpR a b < 0) (h2 : cmpR b c < 0) : cmpR a c < 0 := by
  have h3 := cmpR_trans a b c (by omega) (by omega)
  rcases cmpR_range a c with h | h | h
  · omega
  · exfalso
    obtain ⟨e1, e2⟩ := (cmpR_zero a c).1 h
    have h4 : cmpR b c = cmpR b a := by unfold cmpR; rw [e1, e2]
    rw [h4, cmpR_anti a b] at h2
    omega
  · omega
theorem rises_of_next : ∀ (l : List RefD), (∀ j, j + 1 < l.length → cmpR (l.getD j default) (l.getD (j + 1) default) < 0) → risesR l
  | [], _ => List.Pairwise.nil
  | [a], _ => List.pairwise_singleton _ _
  | a :: b :: t, h => by
    have ih : risesR (b :: t) := rises_of_next (b :: t) (fun j hj => by
      have := h (j + 1) (by simp only [List.length_cons] at hj ⊢; omega)
      simpa using this)
    have hab : cmpR a b < 0 := by simpa using h 0 (by simp)
    refine List.pairwise_cons.2 ⟨fun x hx => ?_, ih⟩
    rcases List.mem_cons.1 hx with rfl | hx
    · exact hab
    · exact cmpR_lt_trans hab ((List.pairwise_cons.1 ih).1 x hx)
theorem may_rises {l : List RefD} (h : mayL l = true) : risesR l := by
  refine rises_of_next l fun j hj => ?_
  have h1 := mayL_at h (j + 1) hj
  unfold mayAt at h1
  simp only [Bool.and_eq_true, Bool.or_eq_true, decide_eq_true_eq] at h1
  rcases h1.2 with h2 | h2
  · simp at h2
  · simpa using h2
theorem set_rises {l : List RefD} (h : risesR l) (r : RefD) : risesR (setL l r) := by
  have hd : risesR (dropL l r.tag r.name) := List.Pairwise.sublist List.filter_sublist h
  have hn := drop_not l r.tag r.name
  unfold setL
  generalize dropL l r.tag r.name = d at *
  have hne : ∀ x ∈ d, cmpR x r ≠ 0 := fun x hx e => by
    obtain ⟨e1, e2⟩ := (cmpR_zero x r).1 e
    have := hn x hx
    rw [(isR_iff _ _ _).2 ⟨e1, e2⟩] at this
    cases this
  have htk : d.take (placeL d r) = d.takeWhile fun x => decide (cmpR x r < 0) := by
    unfold placeL
    have e := List.takeWhile_append_dropWhile (p := fun x => decide (cmpR x r < 0)) (l := d)
    conv => lhs; arg 2; rw [← e]
    exact List.take_left
  have hdr : d.drop (placeL d r) = d.dropWhile fun x => decide (cmpR x r < 0) := by
    unfold placeL
    have e := List.takeWhile_append_dropWhile (p := fun x => decide (cmpR x r < 0)) (l := d)
    conv => lhs; arg 2; rw [← e]
    exact List.drop_left
  have hlt : ∀ x ∈ d.take (placeL d r), cmpR x r < 0 := fun x hx => by
    rw [htk] at hx
    have := List.all_eq_true.1 (List.all_takeWhile (p := fun x => decide (cmpR x r < 0)) (l := d)) x hx
    simpa using this
  have hge : ∀ x ∈ d.drop (placeL d r), cmpR r x < 0 := by
    intro x hx
    have hpw : risesR (d.drop (placeL d r)) := List.Pairwise.sublist (List.drop_sublist _ _) hd
    have hsub : ∀ y ∈ d.drop (placeL d r), y ∈ d := fun y hy => List.mem_of_mem_drop hy
    have hhead : ∀ y t, d.drop (placeL d r) = y :: t → ¬ cmpR y r < 0 := by
      intro y t e
      rw [hdr] at e
      have := List.head_dropWhile_not (fun x => decide (cmpR x r < 0)) (l := d) (w := by rw [e]; simp)
      simp only [e, List.head_cons, decide_eq_false_iff_not] at this
      exact this
    cases hc : d.drop (placeL d r) with
    | nil => rw [hc] at hx; cases hx
    | cons y t =>
      have h1 := hhead y t hc
      have h2 := hne y (hsub y (by rw [hc]; simp))
      have h3 : cmpR r y < 0 := by rw [cmpR_anti y r]; omega
      rw [hc] at hx hpw
      rcases List.mem_cons.1 hx with rfl | hx
      · exact h3
      · exact cmpR_lt_trans h3 ((List.pairwise_cons.1 hpw).1 x hx)
  have e0 := List.take_append_drop (placeL d r) d
  unfold risesR at hd ⊢
  rw [← e0] at hd
  obtain ⟨p1, p2, p3⟩ := List.pairwise_append.1 hd
  refine List.pairwise_append.2 ⟨List.pairwise_append.2 ⟨p1, List.pairwise_singleton _ _, fun x hx y hy => ?_⟩, p2, fun x hx y hy => ?_⟩
  · rw [List.mem_singleton.1 hy]; exact hlt x hx
  · rcases List.mem_append.1 hx with hx | hx
    · exact p3 x hx y hy
    · rw [List.mem_singleton.1 hx]; exact hge y hy
end Go.Aq
