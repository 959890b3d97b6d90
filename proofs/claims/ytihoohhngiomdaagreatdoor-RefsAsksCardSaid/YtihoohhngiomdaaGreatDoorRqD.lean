/- A text split at a sign (aquref.Split), in plain words and as a walk; what reading refs comes to by such pieces. No statement of the seat is proved here. -/
import Derived.Test.YtihoohhngiomdaaGreatDoorRqC
import Derived.Test.YtihoohhngiomdaaGreatDoorRWordG
set_option linter.unusedVariables false
set_option linter.unusedSimpArgs false
namespace Go.Proofs.YtihoohhngiomdaaGreatDoor
open Go.RowKit Go.Aq Go.Aq.Wd
/-- Pieces with their ends. -/
def ends (P : List (List UInt8)) : List UInt8 := P.flatMap (· ++ [10])
theorem ends_snoc (P : List (List UInt8)) (q : List UInt8) : ends (P ++ [q]) = ends P ++ (q ++ [10]) := by simp [ends]
theorem lines_split : ∀ (P : List (List UInt8)) (q : List UInt8), (∀ x ∈ P, (10 : UInt8) ∉ x) → (10 : UInt8) ∉ q → linesL (ends P ++ q) = P.map (· ++ [10]) ++ (if q = [] then [] else [q])
  | [], q, _, hq => by
    simp only [ends, List.flatMap_nil, List.nil_append, List.map_nil]
    by_cases h : q = []
    · subst h; simp [linesL_nil]
    · rw [if_neg h, linesL_cons h]
      have h1 : headLn q = q := by unfold headLn; rw [if_neg hq]
      have h2 : restLn q = [] := by unfold restLn; rw [if_neg hq]
      rw [h1, h2, linesL_nil]
  | x :: P, q, hP, hq => by
    have ih := lines_split P q (fun y hy => hP y (by simp [hy])) hq
    have e : ends (x :: P) ++ q = x ++ 10 :: (ends P ++ q) := by simp [ends]
    rw [e, lines_app (hP x (by simp)), ih]; simp
/-- The pieces as refs. -/
def readW : List (List UInt8) → Option (List RefD)
  | [] => some []
  | x :: t => match lineW x with
    | none => none
    | some r => (readW t).map (r :: ·)
theorem lineD_end (x : List UInt8) : lineD (x ++ [10]) = lineW x := by rw [lineD_W, trimN_end]
theorem readW_eq : ∀ P : List (List UInt8), readL (P.map (· ++ [10])) = readW P
  | [] => rfl
  | x :: t => by
    simp only [List.map_cons, readL, readW, lineD_end, readW_eq t]
    cases lineW x <;> rfl
theorem readW_snoc (x : List UInt8) (a : List (List UInt8)) (l : List RefD) (h : readW a = some l) : readW (a ++ [x]) = (lineW x).map fun r => l ++ [r] := by
  rw [← readW_eq, List.map_append, List.map_singleton, readL_snoc (x ++ [10]) _ l (by rw [readW_eq]; exact h), lineD_end]
theorem readW_len {a : List (List UInt8)} {l : List RefD} (h : readW a = some l) : l.length = a.length := by
  have := readL_len (a.map (· ++ [10])) l (by rw [readW_eq]; exact h)
  simpa using this
structure Pieces (b : List UInt8) (P : List (List UInt8)) (q : List UInt8) : Prop where
  eq : b = ends P ++ q
  no : ∀ x ∈ P, (10 : UInt8) ∉ x
  last : (10 : UInt8) ∉ q
theorem Pieces.lines {b : List UInt8} {P : List (List UInt8)} {q : List UInt8} (h : Pieces b P q) : linesL b = P.map (· ++ [10]) ++ (if q = [] then [] else [q]) := by
  rw [h.eq]; exact lines_split P q h.no h.last
theorem dec_bad {b : List UInt8} {P : List (List UInt8)} {q : List UInt8} (h : Pieces b P q) {i : Nat} (hi : i < P.length) (hx : lineW P[i] = none) : decL b = ([], 4) := by
  have e : P = P.take i ++ P[i] :: P.drop (i + 1) := by rw [List.getElem_cons_drop, List.take_append_drop]
  unfold decL
  rw [h.lines]
  have hr : readL (P.map (· ++ [10]) ++ (if q = [] then [] else [q])) = none := by
    rw [e, List.map_append, List.map_cons, List.append_assoc, List.cons_append]
    exact readL_bad (by rw [lineD_end]; exact hx) _ _
  rw [hr]
theorem dec_long {b : List UInt8} {P : List (List UInt8)} {q : List UInt8} (h : Pieces b P q) (hi : 100 < P.length) : decL b = ([], 4) := by
  unfold decL
  cases hr : readL (linesL b) with
  | none => rfl
  | some l =>
    have h1 := readL_len _ _ hr
    have h2 : P.length ≤ (linesL b).length := by rw [h.lines]; simp
    simp only
    rw [if_neg]
    intro he
    have := mayL_len (enc_mayD he)
    omega
where
  enc_mayD {l : List RefD} {b : List UInt8} (h : encodeL l = (b, 0)) : mayL l = true := by
    unfold encodeL at h
    split at h
    · assumption
    · cases h
theorem enc_end {m : List RefD} {b : List UInt8} (h : encodeL m = (b, 0)) (hb : b ≠ []) : b.getLast? = some 10 := by
  have e : b = m.flatMap lineR := by
    unfold encodeL at h
    split at h
    · injection h with h1 h2; exact h1.symm
    · cases h
  rcases List.eq_nil_or_concat m with rfl | ⟨m', r, rfl⟩
  · exact absurd e hb
  · have e2 : [r].flatMap lineR = (kindL r.tag ++ [32] ++ (quoteL r.name).1 ++ [32] ++ r.key) ++ [10] := by simp [lineR]
    rw [e, List.concat_eq_append, List.flatMap_append, e2, ← List.append_assoc]
    exact List.getLast?_concat
theorem dec_all {b : List UInt8} {P : List (List UInt8)} {q : List UInt8} (h : Pieces b P q) {m : List RefD} (hm : readW P = some m) : decL b = if encodeL m = (b, 0) then (m, 0) else ([], 4) := by
  by_cases hq : q = []
  · subst hq
    unfold decL
    rw [h.lines, if_pos rfl, List.append_nil, readW_eq, hm]
  · have hl : b.getLast? ≠ some 10 := by
      rw [h.eq, List.getLast?_append]
      intro e
      cases hg : q.getLast? with
      | none => exact hq (List.getLast?_eq_none_iff.1 hg)
      | some c =>
        rw [hg] at e
        simp at e
        subst e
        exact h.last (List.mem_of_getLast? hg)
    have hb : b ≠ [] := by rw [h.eq]; simp [hq]
    rw [if_neg (fun e => hl (enc_end e hb))]
    unfold decL
    cases hr : readL (linesL b) with
    | none => rfl
    | some l =>
      simp only
      rw [if_neg (fun e => hl (enc_end e hb))]
/-- How far the splitting has come. -/
def SplitI (l : List UInt8) (n i f : Nat) (o : List (List UInt8)) : Prop :=
  ∃ P q, (∀ x ∈ P, (10 : UInt8) ∉ x) ∧ (10 : UInt8) ∉ q ∧ ((i ≤ n ∧ o = P ∧ l.take i = ends P ++ q ∧ f + q.length = i) ∨ (i = n + 1 ∧ o = P ++ [q] ∧ l = ends P ++ q))
theorem split_cut {l : List UInt8} {P : List (List UInt8)} {q : List UInt8} {i f : Nat} (hi : i ≤ l.length) (h : l.take i = ends P ++ q) (hf : f + q.length = i) : (l.take i).drop f = q := by
  have h1 := congrArg List.length h
  rw [List.length_take, List.length_append] at h1
  have h2 : f = (ends P).length := by omega
  rw [h, h2, List.drop_left]
set_option maxRecDepth 100000 in
set_option maxHeartbeats 4000000 in
theorem split_any (l : List UInt8) (w : World) (hl : l.length ≤ 1000000) :
    Calls Tryz.prog 33 #[.string (str l), .int .u8 10] w fun e w' => ∃ v P q, e = .returned v ∧ Pieces l P q ∧ Fresh w w' 9 1 v (P.length + 1) (Ss (P ++ [q])) := by
  obtain ⟨n, HN⟩ : ∃ n, Hid (l.length = n) := ⟨_, rfl⟩
  have hsz : (str l).size = n := by rw [str_size]; exact HN.out
  rw [HN.out] at hl
  go_enter Tryz.func33, Tryz.ntmps33
  go_wp2_with fail
  go_loopg [5, 6, 7] (n + 1) (fun gk (v5 v6 v7 : Value) wr => ∃ (i f m : Nat) (o : List (List UInt8)) (a6 : Option Addr) (c6 : Nat), v5 = .slice a6 m c6 ∧ v6 = .int .i64 (f : Int) ∧ v7 = .int .i64 (i : Int) ∧ i + gk = n + 1 ∧ Hid (o.length = m ∧ m ≤ i) ∧ Hid (SplitI l n i f o) ∧ Hid (Fresh w wr 9 1 (.slice a6 m c6) m (Ss o)))
  case atStart => exact ⟨0, 0, 0, [], none, 0, rfl, rfl, rfl, by omega, ⟨rfl, Nat.le_refl _⟩, ⟨[], [], by simp, by simp, .inl ⟨Nat.zero_le _, rfl, rfl, rfl⟩⟩, Fresh.nil _ _ _⟩
  case round =>
    obtain ⟨i, f, m, o, a6, c6, rfl, rfl, rfl, hik, HO, HS, HF⟩ := hrel
    have hin0 : i ≤ n + 1 := by omega
    by_cases hin : i ≤ n
    · have t1 : decide ((i : Int) ≤ (n : Int)) = true := decide_eq_true (by omega)
      have t1' : decide (i ≤ n) = true := decide_eq_true hin
      obtain ⟨P, q, hP, hq, h⟩ := HS.out
      rcases h with ⟨-, ho, h1, h2⟩ | ⟨h0, -⟩
      rotate_left
      · omega
      have hcut := split_cut (by rw [HN.out]; exact hin) h1 h2
      have hex := str_extract l f i
      rw [hcut] at hex
      have hfi : f ≤ i := by omega
      have n1 : (f : Int) ≤ (i : Int) := by omega
      have n2 : (i : Int) ≤ (n : Int) := by omega
      have n3 : (i : Int) ≤ 1000000 := by omega
      by_cases hie : i = n
      · subst hie
        have e1 : ((i : Int) == (i : Int)) = true := by simp
        have HQ : Hid (SplitI l i (i + 1) (i + 1) (o ++ [q])) := ⟨P, q, hP, hq, .inr ⟨rfl, by rw [ho], by rw [← h1, ← HN.out, List.take_length]⟩⟩
        have hmi : m ≤ i := HO.out.2
        clear hP hq ho h1 h2 hcut hin0
        go_wp2_with (at_builtin; refine wpList_appF (w0 := w) rfl _ _ 74 rfl sl_str (by exact HF.out.to ((Chg.refl [] wr).alloc (.cells #[.string (str q)] 9))) rfl (Sees.row (cs := #[.string (str q)]) (by exact Blk.new wr _ 9) (m := 1) rfl) rfl (by simp [Value.oneCell']) (by omega) (by omega) ?_; intro v4 w4 hF4 c4; obtain ⟨a4, p4, rfl, -⟩ := hF4.shape; have HF4 := Lib.hid hF4; clear hF4 c4)
        go_roundg (gk - 1)
        case measure => omega
        case rel => exact ⟨i + 1, i + 1, m + 1, o ++ [q], a4, p4, rfl, by go_num, by go_num, by omega, ⟨by simp [HO.out.1], by omega⟩, HQ, by rw [Ss_append]; exact HF4.out⟩
      · have hlt : i < n := by omega
        have hil : i < l.length := by rw [HN.out]; exact hlt
        have e1 : ((i : Int) == (n : Int)) = false := by simp; omega
        have htk := List.take_succ_eq_append_getElem hil
        have ix := fun w' => idxS w' l i hil
        by_cases hc : l[i] = 10
        · have e2 : ((l[i].toNat : Int) == 10) = true := by rw [hc]; rfl
          have HQ : Hid (SplitI l n (i + 1) (i + 1) (o ++ [q])) := by
            refine ⟨P ++ [q], [], ?_, by simp, .inl ⟨by omega, by rw [ho], ?_, by simp⟩⟩
            · intro x hx
              rcases List.mem_append.1 hx with hx | hx
              · exact hP x hx
              · rw [List.mem_singleton.1 hx]; exact hq
            · rw [htk, hc, h1, ends_snoc]; simp
          have hmi : m ≤ i := HO.out.2
          clear hP hq ho h1 h2 hcut htk hc hie hin0
          generalize l[i].toNat = cc at *
          go_wp2_with (at_builtin; refine wpList_appF (w0 := w) rfl _ _ 74 rfl sl_str (by exact HF.out.to ((Chg.refl [] wr).alloc (.cells #[.string (str q)] 9))) rfl (Sees.row (cs := #[.string (str q)]) (by exact Blk.new wr _ 9) (m := 1) rfl) rfl (by simp [Value.oneCell']) (by omega) (by omega) ?_; intro v4 w4 hF4 c4; obtain ⟨a4, p4, rfl, -⟩ := hF4.shape; have HF4 := Lib.hid hF4; clear hF4 c4)
          go_roundg (gk - 1)
          case measure => omega
          case rel => exact ⟨i + 1, i + 1, m + 1, o ++ [q], a4, p4, rfl, by go_num, by go_num, by omega, ⟨by simp [HO.out.1], by omega⟩, HQ, by rw [Ss_append]; exact HF4.out⟩
        · have e2 : ((l[i].toNat : Int) == 10) = false := by
            rw [beq_eq_false_iff_ne]
            intro e
            exact hc (UInt8.toNat_inj.1 (by show l[i].toNat = 10; omega))
          have HQ : Hid (SplitI l n (i + 1) f o) := by
            refine ⟨P, q ++ [l[i]], hP, ?_, .inl ⟨by omega, ho, by rw [htk, h1]; simp, by simp; omega⟩⟩
            intro hm
            rcases List.mem_append.1 hm with hm | hm
            · exact hq hm
            · exact hc (List.mem_singleton.1 hm).symm
          have hmi : m ≤ i := HO.out.2
          clear hP hq ho h1 h2 hcut htk hc hie hin0 hex
          generalize l[i].toNat = cc at *
          go_wp2_with fail
          go_roundg (gk - 1)
          case measure => omega
          case rel => exact ⟨i + 1, f, m, o, a6, c6, rfl, rfl, by go_num, by omega, ⟨HO.out.1, by omega⟩, HQ, HF.out⟩
    · have t1 : decide ((i : Int) ≤ (n : Int)) = false := decide_eq_false (by omega)
      have t1' : decide (i ≤ n) = false := decide_eq_false hin
      obtain ⟨P, q, hP, hq, h⟩ := HS.out
      rcases h with ⟨h0, -⟩ | ⟨h0, ho, h1⟩
      · omega
      have hm : m = P.length + 1 := by rw [← HO.out.1, ho]; simp
      have HZ : Hid (Pieces l P q ∧ Fresh w wr 9 1 (.slice a6 m c6) (P.length + 1) (Ss (P ++ [q]))) := ⟨⟨h1, hP, hq⟩, by rw [← hm, ← ho]; exact HF.out⟩
      clear hP hq h0 ho h1 hm
      go_wp2_with fail
      go_ret
      exact ⟨_, P, q, rfl, HZ.out.1, HZ.out.2⟩
end Go.Proofs.YtihoohhngiomdaaGreatDoor
