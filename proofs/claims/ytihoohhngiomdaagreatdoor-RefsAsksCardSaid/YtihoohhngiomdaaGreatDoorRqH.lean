/- The contracts of refs, said of a length that has a name. No statement of the seat is proved here. -/
import Derived.Test.YtihoohhngiomdaaGreatDoorRqG
set_option linter.unusedVariables false
namespace Go.Proofs.YtihoohhngiomdaaGreatDoor
open Go.RowKit Go.Aq Go.Aq.Wd
section
variable {n m : Nat} {l l' : List RefD} (hn : l.length = n) (hm : l'.length = m)
include hn
theorem plainN (hb : n ≤ 1000000) (w : World) (v : Value) (hv : Sees w 3 v n (Rfs l)) : Calls Tryz.prog 8 #[v] w fun e w' => ∃ v', e = .returned v' ∧ Fresh w w' 51 3 v' n (Rfs l) := by subst hn; exact plainR_any w v l hv hb
theorem sameN (hb : n ≤ 1000000) (w : World) (v v' : Value) (hv : Sees w 3 v n (Rfs l)) (hv' : Sees w 3 v' n (Rfs l)) : Calls Tryz.prog 16 #[v, v'] w fun e w' => e = .returned (.bool true) ∧ Chg [] w w' := by
  subst hn
  have h := sameR_any w v v' l l hv hv' hb hb
  rw [decide_eq_true (rfl : l = l)] at h
  exact h
theorem encN (hb : n ≤ 1000000) (hx : ∀ r ∈ l, r.name.length ≤ 1000000 ∧ r.key.length ≤ 1000000) (w : World) (hT : Tabs w) (v : Value) (hv : Sees w 3 v n (Rfs l)) :
    Calls Tryz.prog 6 #[v] w fun e w' => ∃ v', e = .returned (.tuple #[v', .int .i64 (encodeL l).2]) ∧ Sees w' 1 v' (encodeL l).1.length (Bs (encodeL l).1) ∧ Chg [] w w' := by
  subst hn
  exact (encode_any w hT v l hv hb hx).mono fun e w' ⟨v', h1, h2, _, h3⟩ => ⟨v', h1, h2, h3⟩
theorem rencN (hb : n ≤ 1000000) (hx : ∀ r ∈ l, r.name.length ≤ 1000000 ∧ r.key.length ≤ 1000000) (w : World) (v : Value) (hv : Sees w 3 v n (Rfs l)) :
    Calls Tryz.prog 7 #[v] w fun e w' => ∃ v', e = .returned (.tuple #[v', .int .i64 (encodeL l).2]) ∧ Sees w' 1 v' (encodeL l).1.length (Bs (encodeL l).1) ∧ Chg [] w w' := by
  subst hn
  exact (rencode_any w v l hv hb hx).mono fun e w' ⟨v', h1, h2⟩ => ⟨v', h1, h2.own.sees, h2.chg⟩
theorem findN (hb : n ≤ 1000000) (t : Bool) (nm : List UInt8) (w : World) (v : Value) (hv : Sees w 3 v n (Rfs l)) :
    Calls Tryz.prog 11 #[v, .bool t, .string (str nm)] w fun e w' => e = .returned (.tuple #[.string (str ((findL l t nm).getD [])), .bool (findL l t nm).isSome]) ∧ Chg [] w w' := by subst hn; exact find_any w v l t nm hv hb
theorem rfindN (hb : n ≤ 1000000) (t : Bool) (nm : List UInt8) (w : World) (v : Value) (hv : Sees w 3 v n (Rfs l)) :
    Calls Tryz.prog 12 #[v, .bool t, .string (str nm)] w fun e w' => e = .returned (.tuple #[.string (str ((findL l t nm).getD [])), .bool (findL l t nm).isSome]) ∧ Chg [] w w' := by subst hn; exact rfind_any w v l t nm hv hb
theorem mayN (hb : n ≤ 1000000) (hx : ∀ r ∈ l, r.name.length ≤ 1000000 ∧ r.key.length ≤ 1000000) (w : World) (hT : Tabs w) (v : Value) (hv : Sees w 3 v n (Rfs l)) :
    Calls Tryz.prog 18 #[v] w fun e w' => e = .returned (.bool (mayL l)) ∧ Chg [] w w' := by subst hn; exact may_any w hT v l hv hb hx
theorem rmayN (hb : n ≤ 1000000) (hx : ∀ r ∈ l, r.name.length ≤ 1000000 ∧ r.key.length ≤ 1000000) (w : World) (v : Value) (hv : Sees w 3 v n (Rfs l)) :
    Calls Tryz.prog 22 #[v] w fun e w' => e = .returned (.bool (mayL l)) ∧ Chg [] w w' := by subst hn; exact rmay_any w v l hv hb hx
theorem saveBadN (hb : n ≤ 1000000) (hx : ∀ r ∈ l, r.name.length ≤ 1000000 ∧ r.key.length ≤ 1000000) (hM : mayL l = false) (w : World) (hT : Tabs w) (v : Value) (hv : Sees w 3 v n (Rfs l)) :
    Calls Tryz.prog 13 #[v] w fun e w' => e = .returned (.tuple #[.agg #[.int .i64 0, .string ⟨#[]⟩, .string ⟨#[]⟩, .slice none 0 0], .int .i64 4]) ∧ Chg [] w w' := by subst hn; exact save_bad w hT v l hv hb hx hM
theorem saveOkN (hb : n ≤ 1000000) (hx : ∀ r ∈ l, r.name.length ≤ 1000000 ∧ r.key.length ≤ 1000000) (hM : mayL l = true) (w : World) (hT : Tabs w) (v : Value) (hv : Sees w 3 v n (Rfs l)) :
    Calls Tryz.prog 13 #[v] w fun e w' => ∃ v', e = .returned (.tuple #[.agg #[.int .i64 2, .string ⟨#[114, 101, 102, 115]⟩, .string ⟨#[]⟩, v'], .int .i64 0]) ∧ Sees w' 1 v' (l.flatMap lineR).length (Bs (l.flatMap lineR)) ∧ Chg [] w w' := by subst hn; exact save_ok w hT v l hv hb hx hM
include hm
/-- l' is what l is without a name. -/
theorem dropN (hb : n ≤ 1000000) (t : Bool) (nm : List UInt8) (hd : dropL l t nm = l') (w : World) (v : Value) (hv : Sees w 3 v n (Rfs l)) :
    Calls Tryz.prog 15 #[v, .bool t, .string (str nm)] w fun e w' => ∃ v', e = .returned v' ∧ Fresh w w' 24 3 v' m (Rfs l') := by subst hn hm hd; exact drop_any w v l t nm hv hb
theorem rdropN (hb : n ≤ 1000000) (t : Bool) (nm : List UInt8) (hd : dropL l t nm = l') (w : World) (v : Value) (hv : Sees w 3 v n (Rfs l)) :
    Calls Tryz.prog 17 #[v, .bool t, .string (str nm)] w fun e w' => ∃ v', e = .returned v' ∧ Fresh w w' 51 3 v' m (Rfs l') := by subst hn hm hd; exact rdrop_any w v l t nm hv hb
theorem setN (hb : n ≤ 1000000) (r : RefD) (hd : setL l r = l') (w : World) (v : Value) (hv : Sees w 3 v n (Rfs l)) :
    Calls Tryz.prog 19 #[v, rfV r] w fun e w' => ∃ v', e = .returned v' ∧ Sees w' 3 v' m (Rfs l') ∧ Chg [] w w' := by subst hn hm hd; exact set_any w v l r hv hb
theorem rsetN (hb : n ≤ 1000000) (r : RefD) (hd : setL l r = l') (w : World) (v : Value) (hv : Sees w 3 v n (Rfs l)) :
    Calls Tryz.prog 20 #[v, rfV r] w fun e w' => ∃ v', e = .returned v' ∧ Sees w' 3 v' m (Rfs l') ∧ Chg [] w w' := by subst hn hm hd; exact rset_any w v l r hv hb
end
theorem decN {b : List UInt8} {pl : List RefD} {k g nb : Nat} (hd : decL b = (pl, g)) (hk : pl.length = k) (hb : b.length ≤ 200000) (w : World) (hT : Tabs w) (v : Value) (hv : Sees w 1 v nb (Bs b)) :
    Calls Tryz.prog 9 #[v] w fun e w' => ∃ v', e = .returned (.tuple #[v', .int .i64 g]) ∧ Sees w' 3 v' k (Rfs pl) ∧ Chg [] w w' := by
  have h := decode_any w hT v nb b hv hb
  rw [hd] at h
  subst hk
  exact h
theorem rdecN {b : List UInt8} {pl : List RefD} {k g nb : Nat} (hd : decL b = (pl, g)) (hk : pl.length = k) (hb : b.length ≤ 200000) (w : World) (v : Value) (hv : Sees w 1 v nb (Bs b)) :
    Calls Tryz.prog 10 #[v] w fun e w' => ∃ v', e = .returned (.tuple #[v', .int .i64 g]) ∧ Sees w' 3 v' k (Rfs pl) ∧ Chg [] w w' := by
  have h := rdecode_any w v nb b hv hb
  rw [hd] at h
  subst hk
  exact h
/-- What is read is a short list. -/
theorem dec_len (b : List UInt8) (hb : b.length ≤ 200000) : (decL b).1.length ≤ 1000000 := by
  by_cases h : (decL b).2 = 0
  · have h1 := dec_ok h
    have h2 : mayL (decL b).1 = true := by
      unfold encodeL at h1
      split at h1
      · assumption
      · cases h1
    have := mayL_len h2
    omega
  · rw [dec_err h]; simp
end Go.Proofs.YtihoohhngiomdaaGreatDoor
