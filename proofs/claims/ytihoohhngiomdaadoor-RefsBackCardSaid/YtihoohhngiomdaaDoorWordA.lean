/- Contracts of package word: signs (whole, Count, Clip, letter, low, Text, Name). No statement of the seat is proved here. -/
import Derived.Test.YtihoohhngiomdaaDoorBld2
import Derived.Deep.LoopGhost
import Derived.Deep.QuietTactic
import Derived.Lib.Hide
set_option linter.unusedVariables false
namespace Go.Aq
open Go.RowKit
theorem str_extract (l : List UInt8) (i j : Nat) : (str l).extract i j = str ((l.take j).drop i) := by
  unfold str
  apply ByteArray.ext
  rw [ByteArray.data_extract]
  simp [List.drop_take]
theorem str_from (l : List UInt8) (i : Nat) : (str l).extract i l.length = str (l.drop i) := by rw [str_extract, List.take_length]
theorem str_upto (l : List UInt8) (i : Nat) : (str l).extract 0 i = str (l.take i) := by rw [str_extract]; rfl
theorem Bs_bytes (l : List UInt8) : Lib.byteCells l = Bs l := rfl
theorem Chg.iterAt {S : List Nat} {a w : World} (h : Chg S a w) {k : Nat} (hk : k ∈ S ∨ a.heap.size ≤ k) (s : ByteArray) (pos : Nat) : Chg S a (w.iterAt k s pos) :=
  h.trans (T := [k]) ⟨rfl, rfl, rfl, by rw [Lib.iterAt_size]; exact Nat.le_refl _, fun i hi hn => Lib.iterAt_other w k i s pos (by simpa using hn)⟩ (by simpa using hk)
theorem Chg.range {S : List Nat} {a w : World} (h : Chg S a w) (s : ByteArray) (pos : Nat) : Chg S a (w.iter s pos) := h.alloc _
namespace Wd
theorem rb {a b : Bool} (h : a = b) : Ending.returned (.bool a) = .returned (.bool b) := by rw [h]
theorem ri {k : IntKind} {a b : Int} (h : a = b) : Ending.returned (.int k a) = .returned (.int k b) := by rw [h]
theorem get_str (l : List UInt8) (i : Nat) : (str l).get! i = l.getD i 0 := by
  unfold str ByteArray.get!
  simp [List.getD_eq_getElem?_getD]
  rfl
theorem decode_str (l : List UInt8) (p : Nat) : Utf8.decode (str l) p = dec (l.drop p) := by
  rw [Lib.decode_at]
  unfold dec
  have e : ∀ k, (l.drop p).getD k 0 = l.getD (p + k) 0 := fun k => by simp [List.getD_eq_getElem?_getD]
  rw [get_str, get_str, get_str, get_str, e, e, e, e, str_size, List.length_drop]
  rfl
/-- What Go's decoder tells of a text. -/
def decG (l : List UInt8) : Nat × Nat := if l = [] then (65533, 0) else dec l
theorem decodeGo_str (l : List UInt8) : Lib.decodeGo (str l) = decG l := by
  unfold Lib.decodeGo decG
  rw [str_size, decode_str, List.drop_zero]
  by_cases h : l = []
  · simp [h]
  · rw [if_neg h, if_neg (fun e => h (List.eq_nil_of_length_eq_zero e))]
theorem dec_fst (l : List UInt8) : (dec l).1 ≤ 2000000 := by
  by_cases h : l = []
  · subst h; decide
  · cases hb : bad (dec l) with
    | true => rw [bad_iff] at hb; rw [hb]; decide
    | false =>
      have := (dec_good l h hb).1
      unfold okR at this; omega
end Wd
end Go.Aq
namespace Go.Proofs.YtihoohhngiomdaaDoor
open Go.RowKit Go.Aq Go.Aq.Wd
/-- What the library's variables hold. -/
def Tabs (w : World) : Prop := Lib.Utf8Tabs 1 2 w ∧ (∃ m, w.cell? ⟨0, 0, none⟩ = some (.int .i64 m)) ∧ w.cell? ⟨5, 15, none⟩ = some (.int .u8 4)
theorem Tabs.chg {w w' : World} (h : Tabs w) (c : Chg [] w w') : Tabs w' := by
  obtain ⟨⟨h1, h2⟩, ⟨m, h3⟩, h4⟩ := h
  exact ⟨⟨fun i hi => c.cell_some (h1 i hi) (by simp), fun i hi => ⟨c.cell_some (h2 i hi).1 (by simp), c.cell_some (h2 i hi).2 (by simp)⟩⟩, ⟨m, c.cell_some h3 (by simp)⟩, c.cell_some h4 (by simp)⟩
theorem dec_any (l : List UInt8) (w : World) (hT : Tabs w) :
    Calls Tryd.prog 56 #[.string (str l)] w fun e w' => e = .returned (.tuple #[.int .i32 (decG l).1, .int .i64 (decG l).2]) ∧ Chg [] w w' := by
  have h := Tryd.utf8_DecodeRuneInString (str l) w hT.1
  rw [decodeGo_str] at h
  exact h.mono fun e w' ⟨h1, h2⟩ => ⟨h1, Chg.of_below h2⟩
set_option maxHeartbeats 400000 in
theorem whole_any (l : List UInt8) (w : World) (hT : Tabs w) :
    Calls Tryd.prog 47 #[.string (str l)] w fun e w' => e = .returned (.bool (decide (1 < (decG l).2))) ∧ Chg [] w w' := by
  have hd := dec_any l w hT
  generalize (decG l).1 = a at *
  generalize (decG l).2 = b at *
  go_enter Tryd.func47, Tryd.ntmps47
  go_wp2_with fail
  refine hd.mono ?_
  rintro e w1 ⟨rfl, c1⟩
  go_wp2_with fail
  go_ret
  exact ⟨rb (by simp; omega), c1⟩
set_option maxHeartbeats 400000 in
theorem low_any (c : Nat) (hc : c ≤ 2000000) (w : World) :
    Calls Tryd.prog 48 #[.int .i32 c] w fun e w' => e = .returned (.bool (low c)) ∧ w' = w := by
  go_enter Tryd.func48, Tryd.ntmps48
  go_wp2_with fail
  all_goals go_ret
  all_goals refine ⟨rb ?_, rfl⟩
  all_goals (rw [Bool.eq_iff_iff]; simp [low]; omega)
set_option maxHeartbeats 1000000 in
theorem letter_any (c : Nat) (hc : c ≤ 2000000) (w : World) :
    Calls Tryd.prog 32 #[.int .i32 c] w fun e w' => e = .returned (.bool (letter c)) ∧ w' = w := by
  go_enter Tryd.func32, Tryd.ntmps32
  go_wp2_with fail
  all_goals go_ret
  all_goals refine ⟨rb ?_, rfl⟩
  all_goals (try simp only [beq_iff_eq, beq_eq_false_iff_ne, ne_eq] at *)
  all_goals (rw [Bool.eq_iff_iff]; simp only [letter, Bool.or_eq_true, Bool.and_eq_true, decide_eq_true_eq, beq_iff_eq, bne_iff_ne, ne_eq, Bool.false_eq_true, true_iff, false_iff]; omega)
/-- What a step of a range over a text finds. -/
theorem next_at (l : List UInt8) (w : World) (k pos : Nat) (hk : w.heap[k]? = some (.stringIter (str l) pos)) (h : pos < l.length) (ty : TypeId) :
    (Instr.next (.pointer (some ⟨k, 0, none⟩)) true ty).run Tryd.prog w = .ok (.tuple #[.bool true, .int .i64 pos, .int .i32 (dec (l.drop pos)).1]) (w.iterAt k (str l) (pos + (dec (l.drop pos)).2)) := by
  have := Lib.run_next_any_at (P := Tryd.prog) w k (str l) pos ty hk (by rw [str_size]; exact h)
  rw [decode_str] at this
  exact this
theorem next_end (l : List UInt8) (w : World) (k pos : Nat) (hk : w.heap[k]? = some (.stringIter (str l) pos)) (h : ¬ pos < l.length) (ty : TypeId) :
    (Instr.next (.pointer (some ⟨k, 0, none⟩)) true ty).run Tryd.prog w = .ok (.tuple #[.bool false]) w :=
  Lib.run_next_end_at (P := Tryd.prog) w k (str l) pos ty hk (by rw [str_size]; exact h)
theorem drop_ne (l : List UInt8) (p : Nat) (h : p < l.length) : l.drop p ≠ [] := by
  intro e; have := congrArg List.length e; simp at this; omega
theorem dec_fits (l : List UInt8) (p : Nat) (h : p < l.length) : p + (dec (l.drop p)).2 ≤ l.length := by
  have := dec_le _ (drop_ne l p h)
  rw [List.length_drop] at this; omega
/-- The signs up to a place, and those behind it. -/
def Pre (l : List UInt8) (pos : Nat) (pre : List Nat) : Prop := sigs l = (sigs (l.drop pos)).map (pre ++ ·)
theorem Pre.zero (l : List UInt8) : Pre l 0 [] := by unfold Pre; simp
theorem Pre.step {l : List UInt8} {pos : Nat} {pre : List Nat} (h : Pre l pos pre) (hp : pos < l.length) (hb : bad (dec (l.drop pos)) = false) : Pre l (pos + (dec (l.drop pos)).2) (pre ++ [(dec (l.drop pos)).1]) := by
  unfold Pre at *
  rw [h, sigs_step _ (drop_ne l pos hp), hb]
  simp only [Bool.false_eq_true, if_false, List.drop_drop, Option.map_map]
  congr 1
  funext x
  simp
theorem Pre.bad {l : List UInt8} {pos : Nat} {pre : List Nat} (h : Pre l pos pre) (hp : pos < l.length) (hb : Wd.bad (dec (l.drop pos)) = true) : sigs l = none := by
  unfold Pre at h
  rw [h, sigs_step _ (drop_ne l pos hp), hb]
  rfl
theorem Pre.all {l : List UInt8} {pos : Nat} {pre : List Nat} (h : Pre l pos pre) (hp : ¬ pos < l.length) : sigs l = some pre := by
  unfold Pre at h
  rw [h, List.drop_eq_nil_of_le (by omega), sigs_nil]
  simp
set_option maxHeartbeats 1000000 in
theorem count_any (l : List UInt8) (w : World) (hT : Tabs w) (hl : l.length ≤ 1000000000) :
    Calls Tryd.prog 35 #[.string (str l)] w fun e w' => e = .returned (.tuple #[.int .i64 (countL l).1, .int .i64 (countL l).2]) ∧ Chg [] w w' := by
  have hsz := str_size l
  obtain ⟨K, hK⟩ : ∃ K, w.heap.size = K := ⟨_, rfl⟩
  go_enter Tryd.func35, Tryd.ntmps35
  go_wp2_with fail
  go_loopg [4] l.length (fun k vn wr => ∃ (pos : Nat) (pre : List Nat), vn = .int .i64 pre.length ∧ pos + k = l.length ∧ pre.length ≤ pos ∧ wr.heap[K]? = some (.stringIter (str l) pos) ∧ Chg [] w wr ∧ Pre l pos pre)
  case atStart =>
    refine ⟨0, [], rfl, by omega, by simp, ?_, (Chg.refl _ _).range _ _, Pre.zero l⟩
    rw [← hK]; exact World.iter_heap w (str l) 0
  case round =>
    obtain ⟨pos, pre, rfl, hpk, hpl, hit, hc, hpre⟩ := hrel
    by_cases hp : pos < l.length
    · have hnx := fun ty => next_at l wr K pos hit hp ty
      have hfit := dec_fits l pos hp
      have hdp := dec_pos (l.drop pos)
      have hd1 := dec_fst (l.drop pos)
      have hcn := hc.iterAt (k := K) (.inr (by omega)) (str l) (pos + (dec (l.drop pos)).2)
      have hitn := Lib.iterAt_heap wr K (str l) pos (pos + (dec (l.drop pos)).2) hit
      have hst := hpre.step hp
      have hbd := hpre.bad hp
      have hG : decG (l.drop pos) = dec (l.drop pos) := by unfold decG; rw [if_neg (drop_ne l pos hp)]
      have he := str_from l pos
      have hwh := whole_any (l.drop pos) (wr.iterAt K (str l) (pos + (dec (l.drop pos)).2)) (hT.chg hcn)
      rw [hG] at hwh
      clear hG
      generalize dec (l.drop pos) = d at *
      obtain ⟨c, n⟩ := d
      simp only at *
      generalize wr.iterAt K (str l) (pos + n) = w1 at *
      have HST := Lib.hid hst
      have HBD := Lib.hid hbd
      have HP := Lib.hid (And.intro hpk hpl)
      have hpb : pre.length ≤ 1000000000 := by omega
      have hpb' : (pre.length : Int) ≤ 1000000000 := by omega
      clear hst hbd hpre hit hc hpk hpl
      by_cases h3 : c = 65533
      · subst h3
        by_cases h1 : 1 < n
        · have hg := HST.out (not_bad _ n (by omega))
          have td : decide (1 < n) = true := by simpa using h1
          rw [td] at hwh
          go_wp2_with fail
          refine hwh.mono ?_
          rintro e w2 ⟨rfl, c2⟩
          have hit2 := (c2.block K (Array.getElem?_eq_some_iff.1 hitn).1 (by simp)).trans hitn
          have hc2 := hcn.nil c2
          go_wp2_with fail
          go_roundg (gk - n)
          case measure => have := HP.out; omega
          case rel => exact ⟨pos + n, pre ++ [65533], by simp, by have := HP.out; omega, by have := HP.out; simp; omega, hit2, hc2, hg⟩
        · have hn1 : n = 1 := by omega
          subst hn1
          have hs := HBD.out rfl
          have hcl : countL l = (0, 4) := by unfold countL; rw [hs]
          have HCL := Lib.hid hcl
          have td : decide (1 < 1) = false := rfl
          rw [td] at hwh
          clear hcl hs
          go_wp2_with fail
          refine hwh.mono ?_
          rintro e w2 ⟨rfl, c2⟩
          go_wp2_with fail
          go_ret2
          exact ⟨by rw [HCL.out]; rfl, hcn.nil c2⟩
      · have t1 : ((c : Int) == 65533) = false := by simp; omega
        have hg := HST.out (not_bad c n (by omega))
        go_wp2_with fail
        go_roundg (gk - n)
        case measure => have := HP.out; omega
        case rel => exact ⟨pos + n, pre ++ [c], by simp, by have := HP.out; omega, by have := HP.out; simp; omega, hitn, hcn, hg⟩
    · have hnx := fun ty => next_end l wr K pos hit hp ty
      have hs := hpre.all hp
      have hcl := countL_of hs
      go_wp2_with fail
      go_ret2
      exact ⟨by rw [hcl]; rfl, hc⟩
end Go.Proofs.YtihoohhngiomdaaDoor
