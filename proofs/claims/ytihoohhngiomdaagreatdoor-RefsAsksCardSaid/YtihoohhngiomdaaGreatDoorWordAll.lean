/- WordA, WordB, WordC, WordD, WordE, WordF, WordG, WordH, WordI, WordJ, WordK in one text. No statement of the seat is proved here. -/
import Derived.Test.YtihoohhngiomdaaGreatDoorBldAll
import Derived.Deep.LoopGhost
import Derived.Deep.QuietTactic
import Derived.Lib.Hide
import Derived.Deep.RegionHeld3
set_option linter.unusedVariables false
/- Contracts of package word: signs (whole, Count, Clip, letter, low, Text, Name). No statement of the seat is proved here. -/
namespace Go.Aq
open Go.RowKit
theorem str_extract (l : List UInt8) (i j : Nat) : (str l).extract i j = str ((l.take j).drop i) := by
  unfold str
  apply ByteArray.ext
  rw [ByteArray.data_extract]
  simp [List.drop_take]
theorem str_from (l : List UInt8) (i : Nat) : (str l).extract i l.length = str (l.drop i) := by rw [str_extract, List.take_length]
theorem str_upto (l : List UInt8) (i : Nat) : (str l).extract 0 i = str (l.take i) := by rw [str_extract]; rfl
theorem Bs_bytes (l : List UInt8) : Lib.byteCells l = Bs l := rfl
theorem Chg.iterAt {S : List Nat} {a w : World} (h : Chg S a w) {k : Nat} (hk : k ∈ S ∨ a.heap.size ≤ k) (s : ByteArray) (pos : Nat) : Chg S a (w.iterAt k s pos) :=
  h.trans (T := [k]) ⟨rfl, rfl, rfl, by rw [Lib.iterAt_size]; exact Nat.le_refl _, fun i hi hn => Lib.iterAt_other w k i s pos (by simpa using hn)⟩ (by simpa using hk)
theorem Chg.range {S : List Nat} {a w : World} (h : Chg S a w) (s : ByteArray) (pos : Nat) : Chg S a (w.iter s pos) := h.alloc _
namespace Wd
theorem rb {a b : Bool} (h : a = b) : Ending.returned (.bool a) = .returned (.bool b) := by rw [h]
theorem ri {k : IntKind} {a b : Int} (h : a = b) : Ending.returned (.int k a) = .returned (.int k b) := by rw [h]
theorem get_str (l : List UInt8) (i : Nat) : (str l).get! i = l.getD i 0 := by
  unfold str ByteArray.get!
  simp [List.getD_eq_getElem?_getD]
  rfl
theorem decode_str (l : List UInt8) (p : Nat) : Utf8.decode (str l) p = dec (l.drop p) := by
  rw [Lib.decode_at]
  unfold dec
  have e : ∀ k, (l.drop p).getD k 0 = l.getD (p + k) 0 := fun k => by simp [List.getD_eq_getElem?_getD]
  rw [get_str, get_str, get_str, get_str, e, e, e, e, str_size, List.length_drop]
  rfl
/-- What Go's decoder tells of a text. -/
def decG (l : List UInt8) : Nat × Nat := if l = [] then (65533, 0) else dec l
theorem decodeGo_str (l : List UInt8) : Lib.decodeGo (str l) = decG l := by
  unfold Lib.decodeGo decG
  rw [str_size, decode_str, List.drop_zero]
  by_cases h : l = []
  · simp [h]
  · rw [if_neg h, if_neg (fun e => h (List.eq_nil_of_length_eq_zero e))]
theorem dec_fst (l : List UInt8) : (dec l).1 ≤ 2000000 := by
  by_cases h : l = []
  · subst h; decide
  · cases hb : bad (dec l) with
    | true => rw [bad_iff] at hb; rw [hb]; decide
    | false =>
      have := (dec_good l h hb).1
      unfold okR at this; omega
end Wd
end Go.Aq
namespace Go.Proofs.YtihoohhngiomdaaGreatDoor
open Go.RowKit Go.Aq Go.Aq.Wd
/-- What the library's variables hold. -/
def Tabs (w : World) : Prop := Lib.Utf8Tabs 1 2 w ∧ (∃ m, w.cell? ⟨0, 0, none⟩ = some (.int .i64 m)) ∧ w.cell? ⟨5, 15, none⟩ = some (.int .u8 4)
theorem Tabs.chg {w w' : World} (h : Tabs w) (c : Chg [] w w') : Tabs w' := by
  obtain ⟨⟨h1, h2⟩, ⟨m, h3⟩, h4⟩ := h
  exact ⟨⟨fun i hi => c.cell_some (h1 i hi) (by simp), fun i hi => ⟨c.cell_some (h2 i hi).1 (by simp), c.cell_some (h2 i hi).2 (by simp)⟩⟩, ⟨m, c.cell_some h3 (by simp)⟩, c.cell_some h4 (by simp)⟩
theorem dec_any (l : List UInt8) (w : World) (hT : Tabs w) :
    Calls Tryz.prog 80 #[.string (str l)] w fun e w' => e = .returned (.tuple #[.int .i32 (decG l).1, .int .i64 (decG l).2]) ∧ Chg [] w w' := by
  have h := Tryz.utf8_DecodeRuneInString (str l) w hT.1
  rw [decodeGo_str] at h
  exact h.mono fun e w' ⟨h1, h2⟩ => ⟨h1, Chg.of_below h2⟩
set_option maxHeartbeats 400000 in
theorem whole_any (l : List UInt8) (w : World) (hT : Tabs w) :
    Calls Tryz.prog 65 #[.string (str l)] w fun e w' => e = .returned (.bool (decide (1 < (decG l).2))) ∧ Chg [] w w' := by
  have hd := dec_any l w hT
  generalize (decG l).1 = a at *
  generalize (decG l).2 = b at *
  go_enter Tryz.func65, Tryz.ntmps65
  go_wp2_with fail
  refine hd.mono ?_
  rintro e w1 ⟨rfl, c1⟩
  go_wp2_with fail
  go_ret
  exact ⟨rb (by simp; omega), c1⟩
set_option maxHeartbeats 400000 in
theorem low_any (c : Nat) (hc : c ≤ 2000000) (w : World) :
    Calls Tryz.prog 66 #[.int .i32 c] w fun e w' => e = .returned (.bool (low c)) ∧ w' = w := by
  go_enter Tryz.func66, Tryz.ntmps66
  go_wp2_with fail
  all_goals go_ret
  all_goals refine ⟨rb ?_, rfl⟩
  all_goals (rw [Bool.eq_iff_iff]; simp [low]; omega)
set_option maxHeartbeats 1000000 in
theorem letter_any (c : Nat) (hc : c ≤ 2000000) (w : World) :
    Calls Tryz.prog 56 #[.int .i32 c] w fun e w' => e = .returned (.bool (letter c)) ∧ w' = w := by
  go_enter Tryz.func56, Tryz.ntmps56
  go_wp2_with fail
  all_goals go_ret
  all_goals refine ⟨rb ?_, rfl⟩
  all_goals (try simp only [beq_iff_eq, beq_eq_false_iff_ne, ne_eq] at *)
  all_goals (rw [Bool.eq_iff_iff]; simp only [letter, Bool.or_eq_true, Bool.and_eq_true, decide_eq_true_eq, beq_iff_eq, bne_iff_ne, ne_eq, Bool.false_eq_true, true_iff, false_iff]; omega)
/-- What a step of a range over a text finds. -/
theorem next_at (l : List UInt8) (w : World) (k pos : Nat) (hk : w.heap[k]? = some (.stringIter (str l) pos)) (h : pos < l.length) (ty : TypeId) :
    (Instr.next (.pointer (some ⟨k, 0, none⟩)) true ty).run Tryz.prog w = .ok (.tuple #[.bool true, .int .i64 pos, .int .i32 (dec (l.drop pos)).1]) (w.iterAt k (str l) (pos + (dec (l.drop pos)).2)) := by
  have := Lib.run_next_any_at (P := Tryz.prog) w k (str l) pos ty hk (by rw [str_size]; exact h)
  rw [decode_str] at this
  exact this
theorem next_end (l : List UInt8) (w : World) (k pos : Nat) (hk : w.heap[k]? = some (.stringIter (str l) pos)) (h : ¬ pos < l.length) (ty : TypeId) :
    (Instr.next (.pointer (some ⟨k, 0, none⟩)) true ty).run Tryz.prog w = .ok (.tuple #[.bool false]) w :=
  Lib.run_next_end_at (P := Tryz.prog) w k (str l) pos ty hk (by rw [str_size]; exact h)
theorem drop_ne (l : List UInt8) (p : Nat) (h : p < l.length) : l.drop p ≠ [] := by
  intro e; have := congrArg List.length e; simp at this; omega
theorem dec_fits (l : List UInt8) (p : Nat) (h : p < l.length) : p + (dec (l.drop p)).2 ≤ l.length := by
  have := dec_le _ (drop_ne l p h)
  rw [List.length_drop] at this; omega
/-- The signs up to a place, and those behind it. -/
def Pre (l : List UInt8) (pos : Nat) (pre : List Nat) : Prop := sigs l = (sigs (l.drop pos)).map (pre ++ ·)
theorem Pre.zero (l : List UInt8) : Pre l 0 [] := by unfold Pre; simp
theorem Pre.step {l : List UInt8} {pos : Nat} {pre : List Nat} (h : Pre l pos pre) (hp : pos < l.length) (hb : bad (dec (l.drop pos)) = false) : Pre l (pos + (dec (l.drop pos)).2) (pre ++ [(dec (l.drop pos)).1]) := by
  unfold Pre at *
  rw [h, sigs_step _ (drop_ne l pos hp), hb]
  simp only [Bool.false_eq_true, if_false, List.drop_drop, Option.map_map]
  congr 1
  funext x
  simp
theorem Pre.bad {l : List UInt8} {pos : Nat} {pre : List Nat} (h : Pre l pos pre) (hp : pos < l.length) (hb : Wd.bad (dec (l.drop pos)) = true) : sigs l = none := by
  unfold Pre at h
  rw [h, sigs_step _ (drop_ne l pos hp), hb]
  rfl
theorem Pre.all {l : List UInt8} {pos : Nat} {pre : List Nat} (h : Pre l pos pre) (hp : ¬ pos < l.length) : sigs l = some pre := by
  unfold Pre at h
  rw [h, List.drop_eq_nil_of_le (by omega), sigs_nil]
  simp
set_option maxHeartbeats 1000000 in
theorem count_any (l : List UInt8) (w : World) (hT : Tabs w) (hl : l.length ≤ 1000000000) :
    Calls Tryz.prog 44 #[.string (str l)] w fun e w' => e = .returned (.tuple #[.int .i64 (countL l).1, .int .i64 (countL l).2]) ∧ Chg [] w w' := by
  have hsz := str_size l
  obtain ⟨K, hK⟩ : ∃ K, w.heap.size = K := ⟨_, rfl⟩
  go_enter Tryz.func44, Tryz.ntmps44
  go_wp2_with fail
  go_loopg [4] l.length (fun k vn wr => ∃ (pos : Nat) (pre : List Nat), vn = .int .i64 pre.length ∧ pos + k = l.length ∧ pre.length ≤ pos ∧ wr.heap[K]? = some (.stringIter (str l) pos) ∧ Chg [] w wr ∧ Pre l pos pre)
  case atStart =>
    refine ⟨0, [], rfl, by omega, by simp, ?_, (Chg.refl _ _).range _ _, Pre.zero l⟩
    rw [← hK]; exact World.iter_heap w (str l) 0
  case round =>
    obtain ⟨pos, pre, rfl, hpk, hpl, hit, hc, hpre⟩ := hrel
    by_cases hp : pos < l.length
    · have hnx := fun ty => next_at l wr K pos hit hp ty
      have hfit := dec_fits l pos hp
      have hdp := dec_pos (l.drop pos)
      have hd1 := dec_fst (l.drop pos)
      have hcn := hc.iterAt (k := K) (.inr (by omega)) (str l) (pos + (dec (l.drop pos)).2)
      have hitn := Lib.iterAt_heap wr K (str l) pos (pos + (dec (l.drop pos)).2) hit
      have hst := hpre.step hp
      have hbd := hpre.bad hp
      have hG : decG (l.drop pos) = dec (l.drop pos) := by unfold decG; rw [if_neg (drop_ne l pos hp)]
      have he := str_from l pos
      have hwh := whole_any (l.drop pos) (wr.iterAt K (str l) (pos + (dec (l.drop pos)).2)) (hT.chg hcn)
      rw [hG] at hwh
      clear hG
      generalize dec (l.drop pos) = d at *
      obtain ⟨c, n⟩ := d
      simp only at *
      generalize wr.iterAt K (str l) (pos + n) = w1 at *
      have HST := Lib.hid hst
      have HBD := Lib.hid hbd
      have HP := Lib.hid (And.intro hpk hpl)
      have hpb : pre.length ≤ 1000000000 := by omega
      have hpb' : (pre.length : Int) ≤ 1000000000 := by omega
      clear hst hbd hpre hit hc hpk hpl
      by_cases h3 : c = 65533
      · subst h3
        by_cases h1 : 1 < n
        · have hg := HST.out (not_bad _ n (by omega))
          have td : decide (1 < n) = true := by simpa using h1
          rw [td] at hwh
          go_wp2_with fail
          refine hwh.mono ?_
          rintro e w2 ⟨rfl, c2⟩
          have hit2 := (c2.block K (Array.getElem?_eq_some_iff.1 hitn).1 (by simp)).trans hitn
          have hc2 := hcn.nil c2
          go_wp2_with fail
          go_roundg (gk - n)
          case measure => have := HP.out; omega
          case rel => exact ⟨pos + n, pre ++ [65533], by simp, by have := HP.out; omega, by have := HP.out; simp; omega, hit2, hc2, hg⟩
        · have hn1 : n = 1 := by omega
          subst hn1
          have hs := HBD.out rfl
          have hcl : countL l = (0, 4) := by unfold countL; rw [hs]
          have HCL := Lib.hid hcl
          have td : decide (1 < 1) = false := rfl
          rw [td] at hwh
          clear hcl hs
          go_wp2_with fail
          refine hwh.mono ?_
          rintro e w2 ⟨rfl, c2⟩
          go_wp2_with fail
          go_ret2
          exact ⟨by rw [HCL.out]; rfl, hcn.nil c2⟩
      · have t1 : ((c : Int) == 65533) = false := by simp; omega
        have hg := HST.out (not_bad c n (by omega))
        go_wp2_with fail
        go_roundg (gk - n)
        case measure => have := HP.out; omega
        case rel => exact ⟨pos + n, pre ++ [c], by simp, by have := HP.out; omega, by have := HP.out; simp; omega, hitn, hcn, hg⟩
    · have hnx := fun ty => next_end l wr K pos hit hp ty
      have hs := hpre.all hp
      have hcl := countL_of hs
      go_wp2_with fail
      go_ret2
      exact ⟨by rw [hcl]; rfl, hc⟩
end Go.Proofs.YtihoohhngiomdaaGreatDoor

/- Contracts of package word: Clip, Text, Name. No statement of the seat is proved here. -/
namespace Go.Aq.Wd
/-- A place in a good text: behind its first j signs. -/
theorem place_take (rs : List Nat) (j : Nat) : (encL rs).take (encL (rs.take j)).length = encL (rs.take j) := by
  conv => lhs; arg 2; rw [← List.take_append_drop j rs, encL_append]
  exact List.take_left
theorem place_drop (rs : List Nat) (j : Nat) : (encL rs).drop (encL (rs.take j)).length = encL (rs.drop j) := by
  conv => lhs; arg 2; rw [← List.take_append_drop j rs, encL_append]
  exact List.drop_left
theorem place_lt (rs : List Nat) (j : Nat) (hj : j ≤ rs.length) : (encL (rs.take j)).length < (encL rs).length ↔ j < rs.length := by
  have h : (encL rs).length = (encL (rs.take j)).length + (encL (rs.drop j)).length := by rw [← List.length_append, ← encL_append, List.take_append_drop]
  constructor
  · intro hl
    by_cases h2 : j < rs.length
    · exact h2
    · have e0 : (encL ([] : List Nat)).length = 0 := rfl
      rw [List.drop_eq_nil_of_le (by omega), e0] at h; omega
  · intro hl
    rw [List.drop_eq_getElem_cons hl, encL_cons, List.length_append] at h
    have := enc1_len rs[j]
    omega
theorem place_step (rs : List Nat) (ok : ∀ c ∈ rs, okR c) (j : Nat) (hj : j < rs.length) :
    dec ((encL rs).drop (encL (rs.take j)).length) = (rs[j], (enc1 rs[j]).length) ∧ (encL (rs.take (j + 1))).length = (encL (rs.take j)).length + (enc1 rs[j]).length := by
  refine ⟨?_, ?_⟩
  · rw [place_drop, List.drop_eq_getElem_cons hj, encL_cons]
    exact dec_enc _ (ok _ (List.getElem_mem hj)) _
  · rw [List.take_succ_eq_append_getElem hj, encL_append, List.length_append]
    simp [encL]
theorem place_all (rs : List Nat) (j : Nat) (hj : rs.length ≤ j) : encL (rs.take j) = encL rs := by rw [List.take_of_length_le hj]
theorem okR_le {c : Nat} (h : okR c) : c ≤ 2000000 := by unfold okR at h; omega
end Go.Aq.Wd
namespace Go.Proofs.YtihoohhngiomdaaGreatDoor
open Go.RowKit Go.Aq Go.Aq.Wd
end Go.Proofs.YtihoohhngiomdaaGreatDoor

/- Contract of word.Name. No statement of the seat is proved here. -/
namespace Go.Aq.Wd
theorem Pre_not {l : List UInt8} {pos : Nat} {pre : List Nat} (h : sigs l = (sigs (l.drop pos)).map (pre ++ ·)) (hp : l.drop pos ≠ []) (hb : letter (dec (l.drop pos)).1 = false) : nameL l = false := by
  unfold nameL
  rw [h, sigs_step _ hp]
  cases hbd : bad (dec (l.drop pos)) with
  | true => simp
  | false =>
    simp only [Bool.false_eq_true, if_false]
    cases sigs ((l.drop pos).drop (dec (l.drop pos)).2) with
    | none => rfl
    | some t =>
      simp only [Option.map_some]
      have : (pre ++ (dec (l.drop pos)).1 :: t).all letter = false := by
        rw [List.all_eq_false]
        exact ⟨(dec (l.drop pos)).1, by simp, by rw [hb]; simp⟩
      simp only [nameR, this, Bool.and_false, Bool.false_and]
theorem letter_bad (d : Nat × Nat) (h : letter d.1 = true) : bad d = false := by
  refine not_bad d.1 d.2 ?_
  rintro ⟨h1, -⟩
  rw [h1] at h
  revert h; decide
theorem headD_get (l : List UInt8) (h : 0 < l.length) : l.headD 0 = l[0] := by cases l; (simp at h); rfl
theorem lastD_get (l : List UInt8) (h : l.length - 1 < l.length) : l.getLastD 0 = l[l.length - 1] := by
  rw [List.getLastD_eq_getLast?, List.getLast?_eq_getElem?, List.getElem?_eq_getElem h]; rfl
theorem name_tail (l : List UInt8) (rs : List Nat) (hs : sigs l = some rs) (h1 : 1 ≤ rs.length) (h2 : rs.length ≤ 40) (hall : rs.all letter = true) :
    has2 l = dbl rs ∧ 0 < l.length ∧ (dbl rs = true → nameL l = false) ∧
    (dbl rs = false → nameL l = (!headBad (l.headD 0).toNat && !lastBad (l.getLastD 0).toNat)) := by
  obtain ⟨he, ok⟩ := sigs_enc hs
  have hne : rs ≠ [] := by rintro rfl; simp at h1
  have hlen : 0 < l.length := by
    rw [he]
    cases rs with
    | nil => exact absurd rfl hne
    | cons c t => rw [encL_cons, List.length_append]; have := enc1_len c; omega
  have hh : ∀ k, k < 128 → 0 < k → ((l.headD 0).toNat = k ↔ rs.headD 0 = k) := fun k hk hk0 => by
    rw [← head_encL rs ok k hk hk0, ← he]
    constructor
    · intro e; exact (u8e _ _ e).symm
    · intro e; rw [e, u8n k (by omega)]
  have hl : ∀ k, k < 128 → 0 < k → ((l.getLastD 0).toNat = k ↔ rs.getLastD 0 = k) := fun k hk hk0 => by
    rw [← last_encL rs hne ok k hk hk0, ← he]
    constructor
    · intro e; exact (u8e _ _ e).symm
    · intro e; rw [e, u8n k (by omega)]
  refine ⟨by rw [← has2_encL rs ok, ← he], hlen, fun hd => ?_, fun hd => ?_⟩
  · rw [nameL_of hs]; simp only [nameR, hd, Bool.not_true, Bool.and_false, Bool.false_and]
  · rw [nameL_of hs]
    have e1 : headBad (l.headD 0).toNat = headBad (rs.headD 0) := by
      rw [Bool.eq_iff_iff]; simp only [headBad, Bool.or_eq_true, beq_iff_eq]
      rw [hh 45 (by decide) (by decide), hh 46 (by decide) (by decide), hh 47 (by decide) (by decide)]
    have e2 : lastBad (l.getLastD 0).toNat = lastBad (rs.getLastD 0) := by
      rw [Bool.eq_iff_iff]; simp only [lastBad, Bool.or_eq_true, beq_iff_eq]
      rw [hl 46 (by decide) (by decide), hl 47 (by decide) (by decide)]
    rw [e1, e2]
    simp only [nameR, hd, hall, h1, h2]
    simp
end Go.Aq.Wd
namespace Go.Proofs.YtihoohhngiomdaaGreatDoor
open Go.RowKit Go.Aq Go.Aq.Wd
theorem idxS (w : World) (s : List UInt8) (j : Nat) (h : j < s.length) : (Instr.index 9 (.string (str s)) (.int .i64 (j : Int))).run Tryz.prog w = .ok (.int .u8 ((s[j]'h).toNat : Int)) w := by
  have hsz := str_size s
  rw [run_index_string w 9 (str s) .i64 j Tryz.underlying9, dif_pos ⟨by omega, by omega⟩]
  have e : (str s)[(j : Int).toNat]'(by omega) = s[j]'h := by simp [str, ByteArray.getElem_eq_getElem_data]
  rw [e]
theorem contains2 (l : List UInt8) (w : World) (hT : Tabs w) (hl : l.length ≤ 1000000000) :
    Calls Tryz.prog 57 #[.string (str l), .string ⟨#[47, 47]⟩] w fun e w' => e = .returned (.bool (has2 l)) ∧ w' = w := by
  obtain ⟨-, ⟨m, hm⟩, -⟩ := hT
  exact Tryz.strings_Contains (str l) (str [47, 47]) m w (by rw [str_size]; omega) hm
set_option maxHeartbeats 2000000 in
theorem name_any (l : List UInt8) (w : World) (hT : Tabs w) (hl : l.length ≤ 1000000000) :
    Calls Tryz.prog 38 #[.string (str l)] w fun e w' => e = .returned (.bool (nameL l)) ∧ Chg [] w w' := by
  have hsz := str_size l
  obtain ⟨K, hK⟩ : ∃ K, w.heap.size = K := ⟨_, rfl⟩
  go_enter Tryz.func38, Tryz.ntmps38
  go_wp2_with fail
  go_loopg [3] l.length (fun k vn wr => ∃ (pos : Nat) (pre : List Nat), vn = .int .i64 pre.length ∧ pos + k = l.length ∧ pre.length ≤ pos ∧ wr.heap[K]? = some (.stringIter (str l) pos) ∧ Chg [] w wr ∧ Pre l pos pre ∧ pre.all letter = true)
  case atStart =>
    refine ⟨0, [], rfl, by omega, by simp, ?_, (Chg.refl _ _).range _ _, Pre.zero l, rfl⟩
    rw [← hK]; exact World.iter_heap w (str l) 0
  case round =>
    obtain ⟨pos, pre, rfl, hpk, hpl, hit, hc, hpre, hall⟩ := hrel
    have hpb : pre.length ≤ 1000000000 := by omega
    have hpb' : (pre.length : Int) ≤ 1000000000 := by omega
    by_cases hp : pos < l.length
    · have hnx := fun ty => next_at l wr K pos hit hp ty
      have hfit := dec_fits l pos hp
      have hdp := dec_pos (l.drop pos)
      have hd1 := dec_fst (l.drop pos)
      have hcn := hc.iterAt (k := K) (.inr (by omega)) (str l) (pos + (dec (l.drop pos)).2)
      have hitn := Lib.iterAt_heap wr K (str l) pos (pos + (dec (l.drop pos)).2) hit
      have hst := hpre.step hp
      have hno := Pre_not hpre (drop_ne l pos hp)
      generalize dec (l.drop pos) = d at *
      obtain ⟨c, n⟩ := d
      simp only at *
      generalize wr.iterAt K (str l) (pos + n) = w1 at *
      have HST := Lib.hid hst
      have HNO := Lib.hid hno
      have HP := Lib.hid (And.intro hpk (And.intro hpl hall))
      clear hst hno hpre hit hc hpk hpl hall
      by_cases hlt : letter c = true
      · have hg := HST.out (letter_bad (c, n) hlt)
        go_wp2_with fail
        refine (letter_any c (by omega) w1).mono ?_
        rintro e w2 ⟨rfl, rfl⟩
        rw [hlt]
        go_wp2_with fail
        go_roundg (gk - n)
        case measure => have := HP.out.1; omega
        case rel => exact ⟨pos + n, pre ++ [c], by simp, by have := HP.out.1; omega, by have := HP.out.2.1; simp; omega, hitn, hcn, hg, by rw [List.all_append, HP.out.2.2]; simp [hlt]⟩
      · have hlt' : letter c = false := by simpa using hlt
        go_wp2_with fail
        refine (letter_any c (by omega) w1).mono ?_
        rintro e w2 ⟨rfl, rfl⟩
        rw [hlt']
        go_wp2_with fail
        go_ret
        exact ⟨by rw [HNO.out hlt']; rfl, hcn⟩
    · have hnx := fun ty => next_end l wr K pos hit hp ty
      have hs := hpre.all hp
      have hnt := name_tail l pre hs
      have hnm := nameL_of hs
      have HNT := Lib.hid hnt
      have HNM := Lib.hid hnm
      have HALL := Lib.hid hall
      have hTr := hT.chg hc
      clear hpre hall hs hnt hnm
      by_cases h1 : pre.length < 1
      · have t1 : decide ((pre.length : Int) < 1) = true := by simp; omega
        have t1' : decide (pre.length < 1) = true := decide_eq_true (by omega)
        have h0 : pre.length = 0 := by omega
        have hf : nameL l = false := by rw [HNM.out]; simp [nameR, h0]
        have HF := Lib.hid hf
        clear hf
        go_wp2_with fail
        go_ret
        exact ⟨by rw [HF.out]; rfl, hc⟩
      · have t1 : decide ((pre.length : Int) < 1) = false := by simp; omega
        have t1' : decide (pre.length < 1) = false := decide_eq_false (by omega)
        by_cases h2 : 40 < pre.length
        · have t2 : decide (40 < (pre.length : Int)) = true := by simp; omega
          have t2' : decide (40 < pre.length) = true := by simp; omega
          have h0 : ¬ pre.length ≤ 40 := by omega
          have hf : nameL l = false := by rw [HNM.out]; simp [nameR, h0]
          have HF := Lib.hid hf
          clear hf
          go_wp2_with fail
          go_ret
          exact ⟨by rw [HF.out]; rfl, hc⟩
        · have t2 : decide (40 < (pre.length : Int)) = false := by simp; omega
          have t2' : decide (40 < pre.length) = false := by simp; omega
          have HC2 := contains2 l wr hTr hl
          obtain ⟨n1, n2, n3, n4⟩ := HNT.out (by omega) (by omega) HALL.out
          have HN := Lib.hid (And.intro n3 n4)
          clear n3 n4 HNT HNM h1 h2
          cases hd : dbl pre with
          | true =>
            have hf := HN.out.1 hd
            have HF := Lib.hid hf
            rw [hd] at n1
            clear hf HN
            go_wp2_with fail
            refine HC2.mono ?_
            rintro e w2 ⟨rfl, rfl⟩
            rw [n1]
            go_wp2_with fail
            go_ret
            exact ⟨by rw [HF.out]; rfl, hc⟩
          | false =>
            have hf := HN.out.2 hd
            have hlen1 : l.length - 1 < l.length := by omega
            rw [headD_get l n2, lastD_get l hlen1] at hf
            rw [hd] at n1
            have g0 : ∀ h, (str l)[0]'h = l[0] := fun h => rfl
            obtain ⟨m, hm⟩ : ∃ m, l.length = m + 1 := ⟨l.length - 1, by omega⟩
            have g1 : ∀ h, (str l)[m]'h = l[l.length - 1] := fun h => by simp [str, ByteArray.getElem_eq_getElem_data, hm]
            have i1 : ∀ w, (Instr.index 9 (.string (str l)) (.int .i64 0)).run Tryz.prog w = .ok (.int .u8 ((l[0]).toNat : Int)) w := fun w => idxS w l 0 n2
            have i2 := fun w => idxS w l m (by omega)
            have e2 : l[m]'(by omega) = l[l.length - 1] := by congr 1; omega
            rw [e2] at i2
            have hmb : m ≤ 1000000000 := by omega
            have hmi : (m : Int) ≤ 1000000000 := by omega
            have hw : IntKind.i64.wrap ((l.length : Int) - 1) = (m : Int) := by rw [show (l.length : Int) - 1 = (m : Int) by omega]; exact wrap_i64_nat m (by omega)
            have b1 := (l[0]).toNat_lt
            have b2 := (l[l.length - 1]).toNat_lt
            generalize l[0] = x8 at *
            generalize l[l.length - 1] = y8 at *
            have HM := Lib.hid hm
            clear e2 hm hlen1 n2 hp g0 g1
            have HF := Lib.hid hf
            clear hf HN
            go_wp2_with fail
            refine HC2.mono ?_
            rintro e w2 ⟨rfl, rfl⟩
            rw [n1]
            go_wp2_with fail
            go_quiet (fail)
            have hcq := hc.drewN nq
            generalize w2.drewN nq = w3 at *
            go_wp2_with fail
            all_goals go_ret
            all_goals refine ⟨rb ?_, hcq⟩
            all_goals rw [HF.out]
            all_goals (try simp only [bne_iff_ne, bne_eq_false_iff_eq, beq_iff_eq, beq_eq_false_iff_ne, ne_eq] at *)
            all_goals (rw [Bool.eq_iff_iff]; simp only [headBad, lastBad, Bool.and_eq_true, Bool.not_eq_true', Bool.or_eq_false_iff, beq_eq_false_iff_ne, bne_iff_ne, ne_eq, Bool.false_eq_true, false_iff]; omega)
end Go.Proofs.YtihoohhngiomdaaGreatDoor

/- Contracts of strconv.FormatInt at base 16 (numbers below 256), word.written, word.escapes. No statement of the seat is proved here. -/
namespace Go.Aq
theorem str_append (a b : List UInt8) : str a ++ str b = str (a ++ b) := by
  unfold str
  apply ByteArray.ext
  rw [ByteArray.data_append]
  simp
end Go.Aq
namespace Go.Aq.Wd
theorem encode_enc1 (c : Nat) (h : okR c) : Utf8.encode (c : Int) = str (enc1 c) := by
  have hv : Utf8.valid (c : Int) = true := by
    unfold okR at h
    simp only [Utf8.valid, Bool.or_eq_true, Bool.and_eq_true, decide_eq_true_eq]
    omega
  unfold Utf8.encode enc1 str
  simp only [hv, if_true, Int.toNat_natCast]
  split
  · rfl
  · split
    · rfl
    · split <;> rfl
def z65 : List Value := List.replicate 65 (.int .u8 0)
end Go.Aq.Wd
namespace Go.Proofs.YtihoohhngiomdaaGreatDoor
open Go.RowKit Go.Aq Go.Aq.Wd
set_option maxHeartbeats 400000 in
theorem pow16 (w : World) : Calls Tryz.prog 103 #[.int .i64 16] w fun e w' => e = .returned (.bool true) ∧ w' = w := by
  go_enter Tryz.func103, Tryz.ntmps103
  go_wp2
  go_ret
  exact ⟨rfl, rfl⟩
set_option maxHeartbeats 400000 in
theorem tz16 (w : World) (hT : Tabs w) : Calls Tryz.prog 110 #[.int .u64 16] w fun e w' => e = .returned (.int .i64 4) ∧ w' = w := by
  have h4 := hT.2.2
  have b1 : bits .and .u64 16 (IntKind.u64.wrap (-16)) = 16 := by decide +kernel
  have b2 : IntKind.u64.wrap (16 * 285870213051353865) = 4573923408821661840 := by decide +kernel
  have b3 : ((4573923408821661840 : Int) / 288230376151711744).toNat = 15 := by decide +kernel
  go_enter Tryz.func110, Tryz.ntmps110
  go_wp2
  go_ret
  exact ⟨rfl, rfl⟩
set_option maxHeartbeats 400000 in
theorem tzz16 (w : World) (hT : Tabs w) : Calls Tryz.prog 104 #[.int .u64 16] w fun e w' => e = .returned (.int .i64 4) ∧ w' = w := by
  go_enter Tryz.func104, Tryz.ntmps104
  go_wp2_with fail
  refine (tz16 w hT).mono ?_
  rintro e w1 ⟨rfl, rfl⟩
  go_wp2_with fail
  go_ret
  exact ⟨rfl, rfl⟩
def dig36 : ByteArray := ⟨#[48, 49, 50, 51, 52, 53, 54, 55, 56, 57, 97, 98, 99, 100, 101, 102, 103, 104, 105, 106, 107, 108, 109, 110, 111, 112, 113, 114, 115, 116, 117, 118, 119, 120, 121, 122]⟩
set_option maxRecDepth 100000 in
theorem idx36 (w : World) (n : Nat) (h : n < 16) : (Instr.index 9 (.string dig36) (.int .u64 (n : Int))).run Tryz.prog w = .ok (.int .u8 ((hxd n).toNat : Int)) w := by
  have h' : n = 0 ∨ n = 1 ∨ n = 2 ∨ n = 3 ∨ n = 4 ∨ n = 5 ∨ n = 6 ∨ n = 7 ∨ n = 8 ∨ n = 9 ∨ n = 10 ∨ n = 11 ∨ n = 12 ∨ n = 13 ∨ n = 14 ∨ n = 15 := by omega
  rcases h' with rfl | rfl | rfl | rfl | rfl | rfl | rfl | rfl | rfl | rfl | rfl | rfl | rfl | rfl | rfl | rfl <;> rfl
set_option maxHeartbeats 2000000 in
set_option maxRecDepth 100000 in
theorem fmt16 (c : Nat) (hc : c < 256) (w : World) (hT : Tabs w) :
    Calls Tryz.prog 94 #[.slice none 0 0, .int .u64 c, .int .i64 16, .bool false, .bool false] w fun e w' => (∃ r, e = .returned (.tuple #[r, .string (str (hexC c))])) ∧ Chg [] w w' := by
  have hz : ∀ w, (zeroValue 138).run Tryz.prog w = .ok (.agg z65.toArray) w := fun _ => by kernel_rfl
  have hzl : z65.length = 65 := rfl
  have hex : hexC c = if c < 16 then [hxd c] else [hxd (c / 16), hxd (c % 16)] := rfl
  have HEX := Lib.hid hex
  clear hex
  obtain ⟨A, hA⟩ : ∃ A, w.heap.size = A := ⟨_, rfl⟩
  go_enter Tryz.func94, Tryz.ntmps94
  go_wp2_with fail
  refine (pow16 _).mono ?_
  rintro e w1 ⟨rfl, hw1⟩
  have hb1 : Blk w1 A z65.toArray 138 := by rw [hw1, ← hA]; exact Blk.new w _ _
  have hc1 : Chg [] w w1 := by rw [hw1]; exact (Chg.refl [] w).alloc _
  clear hw1 hz
  have hT1 := hT.chg hc1
  go_wp2_with fail
  refine (tzz16 w1 hT1).mono ?_
  rintro e w2 ⟨rfl, rfl⟩
  have hbw : Blk w2 A z65.toArray 138 := hb1
  go_wp2_with fail
  clear hb1 hT1
  go_loopg [1, 13] (if c < 16 then 0 else 1) (fun k vu vi wr => ∃ (u i : Nat) (cs : List Value), vu = .int .u64 u ∧ vi = .int .i64 i ∧ Blk wr A cs.toArray 138 ∧ Chg [] w wr ∧ cs.length = 65 ∧
    ((k = 1 ∧ u = c ∧ i = 65 ∧ 16 ≤ c) ∨ (k = 0 ∧ c < 16 ∧ u = c ∧ i = 65) ∨ (k = 0 ∧ 16 ≤ c ∧ u = c / 16 ∧ i = 64 ∧ cs[64]? = some (.int .u8 ((hxd (c % 16)).toNat : Int)))))
  case atStart =>
    refine ⟨c, 65, z65, rfl, rfl, hbw, hc1, rfl, ?_⟩
    by_cases h : c < 16
    · right; left; simp [h]
    · left; simp [h]; omega
  case round =>
    obtain ⟨u, i, cs, rfl, rfl, hb, hch, hcl, hst⟩ := hrel
    rcases hst with ⟨rfl, rfl, rfl, h16⟩ | hst
    · have t1 : decide ((16 : Int) ≤ (u : Int)) = true := by simp; omega
      have x0 : ∃ v, wr.cell? ⟨A, 64, none⟩ = some v := ⟨cs[64]'(by omega), by rw [hb.cell]; simp⟩
      obtain ⟨v0, x0⟩ := x0
      have f0 := hb.frozen 64
      have band : bits .and .u64 (u : Int) 15 = ((u % 16 : Nat) : Int) := by
        have := (bits_nat_full .u64 (fun n h => by rw [IntKind.wrap_u64]; simp only [IntKind.bits] at h; omega) u 15 (by simp [IntKind.bits]; omega) (by simp [IntKind.bits])).1
        rw [show u &&& 15 = u % 16 from Nat.and_two_pow_sub_one_eq_mod u 4] at this
        exact this
      obtain ⟨r, hr⟩ : ∃ r, u % 16 = r := ⟨_, rfl⟩
      obtain ⟨q, hq⟩ : ∃ q, u / 16 = q := ⟨_, rfl⟩
      have er : (u : Int) % 16 = (r : Int) := by omega
      have eq : (u : Int) / 16 = (q : Int) := by omega
      have hr16 : r < 16 := by omega
      have hq16 : q < 16 := by omega
      rw [hr] at band
      have ix := fun w => idx36 w r hr16
      unfold dig36 at ix
      have hb2 := hb.set 64 (.int .u8 ((hxd r).toNat : Int))
      have hc2 := hch.setCell (p := ⟨A, 64, none⟩) (.inr (by simp; omega)) (.int .u8 ((hxd r).toNat : Int))
      generalize hx : (hxd r).toNat = x at *
      have HX := Lib.hid hx
      have HQ := Lib.hid hq
      have HR := Lib.hid hr
      clear hx hq hr
      go_wp2_with fail
      go_roundg 0
      case measure => omega
      case rel =>
        refine ⟨q, 64, cs.set 64 (.int .u8 (x : Int)), rfl, rfl, ?_, hc2, by simp [hcl], .inr (.inr ⟨rfl, h16, HQ.out.symm, rfl, ?_⟩)⟩
        · rw [List.setIfInBounds_toArray] at hb2; exact hb2
        · rw [HR.out, HX.out, List.getElem?_set_self (by omega)]
    · have hk : gk = 0 := by omega
      have hu : u < 16 := by omega
      have t1 : decide ((16 : Int) ≤ (u : Int)) = false := by simp; omega
      have ix := fun w => idx36 w u hu
      unfold dig36 at ix
      obtain ⟨x, hx⟩ : ∃ x, hxd u = x := ⟨_, rfl⟩
      rw [hx] at ix
      have HX := Lib.hid hx
      clear hx
      rcases hst with ⟨-, h16, rfl, rfl⟩ | ⟨-, h16, hu16, rfl, hcs⟩
      · have x0 : ∃ v, wr.cell? ⟨A, 64, none⟩ = some v := ⟨cs[64]'(by omega), by rw [hb.cell]; simp⟩
        obtain ⟨v0, x0⟩ := x0
        have f0 := hb.frozen 64
        have hb2 := hb.set 64 (.int .u8 (x.toNat : Int))
        have hc2 := hch.setCell (p := ⟨A, 64, none⟩) (.inr (by simp; omega)) (.int .u8 (x.toNat : Int))
        have hse : Sees (wr.setCell ⟨A, 64, none⟩ (.int .u8 (x.toNat : Int))) 1 (.slice (some ⟨A, 64, none⟩) 1 1) 1 (Bs [x]) := by
          refine ⟨rfl, _, _, rfl, Nat.le_refl _, by simp, fun ad had j u' hu' => ?_⟩
          cases had
          have hj : j = 0 := by have := (List.getElem?_eq_some_iff.1 hu').1; simp [Bs] at this; omega
          subst hj
          rw [Addr.add_lit, hb2.cell]
          simp [Bs, Bc] at hu'
          simp [hcl, ← hu']
        have r1 := run_str8 hse
        have hh : hexC u = [x] := by rw [HEX.out, if_pos h16, HX.out]
        have HH := Lib.hid hh
        clear hh HEX hk
        generalize x.toNat = xn at *
        go_wp2_with fail
        go_ret2
        exact ⟨⟨_, by rw [HH.out]; rfl⟩, hc2⟩
      · have x0 : ∃ v, wr.cell? ⟨A, 63, none⟩ = some v := ⟨cs[63]'(by omega), by rw [hb.cell]; simp⟩
        obtain ⟨v0, x0⟩ := x0
        have f0 := hb.frozen 63
        have hb2 := hb.set 63 (.int .u8 (x.toNat : Int))
        have hc2 := hch.setCell (p := ⟨A, 63, none⟩) (.inr (by simp; omega)) (.int .u8 (x.toNat : Int))
        have hse : Sees (wr.setCell ⟨A, 63, none⟩ (.int .u8 (x.toNat : Int))) 1 (.slice (some ⟨A, 63, none⟩) 2 2) 2 (Bs [x, hxd (c % 16)]) := by
          refine ⟨rfl, _, _, rfl, Nat.le_refl _, by simp, fun ad had j u' hu' => ?_⟩
          cases had
          have hj : j = 0 ∨ j = 1 := by have := (List.getElem?_eq_some_iff.1 hu').1; simp [Bs] at this; omega
          rcases hj with rfl | rfl
          · rw [Addr.add_lit, hb2.cell]
            simp [Bs, Bc] at hu'
            simp [hcl, ← hu']
          · rw [Addr.add_lit, hb2.cell]
            simp [Bs, Bc] at hu'
            rw [List.setIfInBounds_toArray, List.getElem?_toArray, List.getElem?_set_ne (by decide), ← hu']
            exact hcs
        have r1 := run_str8 hse
        have hh : hexC c = [x, hxd (c % 16)] := by rw [HEX.out, if_neg (by omega), ← HX.out, hu16]
        have HH := Lib.hid hh
        clear hh HEX hk hcs hu16
        generalize hxd (c % 16) = y at *
        generalize x.toNat = xn at *
        go_wp2_with fail
        go_ret2
        exact ⟨⟨_, by rw [HH.out]; rfl⟩, hc2⟩
set_option maxHeartbeats 1000000 in
set_option maxRecDepth 100000 in
theorem fmtI (c : Nat) (hc : c < 256) (w : World) (hT : Tabs w) :
    Calls Tryz.prog 81 #[.int .i64 c, .int .i64 16] w fun e w' => e = .returned (.string (str (hexC c))) ∧ Chg [] w w' := by
  have hf := fmt16 c hc w hT
  generalize hexC c = H at *
  go_enter Tryz.func81, Tryz.ntmps81
  go_wp2_with fail
  refine hf.mono ?_
  rintro e w1 ⟨⟨r, rfl⟩, c1⟩
  go_wp2_with fail
  go_ret
  exact ⟨rfl, c1⟩
set_option maxHeartbeats 400000 in
theorem fmtS (c : Nat) (hc : c < 256) (w : World) (hT : Tabs w) :
    Calls Tryz.prog 67 #[.int .i64 c, .int .i64 16] w fun e w' => e = .returned (.string (str (hexC c))) ∧ Chg [] w w' := by
  have hf := fmtI c hc w hT
  generalize hexC c = H at *
  go_enter Tryz.func67, Tryz.ntmps67
  go_wp2_with fail
  refine hf.mono ?_
  rintro e w1 ⟨rfl, c1⟩
  go_wp2_with fail
  go_ret
  exact ⟨rfl, c1⟩
set_option maxHeartbeats 1000000 in
theorem written_any (c : Nat) (hc : okR c) (w : World) (hT : Tabs w) :
    Calls Tryz.prog 46 #[.int .i32 c] w fun e w' => e = .returned (.string (str (writ c))) ∧ Chg [] w w' := by
  have henc := encode_enc1 c hc
  have hle := okR_le hc
  by_cases h1 : c = 34 ∨ c = 92
  · have hw : writ c = [92] ++ enc1 c := by
      unfold writ; rw [if_pos h1]
      rcases h1 with rfl | rfl <;> rfl
    rw [hw, ← str_append]
    clear hw hc
    rcases h1 with rfl | rfl
    · go_enter Tryz.func46, Tryz.ntmps46
      go_wp2_with fail
      go_ret
      exact ⟨rfl, Chg.refl _ _⟩
    · go_enter Tryz.func46, Tryz.ntmps46
      go_wp2_with fail
      go_ret
      exact ⟨rfl, Chg.refl _ _⟩
  · have t1 : ((c : Int) == 34) = false := by simp; omega
    have t2 : ((c : Int) == 92) = false := by simp; omega
    by_cases h10 : c = 10
    · subst h10
      have hw : writ 10 = [92, 110] := rfl
      rw [hw]
      go_enter Tryz.func46, Tryz.ntmps46
      go_wp2_with fail
      go_ret
      exact ⟨rfl, Chg.refl _ _⟩
    · have t3 : ((c : Int) == 10) = false := by simp; omega
      cases hlow : low c with
      | true =>
        have hb : c < 256 := by simp only [low, Bool.or_eq_true, Bool.and_eq_true, decide_eq_true_eq] at hlow; omega
        have hw : writ c = [92, 117, 123] ++ hexC c ++ [125] := by unfold writ; rw [if_neg h1, if_neg h10, if_pos hlow]
        have hf := fun w' h => fmtS c hb w' h
        have hHl : (hexC c).length ≤ 2 := by unfold hexC; split <;> simp
        have hHs := str_size (hexC c)
        rw [hw, ← str_append, ← str_append]
        generalize hexC c = H at *
        clear hw hc h1 h10 henc
        go_enter Tryz.func46, Tryz.ntmps46
        go_wp2_with fail
        refine (low_any c hle w).mono ?_
        rintro e w1 ⟨rfl, rfl⟩
        rw [hlow]
        go_wp2_with fail
        refine (hf w1 hT).mono ?_
        rintro e w2 ⟨rfl, c2⟩
        clear hf
        go_wp2_with fail
        go_ret
        exact ⟨rfl, c2⟩
      | false =>
        have hw : writ c = enc1 c := by unfold writ; rw [if_neg h1, if_neg h10, if_neg (by simp [hlow])]
        rw [hw]
        generalize enc1 c = E at *
        clear hw hc h1 h10
        go_enter Tryz.func46, Tryz.ntmps46
        go_wp2_with fail
        refine (low_any c hle w).mono ?_
        rintro e w1 ⟨rfl, rfl⟩
        rw [hlow]
        go_wp2_with fail
        go_ret
        exact ⟨rfl, Chg.refl _ _⟩
end Go.Proofs.YtihoohhngiomdaaGreatDoor

/- Contracts of word.Quote, word.escapes. No statement of the seat is proved here. -/
namespace Go.Aq
open Go.RowKit
/-- A builder stays one where all blocks of cells stay. -/
theorem builder_kept {T e : TypeId} {B b : Nat} {bs : List Value} {w w' : World} (h : Lib.IsBuilder T e B b bs w) (hk : ∀ (k : Nat) (c : Array Value) (t : TypeId) (fz : Nat × Nat), w.heap[k]? = some (Obj.cells c t fz) → w'.heap[k]? = some (Obj.cells c t fz)) : Lib.IsBuilder T e B b bs w' := by
  have one : ∀ p, Lib.BuilderAt T e B b p bs w → Lib.BuilderAt T e B b p bs w' := by
    rintro p ⟨hB, v, hb, hown, hne⟩
    refine ⟨hB, v, hk _ _ _ _ hb, ⟨hown.1, ?_⟩, hne⟩
    rcases hown.2 with h2 | ⟨g, cap, cur, hv, hbg, hg, r⟩
    · exact .inl h2
    · exact .inr ⟨g, cap, cur, hv, hbg, hk _ _ _ _ hg, r⟩
  rcases h with h | h
  · exact .inl (one _ h)
  · exact .inr (one _ h)
theorem builder_iter {T e : TypeId} {B b : Nat} {bs : List Value} {w : World} (h : Lib.IsBuilder T e B b bs w) {k : Nat} {s : ByteArray} {pos : Nat} (hk : w.heap[k]? = some (.stringIter s pos)) (pos' : Nat) : Lib.IsBuilder T e B b bs (w.iterAt k s pos') :=
  builder_kept h fun j c t fz hj => by
    rw [Lib.iterAt_other w k j s pos' (by rintro rfl; rw [hk] at hj; cases hj)]
    exact hj
theorem builder_chg {T e : TypeId} {B b : Nat} {bs : List Value} {w w' : World} (h : Lib.IsBuilder T e B b bs w) (hc : Chg [] w w') : Lib.IsBuilder T e B b bs w' :=
  builder_kept h fun j c t fz hj => by rw [hc.block j (Array.getElem?_eq_some_iff.1 hj).1 (by simp)]; exact hj
namespace Wd
theorem writ_len (c : Nat) : (writ c).length ≤ 6 := by
  unfold writ
  split
  · simp
  · split
    · simp
    · split
      · unfold hexC; split <;> simp
      · have := enc1_len c; omega
theorem writs_len (rs : List Nat) : (rs.flatMap writ).length ≤ 6 * rs.length := by
  induction rs with
  | nil => simp
  | cons c t ih => rw [List.flatMap_cons, List.length_append, List.length_cons]; have := writ_len c; omega
theorem encL_len (rs : List Nat) : rs.length ≤ (encL rs).length := by
  induction rs with
  | nil => simp
  | cons c t ih => rw [encL_cons, List.length_append, List.length_cons]; have := enc1_len c; omega
end Wd
end Go.Aq
namespace Go.Proofs.YtihoohhngiomdaaGreatDoor
open Go.RowKit Go.Aq Go.Aq.Wd
set_option maxHeartbeats 2000000 in
theorem quote_any (l : List UInt8) (w : World) (hT : Tabs w) (hl : l.length ≤ 1000000000) :
    Calls Tryz.prog 25 #[.string (str l)] w fun e w' => e = .returned (.tuple #[.string (str (quoteL l).1), .int .i64 (quoteL l).2]) ∧ Chg [] w w' := by
  have hsz := str_size l
  have hca := count_any l w hT hl
  cases hs : sigs l with
  | none =>
    have hcl : countL l = (0, 4) := by unfold countL; rw [hs]
    have hp : quoteL l = ([], 4) := by unfold quoteL; rw [hs]
    rw [hp]
    rw [hcl] at hca
    go_enter Tryz.func25, Tryz.ntmps25
    go_wp2_with fail
    refine hca.mono ?_
    rintro e w1 ⟨rfl, c1⟩
    go_wp2_with fail
    go_ret2
    exact ⟨rfl, c1⟩
  | some rs =>
    have hcl := countL_of hs
    have hp : quoteL l = (quoteR rs, 0) := by unfold quoteL; rw [hs]
    obtain ⟨he, ok⟩ := sigs_enc hs
    rw [hp]
    rw [hcl] at hca
    have hca : Calls Tryz.prog 44 #[.string (str l)] w fun e w' => e = .returned (.tuple #[.int .i64 (rs.length : Nat), .int .i64 0]) ∧ Chg [] w w' := hca
    have HOK := Lib.hid ok
    have HE := Lib.hid he
    clear ok he hp hcl hs
    go_enter Tryz.func25, Tryz.ntmps25
    go_wp2_with fail
    refine hca.mono ?_
    rintro e w1 ⟨rfl, c1⟩
    clear hca
    have hI0 : Lib.IsBuilder 59 5 w1.heap.size w1.heap.size (Bs []) (w1.alloc (.cells #[.pointer none, .slice none 0 0] 59)) := Lib.fresh_isBuilder 59 5 w1
    have hB0 : Below w1.heap.size w1 (w1.alloc (.cells #[.pointer none, .slice none 0 0] 59)) := (Below.refl _ w1).alloc (Nat.le_refl _) _
    obtain ⟨B, hB⟩ : ∃ B, w1.heap.size = B := ⟨_, rfl⟩
    rw [hB] at hI0 hB0
    go_wp2_with fail
    refine (wByte B B [] 34 _ hI0 (by simp) (by simp; omega)).mono ?_
    rintro e w2 ⟨rfl, hI1, hb2, k2⟩
    have hB2 := hB0.trans hb2
    obtain ⟨K, hK⟩ : ∃ K, w2.heap.size = K := ⟨_, rfl⟩
    have hKB : B < K := by have := hb2.size; simp at this; omega
    clear hI0 hB0 hb2 k2
    generalize w1.alloc _ = wz at *
    go_wp2_with fail
    go_loopg [] l.length (fun k wr => ∃ (pos j : Nat), pos + k = l.length ∧ j ≤ rs.length ∧ pos = (encL (rs.take j)).length ∧ wr.heap[K]? = some (.stringIter (str l) pos) ∧ Below B w1 wr ∧ B ≤ wr.heap.size ∧
      Lib.IsBuilder 59 5 B B (Bs ([34] ++ (rs.take j).flatMap writ)) wr)
    case atStart =>
      refine ⟨0, 0, by omega, by omega, by simp [encL], ?_, hB2.alloc (by omega) _, by simp [World.iter]; omega, builder_chg hI1 ((Chg.refl [] w2).range _ _)⟩
      rw [← hK]; exact World.iter_heap w2 (str l) 0
    case round =>
      clear hI1 hB2
      obtain ⟨pos, j, hpk, hjl, hpos, hit, hbw, hBs, hI⟩ := hrel
      have hlt := place_lt rs j hjl
      rw [← hpos, ← HE.out] at hlt
      have hjp : j ≤ pos := by
        have := encL_len (rs.take j)
        rw [← hpos, List.length_take] at this; omega
      have hwl := writs_len (rs.take j)
      rw [List.length_take] at hwl
      by_cases hp : pos < l.length
      · have hj := hlt.1 hp
        have hnx := fun ty => next_at l wr K pos hit hp ty
        obtain ⟨hd, hnp⟩ := place_step rs HOK.out j hj
        rw [← hpos, ← HE.out] at hd
        rw [← hpos] at hnp
        have hfit := dec_fits l pos hp
        have hdp := dec_pos (l.drop pos)
        have hokc := HOK.out rs[j] (List.getElem_mem hj)
        have hbn := Lib.below_iterAt hbw (k := K) (by omega) (str l) (pos + (dec (l.drop pos)).2)
        have hitn := Lib.iterAt_heap wr K (str l) pos (pos + (dec (l.drop pos)).2) hit
        have hIn := builder_iter hI hit (pos + (dec (l.drop pos)).2)
        have hBn : B ≤ (wr.iterAt K (str l) (pos + (dec (l.drop pos)).2)).heap.size := by rw [Lib.iterAt_size]; exact hBs
        have hts := List.take_succ_eq_append_getElem hj
        rw [hd] at hnx hbn hitn hfit hdp hIn hBn
        generalize rs[j] = c at *
        have hwc := writ_len c
        generalize hen : (enc1 c).length = nn at *
        simp only at hnx hbn hitn hfit hdp hIn hBn
        generalize wr.iterAt K (str l) (pos + nn) = w3 at *
        have hT3 : Tabs w3 := hT.chg (c1.nil (Chg.of_below (by rw [hB]; exact hbn)))
        have hws := fun w4 (h4 : Lib.IsBuilder 59 5 B B (Bs ([34] ++ (rs.take j).flatMap writ)) w4) => wString B B ([34] ++ (rs.take j).flatMap writ) (writ c) w4 h4 (by simp only [List.length_append, List.length_cons, List.length_nil]; omega)
        have HP := Lib.hid (And.intro hpk hnp)
        have HTS := Lib.hid hts
        clear hd hit hbw hBs hI hlt hpk hnp hpos hts hen hwl hwc
        go_wp2_with fail
        refine (written_any c hokc w3 hT3).mono ?_
        rintro e w4 ⟨rfl, c4⟩
        have hI4 := builder_chg hIn c4
        have hit4 := (c4.block K (Array.getElem?_eq_some_iff.1 hitn).1 (by simp)).trans hitn
        have hb4 : Below B w1 w4 := hbn.trans (c4.below hBn (by simp))
        have hB4 : B ≤ w4.heap.size := Nat.le_trans hBn c4.size
        clear hIn hitn hbn hBn c4
        go_wp2_with fail
        refine (hws w4 hI4 hB4).mono ?_
        rintro e w5 ⟨rfl, hI5, hb5, k5⟩
        have hit5 := k5.iter hit4 (by omega)
        have hb15 := hb4.trans hb5
        have hB5 : B ≤ w5.heap.size := Nat.le_trans hB4 hb5.size
        clear hws hI4 hit4 hb4 k5
        go_wp2_with fail
        go_roundg (gk - nn)
        case measure => have := HP.out; omega
        case rel =>
          refine ⟨pos + nn, j + 1, by have := HP.out; omega, by omega, HP.out.2.symm, hit5, hb15, hB5, ?_⟩
          rw [HTS.out, List.flatMap_append]
          simpa [List.append_assoc] using hI5
      · have hnx := fun ty => next_end l wr K pos hit hp ty
        have hj : rs.length ≤ j := by have := mt hlt.2 hp; omega
        rw [List.take_of_length_le hj] at hI
        have hwl2 := writs_len rs
        have hrl : rs.length ≤ 1000000000 := by omega
        have hwb := wByte B B ([34] ++ rs.flatMap writ) 34 wr hI (by simp only [List.length_append, List.length_cons, List.length_nil]; omega) hBs
        clear hpos hlt hwl
        go_wp2_with fail
        refine hwb.mono ?_
        rintro e w3 ⟨rfl, hI3, hb3, k3⟩
        have hB3 : B ≤ w3.heap.size := Nat.le_trans hBs hb3.size
        clear hwb
        go_wp2_with fail
        refine (Tryz.Builder_String_any B B _ w3 hI3 hB3).mono ?_
        rintro e w4 ⟨rfl, hb4⟩
        go_wp2_with fail
        go_ret2
        exact ⟨rfl, c1.nil (Chg.of_below (by rw [hB]; exact (hbw.trans hb3).trans hb4))⟩
end Go.Proofs.YtihoohhngiomdaaGreatDoor

/- Contracts of word.escapes and of the reader's first methods (fail, sign, plain). No statement of the seat is proved here. -/
namespace Go.Aq
open Go.RowKit
theorem own_full (w : World) (cs : Array Value) (e : TypeId) (m : Nat) (hm : cs.size = m) (hb : m ≤ 9223372036854775807) : Own (w.alloc (.cells cs e)) e 1 (.slice (some ⟨w.heap.size, 0, none⟩) m m) m cs.toList :=
  ⟨by simp [hm], .inr ⟨w.heap.size, m, cs, rfl, Nat.zero_le _, heap_alloc_new w _, Nat.le_refl _, by unfold maxLen; omega, by simp [hm], List.take_of_length_le (by simp [hm])⟩⟩
end Go.Aq
namespace Go.Aq.Wd
def Rs (l : List Nat) : List Value := l.map fun (c : Nat) => Value.int .i32 (c : Int)
theorem Rs_append (a b : List Nat) : Rs (a ++ b) = Rs a ++ Rs b := by simp [Rs]
theorem Rs_len (a : List Nat) : (Rs a).length = a.length := by simp [Rs]
end Go.Aq.Wd
namespace Go.Proofs.YtihoohhngiomdaaGreatDoor
open Go.RowKit Go.Aq Go.Aq.Wd
theorem sl_i32 : SliceTy Tryz.prog 140 21 (.int .i32 0) 1 4 := ⟨Tryz.underlying140, by kernel_rfl, rfl, by decide⟩
set_option maxHeartbeats 1000000 in
theorem escapes_any (w : World) : Calls Tryz.prog 105 #[] w fun e w' => ∃ v, e = .returned v ∧ Fresh w w' 21 1 v 67 (Rs escs) := by
  have hf0 : Fresh w (w.alloc (.cells #[.int .i32 34, .int .i32 92] 21)) 21 1 (.slice (some ⟨w.heap.size, 0, none⟩) 2 2) 2 (Rs ([34, 92] ++ List.range 0)) :=
    ⟨own_full w #[.int .i32 34, .int .i32 92] 21 2 rfl (by decide), (Chg.refl _ _).alloc _, by simp [Value.ownBlock]⟩
  generalize hw0 : w.alloc (.cells #[.int .i32 34, .int .i32 92] 21) = w0 at *
  go_enter Tryz.func105, Tryz.ntmps105
  go_wp2_with fail
  go_loopg [1, 2] 32 (fun k vl vc wr => ∃ (j : Nat), vc = .int .i32 j ∧ j + k = 32 ∧ Fresh w wr 21 1 vl (2 + j) (Rs ([34, 92] ++ List.range j)))
  case atStart => exact ⟨0, rfl, by omega, hf0⟩
  case round =>
    clear hf0 hw0
    obtain ⟨j, rfl, hjk, hf⟩ := hrel
    by_cases hj : j < 32
    · have t1 : decide ((j : Int) < 32) = true := by simp; omega
      have HJ := Lib.hid hjk
      clear hjk
      go_wp2_with (at_builtin; refine wpList_appF (w0 := w) rfl _ _ 140 rfl sl_i32 (by exact hf.to ((Chg.refl [] wr).alloc (.cells #[.int .i32 (j : Int)] 21))) rfl (Sees.row (cs := #[.int .i32 (j : Int)]) (by exact Blk.new wr _ 21) (m := 1) rfl) rfl (by simp [Value.oneCell']) (by omega) (by omega) ?_; intro v4 w4 hF4 c4)
      go_roundg (gk - 1)
      case measure => have := HJ.out; omega
      case rel =>
        refine ⟨j + 1, by go_num, by have := HJ.out; omega, ?_⟩
        rw [List.range_succ, ← List.append_assoc, Rs_append ([34, 92] ++ List.range j)]
        exact hF4
    · have h32 : j = 32 := by omega
      subst h32
      have hf1 : Fresh w wr 21 1 u1 (34 + 0) (Rs ([34, 92] ++ List.range 32 ++ (List.range 0).map (127 + ·))) := hf
      obtain ⟨wo, hwo⟩ : ∃ wo : World, wo = wr := ⟨_, rfl⟩
      rw [← hwo] at hf1
      clear hf hjk hj
      subst hwo
      go_wp2_with fail
      go_loopg [1, 3] 33 (fun k vl vc wr => ∃ (j : Nat) (q : Int), vc = .int .i32 q ∧ q = 127 + (j : Int) ∧ j + k = 33 ∧ Fresh w wr 21 1 vl (34 + j) (Rs ([34, 92] ++ List.range 32 ++ (List.range j).map (127 + ·))))
      case atStart => exact ⟨0, 127, rfl, by omega, by omega, hf1⟩
      case round =>
        clear hf1
        obtain ⟨j, q, rfl, hq, hjk, hf⟩ := hrel
        by_cases hj : j < 33
        · have t1 : decide (q ≤ 159) = true := by simp; omega
          have hqb : q ≤ 159 := by omega
          have hqb0 : 127 ≤ q := by omega
          have HJ := Lib.hid (And.intro hq hjk)
          clear hjk hq
          go_wp2_with (at_builtin; refine wpList_appF (w0 := w) rfl _ _ 140 rfl sl_i32 (by exact hf.to ((Chg.refl [] wr).alloc (.cells #[.int .i32 q] 21))) rfl (Sees.row (cs := #[.int .i32 q]) (by exact Blk.new wr _ 21) (m := 1) rfl) rfl (by simp [Value.oneCell']) (by omega) (by omega) ?_; intro v4 w4 hF4 c4)
          go_roundg (gk - 1)
          case measure => have := HJ.out; omega
          case rel =>
            refine ⟨j + 1, _, rfl, by have := HJ.out; omega, by have := HJ.out; omega, ?_⟩
            have e : Rs [127 + j] = [.int .i32 q] := by simp [Rs]; have := HJ.out; omega
            rw [List.range_succ (n := j), List.map_append, ← List.append_assoc, Rs_append ([34, 92] ++ List.range 32 ++ _)]
            simp only [List.map_cons, List.map_nil]
            rw [e]
            exact hF4
        · have h33 : j = 33 := by omega
          subst h33
          have t1 : decide (q ≤ 159) = false := by simp; omega
          have t2 : ¬ (q ≤ 159) := by omega
          go_wp2_with fail
          go_ret
          exact ⟨_, rfl, hf⟩
/-- A reader of a line. -/
def Rd (w : World) (R : Nat) (l : List UInt8) (at_ e : Nat) : Prop := Blk w R #[.string (str l), .int .i64 (at_ : Nat), .int .i64 (e : Nat)] 111
set_option maxHeartbeats 400000 in
theorem fail_any (w : World) (R : Nat) (l : List UInt8) (p e0 e : Nat) (h : Rd w R l p e0) :
    Calls Tryz.prog 87 #[.pointer (some ⟨R, 0, none⟩), .int .i64 e] w fun x w' => x = .returned (.tuple #[]) ∧ Rd w' R l p e ∧ Chg [R] w w' := by
  have f2 := Blk.frozen h 2
  have c2 := Blk.cell h 2
  have hb := Blk.set h 2 (.int .i64 (e : Nat))
  have hc : Chg [R] w (w.setCell ⟨R, 2, none⟩ (.int .i64 (e : Nat))) := (Chg.refl [R] w).setCell (by simp) _
  simp only [List.getElem?_toArray, List.getElem?_cons_succ, List.getElem?_cons_zero] at c2
  go_enter Tryz.func87, Tryz.ntmps87
  go_wp2
  go_end0
  exact ⟨rfl, hb, hc⟩
/-- What sign tells: the sign, how many bytes; what the error is then. -/
def sgnR (r : List UInt8) (e0 : Nat) : Nat × Nat × Nat := if r = [] then (65533, 0, e0) else if bad (dec r) || low (dec r).1 then (0, 0, 4) else ((dec r).1, (dec r).2, e0)
set_option maxHeartbeats 1000000 in
theorem sign_any (w : World) (hT : Tabs w) (R : Nat) (l : List UInt8) (p e0 : Nat) (h : Rd w R l p e0) (hp : p ≤ l.length) (hl : l.length ≤ 1000000000) :
    Calls Tryz.prog 86 #[.pointer (some ⟨R, 0, none⟩)] w fun x w' => x = .returned (.tuple #[.int .i32 (sgnR (l.drop p) e0).1, .int .i64 (sgnR (l.drop p) e0).2.1]) ∧ Rd w' R l p (sgnR (l.drop p) e0).2.2 ∧ Chg [R] w w' := by
  have hsz := str_size l
  have he := str_from l p
  have c0 : w.cell? ⟨R, 0, none⟩ = some (.string (str l)) := Blk.cell h 0
  have c1 : w.cell? ⟨R, 1, none⟩ = some (.int .i64 (p : Nat)) := Blk.cell h 1
  have hpi : (p : Int) ≤ (l.length : Int) := by omega
  have hTd : Tabs w.drew := hT.chg (Chg.refl [] w).drew
  have hda := dec_any (l.drop p) w.drew hTd
  have hG : decG (l.drop p) = if l.drop p = [] then (65533, 0) else dec (l.drop p) := rfl
  have hS : sgnR (l.drop p) e0 = if l.drop p = [] then (65533, 0, e0) else if bad (dec (l.drop p)) || low (dec (l.drop p)).1 then (0, 0, 4) else ((dec (l.drop p)).1, (dec (l.drop p)).2, e0) := rfl
  have hd1 := dec_fst (l.drop p)
  have hdp := dec_pos (l.drop p)
  have hbd := bad_iff (dec (l.drop p))
  generalize l.drop p = r at *
  by_cases hr : r = []
  · rw [if_pos hr] at hG hS
    rw [hG] at hda
    rw [hS]
    clear hG hS hd1 hdp hbd hr
    go_enter Tryz.func86, Tryz.ntmps86
    go_wp2_with fail
    go_region_held3 (fun w' => w'.cell? ⟨R, 0, none⟩ = some (.string (str l)) ∧ w'.cell? ⟨R, 1, none⟩ = some (.int .i64 (p : Nat))) (first | exact ⟨c0, c1⟩ | exact ⟨m0, m1⟩)
      (first | (go_at_call 80; refine hda.mono ?_; rintro e w2 ⟨rfl, c2⟩; have m0 := c2.cell_some c0 (by simp); have m1 := c2.cell_some c1 (by simp)))
    have hR2 : Rd w2 R l p e0 := Blk.chg0 (Blk.drew h) c2
    go_wp2_with fail
    go_ret2
    exact ⟨rfl, hR2, ((Chg.refl [R] w).drew).nil c2⟩
  · rw [if_neg hr] at hG hS
    rw [hG] at hda
    generalize dec r = d at *
    obtain ⟨c, n⟩ := d
    simp only at hd1 hdp hS hda
    have t0 : ((n : Int) == 0) = false := by simp; omega
    clear hr
    by_cases hbl : (bad (c, n) || low c) = true
    · rw [if_pos hbl] at hS
      rw [hS]
      clear hG hS
      by_cases hb : bad (c, n) = true
      · have hcn := hbd.1 hb
        simp only [Prod.mk.injEq] at hcn
        obtain ⟨rfl, rfl⟩ := hcn
        clear hbd hb hbl
        go_enter Tryz.func86, Tryz.ntmps86
        go_wp2_with fail
        go_region_held3 (fun w' => w'.cell? ⟨R, 0, none⟩ = some (.string (str l)) ∧ w'.cell? ⟨R, 1, none⟩ = some (.int .i64 (p : Nat))) (first | exact ⟨c0, c1⟩ | exact ⟨m0, m1⟩)
          (first | (go_at_call 80; refine hda.mono ?_; rintro e w2 ⟨rfl, c2⟩; have m0 := c2.cell_some c0 (by simp); have m1 := c2.cell_some c1 (by simp)))
        have hR2 : Rd w2 R l p e0 := Blk.chg0 (Blk.drew h) c2
        have hc2 := ((Chg.refl [R] w).drew).nil c2
        go_wp2_with fail
        refine (fail_any w2 R l p e0 4 hR2).mono ?_
        rintro e w3 ⟨rfl, hR3, c3⟩
        go_wp2_with fail
        go_ret2
        exact ⟨rfl, hR3, hc2.tr c3⟩
      · have hbf : bad (c, n) = false := by simpa using hb
        have hlow : low c = true := by rw [hbf] at hbl; simpa using hbl
        have hnb : ¬ (c = 65533 ∧ n = 1) := fun hh => hb (by rw [hh.1, hh.2]; rfl)
        have t1 : ((c : Int) == 65533) = false := by
          have : c < 256 := by simp only [low, Bool.or_eq_true, Bool.and_eq_true, decide_eq_true_eq] at hlow; omega
          simp; omega
        clear hbd hb hbl hnb hbf
        go_enter Tryz.func86, Tryz.ntmps86
        go_wp2_with fail
        go_region_held3 (fun w' => w'.cell? ⟨R, 0, none⟩ = some (.string (str l)) ∧ w'.cell? ⟨R, 1, none⟩ = some (.int .i64 (p : Nat))) (first | exact ⟨c0, c1⟩ | exact ⟨m0, m1⟩)
          (first | (go_at_call 80; refine hda.mono ?_; rintro e w2 ⟨rfl, c2⟩; have m0 := c2.cell_some c0 (by simp); have m1 := c2.cell_some c1 (by simp)))
        have hR2 : Rd w2 R l p e0 := Blk.chg0 (Blk.drew h) c2
        have hc2 := ((Chg.refl [R] w).drew).nil c2
        go_wp2_with fail
        refine (low_any c (by omega) w2).mono ?_
        rintro e w3 ⟨rfl, rfl⟩
        rw [hlow]
        go_wp2_with fail
        refine (fail_any w3 R l p e0 4 hR2).mono ?_
        rintro e w4 ⟨rfl, hR3, c3⟩
        go_wp2_with fail
        go_ret2
        exact ⟨rfl, hR3, hc2.tr c3⟩
    · rw [if_neg hbl] at hS
      rw [hS]
      have hbf : bad (c, n) = false ∧ low c = false := by simpa using hbl
      obtain ⟨hbf, hlow⟩ := hbf
      have hnb : ¬ (c = 65533 ∧ n = 1) := fun hh => by rw [hh.1, hh.2] at hbf; simp [bad] at hbf
      clear hG hS hbd hbl hbf
      by_cases h3 : c = 65533
      · have hn1 : ((n : Int) == 1) = false := by simp; omega
        subst h3
        clear hnb
        go_enter Tryz.func86, Tryz.ntmps86
        go_wp2_with fail
        go_region_held3 (fun w' => w'.cell? ⟨R, 0, none⟩ = some (.string (str l)) ∧ w'.cell? ⟨R, 1, none⟩ = some (.int .i64 (p : Nat))) (first | exact ⟨c0, c1⟩ | exact ⟨m0, m1⟩)
          (first | (go_at_call 80; refine hda.mono ?_; rintro e w2 ⟨rfl, c2⟩; have m0 := c2.cell_some c0 (by simp); have m1 := c2.cell_some c1 (by simp)))
        have hR2 : Rd w2 R l p e0 := Blk.chg0 (Blk.drew h) c2
        have hc2 := ((Chg.refl [R] w).drew).nil c2
        go_wp2_with fail
        refine (low_any 65533 (by omega) w2).mono ?_
        rintro e w3 ⟨rfl, rfl⟩
        rw [hlow]
        go_wp2_with fail
        go_ret2
        exact ⟨rfl, hR2, hc2⟩
      · have t1 : ((c : Int) == 65533) = false := by simp; omega
        clear hnb
        go_enter Tryz.func86, Tryz.ntmps86
        go_wp2_with fail
        go_region_held3 (fun w' => w'.cell? ⟨R, 0, none⟩ = some (.string (str l)) ∧ w'.cell? ⟨R, 1, none⟩ = some (.int .i64 (p : Nat))) (first | exact ⟨c0, c1⟩ | exact ⟨m0, m1⟩)
          (first | (go_at_call 80; refine hda.mono ?_; rintro e w2 ⟨rfl, c2⟩; have m0 := c2.cell_some c0 (by simp); have m1 := c2.cell_some c1 (by simp)))
        have hR2 : Rd w2 R l p e0 := Blk.chg0 (Blk.drew h) c2
        have hc2 := ((Chg.refl [R] w).drew).nil c2
        go_wp2_with fail
        refine (low_any c (by omega) w2).mono ?_
        rintro e w3 ⟨rfl, rfl⟩
        rw [hlow]
        go_wp2_with fail
        go_ret2
        exact ⟨rfl, hR2, hc2⟩
end Go.Proofs.YtihoohhngiomdaaGreatDoor

/- Contracts of the reader's methods plain, escape. No statement of the seat is proved here. -/
namespace Go.Aq.Wd
def plainE (r : List UInt8) : Nat := if (plainW r).2 then 0 else 4
theorem plain_at (r : List UInt8) (h : r ≠ []) (hg : (bad (dec r) || low (dec r).1) = false) (h32 : (dec r).1 ≠ 32) (h34 : (dec r).1 ≠ 34) :
    plainW r = ((dec r).2 + (plainW (r.drop (dec r).2)).1, (plainW (r.drop (dec r).2)).2) := by
  rw [plainW_step r h, hg, if_neg (by simp), if_neg h32, if_neg h34]
end Go.Aq.Wd
namespace Go.Proofs.YtihoohhngiomdaaGreatDoor
open Go.RowKit Go.Aq Go.Aq.Wd
/-- No block of the library's variables. -/
def Off (R : Nat) : Prop := R ≠ 1 ∧ R ≠ 2 ∧ R ≠ 0 ∧ R ≠ 5
theorem Tabs.off {w : World} (h : Tabs w) {R : Nat} (hR : w.heap.size ≤ R) : Off R := by
  obtain ⟨⟨h1, h2⟩, ⟨m, h3⟩, h4⟩ := h
  have a1 := World.block_lt_of_cell? w _ (h1 0 (by decide))
  have a2 := World.block_lt_of_cell? w _ (h2 0 (by decide)).1
  have a3 := World.block_lt_of_cell? w _ h3
  have a4 := World.block_lt_of_cell? w _ h4
  simp only at a1 a2 a3 a4
  refine ⟨?_, ?_, ?_, ?_⟩ <;> omega
theorem Tabs.chgR {w w' : World} {R : Nat} (h : Tabs w) (c : Chg [R] w w') (hR : Off R) : Tabs w' := by
  obtain ⟨⟨h1, h2⟩, ⟨m, h3⟩, h4⟩ := h
  obtain ⟨r1, r2, r3, r4⟩ := hR
  exact ⟨⟨fun i hi => c.cell_some (h1 i hi) (by simp; omega), fun i hi => ⟨c.cell_some (h2 i hi).1 (by simp; omega), c.cell_some (h2 i hi).2 (by simp; omega)⟩⟩, ⟨m, c.cell_some h3 (by simp; omega)⟩, c.cell_some h4 (by simp; omega)⟩
set_option maxHeartbeats 2000000 in
theorem plain_any (w : World) (hT : Tabs w) (R : Nat) (hoff : Off R) (l : List UInt8) (p : Nat) (h : Rd w R l p 0) (hp : p ≤ l.length) (hl : l.length ≤ 1000000000) :
    Calls Tryz.prog 84 #[.pointer (some ⟨R, 0, none⟩)] w fun x w' => x = .returned (.string (str ((l.drop p).take (plainW (l.drop p)).1))) ∧ Rd w' R l (p + (plainW (l.drop p)).1) (plainE (l.drop p)) ∧ Chg [R] w w' := by
  have hsz := str_size l
  have c1 : w.cell? ⟨R, 1, none⟩ = some (.int .i64 (p : Nat)) := Blk.cell h 1
  have hRlt := Blk.lt h
  go_enter Tryz.func84, Tryz.ntmps84
  go_wp2_with fail
  go_loopg [] (l.length - p) (fun k wr => ∃ (q : Nat), q + k = l.length ∧ p ≤ q ∧ q ≤ l.length ∧ Rd wr R l q 0 ∧ Chg [R] w wr ∧ plainW (l.drop p) = (q - p + (plainW (l.drop q)).1, (plainW (l.drop q)).2))
  case atStart => exact ⟨p, by omega, by omega, hp, h, Chg.refl _ _, by simp⟩
  case round =>
    obtain ⟨q, hqk, hpq, hql, hR, hc, hpl⟩ := hrel
    have c2 : wr.cell? ⟨R, 2, none⟩ = some (.int .i64 (0 : Nat)) := Blk.cell hR 2
    have hTr : Tabs wr := hT.chgR hc hoff
    have hsg := sign_any wr hTr R l q 0 hR hql hl
    have hex : (str l).extract p q = str ((l.drop p).take (q - p)) := by rw [str_extract, List.drop_take]
    have hpi : (p : Int) ≤ (q : Int) := by omega
    have hqi : (q : Int) ≤ (l.length : Int) := by omega
    have hS : sgnR (l.drop q) 0 = if l.drop q = [] then (65533, 0, 0) else if bad (dec (l.drop q)) || low (dec (l.drop q)).1 then (0, 0, 4) else ((dec (l.drop q)).1, (dec (l.drop q)).2, 0) := rfl
    by_cases hr : l.drop q = []
    · rw [if_pos hr] at hS
      rw [hS] at hsg
      rw [hr, plainW_nil] at hpl
      simp only [Nat.add_zero] at hpl
      have hX : (l.drop p).take (plainW (l.drop p)).1 = (l.drop p).take (q - p) ∧ p + (plainW (l.drop p)).1 = q ∧ plainE (l.drop p) = 0 := by unfold plainE; rw [hpl]; exact ⟨rfl, by simp only; omega, rfl⟩
      have HX := Lib.hid hX
      clear hX hpl hS hr hR
      go_wp2_with fail
      refine hsg.mono ?_
      rintro e w2 ⟨rfl, hR2, c3⟩
      have hc2 := hc.tr c3
      have d0 : w2.cell? ⟨R, 0, none⟩ = some (.string (str l)) := Blk.cell hR2 0
      have d1 : w2.cell? ⟨R, 1, none⟩ = some (.int .i64 (q : Nat)) := Blk.cell hR2 1
      go_wp2_with fail
      go_quiet (fail)
      have hRq : Rd (w2.drewN nq) R l q 0 := hR2
      have hcq := hc2.drewN nq
      go_wp2_with fail
      go_ret
      exact ⟨by rw [HX.out.1]; rfl, by rw [HX.out.2.1, HX.out.2.2]; exact hRq, hcq⟩
    · rw [if_neg hr] at hS
      have hd1 := dec_fst (l.drop q)
      have hdp := dec_pos (l.drop q)
      have hle := dec_le _ hr
      rw [List.length_drop] at hle
      have hpw := plainW_step _ hr
      cases hbl : (bad (dec (l.drop q)) || low (dec (l.drop q)).1) with
      | true =>
        rw [hbl, if_pos rfl] at hS hpw
        rw [hS] at hsg
        rw [hpw] at hpl
        simp only [Nat.add_zero] at hpl
        have hX : (l.drop p).take (plainW (l.drop p)).1 = (l.drop p).take (q - p) ∧ p + (plainW (l.drop p)).1 = q ∧ plainE (l.drop p) = 4 := by unfold plainE; rw [hpl]; exact ⟨rfl, by simp only; omega, rfl⟩
        have HX := Lib.hid hX
        clear hX hpl hS hr hR hbl hpw hd1 hdp hle
        go_wp2_with fail
        refine hsg.mono ?_
        rintro e w2 ⟨rfl, hR2, c3⟩
        have hc2 := hc.tr c3
        have d0 : w2.cell? ⟨R, 0, none⟩ = some (.string (str l)) := Blk.cell hR2 0
        have d1 : w2.cell? ⟨R, 1, none⟩ = some (.int .i64 (q : Nat)) := Blk.cell hR2 1
        go_wp2_with fail
        go_quiet (fail)
        have hRq : Rd (w2.drewN nq) R l q 4 := hR2
        have hcq := hc2.drewN nq
        go_wp2_with fail
        go_ret
        exact ⟨by rw [HX.out.1]; rfl, by rw [HX.out.2.1, HX.out.2.2]; exact hRq, hcq⟩
      | false =>
        have hnx : ((l.drop q).drop (dec (l.drop q)).2) = l.drop (q + (dec (l.drop q)).2) := by rw [List.drop_drop]
        rw [hbl, if_neg (by simp)] at hS hpw
        rw [hS] at hsg
        rw [hnx] at hpw
        clear hnx hbl hS
        generalize dec (l.drop q) = d at *
        obtain ⟨c, n⟩ := d
        simp only at hd1 hdp hle hpw hsg
        have t0 : ((n : Int) == 0) = false := by simp; omega
        by_cases h32 : c = 32
        · rw [if_pos h32] at hpw
          rw [hpw] at hpl
          simp only [Nat.add_zero] at hpl
          have hX : (l.drop p).take (plainW (l.drop p)).1 = (l.drop p).take (q - p) ∧ p + (plainW (l.drop p)).1 = q ∧ plainE (l.drop p) = 0 := by unfold plainE; rw [hpl]; exact ⟨rfl, by simp only; omega, rfl⟩
          have HX := Lib.hid hX
          subst h32
          clear hX hpl hr hR hpw hd1 hdp hle
          go_wp2_with fail
          refine hsg.mono ?_
          rintro e w2 ⟨rfl, hR2, c3⟩
          have hc2 := hc.tr c3
          have d0 : w2.cell? ⟨R, 0, none⟩ = some (.string (str l)) := Blk.cell hR2 0
          have d1 : w2.cell? ⟨R, 1, none⟩ = some (.int .i64 (q : Nat)) := Blk.cell hR2 1
          go_wp2_with fail
          go_quiet (fail)
          have hRq : Rd (w2.drewN nq) R l q 0 := hR2
          have hcq := hc2.drewN nq
          go_wp2_with fail
          go_ret
          exact ⟨by rw [HX.out.1]; rfl, by rw [HX.out.2.1, HX.out.2.2]; exact hRq, hcq⟩
        · have t32 : ((c : Int) == 32) = false := by simp; omega
          rw [if_neg h32] at hpw
          by_cases h34 : c = 34
          · rw [if_pos h34] at hpw
            rw [hpw] at hpl
            simp only [Nat.add_zero] at hpl
            have hX : (l.drop p).take (plainW (l.drop p)).1 = (l.drop p).take (q - p) ∧ p + (plainW (l.drop p)).1 = q ∧ plainE (l.drop p) = 4 := by unfold plainE; rw [hpl]; exact ⟨rfl, by simp only; omega, rfl⟩
            have HX := Lib.hid hX
            subst h34
            clear hX hpl hr hR hpw hd1 hdp hle t32 h32
            go_wp2_with fail
            refine hsg.mono ?_
            rintro e w2 ⟨rfl, hR2, c3⟩
            go_wp2_with fail
            refine (fail_any w2 R l q 0 4 hR2).mono ?_
            rintro e w3 ⟨rfl, hR3, c4⟩
            have hc2 := (hc.tr c3).tr c4
            have d0 : w3.cell? ⟨R, 0, none⟩ = some (.string (str l)) := Blk.cell hR3 0
            have d1 : w3.cell? ⟨R, 1, none⟩ = some (.int .i64 (q : Nat)) := Blk.cell hR3 1
            go_wp2_with fail
            go_quiet (fail)
            have hRq : Rd (w3.drewN nq) R l q 4 := hR3
            have hcq := hc2.drewN nq
            go_wp2_with fail
            go_ret
            exact ⟨by rw [HX.out.1]; rfl, by rw [HX.out.2.1, HX.out.2.2]; exact hRq, hcq⟩
          · have t34 : ((c : Int) == 34) = false := by simp; omega
            rw [if_neg h34] at hpw
            rw [hpw] at hpl
            simp only at hpl
            have HPL := Lib.hid hpl
            have HQ := Lib.hid hqk
            clear hpl hr hR hpw hqk h32 h34
            go_wp2_with fail
            refine hsg.mono ?_
            rintro e w2 ⟨rfl, hR2, c3⟩
            have hc2 := hc.tr c3
            have d1 : w2.cell? ⟨R, 1, none⟩ = some (.int .i64 (q : Nat)) := Blk.cell hR2 1
            have f1 := Blk.frozen hR2 1
            have hR3 := Blk.set hR2 1 (.int .i64 ((q + n : Nat) : Int))
            have hc3 := hc2.setCell (p := ⟨R, 1, none⟩) (by simp) (.int .i64 ((q + n : Nat) : Int))
            have e1 : ((q + n : Nat) : Int) = (q : Int) + (n : Int) := by omega
            rw [e1] at hR3 hc3
            have hni : (n : Int) ≤ 4 := by omega
            go_wp2_with fail
            go_roundg (gk - n)
            case measure => have := HQ.out; omega
            case rel =>
              refine ⟨q + n, by have := HQ.out; omega, by omega, by omega, ?_, hc3, ?_⟩
              · unfold Rd; rw [e1]; exact hR3
              · rw [HPL.out]; congr 1; omega
end Go.Proofs.YtihoohhngiomdaaGreatDoor

/- Contract of the reader's method escape. No statement of the seat is proved here. -/
namespace Go.Aq.Wd
theorem escs_len : escs.length = 67 := rfl
theorem escs_ok : ∀ c ∈ escs, okR c := by decide +kernel
theorem Rs_get (l : List Nat) (i : Nat) (h : i < l.length) : (Rs l)[i]? = some (.int .i32 ((l[i]'h : Nat) : Int)) := by simp [Rs, h]
/-- What an escape gives: the sign, the place, the error. -/
def escR (l : List UInt8) (p : Nat) : Nat × Nat × Nat := match escO (l.drop p) with
  | some k => (k, p + (writ k).length, 0)
  | none => if escShort (l.drop p) then (0, l.length, 2) else (0, p, 4)
end Go.Aq.Wd
namespace Go.Proofs.YtihoohhngiomdaaGreatDoor
open Go.RowKit Go.Aq Go.Aq.Wd
theorem pre_any (s p : List UInt8) (w : World) : Calls Tryz.prog 106 #[.string (str s), .string (str p)] w fun e w' => e = .returned (.bool (p.isPrefixOf s)) ∧ w' = w := by
  have h := Tryz.strings_HasPrefix (str s) (str p) w
  exact h
set_option maxHeartbeats 2000000 in
theorem escape_any (w : World) (hT : Tabs w) (R : Nat) (hoff : Off R) (l : List UInt8) (p : Nat) (h : Rd w R l p 0) (hp : p ≤ l.length) (hl : l.length ≤ 1000000000) :
    Calls Tryz.prog 95 #[.pointer (some ⟨R, 0, none⟩)] w fun x w' => x = .returned (.int .i32 (escR l p).1) ∧ Rd w' R l (escR l p).2.1 (escR l p).2.2 ∧ Chg [R] w w' := by
  have hsz := str_size l
  have he := str_from l p
  have hpi : (p : Int) ≤ (l.length : Int) := by omega
  have c0 : w.cell? ⟨R, 0, none⟩ = some (.string (str l)) := Blk.cell h 0
  have c1 : w.cell? ⟨R, 1, none⟩ = some (.int .i64 (p : Nat)) := Blk.cell h 1
  have hE : ∀ k, escO (l.drop p) = some k → escR l p = (k, p + (writ k).length, 0) := fun k hk => by unfold escR; rw [hk]
  have hN : escO (l.drop p) = none → escR l p = if escShort (l.drop p) then (0, l.length, 2) else (0, p, 4) := fun hk => by unfold escR; rw [hk]
  have HE := Lib.hid hE
  have HN := Lib.hid hN
  clear hE hN
  generalize l.drop p = r at *
  go_enter Tryz.func95, Tryz.ntmps95
  go_wp2_with fail
  go_quiet (fail)
  have hR1 : Rd (w.drewN nq) R l p 0 := h
  have hc1 := (Chg.refl [] w).drewN nq
  clear h c0 c1
  generalize w.drewN nq = w1 at *
  go_wp2_with fail
  refine (escapes_any w1).mono ?_
  rintro e w2 ⟨v, rfl, hf⟩
  have hR2 : Rd w2 R l p 0 := Blk.chg0 hR1 hf.chg
  have hc2 := hc1.nil hf.chg
  obtain ⟨g, cap, hv, hcap, -, -⟩ := hf.own.pos (by omega)
  subst hv
  have hown := hf.own
  clear hR1 hc1 hf
  go_wp2_with fail
  go_loopg [4, 19] 67 (fun k vs vi wr => ∃ (i : Nat) (b : Bool), vi = .int .i64 i ∧ vs = .bool b ∧ i + k = 67 ∧ b = ((escs.take i).any fun c => r.isPrefixOf (writ c)) ∧ (∀ c ∈ escs.take i, (writ c).isPrefixOf r = false) ∧ Chg [] w2 wr)
  case atStart => exact ⟨0, false, rfl, rfl, by omega, rfl, by simp, Chg.refl _ _⟩
  case round =>
    obtain ⟨i, b, rfl, rfl, hik, hb, hno, hc⟩ := hrel
    have hR3 : Rd wr R l p 0 := Blk.chg0 hR2 hc
    have hTr : Tabs wr := hT.chg (hc2.nil hc)
    by_cases hi : i < 67
    · have hil : i < escs.length := hi
      have t1 : decide ((i : Int) < 67) = true := by simp; omega
      have ii : (i : Int) < 67 := by omega
      have x0 : wr.cell? ⟨g, i, none⟩ = some (.int .i32 ((escs[i]'hil : Nat) : Int)) := by
        rw [(hown.chg hc (fun _ _ => by simp)).cellAt i (by omega), Rs_get _ _ hil]
      have hmem := List.getElem_mem hil
      have hokc := escs_ok _ hmem
      have hts := List.take_succ_eq_append_getElem hil
      have his := escO_is r (escs[i]'hil) hmem
      generalize escs[i]'hil = c at *
      have hwa := written_any c hokc wr hTr
      have hwl := writ_len c
      have hws := str_size (writ c)
      have HB := Lib.hid hb
      have HNO := Lib.hid hno
      have HTS := Lib.hid hts
      have HIK := Lib.hid hik
      have HIS := Lib.hid his
      clear hb hno hts hik his hmem
      cases hpre : (writ c).isPrefixOf r with
      | true =>
        have hER := HE.out c (HIS.out hpre)
        have HER := Lib.hid hER
        clear hER
        go_wp2_with fail
        refine hwa.mono ?_
        rintro e w3 ⟨rfl, c3⟩
        have hR4 : Rd w3 R l p 0 := Blk.chg0 hR3 c3
        have hc4 := (hc2.nil hc).nil c3
        generalize writ c = W at *
        go_wp2_with fail
        refine (pre_any r W w3).mono ?_
        rintro e w4 ⟨rfl, rfl⟩
        rw [hpre]
        have d1 : w4.cell? ⟨R, 1, none⟩ = some (.int .i64 (p : Nat)) := Blk.cell hR4 1
        have f1 := Blk.frozen hR4 1
        have hR5 := Blk.set hR4 1 (.int .i64 ((p + W.length : Nat) : Int))
        have hc5 := (hc4.toS (S := [R])).setCell (p := ⟨R, 1, none⟩) (by simp) (.int .i64 ((p + W.length : Nat) : Int))
        have e1 : ((p + W.length : Nat) : Int) = (p : Int) + (W.length : Int) := by omega
        rw [e1] at hR5 hc5
        have hwi : (W.length : Int) ≤ 6 := by omega
        have hpb : (p : Int) ≤ 1000000000 := by omega
        go_wp2_with fail
        go_ret
        refine ⟨by rw [HER.out]; rfl, ?_, hc5⟩
        rw [HER.out]
        unfold Rd
        rw [e1]
        exact hR5
      | false =>
        have hno' : ∀ x ∈ escs.take (i + 1), (writ x).isPrefixOf r = false := by
          rw [HTS.out]
          intro x hx
          rcases List.mem_append.1 hx with hx | hx
          · exact HNO.out x hx
          · simp only [List.mem_singleton] at hx; rw [hx]; exact hpre
        have hany : ((escs.take (i + 1)).any fun c => r.isPrefixOf (writ c)) = (b || r.isPrefixOf (writ c)) := by rw [HTS.out, List.any_append, ← HB.out]; simp
        have HNO2 := Lib.hid hno'
        have HANY := Lib.hid hany
        clear hno' hany HIS HNO HTS
        generalize writ c = W at *
        go_wp2_with fail
        refine hwa.mono ?_
        rintro e w3 ⟨rfl, c3⟩
        have hc4 := hc.nil c3
        go_wp2_with fail
        refine (pre_any r W w3).mono ?_
        rintro e w4 ⟨rfl, rfl⟩
        rw [hpre]
        cases b with
        | true =>
          go_wp2_with fail
          go_roundg (gk - 1)
          case measure => have := HIK.out; omega
          case rel => exact ⟨i + 1, true, by go_num, rfl, by have := HIK.out; omega, by rw [HANY.out]; rfl, HNO2.out, hc4⟩
        | false =>
          go_wp2_with fail
          refine (pre_any W r w4).mono ?_
          rintro e w5 ⟨rfl, rfl⟩
          go_wp2_with fail
          go_roundg (gk - 1)
          case measure => have := HIK.out; omega
          case rel => exact ⟨i + 1, _, by go_num, rfl, by have := HIK.out; omega, by rw [HANY.out]; rfl, HNO2.out, hc4⟩
    · have h67 : i = 67 := by omega
      subst h67
      have htk : escs.take 67 = escs := rfl
      rw [htk] at hb hno
      have hsh : b = escShort r := hb
      have hER := HN.out ((escO_none r).2 hno)
      rw [← hsh] at hER
      have HER := Lib.hid hER
      have hcw := hc2.nil hc
      have t1 : decide ((67 : Int) < 67) = false := rfl
      clear hER hsh hb hno hik htk
      cases b with
      | true =>
        have d0 : wr.cell? ⟨R, 0, none⟩ = some (.string (str l)) := Blk.cell hR3 0
        have d1 : wr.cell? ⟨R, 1, none⟩ = some (.int .i64 (p : Nat)) := Blk.cell hR3 1
        have f1 := Blk.frozen hR3 1
        have hR5 : Rd (wr.setCell ⟨R, 1, none⟩ (.int .i64 (l.length : Nat))) R l l.length 0 := Blk.set hR3 1 (.int .i64 ((l.length : Nat) : Int))
        have hc5 := (hcw.toS (S := [R])).setCell (p := ⟨R, 1, none⟩) (by simp) (.int .i64 ((l.length : Nat) : Int))
        go_wp2_with fail
        refine (fail_any _ R l l.length 0 2 hR5).mono ?_
        rintro e w5 ⟨rfl, hR6, c6⟩
        go_wp2_with fail
        go_ret
        exact ⟨by rw [HER.out]; rfl, by rw [HER.out]; exact hR6, hc5.tr c6⟩
      | false =>
        go_wp2_with fail
        refine (fail_any wr R l p 0 4 hR3).mono ?_
        rintro e w5 ⟨rfl, hR6, c6⟩
        go_wp2_with fail
        go_ret
        exact ⟨by rw [HER.out]; rfl, by rw [HER.out]; exact hR6, (hcw.toS (S := [R])).tr c6⟩
end Go.Proofs.YtihoohhngiomdaaGreatDoor

/- Contract of the reader's method quoted. No statement of the seat is proved here. -/
namespace Go.Aq
open Go.RowKit
theorem builder_chgR {T e : TypeId} {B b R : Nat} {bs : List Value} {w w' : World} (h : Lib.IsBuilder T e B b bs w) (c : Chg [R] w w') (hR : R < B) : Lib.IsBuilder T e B b bs w' := by
  have one : ∀ p, Lib.BuilderAt T e B b p bs w → Lib.BuilderAt T e B b p bs w' := by
    rintro p ⟨hB, v, hb, hown, hne⟩
    refine ⟨hB, v, (c.block b (Array.getElem?_eq_some_iff.1 hb).1 (by simp; omega)).trans hb, ⟨hown.1, ?_⟩, hne⟩
    rcases hown.2 with h2 | ⟨g, cap, cur, hv, hbg, hg, r⟩
    · exact .inl h2
    · exact .inr ⟨g, cap, cur, hv, hbg, (c.block g (Array.getElem?_eq_some_iff.1 hg).1 (by simp; omega)).trans hg, r⟩
  rcases h with h | h
  · exact .inl (one _ h)
  · exact .inr (one _ h)
theorem Chg.belowS {S : List Nat} {B : Nat} {a b c : World} (h : Chg S a b) (k : Below B b c) (hB : a.heap.size ≤ B) : Chg S a c :=
  ⟨k.os.trans h.os, k.tape.trans h.tape, k.output.trans h.output, Nat.le_trans h.size k.size, fun i hi hS => (k.block i (by omega)).trans (h.block i hi hS)⟩
end Go.Aq
namespace Go.Proofs.YtihoohhngiomdaaGreatDoor
open Go.RowKit Go.Aq Go.Aq.Wd
theorem Rd.below {w w' : World} {R : Nat} {l : List UInt8} {p e B : Nat} (h : Rd w R l p e) (k : Below B w w') (hR : R < B) : Rd w' R l p e := by
  unfold Rd Blk at *
  rw [k.block R hR]; exact h
/-- What a quoted word's text is: nothing where there is an error. -/
def qtext (q : List UInt8 × Nat × Nat) : List UInt8 := if q.2.2 = 0 then q.1 else []
set_option maxHeartbeats 4000000 in
theorem quoted_any (w : World) (hT : Tabs w) (R : Nat) (hoff : Off R) (l : List UInt8) (p : Nat) (h : Rd w R l p 0) (hp : p < l.length) (hl : l.length ≤ 1000000000) :
    Calls Tryz.prog 85 #[.pointer (some ⟨R, 0, none⟩)] w fun x w' => x = .returned (.string (str (qtext (quotW (l.drop (p + 1)))))) ∧ Rd w' R l (p + 1 + (quotW (l.drop (p + 1))).2.1) (quotW (l.drop (p + 1))).2.2 ∧ Chg [R] w w' := by
  have hsz := str_size l
  have hRlt : R < w.heap.size := Blk.lt h
  obtain ⟨B, hB⟩ : ∃ B, w.heap.size = B := ⟨_, rfl⟩
  have hI0 : Lib.IsBuilder 59 5 w.heap.size w.heap.size (Bs []) (w.alloc (.cells #[.pointer none, .slice none 0 0] 59)) := Lib.fresh_isBuilder 59 5 w
  have hR0 : Rd (w.alloc (.cells #[.pointer none, .slice none 0 0] 59)) R l p 0 := Blk.alloc h _
  have hc0 : Chg [R] w (w.alloc (.cells #[.pointer none, .slice none 0 0] 59)) := (Chg.refl _ _).alloc _
  have hs0 : B ≤ (w.alloc (.cells #[.pointer none, .slice none 0 0] 59)).heap.size := by simp; omega
  rw [hB] at hI0 hRlt
  generalize hw0 : w.alloc (.cells #[.pointer none, .slice none 0 0] 59) = w0 at *
  have d1 : w0.cell? ⟨R, 1, none⟩ = some (.int .i64 (p : Nat)) := Blk.cell hR0 1
  have f1 := Blk.frozen hR0 1
  have hR1 := Blk.set hR0 1 (.int .i64 ((p + 1 : Nat) : Int))
  have hc01 : Chg [R] w0 (w0.setCell ⟨R, 1, none⟩ (.int .i64 ((p + 1 : Nat) : Int))) := (Chg.refl [R] w0).setCell (by simp) _
  have e1 : ((p + 1 : Nat) : Int) = (p : Int) + 1 := by omega
  rw [e1] at hR1 hc01
  have hpb : (p : Int) ≤ 1000000000 := by omega
  go_enter Tryz.func85, Tryz.ntmps85
  go_wp2_with fail
  have hR1' : Rd (w0.setCell ⟨R, 1, none⟩ (.int .i64 ((p : Int) + 1))) R l (p + 1) 0 := by unfold Rd; rw [e1]; exact hR1
  have hI1 := builder_chgR hI0 hc01 hRlt
  have hc1 := hc0.tr hc01
  have hs1 : B ≤ (w0.setCell ⟨R, 1, none⟩ (.int .i64 ((p : Int) + 1))).heap.size := Nat.le_trans hs0 hc01.size
  clear hR1 hI0 hc01 hR0 hc0 hs0 d1 f1 hw0
  generalize w0.setCell ⟨R, 1, none⟩ (.int .i64 ((p : Int) + 1)) = w1 at *
  go_loopg [] (l.length - p) (fun k wr => ∃ (q e : Nat) (acc : List UInt8), Rd wr R l q e ∧ Lib.IsBuilder 59 5 B B (Bs acc) wr ∧ Chg [R] w wr ∧ B ≤ wr.heap.size ∧ p + 1 ≤ q ∧ q ≤ l.length ∧
    ((e = 0 ∧ q + k = l.length + 1 ∧ acc.length ≤ 4 * q ∧ quotW (l.drop (p + 1)) = (acc ++ (quotW (l.drop q)).1, q - (p + 1) + (quotW (l.drop q)).2.1, (quotW (l.drop q)).2.2)) ∨ (e ≠ 0 ∧ k = 0 ∧ (quotW (l.drop (p + 1))).2 = (q - (p + 1), e))))
  case atStart => exact ⟨p + 1, 0, [], hR1', hI1, hc1, hs1, by omega, by omega, .inl ⟨rfl, by omega, by simp, by simp⟩⟩
  case round =>
    clear hR1' hI1 hc1 hs1
    obtain ⟨q, e, acc, hR, hI, hc, hs, hpq, hql, hst⟩ := hrel
    have c2 : wr.cell? ⟨R, 2, none⟩ = some (.int .i64 (e : Nat)) := Blk.cell hR 2
    rcases hst with ⟨rfl, hqk, hacc, hqw⟩ | ⟨he0, hk0, hqw⟩
    · have hTr : Tabs wr := hT.chgR hc hoff
      have hsg := sign_any wr hTr R l q 0 hR hql hl
      have hS : sgnR (l.drop q) 0 = if l.drop q = [] then (65533, 0, 0) else if bad (dec (l.drop q)) || low (dec (l.drop q)).1 then (0, 0, 4) else ((dec (l.drop q)).1, (dec (l.drop q)).2, 0) := rfl
      have hqb : (q : Int) ≤ 1000000000 := by omega
      by_cases hr : l.drop q = []
      · rw [if_pos hr] at hS
        rw [hS] at hsg
        rw [hr, quotW_nil] at hqw
        have HQ := Lib.hid hqw
        clear hqw hS hr hR
        go_wp2_with fail
        refine hsg.mono ?_
        rintro e w2 ⟨rfl, hR2, c3⟩
        have hI2 := builder_chgR hI c3 hRlt
        have hc2 := hc.tr c3
        have d2 : w2.cell? ⟨R, 2, none⟩ = some (.int .i64 (0 : Nat)) := Blk.cell hR2 2
        go_wp2_with fail
        refine (fail_any w2 R l q 0 2 hR2).mono ?_
        rintro e w3 ⟨rfl, hR3, c4⟩
        go_wp2_with fail
        go_roundg 0
        case measure => omega
        case rel => exact ⟨q, 2, acc, hR3, builder_chgR hI2 c4 hRlt, hc2.tr c4, Nat.le_trans hs (Nat.le_trans c3.size c4.size), hpq, hql, .inr ⟨by decide, rfl, by rw [HQ.out]; rfl⟩⟩
      · rw [if_neg hr] at hS
        have hd1 := dec_fst (l.drop q)
        have hdp := dec_pos (l.drop q)
        have hle := dec_le _ hr
        rw [List.length_drop] at hle
        have hpw := quotW_step _ hr
        have hgood := dec_good _ hr
        cases hbl : (bad (dec (l.drop q)) || low (dec (l.drop q)).1) with
        | true =>
          rw [hbl, if_pos rfl] at hS hpw
          rw [hS] at hsg
          rw [hpw] at hqw
          have HQ := Lib.hid hqw
          clear hqw hS hr hR hbl hpw hd1 hdp hle hgood
          go_wp2_with fail
          refine hsg.mono ?_
          rintro e w2 ⟨rfl, hR2, c3⟩
          have hI2 := builder_chgR hI c3 hRlt
          have hc2 := hc.tr c3
          have d2 : w2.cell? ⟨R, 2, none⟩ = some (.int .i64 (4 : Nat)) := Blk.cell hR2 2
          go_wp2_with fail
          go_roundg 0
          case measure => omega
          case rel => exact ⟨q, 4, acc, hR2, hI2, hc2, Nat.le_trans hs c3.size, hpq, hql, .inr ⟨by decide, rfl, by rw [HQ.out]; rfl⟩⟩
        | false =>
          have hbf : bad (dec (l.drop q)) = false := by
            cases hx : bad (dec (l.drop q)) with
            | false => rfl
            | true => rw [hx] at hbl; simp at hbl
          have hokc := (hgood hbf).1
          have hnx : ((l.drop q).drop (dec (l.drop q)).2) = l.drop (q + (dec (l.drop q)).2) := by rw [List.drop_drop]
          have hescR : escR l q = match escO (l.drop q) with | some k => (k, q + (writ k).length, 0) | none => if escShort (l.drop q) then (0, l.length, 2) else (0, q, 4) := rfl
          have hdw : ∀ k : Nat, ((l.drop q).drop (writ k).length) = l.drop (q + (writ k).length) := fun k => by rw [List.drop_drop]
          have hlq : (l.drop q).length = l.length - q := by rw [List.length_drop]
          have hesc : ∀ k, escO (l.drop q) = some k → okR k ∧ q + (writ k).length ≤ l.length := fun k hk => by
            obtain ⟨h1, h2⟩ := escO_some _ _ hk
            have := (List.isPrefixOf_iff_prefix.1 h2).length_le
            rw [List.length_drop] at this
            exact ⟨escs_ok k h1, by omega⟩
          rw [hbl, if_neg (by simp)] at hS hpw
          rw [hS] at hsg
          simp only [hnx, hdw, hlq] at hpw
          clear hnx hbl hS hgood hbf hdw hlq
          generalize escO (l.drop q) = eo at *
          generalize escShort (l.drop q) = es at *
          generalize dec (l.drop q) = d at *
          obtain ⟨c, n⟩ := d
          simp only at hd1 hdp hle hpw hsg hokc
          have t0 : ((n : Int) == 0) = false := by simp; omega
          have hI2f := fun w2 (c3 : Chg [R] wr w2) => builder_chgR hI c3 hRlt
          by_cases h34 : c = 34
          · rw [if_pos h34] at hpw
            rw [hpw] at hqw
            have hX : qtext (quotW (l.drop (p + 1))) = acc ∧ p + 1 + (quotW (l.drop (p + 1))).2.1 = q + 1 ∧ (quotW (l.drop (p + 1))).2.2 = 0 := by
              unfold qtext; rw [hqw]; exact ⟨by simp, by simp only; omega, rfl⟩
            have HX := Lib.hid hX
            subst h34
            clear hX hqw hpw hr hR hescR hesc hokc
            go_wp2_with fail
            refine hsg.mono ?_
            rintro e w2 ⟨rfl, hR2, c3⟩
            have hI2 := hI2f w2 c3
            have hc2 := hc.tr c3
            have hs2 := Nat.le_trans hs c3.size
            have d2 : w2.cell? ⟨R, 2, none⟩ = some (.int .i64 (0 : Nat)) := Blk.cell hR2 2
            have d1 : w2.cell? ⟨R, 1, none⟩ = some (.int .i64 (q : Nat)) := Blk.cell hR2 1
            have f1 := Blk.frozen hR2 1
            have hR3 := Blk.set hR2 1 (.int .i64 ((q + 1 : Nat) : Int))
            have hcs : Chg [R] w2 (w2.setCell ⟨R, 1, none⟩ (.int .i64 ((q + 1 : Nat) : Int))) := (Chg.refl [R] w2).setCell (by simp) _
            have e2 : ((q + 1 : Nat) : Int) = (q : Int) + 1 := by omega
            rw [e2] at hR3 hcs
            have hR3' : Rd (w2.setCell ⟨R, 1, none⟩ (.int .i64 ((q : Int) + 1))) R l (q + 1) 0 := by unfold Rd; rw [e2]; exact hR3
            have hI3 := builder_chgR hI2 hcs hRlt
            go_wp2_with fail
            refine (Tryz.Builder_String_any B B acc _ hI3 (Nat.le_trans hs2 hcs.size)).mono ?_
            rintro e w3 ⟨rfl, hb3⟩
            go_wp2_with fail
            go_ret
            exact ⟨by rw [HX.out.1]; rfl, by rw [HX.out.2.1, HX.out.2.2]; exact hR3'.below hb3 hRlt, (hc2.tr hcs).belowS hb3 (by omega)⟩
          · have t34 : ((c : Int) == 34) = false := by simp; omega
            rw [if_neg h34] at hpw
            by_cases h92 : c = 92
            · rw [if_pos h92] at hpw
              subst h92
              have hea := fun w2 (c3 : Chg [R] wr w2) (hR2 : Rd w2 R l q 0) => escape_any w2 (hTr.chgR c3 hoff) R hoff l q hR2 hql hl
              clear t34
              cases eo with
              | some k =>
                simp only at hescR hpw
                obtain ⟨hokk, hkl⟩ := hesc k rfl
                rw [hescR] at hea
                rw [hpw] at hqw
                simp only at hqw hea
                have HQ := Lib.hid (And.intro hqw hqk)
                have hel := enc1_len k
                have hw1 : 1 ≤ (writ k).length := List.length_pos_iff.2 (writ_ne k)
                have hw6 := writ_len k
                clear hqw hpw hr hR hescR hesc h34 hqk hokc
                generalize hwk : (writ k).length = wk at *
                have HWK := Lib.hid hwk
                clear hwk
                go_wp2_with fail
                refine hsg.mono ?_
                rintro e w2 ⟨rfl, hR2, c3⟩
                have hI2 := hI2f w2 c3
                have hc2 := hc.tr c3
                have hs2 := Nat.le_trans hs c3.size
                have d2 : w2.cell? ⟨R, 2, none⟩ = some (.int .i64 (0 : Nat)) := Blk.cell hR2 2
                have hea2 := hea w2 c3 hR2
                clear hea
                go_wp2_with fail
                refine hea2.mono ?_
                rintro e w3 ⟨rfl, hR3, c4⟩
                have hI3 := builder_chgR hI2 c4 hRlt
                have hc3 := hc2.tr c4
                have hs3 := Nat.le_trans hs2 c4.size
                clear hea2
                go_wp2_with fail
                refine (wRune B B acc k hokk w3 hI3 (by omega) hs3).mono ?_
                rintro e w4 ⟨⟨rr, rfl⟩, hI4, hb4, -⟩
                have hR4 := hR3.below hb4 hRlt
                have hc4 := hc3.belowS hb4 (by omega)
                have hs4 := Nat.le_trans hs3 hb4.size
                go_wp2_with fail
                go_roundg (gk - wk)
                case measure => have := HQ.out.2; omega
                case rel =>
                  refine ⟨q + wk, 0, acc ++ enc1 k, hR4, hI4, hc4, hs4, by omega, by omega, .inl ⟨rfl, by have := HQ.out.2; omega, by simp; omega, ?_⟩⟩
                  rw [HQ.out.1, List.append_assoc]; congr 2; omega
              | none =>
                have hfin : ∃ q2 e2, q ≤ q2 ∧ q2 ≤ l.length ∧ e2 ≠ 0 ∧ escR l q = (0, q2, e2) ∧ (quotW (l.drop (p + 1))).2 = (q2 - (p + 1), e2) := by
                  simp only at hescR hpw
                  rw [hqw]
                  cases es with
                  | true => exact ⟨l.length, 2, hql, Nat.le_refl _, by decide, by rw [hescR]; rfl, by rw [hpw]; simp only [if_true]; congr 1; omega⟩
                  | false => exact ⟨q, 4, Nat.le_refl _, hql, by decide, by rw [hescR]; rfl, by rw [hpw]; simp⟩
                obtain ⟨q2, e2, hq2, hq2l, he2, her, hqf⟩ := hfin
                rw [her] at hea
                simp only at hea
                have HQ := Lib.hid hqf
                clear hqw hpw hr hR hescR hesc h34 hokc her hqf
                go_wp2_with fail
                refine hsg.mono ?_
                rintro e w2 ⟨rfl, hR2, c3⟩
                have hI2 := hI2f w2 c3
                have hc2 := hc.tr c3
                have hs2 := Nat.le_trans hs c3.size
                have d2 : w2.cell? ⟨R, 2, none⟩ = some (.int .i64 (0 : Nat)) := Blk.cell hR2 2
                have hea2 := hea w2 c3 hR2
                clear hea
                go_wp2_with fail
                refine hea2.mono ?_
                rintro e w3 ⟨rfl, hR3, c4⟩
                have hI3 := builder_chgR hI2 c4 hRlt
                have hc3 := hc2.tr c4
                have hs3 := Nat.le_trans hs2 c4.size
                clear hea2
                go_wp2_with fail
                refine (wRune B B acc 0 (.inl (by decide)) w3 hI3 (by omega) hs3).mono ?_
                rintro e w4 ⟨⟨rr, rfl⟩, hI4, hb4, -⟩
                have hR4 := hR3.below hb4 hRlt
                have hc4 := hc3.belowS hb4 (by omega)
                have hs4 := Nat.le_trans hs3 hb4.size
                go_wp2_with fail
                go_roundg 0
                case measure => omega
                case rel => exact ⟨q2, e2, _, hR4, hI4, hc4, hs4, by omega, hq2l, .inr ⟨he2, rfl, HQ.out⟩⟩
            · have t92 : ((c : Int) == 92) = false := by simp; omega
              rw [if_neg h92] at hpw
              rw [hpw] at hqw
              simp only at hqw
              have HQ := Lib.hid (And.intro hqw hqk)
              have hel := enc1_len c
              clear hqw hpw hr hR hescR hesc h34 h92 hqk
              go_wp2_with fail
              refine hsg.mono ?_
              rintro e w2 ⟨rfl, hR2, c3⟩
              have hI2 := hI2f w2 c3
              have hc2 := hc.tr c3
              have hs2 := Nat.le_trans hs c3.size
              have d2 : w2.cell? ⟨R, 2, none⟩ = some (.int .i64 (0 : Nat)) := Blk.cell hR2 2
              go_wp2_with fail
              refine (wRune B B acc c hokc w2 hI2 (by omega) hs2).mono ?_
              rintro e w3 ⟨⟨rr, rfl⟩, hI3, hb3, -⟩
              have hR3 := hR2.below hb3 hRlt
              have hc3 := hc2.belowS hb3 (by omega)
              have hs3 := Nat.le_trans hs2 hb3.size
              have d1 : w3.cell? ⟨R, 1, none⟩ = some (.int .i64 (q : Nat)) := Blk.cell hR3 1
              have f1 := Blk.frozen hR3 1
              have hR4 := Blk.set hR3 1 (.int .i64 ((q + n : Nat) : Int))
              have hcs : Chg [R] w3 (w3.setCell ⟨R, 1, none⟩ (.int .i64 ((q + n : Nat) : Int))) := (Chg.refl [R] w3).setCell (by simp) _
              have e2 : ((q + n : Nat) : Int) = (q : Int) + (n : Int) := by omega
              rw [e2] at hR4 hcs
              have hni : (n : Int) ≤ 4 := by omega
              go_wp2_with fail
              go_roundg (gk - n)
              case measure => have := HQ.out.2; omega
              case rel =>
                refine ⟨q + n, 0, acc ++ enc1 c, ?_, builder_chgR hI3 hcs hRlt, hc3.tr hcs, Nat.le_trans hs3 hcs.size, by omega, by omega, .inl ⟨rfl, by have := HQ.out.2; omega, by simp; omega, ?_⟩⟩
                · unfold Rd; rw [e2]; exact hR4
                · rw [HQ.out.1, List.append_assoc]; congr 2; omega
    · have t1 : ((e : Int) == 0) = false := by simp; omega
      have hX : qtext (quotW (l.drop (p + 1))) = [] ∧ p + 1 + (quotW (l.drop (p + 1))).2.1 = q ∧ (quotW (l.drop (p + 1))).2.2 = e := by
        unfold qtext; rw [hqw]; exact ⟨by rw [if_neg he0], by simp only; omega, rfl⟩
      have HX := Lib.hid hX
      clear hX hqw he0
      go_wp2_with fail
      go_ret
      exact ⟨by rw [HX.out.1]; rfl, by rw [HX.out.2.1, HX.out.2.2]; exact hR, hc⟩
end Go.Proofs.YtihoohhngiomdaaGreatDoor

/- Contract of the reader's method word. No statement of the seat is proved here. -/
namespace Go.Aq.Wd
theorem quot_err : ∀ (n : Nat) (r : List UInt8), r.length ≤ n → (quotW r).2.1 ≤ r.length ∧ (((quotW r).2.2 = 0) ∨ ((quotW r).2.2 = 2 ∧ (quotW r).2.1 = r.length) ∨ (quotW r).2.2 = 4)
  | 0, r, hn => by
    have : r = [] := List.eq_nil_of_length_eq_zero (by omega)
    subst this
    rw [quotW_nil]; simp
  | n + 1, r, hn => by
    by_cases hr : r = []
    · subst hr; rw [quotW_nil]; simp
    · have hl : 1 ≤ r.length := List.length_pos_iff.2 hr
      have hp := dec_pos r
      have hle := dec_le r hr
      rw [quotW_step r hr]
      split
      · simp
      · split
        · simp; omega
        · split
          · cases ho : escO r with
            | some k =>
              have hw : 1 ≤ (writ k).length := List.length_pos_iff.2 (writ_ne k)
              obtain ⟨h1, h2⟩ := escO_some _ _ ho
              have hpl := (List.isPrefixOf_iff_prefix.1 h2).length_le
              have ih := quot_err n (r.drop (writ k).length) (by rw [List.length_drop]; omega)
              rw [List.length_drop] at ih
              simp only
              omega
            | none =>
              simp only
              split
              · simp
              · simp
          · have ih := quot_err n (r.drop (dec r).2) (by rw [List.length_drop]; omega)
            rw [List.length_drop] at ih
            simp only
            omega
theorem head32 (r : List UInt8) (h : r ≠ []) : (dec r).1 = 32 ↔ r.headD 0 = 32 := by
  obtain ⟨x, t, rfl⟩ : ∃ x t, r = x :: t := by cases r; (exact absurd rfl h); exact ⟨_, _, rfl⟩
  simp only [List.headD_cons]
  by_cases hx : x.toNat < 128
  · rw [dec_ascii x t hx]
    constructor
    · intro e; rw [← u8e x 32 e]; rfl
    · rintro rfl; rfl
  · have := dec_high x t (by omega)
    constructor
    · intro e; omega
    · rintro rfl; exact absurd (by decide) hx
end Go.Aq.Wd
namespace Go.Proofs.YtihoohhngiomdaaGreatDoor
open Go.RowKit Go.Aq Go.Aq.Wd
set_option maxHeartbeats 2000000 in
theorem word_any (w : World) (hT : Tabs w) (R : Nat) (hoff : Off R) (l : List UInt8) (p : Nat) (h : Rd w R l p 0) (hp : p < l.length) (hl : l.length ≤ 1000000000) :
    Calls Tryz.prog 72 #[.pointer (some ⟨R, 0, none⟩)] w fun x w' => ∃ t, x = .returned (.string (str t)) ∧ ((wordW (l.drop p)).2.2 = 0 → t = (wordW (l.drop p)).1) ∧ Rd w' R l (p + (wordW (l.drop p)).2.1) (wordW (l.drop p)).2.2 ∧ Chg [R] w w' := by
  have hsz := str_size l
  have c0 : w.cell? ⟨R, 0, none⟩ = some (.string (str l)) := Blk.cell h 0
  have c1 : w.cell? ⟨R, 1, none⟩ = some (.int .i64 (p : Nat)) := Blk.cell h 1
  have ix := fun w' => idxS w' l p hp
  have hhd : (l.drop p).headD 0 = l[p] := by rw [List.drop_eq_getElem_cons hp]; rfl
  have hx := (l[p]).toNat_lt
  by_cases h34 : l[p] = 34
  · have hx34 : (l[p]).toNat = 34 := by rw [h34]; rfl
    rw [hx34] at ix
    have hw : wordW (l.drop p) = if (quotW (l.drop (p + 1))).2.2 ≠ 0 then ([], 1 + (quotW (l.drop (p + 1))).2.1, (quotW (l.drop (p + 1))).2.2)
        else if l.drop (p + (1 + (quotW (l.drop (p + 1))).2.1)) ≠ [] ∧ (l.drop (p + (1 + (quotW (l.drop (p + 1))).2.1))).headD 0 ≠ 32 then ([], 1 + (quotW (l.drop (p + 1))).2.1, 4)
        else ((quotW (l.drop (p + 1))).1, 1 + (quotW (l.drop (p + 1))).2.1, 0) := by
      unfold wordW
      rw [if_pos (by rw [hhd]; exact h34)]
      simp only [List.drop_drop]
    have hqe := quot_err _ (l.drop (p + 1)) (Nat.le_refl _)
    rw [List.length_drop] at hqe
    have hqa := fun w' h1 h2 => quoted_any w' h1 R hoff l p h2 hp hl
    generalize quotW (l.drop (p + 1)) = Q at *
    obtain ⟨qt, qm, qe⟩ := Q
    simp only at hw hqe hqa
    have e3 : p + (1 + qm) = p + 1 + qm := by omega
    rw [e3] at hw
    obtain ⟨q2, hq2⟩ : ∃ q2, p + 1 + qm = q2 := ⟨_, rfl⟩
    rw [hq2] at hw hqa
    have hq2l : q2 ≤ l.length := by omega
    have hsa := fun w' h1 h2 => sign_any w' h1 R l q2 qe h2 hq2l hl
    -- what sign and the test leave: the error, the place
    have hfin : ∃ cc nn e2, sgnR (l.drop q2) qe = (cc, nn, e2) ∧ ((e2 = 0 ∧ 0 < nn ∧ cc ≠ 32 ∧ (wordW (l.drop p)).2 = (1 + qm, 4)) ∨ (¬ (e2 = 0 ∧ 0 < nn ∧ cc ≠ 32) ∧ (wordW (l.drop p)).2 = (1 + qm, e2) ∧ (e2 = 0 → qe = 0 ∧ (wordW (l.drop p)).1 = qt))) ∧ cc ≤ 2000000 ∧ nn ≤ 4 ∧ e2 ≤ 4 := by
      have hd1 := dec_fst (l.drop q2)
      have hdp := dec_pos (l.drop q2)
      have hsg : sgnR (l.drop q2) qe = if l.drop q2 = [] then (65533, 0, qe) else if bad (dec (l.drop q2)) || low (dec (l.drop q2)).1 then (0, 0, 4) else ((dec (l.drop q2)).1, (dec (l.drop q2)).2, qe) := rfl
      by_cases hr : l.drop q2 = []
      · rw [if_pos hr] at hsg
        refine ⟨_, _, _, hsg, .inr ⟨by simp, ?_, ?_⟩, by decide, by decide, by omega⟩
        · rw [hw]
          by_cases h0 : qe = 0
          · rw [if_neg (by simpa using h0), if_neg (fun hh => hh.1 hr), h0]
          · rw [if_pos h0]
        · intro h0
          exact ⟨h0, by rw [hw, if_neg (by simpa using h0), if_neg (fun hh => hh.1 hr)]⟩
      · rw [if_neg hr] at hsg
        have h32 := head32 _ hr
        have hqe2 : qe ≠ 2 := by
          rintro rfl
          apply hr
          refine List.drop_eq_nil_of_le ?_
          omega
        cases hbl : (bad (dec (l.drop q2)) || low (dec (l.drop q2)).1) with
        | true =>
          rw [hbl, if_pos rfl] at hsg
          refine ⟨_, _, _, hsg, .inr ⟨by simp, ?_, by simp⟩, by decide, by decide, by decide⟩
          rw [hw]
          by_cases h0 : qe = 0
          · have hne : (l.drop q2).headD 0 ≠ 32 := fun e => by
              have hc := h32.2 e
              have hdd : dec (l.drop q2) = ((dec (l.drop q2)).1, (dec (l.drop q2)).2) := rfl
              rw [hdd, hc, not_bad 32 _ (by omega)] at hbl
              simp [low] at hbl
            rw [if_neg (by simpa using h0), if_pos ⟨hr, hne⟩]
          · rw [if_pos h0]
            simp only
            congr 1
            omega
        | false =>
          rw [hbl, if_neg (by simp)] at hsg
          refine ⟨_, _, _, hsg, ?_, hd1, hdp.2, by omega⟩
          by_cases h0 : qe = 0
          · by_cases hc : (dec (l.drop q2)).1 = 32
            · right
              refine ⟨fun hh => hh.2.2 hc, ?_, fun _ => ⟨h0, ?_⟩⟩
              · rw [hw, if_neg (by simpa using h0), if_neg (fun hh => hh.2 (h32.1 hc)), h0]
              · rw [hw, if_neg (by simpa using h0), if_neg (fun hh => hh.2 (h32.1 hc))]
            · left
              refine ⟨h0, by omega, hc, ?_⟩
              rw [hw, if_neg (by simpa using h0), if_pos ⟨hr, fun e => hc (h32.2 e)⟩]
          · right
            refine ⟨fun hh => h0 hh.1, ?_, fun e => absurd e h0⟩
            rw [hw, if_pos h0]
    obtain ⟨cc, nn, e2, hsgn, hcase, hcb, hnb, heb⟩ := hfin
    rw [hsgn] at hsa
    simp only at hsa
    have HC := Lib.hid hcase
    have HQ2 := Lib.hid hq2
    clear hw hqe hhd h34 hx34 hsgn hcase e3 hq2 hx
    go_enter Tryz.func72, Tryz.ntmps72
    go_wp2_with fail
    go_quiet (fail)
    have hTd := hT.chg ((Chg.refl [] w).drewN nq)
    have hRd : Rd (w.drewN nq) R l p 0 := h
    have hcd := (Chg.refl [R] w).drewN nq
    have hqa2 := hqa _ hTd hRd
    clear hqa c0 c1 h
    generalize w.drewN nq = w1 at *
    go_wp2_with fail
    refine hqa2.mono ?_
    rintro e w2 ⟨rfl, hR2, c2⟩
    have hsa2 := hsa w2 (hTd.chgR c2 hoff) hR2
    have hc2 := hcd.tr c2
    clear hqa2 hsa
    go_wp2_with fail
    refine hsa2.mono ?_
    rintro e w3 ⟨rfl, hR3, c3⟩
    have hc3 := hc2.tr c3
    have d2 : w3.cell? ⟨R, 2, none⟩ = some (.int .i64 (e2 : Nat)) := Blk.cell hR3 2
    clear hsa2
    rcases HC.out with ⟨rfl, hn0, hc32, hwd⟩ | ⟨hnot, hwd, hok⟩
    · have t2 : decide ((0 : Int) < (nn : Int)) = true := by simp; omega
      have t3 : ((cc : Int) != 32) = true := by simp; omega
      have HW := Lib.hid hwd
      clear hwd HC
      go_wp2_with fail
      refine (fail_any w3 R l q2 0 4 hR3).mono ?_
      rintro e w4 ⟨rfl, hR4, c4⟩
      go_wp2_with fail
      go_ret
      exact ⟨_, rfl, fun h0 => by rw [HW.out] at h0; simp at h0, by rw [HW.out, show p + (1 + qm) = q2 by have := HQ2.out; omega]; exact hR4, hc3.tr c4⟩
    · have HW := Lib.hid hwd
      have HK := Lib.hid hok
      have fin : ∀ x : Ending, x = .returned (.string (str (qtext (qt, qm, qe)))) → ∃ t, x = .returned (.string (str t)) ∧ ((wordW (l.drop p)).2.2 = 0 → t = (wordW (l.drop p)).1) ∧ Rd w3 R l (p + (wordW (l.drop p)).2.1) (wordW (l.drop p)).2.2 ∧ Chg [R] w w3 := fun x hx => by
        refine ⟨_, hx, fun h0 => ?_, ?_, hc3⟩
        · rw [HW.out] at h0
          obtain ⟨h1, h2⟩ := HK.out h0
          rw [h2]; unfold qtext; rw [if_pos h1]
        · rw [HW.out, show p + (1 + qm) = q2 by have := HQ2.out; omega]; exact hR3
      have FIN := Lib.hid fin
      clear hwd hok HC fin HW HK
      by_cases h0 : e2 = 0
      · subst h0
        by_cases hn : nn = 0
        · subst hn
          go_wp2_with fail
          go_ret
          exact FIN.out _ rfl
        · have hc : cc = 32 := by
            by_cases hc : cc = 32
            · exact hc
            · exact absurd ⟨rfl, by omega, hc⟩ hnot
          subst hc
          have t2 : decide ((0 : Int) < (nn : Int)) = true := by simp; omega
          go_wp2_with fail
          go_ret
          exact FIN.out _ rfl
      · have t1 : ((e2 : Int) == 0) = false := by simp; omega
        go_wp2_with fail
        go_ret
        exact FIN.out _ rfl
  · have hxn : (l[p]).toNat ≠ 34 := fun e => h34 (by rw [← u8e _ _ e]; rfl)
    have hw : wordW (l.drop p) = ((l.drop p).take (plainW (l.drop p)).1, (plainW (l.drop p)).1, plainE (l.drop p)) := by
      unfold wordW
      rw [if_neg (by rw [hhd]; exact h34)]
      rfl
    have hpa := fun w' h1 h2 => plain_any w' h1 R hoff l p h2 (by omega) hl
    rw [hw]
    simp only
    generalize (plainW (l.drop p)).1 = k at *
    generalize plainE (l.drop p) = pe at *
    generalize (l.drop p).take k = tt at *
    have t1 : (((l[p]).toNat : Int) != 34) = true := by simp; omega
    generalize (l[p]).toNat = x at *
    clear hw hhd h34
    go_enter Tryz.func72, Tryz.ntmps72
    go_wp2_with fail
    go_quiet (fail)
    have hTd := hT.chg ((Chg.refl [] w).drewN nq)
    have hRd : Rd (w.drewN nq) R l p 0 := h
    have hcd := (Chg.refl [R] w).drewN nq
    have hpa2 := hpa _ hTd hRd
    clear hpa c0 c1 h
    generalize w.drewN nq = w1 at *
    go_wp2_with fail
    refine hpa2.mono ?_
    rintro e w2 ⟨rfl, hR2, c2⟩
    go_wp2_with fail
    go_ret
    exact ⟨_, rfl, fun _ => rfl, hR2, hcd.tr c2⟩
end Go.Proofs.YtihoohhngiomdaaGreatDoor

/- Contract of word.Words. No statement of the seat is proved here. -/
namespace Go.Aq.Wd
def Ss (l : List (List UInt8)) : List Value := l.map fun (s : List UInt8) => Value.string (str s)
theorem Ss_append (a b : List (List UInt8)) : Ss (a ++ b) = Ss a ++ Ss b := by simp [Ss]
theorem Ss_len (a : List (List UInt8)) : (Ss a).length = a.length := by simp [Ss]
theorem blanks_step (r : List UInt8) : blanks r = if r.headD 0 = 32 ∧ r ≠ [] then blanks (r.drop 1) + 1 else 0 := by
  cases r with
  | nil => rfl
  | cons x t =>
    by_cases h : x = 32
    · subst h; simp [blanks]
    · rw [if_neg (by simp [h])]
      unfold blanks
      split
      · rename_i heq; simp only [List.cons.injEq] at heq; exact absurd heq.1 h
      · rfl
theorem blanks_le (r : List UInt8) : blanks r ≤ r.length := by
  induction r with
  | nil => simp [blanks]
  | cons x t ih =>
    rw [blanks_step]
    split
    · simp; omega
    · omega
theorem plain_pos (r : List UInt8) (h : r ≠ []) (h32 : r.headD 0 ≠ 32) (hok : (plainW r).2 = true) : 1 ≤ (plainW r).1 := by
  have hp := dec_pos r
  rw [plainW_step r h] at hok ⊢
  split at hok
  · simp at hok
  · split at hok
    · rename_i hc; exact absurd ((head32 r h).1 hc) h32
    · split at hok
      · simp at hok
      · rename_i h1 h2 h3
        rw [if_neg h1, if_neg h2, if_neg h3]
        simp only; omega
theorem plain_le : ∀ (n : Nat) (r : List UInt8), r.length ≤ n → (plainW r).1 ≤ r.length
  | 0, r, hn => by
    have : r = [] := List.eq_nil_of_length_eq_zero (by omega)
    subst this; rw [plainW_nil]; simp
  | n + 1, r, hn => by
    by_cases hr : r = []
    · subst hr; rw [plainW_nil]; simp
    · have hp := dec_pos r
      have hle := dec_le r hr
      have ih := plain_le n (r.drop (dec r).2) (by rw [List.length_drop]; omega)
      rw [List.length_drop] at ih
      rw [plainW_step r hr]
      split
      · simp
      · split
        · simp
        · split
          · simp
          · simp only; omega
theorem word_le (r : List UInt8) (h : r ≠ []) : (wordW r).2.1 ≤ r.length := by
  have hl : 1 ≤ r.length := List.length_pos_iff.2 h
  have hq := (quot_err _ (r.drop 1) (Nat.le_refl _)).1
  rw [List.length_drop] at hq
  unfold wordW
  split
  · split
    · simp only; omega
    · split <;> (simp only; omega)
  · exact plain_le _ r (Nat.le_refl _)
/-- A word that is read well has a byte at least. -/
theorem word_pos (r : List UInt8) (h : r ≠ []) (h32 : r.headD 0 ≠ 32) (hok : (wordW r).2.2 = 0) : 1 ≤ (wordW r).2.1 := by
  unfold wordW at hok ⊢
  split
  · split
    · simp only; omega
    · split <;> (simp only; omega)
  · rename_i h34
    rw [if_neg h34] at hok
    simp only at hok ⊢
    refine plain_pos r h h32 ?_
    cases hp : (plainW r).2 with
    | true => rfl
    | false => rw [hp] at hok; simp at hok
end Go.Aq.Wd
namespace Go.Proofs.YtihoohhngiomdaaGreatDoor
open Go.RowKit Go.Aq Go.Aq.Wd
theorem Fresh_toR {w wo wr : World} {e : TypeId} {size : Nat} {v : Value} {n R : Nat} {xs : List Value} (h : Fresh w wo e size v n xs) (c : Chg [R] wo wr) (hR : R ∉ v.ownBlock.toList) (hw : w.heap.size ≤ R) : Fresh w wr e size v n xs :=
  ⟨h.own.chg c (fun k hk => by simp; rintro rfl; exact hR hk), h.chg.trans c (by simpa using hw), h.new⟩
theorem sl_str : SliceTy Tryz.prog 74 9 (.string ⟨#[]⟩) 1 16 := ⟨Tryz.underlying74, by kernel_rfl, rfl, by decide⟩
set_option maxHeartbeats 4000000 in
theorem words_any (l : List UInt8) (w : World) (hT : Tabs w) (hl : l.length ≤ 1000000000) :
    Calls Tryz.prog 51 #[.string (str l)] w fun e w' => ∃ v, e = .returned (.tuple #[v, .int .i64 (wordsL l).2.1, .int .i64 (wordsL l).2.2]) ∧ Fresh w w' 9 1 v (wordsL l).1.length (Ss (wordsL l).1) := by
  have hsz := str_size l
  obtain ⟨R, hRs⟩ : ∃ R, w.heap.size = R := ⟨_, rfl⟩
  have hoff : Off R := hT.off (by omega)
  have hR0 : Rd (w.alloc (.cells #[.string (str l), .int .i64 0, .int .i64 0] 111)) R l 0 0 := by
    unfold Rd; rw [← hRs]; exact Blk.new w _ _
  have hf0 : Fresh w (w.alloc (.cells #[.string (str l), .int .i64 0, .int .i64 0] 111)) 9 1 (.slice none 0 0) 0 (Ss []) := (Fresh.nil w _ _).to ((Chg.refl [] w).alloc _)
  have hW : wordsL l = wordsF l.length (l.length + 1) (l.drop 0) [] := rfl
  have HW := Lib.hid hW
  clear hW
  go_enter Tryz.func51, Tryz.ntmps51
  go_wp2_with fail
  generalize w.alloc (.cells #[.string (str l), .int .i64 0, .int .i64 0] 111) = w0 at *
  go_loopg [6] (l.length + 1) (fun k vl wr => ∃ (q f : Nat) (acc : List (List UInt8)), q + k = l.length + 1 ∧ q ≤ l.length ∧ l.length < q + f ∧ acc.length ≤ 50 ∧ Rd wr R l q 0 ∧ Fresh w wr 9 1 vl acc.length (Ss acc) ∧ wordsL l = wordsF l.length f (l.drop q) acc)
  case atStart => exact ⟨0, l.length + 1, [], by omega, by omega, by omega, by simp, hR0, hf0, HW.out⟩
  case round =>
    clear hR0 hf0
    obtain ⟨q, f, acc, hqk, hql, hqf, ha50, hR, hf, hw⟩ := hrel
    obtain ⟨GK, hGK⟩ : ∃ G, G = gk := ⟨_, rfl⟩
    obtain ⟨wo, hwo⟩ : ∃ wo : World, wo = wr := ⟨_, rfl⟩
    rw [← hwo] at hR hf
    rw [← hGK] at hqk
    subst hwo
    have hRv : R ∉ u6.ownBlock.toList := hf.own.ne hR (by decide)
    go_wp2_with fail
    go_loopg [] (l.length - q) (fun k wr => ∃ (q1 : Nat), q1 + k = l.length ∧ q ≤ q1 ∧ q1 ≤ l.length ∧ Rd wr R l q1 0 ∧ Chg [R] wo wr ∧ q1 + blanks (l.drop q1) = q + blanks (l.drop q))
    case atStart => exact ⟨q, by omega, by omega, hql, hR, Chg.refl _ _, rfl⟩
    case round =>
      clear hR
      obtain ⟨q1, hk1, hqq, hq1l, hR, hc, hbl⟩ := hrel
      have c1 : wr.cell? ⟨R, 1, none⟩ = some (.int .i64 (q1 : Nat)) := Blk.cell hR 1
      have f1 := Blk.frozen hR 1
      have hq1b : (q1 : Int) ≤ 1000000000 := by omega
      have hbs := blanks_step (l.drop q1)
      by_cases h1 : q1 < l.length ∧ (l.drop q1).headD 0 = 32
      · obtain ⟨hlt, h32⟩ := h1
        have t1 : decide ((q1 : Int) < (l.length : Int)) = true := by simp; omega
        have t1' : decide (q1 < l.length) = true := by simp; omega
        have hhd : (l.drop q1).headD 0 = l[q1] := by rw [List.drop_eq_getElem_cons hlt]; rfl
        rw [hhd] at h32
        have ix := fun w' => idxS w' l q1 hlt
        rw [h32] at ix
        have hx32 : ((32 : UInt8).toNat : Int) = 32 := rfl
        rw [hx32] at ix
        rw [if_pos ⟨by rw [hhd]; exact h32, drop_ne l q1 hlt⟩, List.drop_drop] at hbs
        have hR3 := Blk.set hR 1 (.int .i64 ((q1 + 1 : Nat) : Int))
        have hcs := hc.setCell (p := ⟨R, 1, none⟩) (by simp) (.int .i64 ((q1 + 1 : Nat) : Int))
        have e2 : ((q1 + 1 : Nat) : Int) = (q1 : Int) + 1 := by omega
        rw [e2] at hR3 hcs
        have HB := Lib.hid (And.intro hbl (And.intro hbs hk1))
        clear hbl hbs hk1 hhd h32 hx32
        go_wp2_with fail
        go_roundg (gk - 1)
        case measure => have := HB.out; omega
        case rel =>
          refine ⟨q1 + 1, by have := HB.out; omega, by omega, by omega, ?_, hcs, by have := HB.out; omega⟩
          unfold Rd; rw [e2]; exact hR3
      · have hb0 : blanks (l.drop q1) = 0 := by rw [hbs, if_neg (fun hh => h1 ⟨by
          by_cases hlt : q1 < l.length
          · exact hlt
          · exact absurd (List.drop_eq_nil_of_le (by omega)) hh.2, hh.1⟩)]
        obtain ⟨f', rfl⟩ : ∃ f', f = f' + 1 := ⟨f - 1, by omega⟩
        have hdd : (l.drop q).drop (blanks (l.drop q)) = l.drop q1 := by rw [List.drop_drop]; congr 1; omega
        rw [wordsF] at hw
        simp only [hdd] at hw
        rw [List.length_drop] at hw
        have hf1 := Fresh_toR hf hc hRv (by omega)
        by_cases hend : l.drop q1 = []
        · rw [if_pos hend] at hw
          have hq1e : q1 = l.length := by have := congrArg List.length hend; simp at this; omega
          subst hq1e
          have t1 : decide ((l.length : Int) < (l.length : Int)) = false := by simp
          have t2 : ((l.length : Int) == (l.length : Int)) = true := by simp
          have HWW := Lib.hid hw
          clear hw hend hbs hb0 hbl hdd h1 hR
          go_wp2_with fail
          go_ret3
          exact ⟨_, by rw [HWW.out]; rfl, by rw [HWW.out]; exact hf1⟩
        · rw [if_neg hend] at hw
          have hlt : q1 < l.length := by
            by_cases hlt : q1 < l.length
            · exact hlt
            · exact absurd (List.drop_eq_nil_of_le (by omega)) hend
          have hhd : (l.drop q1).headD 0 = l[q1] := by rw [List.drop_eq_getElem_cons hlt]; rfl
          have hn32 : (l.drop q1).headD 0 ≠ 32 := fun e => h1 ⟨hlt, e⟩
          have hx32 : (l[q1]).toNat ≠ 32 := fun e => hn32 (by rw [hhd, ← u8e _ _ e]; rfl)
          have ix := fun w' => idxS w' l q1 hlt
          have t1 : decide ((q1 : Int) < (l.length : Int)) = true := by simp; omega
          have t1' : decide (q1 < l.length) = true := by simp; omega
          have t2 : ((q1 : Int) == (l.length : Int)) = false := by simp; omega
          have t3 : (((l[q1]).toNat : Int) == 32) = false := by simp; omega
          generalize (l[q1]).toNat = x at *
          obtain ⟨ao, cap, hu6, hcap⟩ := hf1.shape
          subst hu6
          clear h1 hhd hbs hb0 hbl hdd hx32
          by_cases h50 : acc.length = 50
          · rw [if_pos h50] at hw
            have HWW := Lib.hid hw
            have t5 : ((acc.length : Int) == 50) = true := by simp; omega
            have hq1e : l.length - (l.length - q1) = q1 := by omega
            rw [hq1e] at HWW
            clear hw hq1e
            go_wp2_with fail
            go_quiet (fail)
            have hcq := hf1.chg.drewN nq
            generalize wr.drewN nq = w3 at *
            go_wp2_with fail
            go_ret3
            exact ⟨_, by rw [HWW.out]; rfl, by rw [HWW.out]; exact (Fresh.nil w _ _).to hcq⟩
          · rw [if_neg h50] at hw
            have t5 : ((acc.length : Int) == 50) = false := by simp; omega
            have h49 : acc.length ≤ 49 := by omega
            have hTr : Tabs wr := hT.chg hf1.chg
            have hwa := word_any wr hTr R hoff l q1 hR hlt hl
            have hpos := word_pos (l.drop q1) hend hn32
            have hwle := word_le (l.drop q1) hend
            rw [List.length_drop] at hwle
            have hRv1 : R ∉ (Value.slice ao acc.length cap).ownBlock.toList := hf1.own.ne hR (by decide)
            generalize wordW (l.drop q1) = W3 at *
            obtain ⟨wt, wm, we⟩ := W3
            simp only at hw hwa hpos hwle
            by_cases he : we = 0
            · subst he
              rw [if_neg (by simp)] at hw
              have hm1 := hpos rfl
              rw [List.drop_drop] at hw
              have HWW := Lib.hid hw
              have HQ := Lib.hid (And.intro hqk (And.intro hk1 (And.intro hqf hGK)))
              clear hw hpos hk1 hqf hGK hR h50
              go_wp2_with fail
              refine hwa.mono ?_
              rintro e w3 ⟨t, rfl, ht, hR3, c3⟩
              obtain rfl := ht trivial
              have hf3 := Fresh_toR hf1 c3 hRv1 (by omega)
              have d2 : w3.cell? ⟨R, 2, none⟩ = some (.int .i64 (0 : Nat)) := Blk.cell hR3 2
              clear hwa
              go_wp2_with (at_builtin; refine wpList_appF (w0 := w) rfl _ _ 74 rfl sl_str (by exact hf3.to ((Chg.refl [] w3).alloc (.cells #[.string (str t)] 9))) rfl (Sees.row (cs := #[.string (str t)]) (by exact Blk.new w3 _ 9) (m := 1) rfl) rfl (by simp [Value.oneCell']) (by omega) (by omega) ?_; intro v4 w4 hF4 c4)
              go_roundg (GK - (q1 + wm - q))
              case measure => have := HQ.out; omega
              case rel =>
                refine ⟨q1 + wm, f', acc ++ [t], by have := HQ.out; omega, by omega, by have := HQ.out; omega, by simp; omega, ?_, ?_, HWW.out⟩
                · exact (Blk.alloc hR3 _).chg c4 hRv1
                · rw [Ss_append]; simpa [Ss] using hF4
            · rw [if_pos he] at hw
              have hq1e : l.length - (l.length - q1) + wm = q1 + wm := by omega
              rw [hq1e] at hw
              have t6 : ((we : Int) != 0) = true := by simp; omega
              have t6' : ((we : Int) == 0) = false := by simp; omega
              have HWW := Lib.hid hw
              clear hw hq1e hpos he hR
              go_wp2_with fail
              refine hwa.mono ?_
              rintro e w3 ⟨t, rfl, -, hR3, c3⟩
              have hf3 := Fresh_toR hf1 c3 hRv1 (by omega)
              have d2 : w3.cell? ⟨R, 2, none⟩ = some (.int .i64 (we : Nat)) := Blk.cell hR3 2
              have d1 : w3.cell? ⟨R, 1, none⟩ = some (.int .i64 ((q1 + wm : Nat) : Int)) := Blk.cell hR3 1
              clear hwa
              go_wp2_with fail
              go_quiet (fail)
              have hcq := hf3.chg.drewN nq
              generalize w3.drewN nq = w4 at *
              go_wp2_with fail
              go_ret3
              exact ⟨_, by rw [HWW.out]; rfl, by rw [HWW.out]; exact (Fresh.nil w _ _).to hcq⟩
end Go.Proofs.YtihoohhngiomdaaGreatDoor

