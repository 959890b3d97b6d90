/- Contract of word.Name. No statement of the seat is proved here. -/
import Derived.Test.YtihoohhngiomdaaDoorWordB
set_option linter.unusedVariables false
namespace Go.Aq.Wd
theorem Pre_not {l : List UInt8} {pos : Nat} {pre : List Nat} (h : sigs l = (sigs (l.drop pos)).map (pre ++ ·)) (hp : l.drop pos ≠ []) (hb : letter (dec (l.drop pos)).1 = false) : nameL l = false := by
  unfold nameL
  rw [h, sigs_step _ hp]
  cases hbd : bad (dec (l.drop pos)) with
  | true => simp
  | false =>
    simp only [Bool.false_eq_true, if_false]
    cases sigs ((l.drop pos).drop (dec (l.drop pos)).2) with
    | none => rfl
    | some t =>
      simp only [Option.map_some]
      have : (pre ++ (dec (l.drop pos)).1 :: t).all letter = false := by
        rw [List.all_eq_false]
        exact ⟨(dec (l.drop pos)).1, by simp, by rw [hb]; simp⟩
      simp only [nameR, this, Bool.and_false, Bool.false_and]
theorem letter_bad (d : Nat × Nat) (h : letter d.1 = true) : bad d = false := by
  refine not_bad d.1 d.2 ?_
  rintro ⟨h1, -⟩
  rw [h1] at h
  revert h; decide
theorem headD_get (l : List UInt8) (h : 0 < l.length) : l.headD 0 = l[0] := by cases l; (simp at h); rfl
theorem lastD_get (l : List UInt8) (h : l.length - 1 < l.length) : l.getLastD 0 = l[l.length - 1] := by
  rw [List.getLastD_eq_getLast?, List.getLast?_eq_getElem?, List.getElem?_eq_getElem h]; rfl
theorem name_tail (l : List UInt8) (rs : List Nat) (hs : sigs l = some rs) (h1 : 1 ≤ rs.length) (h2 : rs.length ≤ 40) (hall : rs.all letter = true) :
    has2 l = dbl rs ∧ 0 < l.length ∧ (dbl rs = true → nameL l = false) ∧
    (dbl rs = false → nameL l = (!headBad (l.headD 0).toNat && !lastBad (l.getLastD 0).toNat)) := by
  obtain ⟨he, ok⟩ := sigs_enc hs
  have hne : rs ≠ [] := by rintro rfl; simp at h1
  have hlen : 0 < l.length := by
    rw [he]
    cases rs with
    | nil => exact absurd rfl hne
    | cons c t => rw [encL_cons, List.length_append]; have := enc1_len c; omega
  have hh : ∀ k, k < 128 → 0 < k → ((l.headD 0).toNat = k ↔ rs.headD 0 = k) := fun k hk hk0 => by
    rw [← head_encL rs ok k hk hk0, ← he]
    constructor
    · intro e; exact (u8e _ _ e).symm
    · intro e; rw [e, u8n k (by omega)]
  have hl : ∀ k, k < 128 → 0 < k → ((l.getLastD 0).toNat = k ↔ rs.getLastD 0 = k) := fun k hk hk0 => by
    rw [← last_encL rs hne ok k hk hk0, ← he]
    constructor
    · intro e; exact (u8e _ _ e).symm
    · intro e; rw [e, u8n k (by omega)]
  refine ⟨by rw [← has2_encL rs ok, ← he], hlen, fun hd => ?_, fun hd => ?_⟩
  · rw [nameL_of hs]; simp only [nameR, hd, Bool.not_true, Bool.and_false, Bool.false_and]
  · rw [nameL_of hs]
    have e1 : headBad (l.headD 0).toNat = headBad (rs.headD 0) := by
      rw [Bool.eq_iff_iff]; simp only [headBad, Bool.or_eq_true, beq_iff_eq]
      rw [hh 45 (by decide) (by decide), hh 46 (by decide) (by decide), hh 47 (by decide) (by decide)]
    have e2 : lastBad (l.getLastD 0).toNat = lastBad (rs.getLastD 0) := by
      rw [Bool.eq_iff_iff]; simp only [lastBad, Bool.or_eq_true, beq_iff_eq]
      rw [hl 46 (by decide) (by decide), hl 47 (by decide) (by decide)]
    rw [e1, e2]
    simp only [nameR, hd, hall, h1, h2]
    simp
end Go.Aq.Wd
namespace Go.Proofs.YtihoohhngiomdaaDoor
open Go.RowKit Go.Aq Go.Aq.Wd
theorem idxS (w : World) (s : List UInt8) (j : Nat) (h : j < s.length) : (Instr.index 9 (.string (str s)) (.int .i64 (j : Int))).run Tryd.prog w = .ok (.int .u8 ((s[j]'h).toNat : Int)) w := by
  have hsz := str_size s
  rw [run_index_string w 9 (str s) .i64 j Tryd.underlying9, dif_pos ⟨by omega, by omega⟩]
  have e : (str s)[(j : Int).toNat]'(by omega) = s[j]'h := by simp [str, ByteArray.getElem_eq_getElem_data]
  rw [e]
theorem contains2 (l : List UInt8) (w : World) (hT : Tabs w) (hl : l.length ≤ 1000000000) :
    Calls Tryd.prog 33 #[.string (str l), .string ⟨#[47, 47]⟩] w fun e w' => e = .returned (.bool (has2 l)) ∧ w' = w := by
  obtain ⟨-, ⟨m, hm⟩, -⟩ := hT
  exact Tryd.strings_Contains (str l) (str [47, 47]) m w (by rw [str_size]; omega) hm
set_option maxHeartbeats 2000000 in
theorem name_any (l : List UInt8) (w : World) (hT : Tabs w) (hl : l.length ≤ 1000000000) :
    Calls Tryd.prog 18 #[.string (str l)] w fun e w' => e = .returned (.bool (nameL l)) ∧ Chg [] w w' := by
  have hsz := str_size l
  obtain ⟨K, hK⟩ : ∃ K, w.heap.size = K := ⟨_, rfl⟩
  go_enter Tryd.func18, Tryd.ntmps18
  go_wp2_with fail
  go_loopg [3] l.length (fun k vn wr => ∃ (pos : Nat) (pre : List Nat), vn = .int .i64 pre.length ∧ pos + k = l.length ∧ pre.length ≤ pos ∧ wr.heap[K]? = some (.stringIter (str l) pos) ∧ Chg [] w wr ∧ Pre l pos pre ∧ pre.all letter = true)
  case atStart =>
    refine ⟨0, [], rfl, by omega, by simp, ?_, (Chg.refl _ _).range _ _, Pre.zero l, rfl⟩
    rw [← hK]; exact World.iter_heap w (str l) 0
  case round =>
    obtain ⟨pos, pre, rfl, hpk, hpl, hit, hc, hpre, hall⟩ := hrel
    have hpb : pre.length ≤ 1000000000 := by omega
    have hpb' : (pre.length : Int) ≤ 1000000000 := by omega
    by_cases hp : pos < l.length
    · have hnx := fun ty => next_at l wr K pos hit hp ty
      have hfit := dec_fits l pos hp
      have hdp := dec_pos (l.drop pos)
      have hd1 := dec_fst (l.drop pos)
      have hcn := hc.iterAt (k := K) (.inr (by omega)) (str l) (pos + (dec (l.drop pos)).2)
      have hitn := Lib.iterAt_heap wr K (str l) pos (pos + (dec (l.drop pos)).2) hit
      have hst := hpre.step hp
      have hno := Pre_not hpre (drop_ne l pos hp)
      generalize dec (l.drop pos) = d at *
      obtain ⟨c, n⟩ := d
      simp only at *
      generalize wr.iterAt K (str l) (pos + n) = w1 at *
      have HST := Lib.hid hst
      have HNO := Lib.hid hno
      have HP := Lib.hid (And.intro hpk (And.intro hpl hall))
      clear hst hno hpre hit hc hpk hpl hall
      by_cases hlt : letter c = true
      · have hg := HST.out (letter_bad (c, n) hlt)
        go_wp2_with fail
        refine (letter_any c (by omega) w1).mono ?_
        rintro e w2 ⟨rfl, rfl⟩
        rw [hlt]
        go_wp2_with fail
        go_roundg (gk - n)
        case measure => have := HP.out.1; omega
        case rel => exact ⟨pos + n, pre ++ [c], by simp, by have := HP.out.1; omega, by have := HP.out.2.1; simp; omega, hitn, hcn, hg, by rw [List.all_append, HP.out.2.2]; simp [hlt]⟩
      · have hlt' : letter c = false := by simpa using hlt
        go_wp2_with fail
        refine (letter_any c (by omega) w1).mono ?_
        rintro e w2 ⟨rfl, rfl⟩
        rw [hlt']
        go_wp2_with fail
        go_ret
        exact ⟨by rw [HNO.out hlt']; rfl, hcn⟩
    · have hnx := fun ty => next_end l wr K pos hit hp ty
      have hs := hpre.all hp
      have hnt := name_tail l pre hs
      have hnm := nameL_of hs
      have HNT := Lib.hid hnt
      have HNM := Lib.hid hnm
      have HALL := Lib.hid hall
      have hTr := hT.chg hc
      clear hpre hall hs hnt hnm
      by_cases h1 : pre.length < 1
      · have t1 : decide ((pre.length : Int) < 1) = true := by simp; omega
        have t1' : decide (pre.length < 1) = true := decide_eq_true (by omega)
        have h0 : pre.length = 0 := by omega
        have hf : nameL l = false := by rw [HNM.out]; simp [nameR, h0]
        have HF := Lib.hid hf
        clear hf
        go_wp2_with fail
        go_ret
        exact ⟨by rw [HF.out]; rfl, hc⟩
      · have t1 : decide ((pre.length : Int) < 1) = false := by simp; omega
        have t1' : decide (pre.length < 1) = false := decide_eq_false (by omega)
        by_cases h2 : 40 < pre.length
        · have t2 : decide (40 < (pre.length : Int)) = true := by simp; omega
          have t2' : decide (40 < pre.length) = true := by simp; omega
          have h0 : ¬ pre.length ≤ 40 := by omega
          have hf : nameL l = false := by rw [HNM.out]; simp [nameR, h0]
          have HF := Lib.hid hf
          clear hf
          go_wp2_with fail
          go_ret
          exact ⟨by rw [HF.out]; rfl, hc⟩
        · have t2 : decide (40 < (pre.length : Int)) = false := by simp; omega
          have t2' : decide (40 < pre.length) = false := by simp; omega
          have HC2 := contains2 l wr hTr hl
          obtain ⟨n1, n2, n3, n4⟩ := HNT.out (by omega) (by omega) HALL.out
          have HN := Lib.hid (And.intro n3 n4)
          clear n3 n4 HNT HNM h1 h2
          cases hd : dbl pre with
          | true =>
            have hf := HN.out.1 hd
            have HF := Lib.hid hf
            rw [hd] at n1
            clear hf HN
            go_wp2_with fail
            refine HC2.mono ?_
            rintro e w2 ⟨rfl, rfl⟩
            rw [n1]
            go_wp2_with fail
            go_ret
            exact ⟨by rw [HF.out]; rfl, hc⟩
          | false =>
            have hf := HN.out.2 hd
            have hlen1 : l.length - 1 < l.length := by omega
            rw [headD_get l n2, lastD_get l hlen1] at hf
            rw [hd] at n1
            have g0 : ∀ h, (str l)[0]'h = l[0] := fun h => rfl
            obtain ⟨m, hm⟩ : ∃ m, l.length = m + 1 := ⟨l.length - 1, by omega⟩
            have g1 : ∀ h, (str l)[m]'h = l[l.length - 1] := fun h => by simp [str, ByteArray.getElem_eq_getElem_data, hm]
            have i1 : ∀ w, (Instr.index 9 (.string (str l)) (.int .i64 0)).run Tryd.prog w = .ok (.int .u8 ((l[0]).toNat : Int)) w := fun w => idxS w l 0 n2
            have i2 := fun w => idxS w l m (by omega)
            have e2 : l[m]'(by omega) = l[l.length - 1] := by congr 1; omega
            rw [e2] at i2
            have hmb : m ≤ 1000000000 := by omega
            have hmi : (m : Int) ≤ 1000000000 := by omega
            have hw : IntKind.i64.wrap ((l.length : Int) - 1) = (m : Int) := by rw [show (l.length : Int) - 1 = (m : Int) by omega]; exact wrap_i64_nat m (by omega)
            have b1 := (l[0]).toNat_lt
            have b2 := (l[l.length - 1]).toNat_lt
            generalize l[0] = x8 at *
            generalize l[l.length - 1] = y8 at *
            have HM := Lib.hid hm
            clear e2 hm hlen1 n2 hp g0 g1
            have HF := Lib.hid hf
            clear hf HN
            go_wp2_with fail
            refine HC2.mono ?_
            rintro e w2 ⟨rfl, rfl⟩
            rw [n1]
            go_wp2_with fail
            go_quiet (fail)
            have hcq := hc.drewN nq
            generalize w2.drewN nq = w3 at *
            go_wp2_with fail
            all_goals go_ret
            all_goals refine ⟨rb ?_, hcq⟩
            all_goals rw [HF.out]
            all_goals (try simp only [bne_iff_ne, bne_eq_false_iff_eq, beq_iff_eq, beq_eq_false_iff_ne, ne_eq] at *)
            all_goals (rw [Bool.eq_iff_iff]; simp only [headBad, lastBad, Bool.and_eq_true, Bool.not_eq_true', Bool.or_eq_false_iff, beq_eq_false_iff_ne, bne_iff_ne, ne_eq, Bool.false_eq_true, false_iff]; omega)
end Go.Proofs.YtihoohhngiomdaaDoor
