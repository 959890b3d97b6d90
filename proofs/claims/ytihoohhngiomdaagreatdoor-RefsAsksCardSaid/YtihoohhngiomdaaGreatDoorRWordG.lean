/- Contract of aquref1.Words and the walk of the law WordLines. No statement of the seat is proved here. -/
import Derived.Test.YtihoohhngiomdaaGreatDoorRWordF
import Derived.Test.YtihoohhngiomdaaGreatDoorRSgn
set_option linter.unusedVariables false
namespace Go.Aq.Wd
theorem wordsF_fit (n : Nat) : ∀ (f : Nat) (r : List UInt8) (acc : List (List UInt8)), acc.length ≤ 50 → (wordsF n f r acc).1.length ≤ 50
  | 0, _, acc, h => h
  | f + 1, r, acc, h => by
    rw [wordsF]
    split
    · exact h
    · split
      · simp
      · split
        · simp
        · exact wordsF_fit n f _ _ (by simp; omega)
theorem words_fit (l : List UInt8) : (wordsL l).1.length ≤ 50 := wordsF_fit _ _ _ _ (by simp)
end Go.Aq.Wd
namespace Go.Proofs.YtihoohhngiomdaaGreatDoor
open Go.RowKit Go.Aq Go.Aq.Wd
set_option maxRecDepth 100000 in
set_option maxHeartbeats 8000000 in
theorem rwords_any (l : List UInt8) (w : World) (hl : l.length ≤ 1000000000) :
    Calls Tryz.prog 34 #[.string (str l)] w fun e w' => ∃ v, e = .returned (.tuple #[v, .int .i64 (wordsL l).2.1, .int .i64 (wordsL l).2.2]) ∧ Fresh w w' 9 1 v (wordsL l).1.length (Ss (wordsL l).1) := by
  have hsz := str_size l
  have hW : wordsL l = wordsF l.length (l.length + 1) (l.drop 0) [] := rfl
  have HW := Lib.hid hW
  clear hW
  go_enter Tryz.func34, Tryz.ntmps34
  go_wp2_with fail
  go_loopg [5, 6] (l.length + 1) (fun k vl vq wr => ∃ (q f : Nat) (acc : List (List UInt8)), vq = .int .i64 q ∧ q + k = l.length + 1 ∧ q ≤ l.length ∧ l.length < q + f ∧ acc.length ≤ 50 ∧ Fresh w wr 9 1 vl acc.length (Ss acc) ∧ Hid (wordsL l = wordsF l.length f (l.drop q) acc))
  case atStart => exact ⟨0, l.length + 1, [], rfl, by omega, by omega, by omega, by simp, Fresh.nil w _ _, HW.out⟩
  case round =>
    obtain ⟨q, f, acc, rfl, hqk, hql, hqf, ha50, hf, hw⟩ := hrel
    obtain ⟨GK, hGK⟩ : ∃ G, G = gk := ⟨_, rfl⟩
    obtain ⟨wo, hwo⟩ : ∃ wo : World, wo = wr := ⟨_, rfl⟩
    rw [← hwo] at hf
    rw [← hGK] at hqk
    subst hwo
    have hqb : (q : Int) ≤ 1000000000 := by omega
    go_wp2_with fail
    go_loopg [6] (l.length - q) (fun k vq wr => ∃ (q1 : Nat), vq = .int .i64 q1 ∧ q1 + k = l.length ∧ q ≤ q1 ∧ q1 ≤ l.length ∧ wr = wo ∧ q1 + blanks (l.drop q1) = q + blanks (l.drop q))
    case atStart => exact ⟨q, rfl, by omega, by omega, hql, rfl, rfl⟩
    case round =>
      obtain ⟨q1, rfl, hk1, hqq, hq1l, rfl, hbl⟩ := hrel
      have hq1b : (q1 : Int) ≤ 1000000000 := by omega
      have hbs := blanks_step (l.drop q1)
      by_cases h1 : q1 < l.length ∧ (l.drop q1).headD 0 = 32
      · obtain ⟨hlt, h32⟩ := h1
        have t1 : decide ((q1 : Int) < (l.length : Int)) = true := by simp; omega
        have t1' : decide (q1 < l.length) = true := by simp; omega
        have hhd : (l.drop q1).headD 0 = l[q1] := by rw [List.drop_eq_getElem_cons hlt]; rfl
        rw [hhd] at h32
        have ix := fun w' => idxS w' l q1 hlt
        rw [h32] at ix
        have hx32 : ((32 : UInt8).toNat : Int) = 32 := rfl
        rw [hx32] at ix
        rw [if_pos ⟨by rw [hhd]; exact h32, drop_ne l q1 hlt⟩, List.drop_drop] at hbs
        have HB := Lib.hid (And.intro hbl (And.intro hbs hk1))
        clear hbl hbs hk1 hhd h32 hx32
        go_wp2_with fail
        go_roundg (gk - 1)
        case measure => have := HB.out; omega
        case rel => exact ⟨q1 + 1, by go_num, by have := HB.out; omega, by omega, by omega, rfl, by have := HB.out; omega⟩
      · have hb0 : blanks (l.drop q1) = 0 := by rw [hbs, if_neg (fun hh => h1 ⟨by
          by_cases hlt : q1 < l.length
          · exact hlt
          · exact absurd (List.drop_eq_nil_of_le (by omega)) hh.2, hh.1⟩)]
        obtain ⟨f', rfl⟩ : ∃ f', f = f' + 1 := ⟨f - 1, by omega⟩
        have hdd : (l.drop q).drop (blanks (l.drop q)) = l.drop q1 := by rw [List.drop_drop]; congr 1; omega
        have hw := hw.out
        rw [wordsF] at hw
        simp only [hdd] at hw
        rw [List.length_drop] at hw
        by_cases hend : l.drop q1 = []
        · rw [if_pos hend] at hw
          have hq1e : q1 = l.length := by have := congrArg List.length hend; simp at this; omega
          subst hq1e
          have t1 : decide ((l.length : Int) < (l.length : Int)) = false := by simp
          have t2 : ((l.length : Int) == (l.length : Int)) = true := by simp
          have HWW := Lib.hid hw
          clear hw hend hbs hb0 hbl hdd h1
          go_wp2_with fail
          go_ret3
          exact ⟨_, by rw [HWW.out]; rfl, by rw [HWW.out]; exact hf⟩
        · rw [if_neg hend] at hw
          have hlt : q1 < l.length := by
            by_cases hlt : q1 < l.length
            · exact hlt
            · exact absurd (List.drop_eq_nil_of_le (by omega)) hend
          have hhd : (l.drop q1).headD 0 = l[q1] := by rw [List.drop_eq_getElem_cons hlt]; rfl
          have hn32 : (l.drop q1).headD 0 ≠ 32 := fun e => h1 ⟨hlt, e⟩
          have hx32 : (l[q1]).toNat ≠ 32 := fun e => hn32 (by rw [hhd, ← u8e _ _ e]; rfl)
          have hx34 : l[q1] = 34 ↔ (l[q1]).toNat = 34 := ⟨fun h => by rw [h]; rfl, fun h => by rw [← u8e _ _ h]; rfl⟩
          have ix := fun w' => idxS w' l q1 hlt
          have t1 : decide ((q1 : Int) < (l.length : Int)) = true := by simp; omega
          have t1' : decide (q1 < l.length) = true := by simp; omega
          have t2 : ((q1 : Int) == (l.length : Int)) = false := by simp; omega
          have t3 : (((l[q1]).toNat : Int) == 32) = false := by simp; omega
          have hwd : wordW (l.drop q1) = if (l[q1]).toNat = 34 then
                (if (quotW (l.drop (q1 + 1))).2.2 ≠ 0 then ([], 1 + (quotW (l.drop (q1 + 1))).2.1, (quotW (l.drop (q1 + 1))).2.2)
                 else if l.drop (q1 + (1 + (quotW (l.drop (q1 + 1))).2.1)) ≠ [] ∧ (l.drop (q1 + (1 + (quotW (l.drop (q1 + 1))).2.1))).headD 0 ≠ 32 then ([], 1 + (quotW (l.drop (q1 + 1))).2.1, 4)
                 else ((quotW (l.drop (q1 + 1))).1, 1 + (quotW (l.drop (q1 + 1))).2.1, 0))
              else ((l.drop q1).take (plainW (l.drop q1)).1, (plainW (l.drop q1)).1, if (plainW (l.drop q1)).2 then 0 else 4) := by
            unfold wordW
            simp only [hhd, hx34, List.drop_drop]
          have hpos := word_pos (l.drop q1) hend hn32
          have hwle := word_le (l.drop q1) hend
          rw [List.length_drop] at hwle
          obtain ⟨ao, cap, hu5, hcap⟩ := hf.shape
          subst hu5
          clear h1 hhd hbs hb0 hbl hdd hx32 hx34
          by_cases h50 : acc.length = 50
          · rw [if_pos h50] at hw
            have HWW := Lib.hid hw
            have t5 : ((acc.length : Int) == 50) = true := by simp; omega
            have hq1e : l.length - (l.length - q1) = q1 := by omega
            rw [hq1e] at HWW
            clear hw hq1e hwd
            generalize (l[q1]).toNat = x at *
            go_wp2_with fail
            go_ret3
            exact ⟨_, by rw [HWW.out]; rfl, by rw [HWW.out]; exact (Fresh.nil w _ _).to hf.chg⟩
          · rw [if_neg h50] at hw
            have t5 : ((acc.length : Int) == 50) = false := by simp; omega
            have h49 : acc.length ≤ 49 := by omega
            have hq1e : l.length - (l.length - q1) = q1 := by omega
            rw [hq1e, List.drop_drop] at hw
            clear hend hn32 h50 hq1e
            by_cases h34 : (l[q1]).toNat = 34
            · rw [if_pos h34] at hwd
              rw [h34] at ix
              have hqa := fun w' => rquoted_any l q1 w' hlt hl
              have hqe := quot_err _ (l.drop (q1 + 1)) (Nat.le_refl _)
              rw [List.length_drop] at hqe
              have hqv : qtV l q1 = wdV (quotW (l.drop (q1 + 1))).1 (q1 + 1 + (quotW (l.drop (q1 + 1))).2.1) (quotW (l.drop (q1 + 1))).2.2 := rfl
              rw [hqv] at hqa
              clear hqv h34 t3
              generalize quotW (l.drop (q1 + 1)) = Q at *
              obtain ⟨qt, qm, qe⟩ := Q
              simp only at hwd hqa hqe
              have e3 : q1 + (1 + qm) = q1 + 1 + qm := by omega
              rw [e3] at hwd
              obtain ⟨q2, hq2⟩ : ∃ q2, q1 + 1 + qm = q2 := ⟨_, rfl⟩
              rw [hq2] at hqa hwd
              have hq2b : (q2 : Int) ≤ 1000000000 := by omega
              have hq2l : q2 ≤ l.length := by omega
              have HQ := Lib.hid (And.intro hqk (And.intro hk1 (And.intro hqf (And.intro hGK hq2))))
              by_cases hqe0 : qe = 0
              · subst hqe0
                rw [if_neg (by simp)] at hwd
                have hqa : ∀ w', Calls Tryz.prog 53 #[.string (str l), .int .i64 q1] w' fun e w'' => e = .returned (.tuple #[.string (str qt), .int .i64 q2, .int .i64 0]) ∧ Chg [] w' w'' := hqa
                by_cases hbadw : l.drop q2 ≠ [] ∧ (l.drop q2).headD 0 ≠ 32
                · rw [if_pos hbadw] at hwd
                  rw [hwd] at hw
                  simp only at hw
                  rw [if_pos (by decide)] at hw
                  have e4 : q1 + (1 + qm) = q2 := by omega
                  rw [e4] at hw
                  have HWW := Lib.hid hw
                  have hlt2 : q2 < l.length := by
                    by_cases hlt2 : q2 < l.length
                    · exact hlt2
                    · exact absurd (List.drop_eq_nil_of_le (by omega)) hbadw.1
                  have hhd2 : (l.drop q2).headD 0 = l[q2] := by rw [List.drop_eq_getElem_cons hlt2]; rfl
                  have hx2 : (l[q2]).toNat ≠ 32 := fun e => hbadw.2 (by rw [hhd2, ← u8e _ _ e]; rfl)
                  have ix2 := fun w' => idxS w' l q2 hlt2
                  have u1 : decide ((q2 : Int) < (l.length : Int)) = true := by simp; omega
                  have u1' : decide (q2 < l.length) = true := by simp; omega
                  have u2 : (((l[q2]).toNat : Int) != 32) = true := by rw [bne_iff_ne]; omega
                  clear hw hwd hhd2 hx2 hbadw hpos hwle hqe hk1 hqk hqf hGK hq2 e3 e4
                  generalize (l[q2]).toNat = x2 at *
                  go_wp2_with fail
                  refine (hqa _).mono ?_
                  rintro e w3 ⟨rfl, c3⟩
                  clear hqa
                  go_wp2_with fail
                  go_ret3
                  exact ⟨_, by rw [HWW.out]; rfl, by rw [HWW.out]; exact (Fresh.nil w _ _).to (hf.chg.nil c3)⟩
                · rw [if_neg hbadw] at hwd
                  rw [hwd] at hw hpos
                  simp only at hw hpos
                  rw [if_neg (by simp)] at hw
                  have e4 : q1 + (1 + qm) = q2 := by omega
                  rw [e4] at hw
                  have HWW := Lib.hid hw
                  have hh : (decide ((q2 : Int) < (l.length : Int)) = false ∧ decide (q2 < l.length) = false) ∨ ∃ hlt2 : q2 < l.length, decide ((q2 : Int) < (l.length : Int)) = true ∧ decide (q2 < l.length) = true ∧ (l[q2]).toNat = 32 := by
                    by_cases hlt2 : q2 < l.length
                    · right
                      refine ⟨hlt2, by simp; omega, by simp; omega, ?_⟩
                      have hhd2 : (l.drop q2).headD 0 = l[q2] := by rw [List.drop_eq_getElem_cons hlt2]; rfl
                      rw [hhd2] at hbadw
                      by_cases h : l[q2] = 32
                      · rw [h]; rfl
                      · exact absurd ⟨drop_ne l q2 hlt2, h⟩ hbadw
                    · left; constructor <;> simp <;> omega
                  have HP := Lib.hid (show q1 + 1 ≤ q2 by omega)
                  clear hw hwd hbadw hpos hwle hqe hk1 hqk hqf hGK hq2 e3 e4
                  rcases hh with ⟨u1, u1'⟩ | ⟨hlt2, u1, u1', hx2⟩
                  · go_wp2_with fail
                    refine (hqa _).mono ?_
                    rintro e w3 ⟨rfl, c3⟩
                    have hf3 := hf.to c3
                    clear hqa
                    go_wp2_with (at_builtin; refine wpList_appF (w0 := w) rfl _ _ 74 rfl sl_str (by exact hf3.to ((Chg.refl [] w3).alloc (.cells #[.string (str qt)] 9))) rfl (Sees.row (cs := #[.string (str qt)]) (by exact Blk.new w3 _ 9) (m := 1) rfl) rfl (by simp [Value.oneCell']) (by omega) (by omega) ?_; intro v4 w4 hF4 c4)
                    go_roundg (GK - (q2 - q))
                    case measure => have := HQ.out; have := HP.out; omega
                    case rel => exact ⟨q2, f', acc ++ [qt], rfl, by have := HQ.out; have := HP.out; omega, hq2l, by have := HQ.out; have := HP.out; omega, by simp; omega, by rw [Ss_append]; simpa [Ss] using hF4, HWW.out⟩
                  · have ix2 := fun w' => idxS w' l q2 hlt2
                    rw [hx2] at ix2
                    clear hx2
                    go_wp2_with fail
                    refine (hqa _).mono ?_
                    rintro e w3 ⟨rfl, c3⟩
                    have hf3 := hf.to c3
                    clear hqa
                    go_wp2_with (at_builtin; refine wpList_appF (w0 := w) rfl _ _ 74 rfl sl_str (by exact hf3.to ((Chg.refl [] w3).alloc (.cells #[.string (str qt)] 9))) rfl (Sees.row (cs := #[.string (str qt)]) (by exact Blk.new w3 _ 9) (m := 1) rfl) rfl (by simp [Value.oneCell']) (by omega) (by omega) ?_; intro v4 w4 hF4 c4)
                    go_roundg (GK - (q2 - q))
                    case measure => have := HQ.out; have := HP.out; omega
                    case rel => exact ⟨q2, f', acc ++ [qt], rfl, by have := HQ.out; have := HP.out; omega, hq2l, by have := HQ.out; have := HP.out; omega, by simp; omega, by rw [Ss_append]; simpa [Ss] using hF4, HWW.out⟩
              · rw [if_pos hqe0] at hwd
                rw [hwd] at hw
                simp only at hw
                rw [if_pos hqe0] at hw
                have e4 : q1 + (1 + qm) = q2 := by omega
                rw [e4] at hw
                have HWW := Lib.hid hw
                have hv : wdV qt q2 qe = .tuple #[.string (str []), .int .i64 (q2 : Nat), .int .i64 (qe : Nat)] := by simp only [wdV, if_neg hqe0]
                rw [hv] at hqa
                have u1 : ((qe : Int) == 0) = false := by rw [beq_eq_false_iff_ne]; omega
                have u2 : ((qe : Int) != 0) = true := by rw [bne_iff_ne]; omega
                clear hw hwd hpos hwle hqe hk1 hqk hqf hGK hq2 e3 e4 hqe0 hv
                go_wp2_with fail
                refine (hqa _).mono ?_
                rintro e w3 ⟨rfl, c3⟩
                clear hqa
                go_wp2_with fail
                go_ret3
                exact ⟨_, by rw [HWW.out]; rfl, by rw [HWW.out]; exact (Fresh.nil w _ _).to (hf.chg.nil c3)⟩
            · rw [if_neg h34] at hwd
              have t34 : (((l[q1]).toNat : Int) == 34) = false := by rw [beq_eq_false_iff_ne]; omega
              have hpa := fun w' => rplain_any l q1 w' (by omega) hl
              have hpv : plV l q1 = wdV ((l.drop q1).take (plainW (l.drop q1)).1) (q1 + (plainW (l.drop q1)).1) (if (plainW (l.drop q1)).2 then 0 else 4) := rfl
              rw [hpv] at hpa
              have hple := plain_le _ (l.drop q1) (Nat.le_refl _)
              rw [List.length_drop] at hple
              clear hpv h34
              generalize (l[q1]).toNat = x at *
              generalize hPT : (l.drop q1).take (plainW (l.drop q1)).1 = pt at *
              clear hPT
              generalize plainW (l.drop q1) = P at *
              obtain ⟨pm, pb⟩ := P
              simp only at hwd hpa hple
              obtain ⟨q2, hq2⟩ : ∃ q2, q1 + pm = q2 := ⟨_, rfl⟩
              rw [hq2] at hpa
              have hq2b : (q2 : Int) ≤ 1000000000 := by omega
              have hq2l : q2 ≤ l.length := by omega
              rw [hwd] at hw hpos
              simp only at hw hpos
              rw [hq2] at hw
              have HQ := Lib.hid (And.intro hqk (And.intro hk1 (And.intro hqf (And.intro hGK hq2))))
              cases pb with
              | true =>
                have hpz : ∀ w', Calls Tryz.prog 54 #[.string (str l), .int .i64 q1] w' fun e w'' => e = .returned (.tuple #[.string (str pt), .int .i64 q2, .int .i64 0]) ∧ w'' = w' := hpa
                have hp1 := hpos rfl
                rw [if_neg (by simp)] at hw
                have HWW := Lib.hid hw
                have HP := Lib.hid (show q1 + 1 ≤ q2 by omega)
                clear hw hwd hpos hwle hk1 hqk hqf hGK hq2 hp1 hple hpa
                go_wp2_with fail
                refine (hpz _).mono ?_
                rintro e w3 ⟨rfl, rfl⟩
                clear hpz
                go_wp2_with (at_builtin; refine wpList_appF (w0 := w) rfl _ _ 74 rfl sl_str (by exact hf.to ((Chg.refl [] w3).alloc (.cells #[.string (str pt)] 9))) rfl (Sees.row (cs := #[.string (str pt)]) (by exact Blk.new w3 _ 9) (m := 1) rfl) rfl (by simp [Value.oneCell']) (by omega) (by omega) ?_; intro v4 w4 hF4 c4)
                go_roundg (GK - (q2 - q))
                case measure => have := HQ.out; have := HP.out; omega
                case rel => exact ⟨q2, f', acc ++ [pt], rfl, by have := HQ.out; have := HP.out; omega, hq2l, by have := HQ.out; have := HP.out; omega, by simp; omega, by rw [Ss_append]; simpa [Ss] using hF4, HWW.out⟩
              | false =>
                have hpz : ∀ w', Calls Tryz.prog 54 #[.string (str l), .int .i64 q1] w' fun e w'' => e = .returned (.tuple #[.string (str []), .int .i64 q2, .int .i64 4]) ∧ w'' = w' := hpa
                rw [if_pos (by simp)] at hw
                have HWW := Lib.hid hw
                clear hw hwd hpos hwle hk1 hqk hqf hGK hq2 hple hpa
                go_wp2_with fail
                refine (hpz _).mono ?_
                rintro e w3 ⟨rfl, rfl⟩
                clear hpz
                go_wp2_with fail
                go_ret3
                exact ⟨_, by rw [HWW.out]; rfl, by rw [HWW.out]; exact (Fresh.nil w _ _).to hf.chg⟩
end Go.Proofs.YtihoohhngiomdaaGreatDoor
