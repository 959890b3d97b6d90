/- The document's refs (aquref17): Valid, Compare, FindRef; aqulaw21.one. No statement of the seat is proved here. -/
import Derived.Test.YtihoohhngiomdaaGreatDoorRfGH
import Derived.Test.YtihoohhngiomdaaGreatDoorNumAll
set_option linter.unusedVariables false
set_option linter.unusedSimpArgs false
namespace Go.Aq
open Go.RowKit Go.Aq.Wd
theorem cmpB_ways (a b : List UInt8) : (cmpB a b = -1 ∧ a < b) ∨ (cmpB a b = 0 ∧ ¬ a < b ∧ a = b) ∨ (cmpB a b = 1 ∧ ¬ a < b ∧ a ≠ b) := by
  have hz := cmpB_zero a b
  by_cases h1 : a < b
  · left; exact ⟨by unfold cmpB; rw [if_pos h1], h1⟩
  · right
    by_cases h2 : a = b
    · left; exact ⟨hz.2 h2, h1, h2⟩
    · right
      refine ⟨?_, h1, h2⟩
      rcases cmpB_range a b with h | h | h
      · unfold cmpB at h; rw [if_neg h1] at h; split at h <;> omega
      · exact absurd (hz.1 h) h2
      · exact h
end Go.Aq
namespace Go.Proofs.YtihoohhngiomdaaGreatDoor
open Go.RowKit Go.Aq Go.Aq.Wd
set_option maxHeartbeats 400000 in
theorem refValid_any (w : World) (s : List UInt8) (hs : s.length ≤ 1000000) :
    Calls Tryz.prog 42 #[.string (str s)] w fun e w' => e = .returned (.bool (validB s)) ∧ Chg [] w w' := by
  go_enter Tryz.func42, Tryz.ntmps42
  go_wp2_with fail
  refine (refUnhex_any w s hs).mono ?_
  rintro e w1 (⟨bs, v', hu, rfl, hf⟩ | ⟨hu, rfl, hc⟩)
  · obtain ⟨ao, cap, rfl, hcap⟩ := hf.shape
    have hv : validB s = (bs.length == 32) := by unfold validB; rw [hu]
    have HV := Lib.hid hv
    have hc := hf.chg
    clear hu hv hf
    generalize bs.length = k at *
    go_wp2_with fail
    go_ret
    exact ⟨ret_bool (by rw [HV.out, Bool.eq_iff_iff]; simp; omega), hc⟩
  · have hv : validB s = false := by unfold validB; rw [hu]
    have HV := Lib.hid hv
    clear hu hv
    go_wp2_with fail
    go_ret
    exact ⟨ret_bool HV.out.symm, hc⟩
set_option maxRecDepth 100000 in
set_option maxHeartbeats 4000000 in
theorem rcompare_any (a b : RefD) (w : World) : Calls Tryz.prog 24 #[rfV a, rfV b] w fun e w' => e = .returned (.int .i64 (cmpR a b)) ∧ Chg [] w w' := by
  obtain ⟨ta, na, ka⟩ := a
  obtain ⟨tb, nb, kb⟩ := b
  unfold rfV
  simp only
  have hl : Op.bytesLess (str na).toList (str nb).toList = decide (na < nb) := by rw [Proofs.bytesLess_eq, str_toList, str_toList]
  have he : ((str na).toList == (str nb).toList) = decide (na = nb) := str_eq na nb
  have hR : Hid (cmpR ⟨ta, na, ka⟩ ⟨tb, nb, kb⟩ = if ta = tb then cmpB na nb else if ta then 1 else -1) := rfl
  have hw := fun (w : World) => ((Chg.refl [] w).alloc (.cells #[.bool ta, .string (str na), .string (str ka)] 51)).alloc (.cells #[.bool tb, .string (str nb), .string (str kb)] 51)
  have hways := cmpB_ways na nb
  cases ta <;> cases tb
  case true.false =>
    clear hl he hways
    go_enter Tryz.func24, Tryz.ntmps24
    go_wp2_with fail
    go_ret
    exact ⟨by rw [hR.out]; rfl, hw _⟩
  case false.true =>
    clear hl he hways
    go_enter Tryz.func24, Tryz.ntmps24
    go_wp2_with fail
    go_ret
    exact ⟨by rw [hR.out]; rfl, hw _⟩
  all_goals
    rcases hways with ⟨h1, h2⟩ | ⟨h1, h2, h3⟩ | ⟨h1, h2, h3⟩
    · rw [h1] at hR
      rw [decide_eq_true h2] at hl
      clear h1 h2 he
      go_enter Tryz.func24, Tryz.ntmps24
      go_wp2_with fail
      go_ret
      exact ⟨by rw [hR.out]; rfl, hw _⟩
    · rw [h1] at hR
      rw [decide_eq_false h2] at hl
      rw [decide_eq_true h3] at he
      clear h1 h2 h3
      go_enter Tryz.func24, Tryz.ntmps24
      go_wp2_with fail
      go_ret
      exact ⟨by rw [hR.out]; rfl, hw _⟩
    · rw [h1] at hR
      rw [decide_eq_false h2] at hl
      rw [decide_eq_false h3] at he
      clear h1 h2 h3
      go_enter Tryz.func24, Tryz.ntmps24
      go_wp2_with fail
      go_ret
      exact ⟨by rw [hR.out]; rfl, hw _⟩
set_option maxRecDepth 100000 in
set_option maxHeartbeats 4000000 in
theorem rfind_any (w : World) (v : Value) (l : List RefD) (t : Bool) (nm : List UInt8) (hv : Sees w 3 v l.length (Rfs l)) (hl : l.length ≤ 1000000) :
    Calls Tryz.prog 12 #[v, .bool t, .string (str nm)] w fun e w' => e = .returned (.tuple #[.string (str ((findL l t nm).getD [])), .bool (findL l t nm).isSome]) ∧ Chg [] w w' := by
  obtain ⟨nl, HL⟩ : ∃ n, Hid (l.length = n) := ⟨_, rfl⟩
  rw [HL.out] at hv hl
  obtain ⟨ao, cap, rfl, hcap, hno⟩ := hv.shape
  clear hno
  go_enter Tryz.func12, Tryz.ntmps12
  go_wp2_with fail
  go_loopg [8] nl (fun k vi wr => ∃ (i : Nat), vi = .int .i64 i ∧ i + k = nl ∧ i ≤ nl ∧ Hid (∀ r ∈ l.take i, isR t nm r = false) ∧ Chg [] w wr)
  case atStart => exact ⟨0, rfl, by omega, by omega, by show ∀ r ∈ l.take 0, _; simp, Chg.refl _ _⟩
  case round =>
    obtain ⟨i, rfl, hik, hin, HM, hc⟩ := hrel
    by_cases hi : i < nl
    · have t1 : decide ((i : Int) < (nl : Int)) = true := by simp; omega
      have t1' : decide (i < nl) = true := by simp; omega
      have hil : i < l.length := by rw [HL.out]; exact hi
      obtain ⟨g, off, cap', hs, -, hgl, hcell⟩ := hv.cells (by omega)
      simp only [Value.slice.injEq, true_and] at hs
      obtain ⟨rfl, rfl⟩ := hs
      obtain ⟨x0, x1, x2⟩ := Rfs_cells HL.out hcell i hil
      have y0 := hc.cell_some x0 (by simp)
      have y1 := hc.cell_some x1 (by simp)
      have y2 := hc.cell_some x2 (by simp)
      have hib : (i : Int) ≤ 1000000 := by omega
      have hii : (i : Int) < (nl : Int) := by omega
      have htk := List.take_succ_eq_append_getElem hil
      have hfa := find_at (t := t) (n := nm) hil HM.out
      clear x0 x1 x2 hcell
      generalize l[i] = r at *
      have hR := isR_iff t nm r
      obtain ⟨tr, rn, ky⟩ := r
      simp only at y0 y1 y2 hR hfa
      have HH := Lib.hid (And.intro htk (And.intro hfa (And.intro hR hi)))
      have HC := Lib.hid hc
      clear htk hfa hR hc
      by_cases ht : tr = t
      · subst ht
        have e1 : (tr == tr) = true := by simp
        by_cases hn : rn = nm
        · have e2 : ((str rn).toList == (str nm).toList) = true := by rw [str_eq]; simpa using hn
          have HF : Hid (findL l tr nm = some ky) := HH.out.2.1 (HH.out.2.2.1.2 ⟨rfl, hn⟩)
          clear hn
          go_wp2_with fail
          go_ret2
          rw [HF.out]
          exact ⟨rfl, HC.out⟩
        · have e2 : ((str rn).toList == (str nm).toList) = false := by rw [str_eq]; simpa using hn
          have HF : Hid (isR tr nm ⟨tr, rn, ky⟩ = false) := by
            show _ = _
            rw [Bool.eq_false_iff]
            intro e
            exact hn (HH.out.2.2.1.1 e).2
          clear hn
          go_wp2_with fail
          go_roundg (gk - 1)
          case measure => have := HH.out.2.2.2; omega
          case rel =>
            have h4 := HH.out.2.2.2
            refine ⟨i + 1, by go_num, by omega, by omega, ?_, HC.out⟩
            intro r hr
            rw [HH.out.1] at hr
            rcases List.mem_append.1 hr with hr | hr
            · exact HM.out r hr
            · rw [List.mem_singleton.1 hr]; exact HF.out
      · have e1 : (tr == t) = false := by simpa using ht
        have HF : Hid (isR t nm ⟨tr, rn, ky⟩ = false) := by
          show _ = _
          rw [Bool.eq_false_iff]
          intro e
          exact ht (HH.out.2.2.1.1 e).1
        clear ht
        go_wp2_with fail
        go_roundg (gk - 1)
        case measure => have := HH.out.2.2.2; omega
        case rel =>
          have h4 := HH.out.2.2.2
          refine ⟨i + 1, by go_num, by omega, by omega, ?_, HC.out⟩
          intro r hr
          rw [HH.out.1] at hr
          rcases List.mem_append.1 hr with hr | hr
          · exact HM.out r hr
          · rw [List.mem_singleton.1 hr]; exact HF.out
    · have t1 : decide ((i : Int) < (nl : Int)) = false := by simp; omega
      have t1' : decide (i < nl) = false := by simp; omega
      have HF : Hid (findL l t nm = none) := find_none_take (fun r hr => HM.out r (by rw [List.take_of_length_le (by rw [HL.out]; omega)]; exact hr))
      have HC := Lib.hid hc
      clear hi
      go_wp2_with fail
      go_ret2
      rw [HF.out]
      exact ⟨rfl, HC.out⟩
theorem rq_ty : ArrTy Tryz.prog 51 3 := ⟨⟨_, Tryz.underlying51, rfl⟩, by kernel_rfl⟩
set_option maxRecDepth 100000 in
set_option maxHeartbeats 4000000 in
theorem one_any (w : World) (r : RefD) :
    Calls Tryz.prog 21 #[rfV r] w fun e w' => e = .returned (rfV r) ∧ Chg [] w w' := by
  obtain ⟨tg, nm, ky⟩ := r
  unfold rfV
  simp only
  obtain ⟨K, hK⟩ : ∃ K, w.heap.size = K := ⟨_, rfl⟩
  obtain ⟨w1, hw1⟩ : ∃ w1, w1 = ((w.alloc (.cells #[.bool tg, .string (str nm), .string (str ky)] 24)).alloc (.cells #[.bool false, .string ⟨#[]⟩, .string ⟨#[]⟩] 51)).alloc (.cells #[.bool tg, .string (str nm), .string (str ky)] 24) := ⟨_, rfl⟩
  have c1 : Chg [] w w1 := by rw [hw1]; exact (((Chg.refl [] w).alloc _).alloc _).alloc _
  have hb1 : Blk w1 (K + 1) #[.bool false, .string ⟨#[]⟩, .string ⟨#[]⟩] 51 := by rw [hw1]; exact (Blk.new_at _ _ _ (by simp [hK])).alloc _
  have hb2 : Blk w1 (K + 1 + 1) #[.bool tg, .string (str nm), .string (str ky)] 24 := by rw [hw1]; exact Blk.new_at _ _ _ (by simp [hK])
  have hp := plainR_any w1 (.slice (some ⟨K + 1 + 1, 0, none⟩) 1 1) [⟨tg, nm, ky⟩] (Sees.rows hb2 rfl) (by simp)
  have hlt := hb1.lt
  have HC := Lib.hid (And.intro c1 (And.intro hb1 hlt))
  clear c1 hb1 hb2 hlt
  go_enter Tryz.func21, Tryz.ntmps21
  go_wp2_with fail
  rw [← hw1]
  clear hw1
  refine hp.mono ?_
  rintro e w2 ⟨v2, rfl, hF⟩
  obtain ⟨c1, hb1, hlt⟩ := HC.out
  obtain ⟨g, off, cap', rfl, -, -, hcell⟩ := hF.own.sees.cells (by simp)
  have x0 : w2.cell? ⟨g, off, none⟩ = some (.bool tg) := hcell 0 (by simp)
  have x1 : w2.cell? ⟨g, off + 1, none⟩ = some (.string (str nm)) := hcell 1 (by simp)
  have x2 : w2.cell? ⟨g, off + 2, none⟩ = some (.string (str ky)) := hcell 2 (by simp)
  have hb3 := hb1.chg0 hF.chg
  have c2 := c1.nil hF.chg
  obtain ⟨⟨y0, y1, y2⟩, y3, y4, y5⟩ := hb3.c3
  have HZ := Lib.hid (And.intro c2 (And.intro hlt hb3))
  clear c2 c1 hb1 hF hcell hp hb3
  go_wp2_with fail
  obtain ⟨c2, hlt, hb3⟩ := HZ.out
  have hbz := ((hb3.set 0 (.bool tg)).set 1 (.string (str nm))).set 2 (.string (str ky))
  have e9 : (((#[.bool false, .string ⟨#[]⟩, .string ⟨#[]⟩] : Array Value).setIfInBounds 0 (.bool tg)).setIfInBounds 1 (.string (str nm))).setIfInBounds 2 (.string (str ky)) = #[.bool tg, .string (str nm), .string (str ky)] := by simp
  rw [e9] at hbz
  refine bodyPost_ret (results_A rfl _ _ hbz rq_ty rfl) rfl ⟨rfl, ?_⟩
  exact ((c2.setCell (.inr (by show w.heap.size ≤ K + 1; omega)) _).setCell (.inr (by show w.heap.size ≤ K + 1; omega)) _).setCell (.inr (by show w.heap.size ≤ K + 1; omega)) _
end Go.Proofs.YtihoohhngiomdaaGreatDoor
