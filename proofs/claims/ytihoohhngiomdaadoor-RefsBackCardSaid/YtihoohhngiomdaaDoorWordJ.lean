/- Contract of the reader's method word. No statement of the seat is proved here. -/
import Derived.Test.YtihoohhngiomdaaDoorWordI
set_option linter.unusedVariables false
namespace Go.Aq.Wd
theorem quot_err : ∀ (n : Nat) (r : List UInt8), r.length ≤ n → (quotW r).2.1 ≤ r.length ∧ (((quotW r).2.2 = 0) ∨ ((quotW r).2.2 = 2 ∧ (quotW r).2.1 = r.length) ∨ (quotW r).2.2 = 4)
  | 0, r, hn => by
    have : r = [] := List.eq_nil_of_length_eq_zero (by omega)
    subst this
    rw [quotW_nil]; simp
  | n + 1, r, hn => by
    by_cases hr : r = []
    · subst hr; rw [quotW_nil]; simp
    · have hl : 1 ≤ r.length := List.length_pos_iff.2 hr
      have hp := dec_pos r
      have hle := dec_le r hr
      rw [quotW_step r hr]
      split
      · simp
      · split
        · simp; omega
        · split
          · cases ho : escO r with
            | some k =>
              have hw : 1 ≤ (writ k).length := List.length_pos_iff.2 (writ_ne k)
              obtain ⟨h1, h2⟩ := escO_some _ _ ho
              have hpl := (List.isPrefixOf_iff_prefix.1 h2).length_le
              have ih := quot_err n (r.drop (writ k).length) (by rw [List.length_drop]; omega)
              rw [List.length_drop] at ih
              simp only
              omega
            | none =>
              simp only
              split
              · simp
              · simp
          · have ih := quot_err n (r.drop (dec r).2) (by rw [List.length_drop]; omega)
            rw [List.length_drop] at ih
            simp only
            omega
theorem head32 (r : List UInt8) (h : r ≠ []) : (dec r).1 = 32 ↔ r.headD 0 = 32 := by
  obtain ⟨x, t, rfl⟩ : ∃ x t, r = x :: t := by cases r; (exact absurd rfl h); exact ⟨_, _, rfl⟩
  simp only [List.headD_cons]
  by_cases hx : x.toNat < 128
  · rw [dec_ascii x t hx]
    constructor
    · intro e; rw [← u8e x 32 e]; rfl
    · rintro rfl; rfl
  · have := dec_high x t (by omega)
    constructor
    · intro e; omega
    · rintro rfl; exact absurd (by decide) hx
end Go.Aq.Wd
namespace Go.Proofs.YtihoohhngiomdaaDoor
open Go.RowKit Go.Aq Go.Aq.Wd
set_option maxHeartbeats 2000000 in
theorem word_any (w : World) (hT : Tabs w) (R : Nat) (hoff : Off R) (l : List UInt8) (p : Nat) (h : Rd w R l p 0) (hp : p < l.length) (hl : l.length ≤ 1000000000) :
    Calls Tryd.prog 52 #[.pointer (some ⟨R, 0, none⟩)] w fun x w' => ∃ t, x = .returned (.string (str t)) ∧ ((wordW (l.drop p)).2.2 = 0 → t = (wordW (l.drop p)).1) ∧ Rd w' R l (p + (wordW (l.drop p)).2.1) (wordW (l.drop p)).2.2 ∧ Chg [R] w w' := by
  have hsz := str_size l
  have c0 : w.cell? ⟨R, 0, none⟩ = some (.string (str l)) := Blk.cell h 0
  have c1 : w.cell? ⟨R, 1, none⟩ = some (.int .i64 (p : Nat)) := Blk.cell h 1
  have ix := fun w' => idxS w' l p hp
  have hhd : (l.drop p).headD 0 = l[p] := by rw [List.drop_eq_getElem_cons hp]; rfl
  have hx := (l[p]).toNat_lt
  by_cases h34 : l[p] = 34
  · have hx34 : (l[p]).toNat = 34 := by rw [h34]; rfl
    rw [hx34] at ix
    have hw : wordW (l.drop p) = if (quotW (l.drop (p + 1))).2.2 ≠ 0 then ([], 1 + (quotW (l.drop (p + 1))).2.1, (quotW (l.drop (p + 1))).2.2)
        else if l.drop (p + (1 + (quotW (l.drop (p + 1))).2.1)) ≠ [] ∧ (l.drop (p + (1 + (quotW (l.drop (p + 1))).2.1))).headD 0 ≠ 32 then ([], 1 + (quotW (l.drop (p + 1))).2.1, 4)
        else ((quotW (l.drop (p + 1))).1, 1 + (quotW (l.drop (p + 1))).2.1, 0) := by
      unfold wordW
      rw [if_pos (by rw [hhd]; exact h34)]
      simp only [List.drop_drop]
    have hqe := quot_err _ (l.drop (p + 1)) (Nat.le_refl _)
    rw [List.length_drop] at hqe
    have hqa := fun w' h1 h2 => quoted_any w' h1 R hoff l p h2 hp hl
    generalize quotW (l.drop (p + 1)) = Q at *
    obtain ⟨qt, qm, qe⟩ := Q
    simp only at hw hqe hqa
    have e3 : p + (1 + qm) = p + 1 + qm := by omega
    rw [e3] at hw
    obtain ⟨q2, hq2⟩ : ∃ q2, p + 1 + qm = q2 := ⟨_, rfl⟩
    rw [hq2] at hw hqa
    have hq2l : q2 ≤ l.length := by omega
    have hsa := fun w' h1 h2 => sign_any w' h1 R l q2 qe h2 hq2l hl
    -- what sign and the test leave: the error, the place
    have hfin : ∃ cc nn e2, sgnR (l.drop q2) qe = (cc, nn, e2) ∧ ((e2 = 0 ∧ 0 < nn ∧ cc ≠ 32 ∧ (wordW (l.drop p)).2 = (1 + qm, 4)) ∨ (¬ (e2 = 0 ∧ 0 < nn ∧ cc ≠ 32) ∧ (wordW (l.drop p)).2 = (1 + qm, e2) ∧ (e2 = 0 → qe = 0 ∧ (wordW (l.drop p)).1 = qt))) ∧ cc ≤ 2000000 ∧ nn ≤ 4 ∧ e2 ≤ 4 := by
      have hd1 := dec_fst (l.drop q2)
      have hdp := dec_pos (l.drop q2)
      have hsg : sgnR (l.drop q2) qe = if l.drop q2 = [] then (65533, 0, qe) else if bad (dec (l.drop q2)) || low (dec (l.drop q2)).1 then (0, 0, 4) else ((dec (l.drop q2)).1, (dec (l.drop q2)).2, qe) := rfl
      by_cases hr : l.drop q2 = []
      · rw [if_pos hr] at hsg
        refine ⟨_, _, _, hsg, .inr ⟨by simp, ?_, ?_⟩, by decide, by decide, by omega⟩
        · rw [hw]
          by_cases h0 : qe = 0
          · rw [if_neg (by simpa using h0), if_neg (fun hh => hh.1 hr), h0]
          · rw [if_pos h0]
        · intro h0
          exact ⟨h0, by rw [hw, if_neg (by simpa using h0), if_neg (fun hh => hh.1 hr)]⟩
      · rw [if_neg hr] at hsg
        have h32 := head32 _ hr
        have hqe2 : qe ≠ 2 := by
          rintro rfl
          apply hr
          refine List.drop_eq_nil_of_le ?_
          omega
        cases hbl : (bad (dec (l.drop q2)) || low (dec (l.drop q2)).1) with
        | true =>
          rw [hbl, if_pos rfl] at hsg
          refine ⟨_, _, _, hsg, .inr ⟨by simp, ?_, by simp⟩, by decide, by decide, by decide⟩
          rw [hw]
          by_cases h0 : qe = 0
          · have hne : (l.drop q2).headD 0 ≠ 32 := fun e => by
              have hc := h32.2 e
              have hdd : dec (l.drop q2) = ((dec (l.drop q2)).1, (dec (l.drop q2)).2) := rfl
              rw [hdd, hc, not_bad 32 _ (by omega)] at hbl
              simp [low] at hbl
            rw [if_neg (by simpa using h0), if_pos ⟨hr, hne⟩]
          · rw [if_pos h0]
            simp only
            congr 1
            omega
        | false =>
          rw [hbl, if_neg (by simp)] at hsg
          refine ⟨_, _, _, hsg, ?_, hd1, hdp.2, by omega⟩
          by_cases h0 : qe = 0
          · by_cases hc : (dec (l.drop q2)).1 = 32
            · right
              refine ⟨fun hh => hh.2.2 hc, ?_, fun _ => ⟨h0, ?_⟩⟩
              · rw [hw, if_neg (by simpa using h0), if_neg (fun hh => hh.2 (h32.1 hc)), h0]
              · rw [hw, if_neg (by simpa using h0), if_neg (fun hh => hh.2 (h32.1 hc))]
            · left
              refine ⟨h0, by omega, hc, ?_⟩
              rw [hw, if_neg (by simpa using h0), if_pos ⟨hr, fun e => hc (h32.2 e)⟩]
          · right
            refine ⟨fun hh => h0 hh.1, ?_, fun e => absurd e h0⟩
            rw [hw, if_pos h0]
    obtain ⟨cc, nn, e2, hsgn, hcase, hcb, hnb, heb⟩ := hfin
    rw [hsgn] at hsa
    simp only at hsa
    have HC := Lib.hid hcase
    have HQ2 := Lib.hid hq2
    clear hw hqe hhd h34 hx34 hsgn hcase e3 hq2 hx
    go_enter Tryd.func52, Tryd.ntmps52
    go_wp2_with fail
    go_quiet (fail)
    have hTd := hT.chg ((Chg.refl [] w).drewN nq)
    have hRd : Rd (w.drewN nq) R l p 0 := h
    have hcd := (Chg.refl [R] w).drewN nq
    have hqa2 := hqa _ hTd hRd
    clear hqa c0 c1 h
    generalize w.drewN nq = w1 at *
    go_wp2_with fail
    refine hqa2.mono ?_
    rintro e w2 ⟨rfl, hR2, c2⟩
    have hsa2 := hsa w2 (hTd.chgR c2 hoff) hR2
    have hc2 := hcd.tr c2
    clear hqa2 hsa
    go_wp2_with fail
    refine hsa2.mono ?_
    rintro e w3 ⟨rfl, hR3, c3⟩
    have hc3 := hc2.tr c3
    have d2 : w3.cell? ⟨R, 2, none⟩ = some (.int .i64 (e2 : Nat)) := Blk.cell hR3 2
    clear hsa2
    rcases HC.out with ⟨rfl, hn0, hc32, hwd⟩ | ⟨hnot, hwd, hok⟩
    · have t2 : decide ((0 : Int) < (nn : Int)) = true := by simp; omega
      have t3 : ((cc : Int) != 32) = true := by simp; omega
      have HW := Lib.hid hwd
      clear hwd HC
      go_wp2_with fail
      refine (fail_any w3 R l q2 0 4 hR3).mono ?_
      rintro e w4 ⟨rfl, hR4, c4⟩
      go_wp2_with fail
      go_ret
      exact ⟨_, rfl, fun h0 => by rw [HW.out] at h0; simp at h0, by rw [HW.out, show p + (1 + qm) = q2 by have := HQ2.out; omega]; exact hR4, hc3.tr c4⟩
    · have HW := Lib.hid hwd
      have HK := Lib.hid hok
      have fin : ∀ x : Ending, x = .returned (.string (str (qtext (qt, qm, qe)))) → ∃ t, x = .returned (.string (str t)) ∧ ((wordW (l.drop p)).2.2 = 0 → t = (wordW (l.drop p)).1) ∧ Rd w3 R l (p + (wordW (l.drop p)).2.1) (wordW (l.drop p)).2.2 ∧ Chg [R] w w3 := fun x hx => by
        refine ⟨_, hx, fun h0 => ?_, ?_, hc3⟩
        · rw [HW.out] at h0
          obtain ⟨h1, h2⟩ := HK.out h0
          rw [h2]; unfold qtext; rw [if_pos h1]
        · rw [HW.out, show p + (1 + qm) = q2 by have := HQ2.out; omega]; exact hR3
      have FIN := Lib.hid fin
      clear hwd hok HC fin HW HK
      by_cases h0 : e2 = 0
      · subst h0
        by_cases hn : nn = 0
        · subst hn
          go_wp2_with fail
          go_ret
          exact FIN.out _ rfl
        · have hc : cc = 32 := by
            by_cases hc : cc = 32
            · exact hc
            · exact absurd ⟨rfl, by omega, hc⟩ hnot
          subst hc
          have t2 : decide ((0 : Int) < (nn : Int)) = true := by simp; omega
          go_wp2_with fail
          go_ret
          exact FIN.out _ rfl
      · have t1 : ((e2 : Int) == 0) = false := by simp; omega
        go_wp2_with fail
        go_ret
        exact FIN.out _ rfl
  · have hxn : (l[p]).toNat ≠ 34 := fun e => h34 (by rw [← u8e _ _ e]; rfl)
    have hw : wordW (l.drop p) = ((l.drop p).take (plainW (l.drop p)).1, (plainW (l.drop p)).1, plainE (l.drop p)) := by
      unfold wordW
      rw [if_neg (by rw [hhd]; exact h34)]
      rfl
    have hpa := fun w' h1 h2 => plain_any w' h1 R hoff l p h2 (by omega) hl
    rw [hw]
    simp only
    generalize (plainW (l.drop p)).1 = k at *
    generalize plainE (l.drop p) = pe at *
    generalize (l.drop p).take k = tt at *
    have t1 : (((l[p]).toNat : Int) != 34) = true := by simp; omega
    generalize (l[p]).toNat = x at *
    clear hw hhd h34
    go_enter Tryd.func52, Tryd.ntmps52
    go_wp2_with fail
    go_quiet (fail)
    have hTd := hT.chg ((Chg.refl [] w).drewN nq)
    have hRd : Rd (w.drewN nq) R l p 0 := h
    have hcd := (Chg.refl [R] w).drewN nq
    have hpa2 := hpa _ hTd hRd
    clear hpa c0 c1 h
    generalize w.drewN nq = w1 at *
    go_wp2_with fail
    refine hpa2.mono ?_
    rintro e w2 ⟨rfl, hR2, c2⟩
    go_wp2_with fail
    go_ret
    exact ⟨_, rfl, fun _ => rfl, hR2, hcd.tr c2⟩
end Go.Proofs.YtihoohhngiomdaaDoor
