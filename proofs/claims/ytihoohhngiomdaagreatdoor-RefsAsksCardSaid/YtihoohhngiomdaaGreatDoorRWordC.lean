/- Contracts of the document's answer to chapter 2: Text, Name, Quote. No statement of the seat is proved here. -/
import Derived.Test.YtihoohhngiomdaaGreatDoorRWordB
import Derived.Test.YtihoohhngiomdaaGreatDoorRLetter
set_option linter.unusedVariables false
namespace Go.Aq.Wd
theorem dbl_iff : ∀ rs : List Nat, dbl rs = true ↔ ∃ i, i + 1 < rs.length ∧ rs.getD i 0 = 47 ∧ rs.getD (i + 1) 0 = 47
  | [] => by simp [dbl]
  | [a] => by simp [dbl]
  | a :: b :: t => by
    have ih := dbl_iff (b :: t)
    rw [dbl, Bool.or_eq_true, ih]
    constructor
    · rintro (h | ⟨i, h1, h2, h3⟩)
      · simp only [Bool.and_eq_true, beq_iff_eq] at h
        exact ⟨0, by simp, by simp [h.1], by simp [h.2]⟩
      · exact ⟨i + 1, by simp at h1 ⊢; omega, by simpa using h2, by simpa using h3⟩
    · rintro ⟨i, h1, h2, h3⟩
      cases i with
      | zero => left; simp at h2 h3; simp [h2, h3]
      | succ i => right; exact ⟨i, by simp at h1 ⊢; omega, by simpa using h2, by simpa using h3⟩
theorem sigs_ok {l : List UInt8} {rs : List Nat} (h : sigs l = some rs) : rs.length ≤ l.length ∧ ∀ c ∈ rs, c ≤ 2000000 := by
  obtain ⟨he, ok⟩ := sigs_enc h
  refine ⟨by rw [he]; exact encL_ge rs, fun c hc => okR_le (ok c hc)⟩
end Go.Aq.Wd
namespace Go.Proofs.YtihoohhngiomdaaGreatDoor
open Go.RowKit Go.Aq Go.Aq.Wd
set_option maxRecDepth 100000 in
set_option maxHeartbeats 4000000 in
theorem rname_any (l : List UInt8) (w : World) (hl : l.length ≤ 1000000000) :
    Calls Tryz.prog 41 #[.string (str l)] w fun e w' => e = .returned (.bool (nameL l)) ∧ Chg [] w w' := by
  have hsg := rsigns_any l w hl
  cases hs : sigs l with
  | none =>
    rw [show nameL l = false by unfold nameL; rw [hs]]
    rw [hs] at hsg
    clear hs
    go_enter Tryz.func41, Tryz.ntmps41
    go_wp2_with fail
    refine hsg.mono ?_
    rintro e w1 ⟨rfl, c1⟩
    go_wp2_with fail
    go_ret
    exact ⟨rfl, c1⟩
  | some rs =>
    rw [nameL_of hs]
    obtain ⟨hge, hok⟩ := sigs_ok hs
    rw [hs] at hsg
    have HOK := Lib.hid hok
    clear hs hok
    obtain ⟨n, HN⟩ : ∃ n, Hid (rs.length = n) := ⟨_, rfl⟩
    rw [HN.out] at hge
    by_cases hlen : n < 1 ∨ 40 < n
    · have HF : Hid (nameR rs = false) := by
        show nameR rs = false
        unfold nameR
        rw [HN.out]
        rcases hlen with h | h
        · rw [show decide (1 ≤ n) = false by simp; omega]; rfl
        · rw [show decide (n ≤ 40) = false by simp; omega]; simp
      have hh : (decide ((n : Int) < 1) = true ∧ decide (n < 1) = true) ∨ (decide ((n : Int) < 1) = false ∧ decide (n < 1) = false ∧ decide (40 < (n : Int)) = true ∧ decide (40 < n) = true) := by
        simp only [decide_eq_true_eq, decide_eq_false_iff_not]; omega
      clear hlen
      rcases hh with ⟨t1, t2⟩ | ⟨t1, t2, t3, t4⟩
      all_goals
        go_enter Tryz.func41, Tryz.ntmps41
        go_wp2_with fail
        refine hsg.mono ?_
        rintro e w1 ⟨v, rfl, hf⟩
        rw [HN.out] at hf
        have c1 := hf.chg
        obtain ⟨ao, cap, rfl, hcap⟩ := hf.shape
        clear hsg hf
        go_wp2_with fail
        go_ret
        exact ⟨by rw [HF.out]; rfl, c1⟩
    · have t1 : decide ((n : Int) < 1) = false := by simp; omega
      have t1' : decide (n < 1) = false := by simp; omega
      have t2 : decide (40 < (n : Int)) = false := by simp; omega
      have t2' : decide (40 < n) = false := by simp; omega
      obtain ⟨m, rfl⟩ : ∃ m, n = m + 1 := ⟨n - 1, by omega⟩
      have hm40 : m + 1 ≤ 40 := by omega
      have h0l : 0 < rs.length := by rw [HN.out]; omega
      have hml : m < rs.length := by rw [HN.out]; omega
      have hhd : rs.headD 0 = rs[0] := by cases rs; (simp at h0l); rfl
      have hlast : rs.getLastD 0 = rs[m] := by
        rw [List.getLastD_eq_getLast?, List.getLast?_eq_getElem?, HN.out, Nat.add_sub_cancel, List.getElem?_eq_getElem hml]; rfl
      have hNR : nameR rs = (rs.all letter && !dbl rs && !headBad rs[0] && !lastBad rs[m]) := by
        unfold nameR
        rw [HN.out, hhd, hlast, show decide (1 ≤ m + 1) = true by simp, show decide (m + 1 ≤ 40) = true by simp; omega]
        simp
      have hR := Lib.hid hNR
      have hh : Hid (headBad rs[0] = true ∨ lastBad rs[m] = true) ∧ ((((rs[0] : Nat) : Int) == 45) = true ∨ ((((rs[0] : Nat) : Int) == 45) = false ∧ (((rs[0] : Nat) : Int) == 46) = true) ∨ ((((rs[0] : Nat) : Int) == 45) = false ∧ (((rs[0] : Nat) : Int) == 46) = false ∧ (((rs[0] : Nat) : Int) == 47) = true) ∨
          ((((rs[0] : Nat) : Int) == 45) = false ∧ (((rs[0] : Nat) : Int) == 46) = false ∧ (((rs[0] : Nat) : Int) == 47) = false ∧ (((rs[m] : Nat) : Int) == 46) = true) ∨
          ((((rs[0] : Nat) : Int) == 45) = false ∧ (((rs[0] : Nat) : Int) == 46) = false ∧ (((rs[0] : Nat) : Int) == 47) = false ∧ (((rs[m] : Nat) : Int) == 46) = false ∧ (((rs[m] : Nat) : Int) == 47) = true)) ∨
          Hid (headBad rs[0] = false ∧ lastBad rs[m] = false) ∧ (((rs[0] : Nat) : Int) == 45) = false ∧ (((rs[0] : Nat) : Int) == 46) = false ∧ (((rs[0] : Nat) : Int) == 47) = false ∧ (((rs[m] : Nat) : Int) == 46) = false ∧ (((rs[m] : Nat) : Int) == 47) = false := by
        simp only [Hid, headBad, lastBad, Bool.or_eq_true, Bool.or_eq_false_iff, beq_iff_eq, beq_eq_false_iff_ne, ne_eq]; omega
      clear hNR hhd hlast hlen
      have g0 := Is_get rs 0 h0l
      have gm := Is_get rs m hml
      rcases hh with ⟨HB, hh⟩ | ⟨HB, t3, t4, t5, t6, t7⟩
      · have HF : Hid (nameR rs = false) := by
          show nameR rs = false
          rw [hR.out]
          rcases HB.out with h | h <;> rw [h] <;> simp
        clear hR HB
        generalize rs[0] = a at *
        generalize rs[m] = b at *
        rcases hh with t3 | ⟨t3, t4⟩ | ⟨t3, t4, t5⟩ | ⟨t3, t4, t5, t6⟩ | ⟨t3, t4, t5, t6, t7⟩
        all_goals
          go_enter Tryz.func41, Tryz.ntmps41
          go_wp2_with fail
          refine hsg.mono ?_
          rintro e w1 ⟨v, rfl, hf⟩
          rw [HN.out] at hf
          have c1 := hf.chg
          obtain ⟨g, off, cap, rfl, hcap, hcell⟩ := hf.own.sees.at1 (by omega)
          have x0 := hcell 0 (by omega)
          have xm := hcell m (by omega)
          rw [g0] at x0
          rw [gm] at xm
          simp only [Nat.add_zero] at x0
          clear hsg hf hcell g0 gm
          go_wp2_with fail
          go_ret
          exact ⟨by rw [HF.out]; rfl, c1⟩
      · clear hR
        have HR : Hid (nameR rs = (rs.all letter && !dbl rs)) := by
          show _ = _
          unfold nameR
          obtain ⟨b1, b2⟩ := HB.out
          have hhd : rs.headD 0 = rs[0] := by cases rs; (simp at h0l); rfl
          have hlast : rs.getLastD 0 = rs[m] := by
            rw [List.getLastD_eq_getLast?, List.getLast?_eq_getElem?, HN.out, Nat.add_sub_cancel, List.getElem?_eq_getElem hml]; rfl
          rw [HN.out, hhd, hlast, b1, b2, show decide (1 ≤ m + 1) = true by simp, show decide (m + 1 ≤ 40) = true by simp; omega]
          simp
        clear HB
        generalize rs[0] = a at *
        generalize rs[m] = b at *
        go_enter Tryz.func41, Tryz.ntmps41
        go_wp2_with fail
        refine hsg.mono ?_
        rintro e w1 ⟨v, rfl, hf⟩
        rw [HN.out] at hf
        have c1 := hf.chg
        obtain ⟨g, off, cap, rfl, hcap, hcell⟩ := hf.own.sees.at1 (by omega)
        have x0 := hcell 0 (by omega)
        have xm := hcell m (by omega)
        rw [g0] at x0
        rw [gm] at xm
        simp only [Nat.add_zero] at x0
        have HC : Hid (∀ j (h : j < rs.length), w1.cell? ⟨g, off + j, none⟩ = some (.int .i64 ((rs[j]'h : Nat) : Int))) := fun j h => by
          rw [hcell j (by rw [HN.out] at h; exact h)]; exact Is_get rs j h
        clear hsg hf hcell g0 gm
        go_wp2_with fail
        clear x0 xm t1 t1' t2 t2' t3 t4 t5 t6 t7
        go_loopg [5] (m + 1) (fun k vi wr => ∃ (i : Nat), vi = .int .i64 i ∧ i + k = m + 1 ∧ wr = w1 ∧ Hid ((∀ j (h : j < rs.length), j < i → letter rs[j] = true) ∧ (∀ j, j + 1 < i → ¬ (rs.getD j 0 = 47 ∧ rs.getD (j + 1) 0 = 47))))
        case atStart => exact ⟨0, rfl, by omega, rfl, fun j _ h => absurd h (by omega), fun j h => absurd h (by omega)⟩
        case round =>
          obtain ⟨i, rfl, hik, rfl, HA⟩ := hrel
          by_cases hi : i < m + 1
          · have r1 : decide ((i : Int) < ((m + 1 : Nat) : Int)) = true := by simp; omega
            have r1b : decide ((i : Int) < (m : Int) + 1) = true := by simp; omega
            have r1' : decide (i < m + 1) = true := by simp; omega
            have hil : i < rs.length := by rw [HN.out]; exact hi
            have x0 := HC.out i hil
            have hc2 := HOK.out _ (List.getElem_mem hil)
            have hgd : rs.getD i 0 = rs[i] := by simp [List.getD, hil]
            have ib : (i : Int) ≤ 40 := by omega
            have hlet := rletter_any rs[i] hc2 wr
            cases hL : letter rs[i] with
            | false =>
              rw [hL] at hlet
              have HF : Hid (nameR rs = false) := by
                show nameR rs = false
                rw [HR.out]
                rw [List.all_eq_false.2 ⟨rs[i], List.getElem_mem hil, by rw [hL]; decide⟩]; rfl
              have HI := Lib.hid hi
              clear hL hgd hik
              generalize rs[i] = c at *
              go_wp2_with fail
              refine hlet.mono ?_
              rintro e w3 ⟨rfl, rfl⟩
              go_wp2_with fail
              go_ret
              exact ⟨by rw [HF.out]; rfl, c1⟩
            | true =>
              rw [hL] at hlet
              have HLet := Lib.hid hL
              by_cases h0 : i = 0
              · subst h0
                have x0b : wr.cell? ⟨g, off, none⟩ = some (.int .i64 ((rs[0] : Nat) : Int)) := x0
                have HN2 : Hid ((∀ j (h : j < rs.length), j < 0 + 1 → letter rs[j] = true) ∧ (∀ j, j + 1 < 0 + 1 → ¬ (rs.getD j 0 = 47 ∧ rs.getD (j + 1) 0 = 47))) := ⟨fun j h hj => by
                  obtain rfl : j = 0 := by omega
                  exact HLet.out, fun j hj => absurd hj (by omega)⟩
                have HP := Lib.hid hik
                clear hL hgd hik HA HLet
                generalize rs[0] = c at *
                go_wp2_with fail
                refine hlet.mono ?_
                rintro e w3 ⟨rfl, rfl⟩
                go_wp2_with fail
                go_roundg (gk - 1)
                case measure => have := HP.out; omega
                case rel => exact ⟨0 + 1, by go_num, by have := HP.out; omega, rfl, HN2⟩
              · obtain ⟨p, rfl⟩ : ∃ p, i = p + 1 := ⟨i - 1, by omega⟩
                have hpl : p < rs.length := by omega
                have x1 := HC.out p hpl
                have hgp : rs.getD p 0 = rs[p] := by simp [List.getD, hpl]
                have t8 : decide (0 < ((p + 1 : Nat) : Int)) = true := decide_eq_true (by omega)
                have t8b : decide (0 < (p : Int) + 1) = true := decide_eq_true (by omega)
                have t8' : decide (0 < p + 1) = true := by simp
                have e1 : ((p + 1 : Nat) : Int) - 1 = (p : Int) := by omega
                have hh : Hid (rs[p + 1] = 47 ∧ rs[p] = 47) ∧ (((rs[p + 1] : Nat) : Int) == 47) = true ∧ (((rs[p] : Nat) : Int) == 47) = true ∨
                    Hid (¬ (rs[p] = 47 ∧ rs[p + 1] = 47)) ∧ (((rs[p + 1] : Nat) : Int) == 47) = true ∧ (((rs[p] : Nat) : Int) == 47) = false ∨
                    Hid (¬ (rs[p] = 47 ∧ rs[p + 1] = 47)) ∧ (((rs[p + 1] : Nat) : Int) == 47) = false := by
                  simp only [Hid, beq_iff_eq, beq_eq_false_iff_ne, ne_eq]; omega
                have HP := Lib.hid (And.intro hik (And.intro hi (And.intro hgd hgp)))
                rcases hh with ⟨HH, z1, z2⟩ | ⟨HH, z1, z2⟩ | ⟨HH, z1⟩
                · have HF : Hid (nameR rs = false) := by
                    show nameR rs = false
                    rw [HR.out]
                    rw [show dbl rs = true from (dbl_iff rs).2 ⟨p, hil, by rw [hgp]; exact HH.out.2, by rw [hgd]; exact HH.out.1⟩]
                    simp
                  have hp40 : (p : Int) + 1 ≤ 40 := by omega
                  clear hL hgd hik hgp HH HP HLet
                  generalize rs[p + 1] = c at *
                  generalize rs[p] = d at *
                  go_wp2_with fail
                  refine hlet.mono ?_
                  rintro e w3 ⟨rfl, rfl⟩
                  go_wp2_with fail
                  go_ret
                  exact ⟨by rw [HF.out]; rfl, c1⟩
                all_goals
                  have HN2 : Hid ((∀ j (h : j < rs.length), j < p + 1 + 1 → letter rs[j] = true) ∧ (∀ j, j + 1 < p + 1 + 1 → ¬ (rs.getD j 0 = 47 ∧ rs.getD (j + 1) 0 = 47))) := ⟨fun j h hj => by
                    by_cases hj2 : j < p + 1
                    · exact HA.out.1 j h hj2
                    · obtain rfl : j = p + 1 := by omega
                      exact HLet.out, fun j hj => by
                    by_cases hj2 : j + 1 < p + 1
                    · exact HA.out.2 j hj2
                    · obtain rfl : j = p := by omega
                      rw [hgp, hgd]; exact HH.out⟩
                  have hp40 : (p : Int) + 1 ≤ 40 := by omega
                  clear hL hgd hik hgp HH HA HLet
                  generalize rs[p + 1] = c at *
                  generalize rs[p] = d at *
                  go_wp2_with fail
                  refine hlet.mono ?_
                  rintro e w3 ⟨rfl, rfl⟩
                  go_wp2_with fail
                  go_roundg (gk - 1)
                  case measure => have := HP.out; omega
                  case rel => exact ⟨p + 1 + 1, by go_num, by have := HP.out; omega, rfl, HN2⟩
          · have r1 : decide ((i : Int) < ((m + 1 : Nat) : Int)) = false := by simp; omega
            have r1b : decide ((i : Int) < (m : Int) + 1) = false := by simp; omega
            have r1' : decide (i < m + 1) = false := by simp; omega
            have HF : Hid (nameR rs = true) := by
              show nameR rs = true
              rw [HR.out]
              obtain ⟨b1, b2⟩ := HA.out
              have e1 : rs.all letter = true := by
                rw [List.all_eq_true]
                intro x hx
                obtain ⟨j, hj, rfl⟩ := List.getElem_of_mem hx
                exact b1 j hj (by have := HN.out; omega)
              have e2 : dbl rs = false := by
                rw [Bool.eq_false_iff]
                intro h
                obtain ⟨j, h1, h2, h3⟩ := (dbl_iff rs).1 h
                exact b2 j (by have := HN.out; omega) ⟨h2, h3⟩
              rw [e1, e2]; rfl
            clear hi hik
            go_wp2_with fail
            go_ret
            exact ⟨by rw [HF.out]; rfl, c1⟩
theorem place_cut (rs : List Nat) (j : Nat) (hj : j < rs.length) : ((encL rs).take ((encL (rs.take j)).length + (enc1 rs[j]).length)).drop (encL (rs.take j)).length = enc1 rs[j] := by
  have h1 : (encL (rs.take (j + 1))) = encL (rs.take j) ++ enc1 rs[j] := by
    rw [List.take_succ_eq_append_getElem hj, encL_append]; simp [encL]
  have h2 := place_take rs (j + 1)
  rw [h1, List.length_append] at h2
  rw [h2]
  exact List.drop_left
theorem writs_len (rs : List Nat) : (rs.flatMap writ).length ≤ 6 * rs.length := by
  induction rs with
  | nil => simp
  | cons c t ih => have := writ_le c; simp only [List.flatMap_cons, List.length_append, List.length_cons]; omega
set_option maxHeartbeats 4000000 in
theorem rquote_any (l : List UInt8) (w : World) (hl : l.length ≤ 1000000000) :
    Calls Tryz.prog 48 #[.string (str l)] w fun e w' => e = .returned (.tuple #[.string (str (quoteL l).1), .int .i64 (quoteL l).2]) ∧ Chg [] w w' := by
  have hsz := str_size l
  have hsg := rsigns_any l w hl
  cases hs : sigs l with
  | none =>
    rw [show quoteL l = ([], 4) by unfold quoteL; rw [hs]]
    rw [hs] at hsg
    clear hs
    go_enter Tryz.func48, Tryz.ntmps48
    go_wp2_with fail
    refine hsg.mono ?_
    rintro e w1 ⟨rfl, c1⟩
    go_wp2_with fail
    go_ret2
    exact ⟨rfl, c1⟩
  | some rs =>
    rw [show quoteL l = (quoteR rs, 0) by unfold quoteL; rw [hs]]
    rw [hs] at hsg
    obtain ⟨he, ok⟩ := sigs_enc hs
    have HE := Lib.hid he
    have HOK := Lib.hid ok
    have hge := encL_ge rs
    rw [← he] at hge
    clear he ok hs
    go_enter Tryz.func48, Tryz.ntmps48
    go_wp2_with fail
    refine hsg.mono ?_
    rintro e w1 ⟨v, rfl, hf⟩
    have c1 := hf.chg
    obtain ⟨ao, cap, rfl, hcap⟩ := hf.shape
    clear hsg hf
    go_wp2_with fail
    go_loopg [6, 7] l.length (fun k vo vp wr => ∃ (pos j : Nat), vo = .string (str ([34] ++ (rs.take j).flatMap writ)) ∧ vp = .int .i64 pos ∧ pos + k = l.length ∧ j ≤ rs.length ∧ pos = (encL (rs.take j)).length ∧ Chg [] w1 wr)
    case atStart => exact ⟨0, 0, rfl, rfl, by omega, by omega, by simp [encL], Chg.refl _ _⟩
    case round =>
      obtain ⟨pos, j, rfl, rfl, hpk, hjl, hpos, hc⟩ := hrel
      have hlt := place_lt rs j hjl
      rw [← hpos, ← HE.out] at hlt
      have hwl := writs_len (rs.take j)
      rw [List.length_take] at hwl
      have so : (str ([34] ++ (rs.take j).flatMap writ)).size ≤ 6000000001 := by rw [str_size, List.length_append]; simp only [List.length_cons, List.length_nil]; omega
      by_cases hp : pos < l.length
      · have r2 : decide ((pos : Int) < (l.length : Int)) = true := by simp; omega
        have r2' : decide (pos < l.length) = true := by simp; omega
        have hj := hlt.1 hp
        have hsg := rsign_any l pos wr hp hl
        obtain ⟨hd, hnp⟩ := place_step rs HOK.out j hj
        have hcut := place_cut rs j hj
        rw [← hpos, ← HE.out] at hd hcut
        rw [← hpos] at hnp
        have hb := not_bad_enc _ (HOK.out _ (List.getElem_mem hj))
        have hfit := dec_fits l pos hp
        rw [hd] at hfit
        simp only at hfit
        rw [hd, show goodO (rs[j], (enc1 rs[j]).length) = some (rs[j], (enc1 rs[j]).length) by unfold goodO; rw [hb]; rfl] at hsg
        have hl4 := enc1_len rs[j]
        have hc2 : rs[j] ≤ 2000000 := okR_le (HOK.out _ (List.getElem_mem hj))
        have hex := str_extract l pos (pos + (enc1 rs[j]).length)
        rw [hcut] at hex
        have hts : (rs.take (j + 1)).flatMap writ = (rs.take j).flatMap writ ++ writ rs[j] := by rw [List.take_succ_eq_append_getElem hj, List.flatMap_append]; simp
        have hap : str ([34] ++ (rs.take j).flatMap writ) ++ str (writ rs[j]) = str ([34] ++ (rs.take (j + 1)).flatMap writ) := by rw [hts, ← List.append_assoc]; exact str_app _ _
        have sw : (str (writ rs[j])).size ≤ 6 := by rw [str_size]; exact writ_le _
        have hwr := fun w' => rwritten_any rs[j] hc2 w'
        have hplain := writ_plain rs[j]
        have hspec := writ_special rs[j]
        have hrw : rwrit rs[j] = if special rs[j] then writ rs[j] else [] := rfl
        generalize (enc1 rs[j]).length = nn at *
        generalize rs[j] = c at *
        generalize [34] ++ (rs.take j).flatMap writ = out at *
        generalize ho2 : [34] ++ (rs.take (j + 1)).flatMap writ = out2 at *
        have HO := Lib.hid ho2
        clear ho2
        have HP := Lib.hid (And.intro hpk (And.intro hnp (And.intro hj hfit)))
        have hpn : (pos : Int) + (nn : Int) ≤ (l.length : Int) := by omega
        have hpn' : pos + nn ≤ l.length := by omega
        clear hd hb hlt hpk hnp hpos hj hfit hcut hts hwl
        cases hsp : special c with
        | true =>
          rw [hsp, if_pos rfl] at hrw
          obtain ⟨t, ht⟩ := hspec hsp
          have e1 : (str (writ c)).toList.isEmpty = false := by rw [str_toList, ht]; rfl
          rw [hrw] at hwr
          clear hrw ht hspec hplain hsp hex
          generalize writ c = W at *
          go_wp2_with fail
          refine hsg.mono ?_
          rintro e w2 ⟨rfl, rfl⟩
          unfold sgV
          clear hsg
          go_wp2_with fail
          refine (hwr w2).mono ?_
          rintro e w3 ⟨rfl, c3⟩
          clear hwr
          go_wp2_with fail
          go_roundg (gk - nn)
          case measure => have := HP.out; omega
          case rel => exact ⟨pos + nn, j + 1, by rw [HO.out], by go_num, by have := HP.out; omega, by have := HP.out; omega, HP.out.2.1.symm, hc.nil c3⟩
        | false =>
          rw [hsp] at hrw
          have e1 : (str (rwrit c)).toList.isEmpty = true := by rw [str_toList, hrw]; rfl
          rw [← hplain hsp] at hex
          clear hrw hspec hplain hsp
          generalize writ c = W at *
          generalize rwrit c = W0 at *
          go_wp2_with fail
          refine hsg.mono ?_
          rintro e w2 ⟨rfl, rfl⟩
          unfold sgV
          clear hsg
          go_wp2_with fail
          refine (hwr w2).mono ?_
          rintro e w3 ⟨rfl, c3⟩
          clear hwr
          go_wp2_with fail
          go_roundg (gk - nn)
          case measure => have := HP.out; omega
          case rel => exact ⟨pos + nn, j + 1, by rw [HO.out], by go_num, by have := HP.out; omega, by have := HP.out; omega, HP.out.2.1.symm, hc.nil c3⟩
      · have r2 : decide ((pos : Int) < (l.length : Int)) = false := by simp; omega
        have r2' : decide (pos < l.length) = false := by simp; omega
        have hj : rs.length ≤ j := by have := mt hlt.2 hp; omega
        have hap : str ([34] ++ (rs.take j).flatMap writ) ++ ⟨#[34]⟩ = str (quoteR rs) := by rw [List.take_of_length_le hj]; exact str_appL _ [34]
        have cw := c1.nil hc
        clear hpos hlt hj hwl
        generalize [34] ++ (rs.take j).flatMap writ = out at *
        go_wp2_with fail
        go_ret2
        exact ⟨rfl, cw⟩
end Go.Proofs.YtihoohhngiomdaaGreatDoor
