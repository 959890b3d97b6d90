/- Contracts of the document's answer to chapter 2: quoted. No statement of the seat is proved here. -/
import Derived.Test.YtihoohhngiomdaaGreatDoorRWordE
set_option linter.unusedVariables false
namespace Go.Proofs.YtihoohhngiomdaaGreatDoor
open Go.RowKit Go.Aq Go.Aq.Wd
def qtV (l : List UInt8) (p : Nat) : Value := wdV (quotW (l.drop (p + 1))).1 (p + 1 + (quotW (l.drop (p + 1))).2.1) (quotW (l.drop (p + 1))).2.2
theorem qtV_ok {l : List UInt8} {p q : Nat} {t : List UInt8} (h : quotW (l.drop (p + 1)) = (t, q - (p + 1), 0)) (hpq : p + 1 ≤ q) : qtV l p = .tuple #[.string (str t), .int .i64 (q : Nat), .int .i64 0] := by
  have e1 : p + 1 + (q - (p + 1)) = q := by omega
  simp only [qtV, wdV, h, e1, if_true]; rfl
theorem qtV_err {l : List UInt8} {p q e : Nat} (h : (quotW (l.drop (p + 1))).2 = (q - (p + 1), e)) (he : e ≠ 0) (hpq : p + 1 ≤ q) : qtV l p = .tuple #[.string (str []), .int .i64 (q : Nat), .int .i64 (e : Nat)] := by
  have e1 : p + 1 + (q - (p + 1)) = q := by omega
  simp only [qtV, wdV, h, e1, if_neg he]
set_option maxRecDepth 100000 in
set_option maxHeartbeats 8000000 in
theorem rquoted_any (l : List UInt8) (p : Nat) (w : World) (hp : p < l.length) (hl : l.length ≤ 1000000000) :
    Calls Tryz.prog 53 #[.string (str l), .int .i64 p] w fun e w' => e = .returned (qtV l p) ∧ Chg [] w w' := by
  have hsz := str_size l
  have hpb : (p : Int) ≤ 1000000000 := by omega
  go_enter Tryz.func53, Tryz.ntmps53
  go_wp2_with fail
  go_loopg [7, 8] l.length (fun k vo vq wr => ∃ (q : Nat) (acc : List UInt8), vo = .string (str acc) ∧ vq = .int .i64 q ∧ q + k = p + 1 + l.length ∧ p + 1 ≤ q ∧ q ≤ l.length ∧ acc.length ≤ 4 * q ∧ Chg [] w wr ∧
    Hid (quotW (l.drop (p + 1)) = (acc ++ (quotW (l.drop q)).1, q - (p + 1) + (quotW (l.drop q)).2.1, (quotW (l.drop q)).2.2)))
  case atStart => exact ⟨p + 1, [], rfl, by go_num, by omega, by omega, by omega, by simp, Chg.refl _ _, by show _ = _; simp⟩
  case round =>
    obtain ⟨q, acc, rfl, rfl, hqk, hpq, hql, hacc, hc, HI⟩ := hrel
    have hqb : (q : Int) ≤ 1000000000 := by omega
    have hsa := str_size acc
    by_cases hq : q < l.length
    · have r1 : decide ((q : Int) < (l.length : Int)) = true := by simp; omega
      have r1' : decide (q < l.length) = true := by simp; omega
      have hr := drop_ne l q hq
      have hst := quotW_step _ hr
      have hsg := rsign_any l q wr hq hl
      have hfit := dec_fits l q hq
      have hdp := dec_pos (l.drop q)
      have hd1 := dec_fst (l.drop q)
      have hgood := dec_good _ hr
      have hdd : ∀ m, (l.drop q).drop m = l.drop (q + m) := fun m => by rw [List.drop_drop]
      have hrl : (l.drop q).length = l.length - q := List.length_drop
      simp only [hdd] at hst
      clear hr
      cases hb : bad (dec (l.drop q)) with
      | true =>
        rw [show goodO (dec (l.drop q)) = none by unfold goodO; rw [hb]; rfl] at hsg
        rw [hb] at hst
        simp only [Bool.true_or, if_true] at hst
        have HS : Hid ((quotW (l.drop (p + 1))).2 = (q - (p + 1), 4)) := by show _ = _; rw [HI.out, hst]; simp
        clear hst hb hfit hdp HI hd1 hgood hdd hrl
        go_wp2_with fail
        refine hsg.mono ?_
        rintro e w2 ⟨rfl, rfl⟩
        unfold sgV
        go_wp2_with fail
        go_ret3
        exact ⟨by rw [qtV_err HS.out (by decide) (by assumption)]; rfl, hc⟩
      | false =>
        obtain ⟨hokc, hn, hlq⟩ := hgood hb
        rw [show goodO (dec (l.drop q)) = some (dec (l.drop q)) by unfold goodO; rw [hb]; rfl] at hsg
        rw [hb] at hst
        simp only [Bool.false_or] at hst
        have hcut : (l.take (q + (dec (l.drop q)).2)).drop q = enc1 (dec (l.drop q)).1 := by
          rw [cut_take, Nat.add_sub_cancel_left, hlq.trans rfl]
          have : (enc1 (dec (l.drop q)).1 ++ List.drop (dec (l.drop q)).2 (l.drop q)).take (dec (l.drop q)).2 = enc1 (dec (l.drop q)).1 := by
            conv => lhs; arg 1; rw [hn]
            exact List.take_left
          rw [← hlq]; rw [← hlq] at this; exact this
        generalize dec (l.drop q) = d at *
        obtain ⟨c, n⟩ := d
        simp only at hst hfit hdp hd1 hokc hcut
        have hct := rcontrol_any c hd1
        have hex := str_extract l q (q + n)
        rw [hcut] at hex
        clear hgood hb hn hlq hcut
        cases hlow : low c with
        | true =>
          rw [hlow, if_pos rfl] at hst
          rw [hlow] at hct
          have HS : Hid ((quotW (l.drop (p + 1))).2 = (q - (p + 1), 4)) := by show _ = _; rw [HI.out, hst]; simp
          clear hst hfit hdp HI hlow hdd hrl hokc hex
          go_wp2_with fail
          refine hsg.mono ?_
          rintro e w2 ⟨rfl, rfl⟩
          unfold sgV
          go_wp2_with fail
          refine (hct _).mono ?_
          rintro e w3 ⟨rfl, rfl⟩
          go_wp2_with fail
          go_ret3
          exact ⟨by rw [qtV_err HS.out (by decide) (by assumption)]; rfl, hc⟩
        | false =>
          rw [hlow] at hst hct
          simp only [Bool.false_eq_true, if_false] at hst
          by_cases h34 : c = 34
          · subst h34
            rw [if_pos rfl] at hst
            have HS : Hid (quotW (l.drop (p + 1)) = (acc, q + 1 - (p + 1), 0)) := by
              show _ = _; rw [HI.out, hst]; simp only [List.append_nil, Prod.mk.injEq, true_and, and_true]; omega
            clear hst hfit hdp HI hlow hdd hrl hokc hex
            have hpq2 : p + 1 ≤ q + 1 := by omega
            go_wp2_with fail
            refine hsg.mono ?_
            rintro e w2 ⟨rfl, rfl⟩
            unfold sgV
            go_wp2_with fail
            refine (hct _).mono ?_
            rintro e w3 ⟨rfl, rfl⟩
            go_wp2_with fail
            go_ret3
            exact ⟨by rw [qtV_ok HS.out hpq2]; rfl, hc⟩
          · have t34 : ((c : Int) == 34) = false := by rw [beq_eq_false_iff_ne]; omega
            rw [if_neg h34] at hst
            by_cases h92 : c = 92
            · subst h92
              rw [if_pos rfl] at hst
              have hes := fun w' => rescape_any l q w' hql hl
              have hso := escO_some (l.drop q)
              have hrs : rescL (l.drop q) = match escO (l.drop q) with | some k => (k, (writ k).length, 0) | none => if escShort (l.drop q) then (0, 0, 2) else (0, 0, 4) := rfl
              cases ho : escO (l.drop q) with
              | some k =>
                rw [ho] at hst hrs
                simp only at hst hrs
                obtain ⟨hk1, hk2⟩ := hso k ho
                have hk160 := special_lt k ((mem_escs k).1 hk1)
                have hwl := (List.isPrefixOf_iff_prefix.1 hk2).length_le
                have hw1 : 1 ≤ (writ k).length := List.length_pos_iff.2 (writ_ne k)
                have hw6 := writ_le k
                rw [hrl] at hwl
                rw [hrs] at hes
                have htx := fun w' => rtextc_any k hk160 w'
                have hap : str acc ++ str (enc1 k) = str (acc ++ enc1 k) := str_app _ _
                have hek := enc1_len k
                have hse := str_size (enc1 k)
                have HS : Hid (quotW (l.drop (p + 1)) = (acc ++ enc1 k ++ (quotW (l.drop (q + (writ k).length))).1, q + (writ k).length - (p + 1) + (quotW (l.drop (q + (writ k).length))).2.1, (quotW (l.drop (q + (writ k).length))).2.2)) := by
                  show _ = _; rw [HI.out, hst]; simp only [List.append_assoc, Prod.mk.injEq, and_true, true_and]; omega
                have hacc2 : (acc ++ enc1 k).length ≤ 4 * (q + (writ k).length) := by rw [List.length_append]; omega
                have HP := Lib.hid (And.intro hqk (And.intro hw1 (And.intro hwl (And.intro hpq hacc2))))
                have hk2b : (k : Int) < 160 := by omega
                have hse2 : (str (enc1 k)).size ≤ 4 := by omega
                clear hst hfit hdp HI hlow hdd hrl hokc hex h34 hso ho hk1 hk2 hwl hw1 hqk hrs hek hse hacc2
                generalize (writ k).length = m at *
                generalize enc1 k = E at *
                generalize acc ++ E = acc2 at *
                go_wp2_with fail
                refine hsg.mono ?_
                rintro e w2 ⟨rfl, rfl⟩
                unfold sgV
                go_wp2_with fail
                refine (hct _).mono ?_
                rintro e w3 ⟨rfl, rfl⟩
                clear hsg hct
                go_wp2_with fail
                refine (hes _).mono ?_
                rintro e w4 ⟨rfl, c4⟩
                clear hes
                go_wp2_with fail
                refine (htx _).mono ?_
                rintro e w5 ⟨rfl, c5⟩
                clear htx
                go_wp2_with fail
                go_roundg (gk - m)
                case measure => have := HP.out; omega
                case rel => exact ⟨q + m, acc2, rfl, by go_num, by have := HP.out; omega, by have := HP.out; omega, by have := HP.out; omega, by have := HP.out; omega, (hc.nil c4).nil c5, HS⟩
              | none =>
                rw [ho] at hst hrs
                simp only at hst hrs
                cases hsh : escShort (l.drop q) with
                | true =>
                  rw [hsh, if_pos rfl] at hst hrs
                  rw [hrs] at hes
                  have HS : Hid ((quotW (l.drop (p + 1))).2 = (l.length - (p + 1), 2)) := by
                    show _ = _; rw [HI.out, hst]; simp only [Prod.mk.injEq, and_true]; omega
                  have hpl : p + 1 ≤ l.length := by omega
                  clear hst hfit hdp HI hlow hdd hrl hokc hex h34 hso ho hsh hqk hrs
                  go_wp2_with fail
                  refine hsg.mono ?_
                  rintro e w2 ⟨rfl, rfl⟩
                  unfold sgV
                  go_wp2_with fail
                  refine (hct _).mono ?_
                  rintro e w3 ⟨rfl, rfl⟩
                  clear hsg hct
                  go_wp2_with fail
                  refine (hes _).mono ?_
                  rintro e w4 ⟨rfl, c4⟩
                  clear hes
                  go_wp2_with fail
                  go_ret3
                  exact ⟨by rw [qtV_err HS.out (by decide) hpl]; rfl, hc.nil c4⟩
                | false =>
                  rw [hsh] at hst hrs
                  simp only [Bool.false_eq_true, if_false] at hst hrs
                  rw [hrs] at hes
                  have HS : Hid ((quotW (l.drop (p + 1))).2 = (q - (p + 1), 4)) := by show _ = _; rw [HI.out, hst]; simp
                  clear hst hfit hdp HI hlow hdd hrl hokc hex h34 hso ho hsh hqk hrs
                  go_wp2_with fail
                  refine hsg.mono ?_
                  rintro e w2 ⟨rfl, rfl⟩
                  unfold sgV
                  go_wp2_with fail
                  refine (hct _).mono ?_
                  rintro e w3 ⟨rfl, rfl⟩
                  clear hsg hct
                  go_wp2_with fail
                  refine (hes _).mono ?_
                  rintro e w4 ⟨rfl, c4⟩
                  clear hes
                  go_wp2_with fail
                  go_ret3
                  exact ⟨by rw [qtV_err HS.out (by decide) (by assumption)]; rfl, hc.nil c4⟩
            · have t92 : ((c : Int) == 92) = false := by rw [beq_eq_false_iff_ne]; omega
              rw [if_neg h92] at hst
              have hap : str acc ++ str (enc1 c) = str (acc ++ enc1 c) := str_app _ _
              have hek := enc1_len c
              have hse : (str (enc1 c)).size ≤ 4 := by rw [str_size]; omega
              have HS : Hid (quotW (l.drop (p + 1)) = (acc ++ enc1 c ++ (quotW (l.drop (q + n))).1, q + n - (p + 1) + (quotW (l.drop (q + n))).2.1, (quotW (l.drop (q + n))).2.2)) := by
                show _ = _; rw [HI.out, hst]; simp only [List.append_assoc, Prod.mk.injEq, and_true, true_and]; omega
              have hacc2 : (acc ++ enc1 c).length ≤ 4 * (q + n) := by rw [List.length_append]; omega
              have HP := Lib.hid (And.intro hqk (And.intro hdp (And.intro hfit (And.intro hpq hacc2))))
              have hpn : q + n ≤ l.length := hfit
              clear hst hdp HI hlow hdd hrl hokc h34 h92 hqk hek hacc2 hfit
              generalize enc1 c = E at *
              generalize acc ++ E = acc2 at *
              go_wp2_with fail
              refine hsg.mono ?_
              rintro e w2 ⟨rfl, rfl⟩
              unfold sgV
              go_wp2_with fail
              refine (hct _).mono ?_
              rintro e w3 ⟨rfl, rfl⟩
              clear hsg hct
              go_wp2_with fail
              go_roundg (gk - n)
              case measure => have := HP.out; omega
              case rel => exact ⟨q + n, acc2, rfl, by go_num, by have := HP.out; omega, by have := HP.out; omega, by have := HP.out; omega, by have := HP.out; omega, hc, HS⟩
    · have r1 : decide ((q : Int) < (l.length : Int)) = false := by simp; omega
      have r1' : decide (q < l.length) = false := by simp; omega
      obtain rfl : q = l.length := by omega
      have HS : Hid ((quotW (l.drop (p + 1))).2 = (l.length - (p + 1), 2)) := by show _ = _; rw [HI.out, List.drop_length, quotW_nil]; rfl
      clear HI hq
      go_wp2_with fail
      go_ret3
      exact ⟨by rw [qtV_err HS.out (by decide) (by assumption)]; rfl, hc⟩
end Go.Proofs.YtihoohhngiomdaaGreatDoor
