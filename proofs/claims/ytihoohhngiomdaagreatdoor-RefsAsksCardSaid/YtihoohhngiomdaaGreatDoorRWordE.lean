/- Contracts of the document's answer to chapter 2: plain, quoted. No statement of the seat is proved here. -/
import Derived.Test.YtihoohhngiomdaaGreatDoorRWordD
set_option linter.unusedVariables false
namespace Go.Aq.Wd
theorem cut_take (l : List UInt8) (p q : Nat) : (l.take q).drop p = (l.drop p).take (q - p) := by
  rw [List.drop_take]
end Go.Aq.Wd
namespace Go.Proofs.YtihoohhngiomdaaGreatDoor
open Go.RowKit Go.Aq Go.Aq.Wd
/-- What plain and quoted answer: the text where there is no error, the place, the error. -/
def wdV (t : List UInt8) (at_ e : Nat) : Value := .tuple #[.string (str (if e = 0 then t else [])), .int .i64 (at_ : Nat), .int .i64 (e : Nat)]
def plV (l : List UInt8) (p : Nat) : Value := wdV ((l.drop p).take (plainW (l.drop p)).1) (p + (plainW (l.drop p)).1) (if (plainW (l.drop p)).2 then 0 else 4)
theorem plV_true {l : List UInt8} {p q : Nat} (h : plainW (l.drop p) = (q - p, true)) (hpq : p ≤ q) : plV l p = .tuple #[.string (str ((l.drop p).take (q - p))), .int .i64 (q : Nat), .int .i64 0] := by
  have e1 : p + (q - p) = q := by omega
  simp only [plV, wdV, h, e1, if_true]; rfl
theorem plV_false {l : List UInt8} {p q : Nat} (h : plainW (l.drop p) = (q - p, false)) (hpq : p ≤ q) : plV l p = .tuple #[.string (str []), .int .i64 (q : Nat), .int .i64 4] := by
  have e1 : p + (q - p) = q := by omega
  simp only [plV, wdV, h, e1, Bool.false_eq_true, if_false]; rfl
set_option maxRecDepth 100000 in
set_option maxHeartbeats 4000000 in
theorem rplain_any (l : List UInt8) (p : Nat) (w : World) (hp : p ≤ l.length) (hl : l.length ≤ 1000000000) :
    Calls Tryz.prog 54 #[.string (str l), .int .i64 p] w fun e w' => e = .returned (plV l p) ∧ w' = w := by
  have hsz := str_size l
  have hpb : (p : Int) ≤ 1000000000 := by omega
  go_enter Tryz.func54, Tryz.ntmps54
  go_wp2_with fail
  go_loopg [7] l.length (fun k vq wr => ∃ (q : Nat), vq = .int .i64 q ∧ q + k = p + l.length ∧ p ≤ q ∧ q ≤ l.length ∧ wr = w ∧ Hid (plainW (l.drop p) = (q - p + (plainW (l.drop q)).1, (plainW (l.drop q)).2)))
  case atStart => exact ⟨p, rfl, by omega, by omega, hp, rfl, by show _ = _; rw [Nat.sub_self, Nat.zero_add]⟩
  case round =>
    obtain ⟨q, rfl, hqk, hpq, hql, rfl, HI⟩ := hrel
    have hqb : (q : Int) ≤ 1000000000 := by omega
    by_cases hq : q < l.length
    · have r1 : decide ((q : Int) < (l.length : Int)) = true := by simp; omega
      have r1' : decide (q < l.length) = true := by simp; omega
      have hr := drop_ne l q hq
      have ix := fun w' => idxS w' l q hq
      have hst := plainW_step _ hr
      have h32 := head32 _ hr
      have hhd : (l.drop q).headD 0 = l[q] := by rw [List.drop_eq_getElem_cons hq]; rfl
      have hx32 : l[q] = 32 ↔ (l[q]).toNat = 32 := ⟨fun h => by rw [h]; rfl, fun h => by rw [← u8e _ _ h]; rfl⟩
      rw [hhd, hx32] at h32
      have hsg := rsign_any l q wr hq hl
      have hfit := dec_fits l q hq
      have hdp := dec_pos (l.drop q)
      have hd1 := dec_fst (l.drop q)
      have hdd : (l.drop q).drop (dec (l.drop q)).2 = l.drop (q + (dec (l.drop q)).2) := by rw [List.drop_drop]
      rw [hdd] at hst
      clear hdd hhd hx32 hr
      have hdec32 := dec_ascii 32
      by_cases hx : (l[q]).toNat = 32
      · have hc32 := h32.2 hx
        have hbad : (bad (dec (l.drop q)) || low (dec (l.drop q)).1) = false := by
          rw [hc32, show dec (l.drop q) = ((dec (l.drop q)).1, (dec (l.drop q)).2) from rfl, hc32, not_bad 32 _ (by omega)]; rfl
        rw [hbad, hc32] at hst
        simp only [Bool.false_eq_true, if_false, if_true] at hst
        rw [hx] at ix
        have HS : Hid (plainW (l.drop p) = (q - p, true)) := by show _ = _; rw [HI.out, hst]; simp
        have hex : (str l).extract p q = str ((l.drop p).take (q - p)) := by rw [str_extract, cut_take]
        clear hst h32 hx hsg hfit hdp hd1 hc32 hbad hdec32 HI
        go_wp2_with fail
        go_ret3
        exact ⟨by rw [plV_true HS.out (by assumption)]; rfl, rfl⟩
      · have t32 : (((l[q]).toNat : Int) != 32) = true := by rw [bne_iff_ne]; omega
        have hc32 : (dec (l.drop q)).1 ≠ 32 := fun h => hx (h32.1 h)
        rw [if_neg hc32] at hst
        clear h32 hx hdec32 hc32
        generalize (l[q]).toNat = x at *
        generalize dec (l.drop q) = d at *
        obtain ⟨c, n⟩ := d
        simp only at hst hfit hdp hd1
        cases hb : bad (c, n) with
        | true =>
          rw [show goodO (c, n) = none by unfold goodO; rw [hb]; rfl] at hsg
          rw [hb] at hst
          simp only [Bool.true_or, if_true] at hst
          have HS : Hid (plainW (l.drop p) = (q - p, false)) := by show _ = _; rw [HI.out, hst]; simp
          clear hst hb hfit hdp hd1 HI
          go_wp2_with fail
          refine hsg.mono ?_
          rintro e w2 ⟨rfl, rfl⟩
          unfold sgV
          go_wp2_with fail
          go_ret3
          exact ⟨by rw [plV_false HS.out (by assumption)]; rfl, rfl⟩
        | false =>
          rw [show goodO (c, n) = some (c, n) by unfold goodO; rw [hb]; rfl] at hsg
          rw [hb] at hst
          simp only [Bool.false_or] at hst
          have hct := rcontrol_any c hd1
          cases hlow : low c with
          | true =>
            rw [hlow, if_pos rfl] at hst
            rw [hlow] at hct
            have HS : Hid (plainW (l.drop p) = (q - p, false)) := by show _ = _; rw [HI.out, hst]; simp
            clear hst hb hfit hdp HI hlow
            go_wp2_with fail
            refine hsg.mono ?_
            rintro e w2 ⟨rfl, rfl⟩
            unfold sgV
            go_wp2_with fail
            refine (hct _).mono ?_
            rintro e w3 ⟨rfl, rfl⟩
            go_wp2_with fail
            go_ret3
            exact ⟨by rw [plV_false HS.out (by assumption)]; rfl, rfl⟩
          | false =>
            rw [hlow] at hst hct
            simp only [Bool.false_eq_true, if_false] at hst
            by_cases h34 : c = 34
            · subst h34
              rw [if_pos rfl] at hst
              have HS : Hid (plainW (l.drop p) = (q - p, false)) := by show _ = _; rw [HI.out, hst]; simp
              clear hst hb hfit hdp HI hlow
              go_wp2_with fail
              refine hsg.mono ?_
              rintro e w2 ⟨rfl, rfl⟩
              unfold sgV
              go_wp2_with fail
              refine (hct _).mono ?_
              rintro e w3 ⟨rfl, rfl⟩
              go_wp2_with fail
              go_ret3
              exact ⟨by rw [plV_false HS.out (by assumption)]; rfl, rfl⟩
            · have t34 : ((c : Int) == 34) = false := by rw [beq_eq_false_iff_ne]; omega
              rw [if_neg h34] at hst
              have HS : Hid (plainW (l.drop p) = (q + n - p + (plainW (l.drop (q + n))).1, (plainW (l.drop (q + n))).2)) := by
                show _ = _
                rw [HI.out, hst]
                simp only [Prod.mk.injEq, and_true]; omega
              have HP := Lib.hid (And.intro hqk (And.intro hdp (And.intro hfit hpq)))
              have hn4 : (n : Int) ≤ 1000000000 := by omega
              clear hst hb hfit hdp HI hlow h34 hqk
              go_wp2_with fail
              refine hsg.mono ?_
              rintro e w2 ⟨rfl, rfl⟩
              unfold sgV
              go_wp2_with fail
              refine (hct _).mono ?_
              rintro e w3 ⟨rfl, rfl⟩
              go_wp2_with fail
              go_roundg (gk - n)
              case measure => have := HP.out; omega
              case rel => exact ⟨q + n, by go_num, by have := HP.out; omega, by have := HP.out; omega, by have := HP.out; omega, rfl, HS⟩
    · have r1 : decide ((q : Int) < (l.length : Int)) = false := by simp; omega
      have r1' : decide (q < l.length) = false := by simp; omega
      obtain rfl : q = l.length := by omega
      have HS : Hid (plainW (l.drop p) = (l.length - p, true)) := by show _ = _; rw [HI.out, List.drop_length, plainW_nil]; rfl
      have hex : (str l).extract p l.length = str ((l.drop p).take (l.length - p)) := by rw [str_extract, cut_take]
      clear HI hq
      go_wp2_with fail
      go_ret3
      exact ⟨by rw [plV_true HS.out (by assumption)]; rfl, rfl⟩
end Go.Proofs.YtihoohhngiomdaaGreatDoor
