/- Contracts of the reader's methods plain, escape. No statement of the seat is proved here. -/
import Derived.Test.YtihoohhngiomdaaDoorWordF
set_option linter.unusedVariables false
namespace Go.Aq.Wd
def plainE (r : List UInt8) : Nat := if (plainW r).2 then 0 else 4
theorem plain_at (r : List UInt8) (h : r ≠ []) (hg : (bad (dec r) || low (dec r).1) = false) (h32 : (dec r).1 ≠ 32) (h34 : (dec r).1 ≠ 34) :
    plainW r = ((dec r).2 + (plainW (r.drop (dec r).2)).1, (plainW (r.drop (dec r).2)).2) := by
  rw [plainW_step r h, hg, if_neg (by simp), if_neg h32, if_neg h34]
end Go.Aq.Wd
namespace Go.Proofs.YtihoohhngiomdaaDoor
open Go.RowKit Go.Aq Go.Aq.Wd
/-- No block of the library's variables. -/
def Off (R : Nat) : Prop := R ≠ 1 ∧ R ≠ 2 ∧ R ≠ 0 ∧ R ≠ 5
theorem Tabs.off {w : World} (h : Tabs w) {R : Nat} (hR : w.heap.size ≤ R) : Off R := by
  obtain ⟨⟨h1, h2⟩, ⟨m, h3⟩, h4⟩ := h
  have a1 := World.block_lt_of_cell? w _ (h1 0 (by decide))
  have a2 := World.block_lt_of_cell? w _ (h2 0 (by decide)).1
  have a3 := World.block_lt_of_cell? w _ h3
  have a4 := World.block_lt_of_cell? w _ h4
  simp only at a1 a2 a3 a4
  refine ⟨?_, ?_, ?_, ?_⟩ <;> omega
theorem Tabs.chgR {w w' : World} {R : Nat} (h : Tabs w) (c : Chg [R] w w') (hR : Off R) : Tabs w' := by
  obtain ⟨⟨h1, h2⟩, ⟨m, h3⟩, h4⟩ := h
  obtain ⟨r1, r2, r3, r4⟩ := hR
  exact ⟨⟨fun i hi => c.cell_some (h1 i hi) (by simp; omega), fun i hi => ⟨c.cell_some (h2 i hi).1 (by simp; omega), c.cell_some (h2 i hi).2 (by simp; omega)⟩⟩, ⟨m, c.cell_some h3 (by simp; omega)⟩, c.cell_some h4 (by simp; omega)⟩
set_option maxHeartbeats 2000000 in
theorem plain_any (w : World) (hT : Tabs w) (R : Nat) (hoff : Off R) (l : List UInt8) (p : Nat) (h : Rd w R l p 0) (hp : p ≤ l.length) (hl : l.length ≤ 1000000000) :
    Calls Tryd.prog 59 #[.pointer (some ⟨R, 0, none⟩)] w fun x w' => x = .returned (.string (str ((l.drop p).take (plainW (l.drop p)).1))) ∧ Rd w' R l (p + (plainW (l.drop p)).1) (plainE (l.drop p)) ∧ Chg [R] w w' := by
  have hsz := str_size l
  have c1 : w.cell? ⟨R, 1, none⟩ = some (.int .i64 (p : Nat)) := Blk.cell h 1
  have hRlt := Blk.lt h
  go_enter Tryd.func59, Tryd.ntmps59
  go_wp2_with fail
  go_loopg [] (l.length - p) (fun k wr => ∃ (q : Nat), q + k = l.length ∧ p ≤ q ∧ q ≤ l.length ∧ Rd wr R l q 0 ∧ Chg [R] w wr ∧ plainW (l.drop p) = (q - p + (plainW (l.drop q)).1, (plainW (l.drop q)).2))
  case atStart => exact ⟨p, by omega, by omega, hp, h, Chg.refl _ _, by simp⟩
  case round =>
    obtain ⟨q, hqk, hpq, hql, hR, hc, hpl⟩ := hrel
    have c2 : wr.cell? ⟨R, 2, none⟩ = some (.int .i64 (0 : Nat)) := Blk.cell hR 2
    have hTr : Tabs wr := hT.chgR hc hoff
    have hsg := sign_any wr hTr R l q 0 hR hql hl
    have hex : (str l).extract p q = str ((l.drop p).take (q - p)) := by rw [str_extract, List.drop_take]
    have hpi : (p : Int) ≤ (q : Int) := by omega
    have hqi : (q : Int) ≤ (l.length : Int) := by omega
    have hS : sgnR (l.drop q) 0 = if l.drop q = [] then (65533, 0, 0) else if bad (dec (l.drop q)) || low (dec (l.drop q)).1 then (0, 0, 4) else ((dec (l.drop q)).1, (dec (l.drop q)).2, 0) := rfl
    by_cases hr : l.drop q = []
    · rw [if_pos hr] at hS
      rw [hS] at hsg
      rw [hr, plainW_nil] at hpl
      simp only [Nat.add_zero] at hpl
      have hX : (l.drop p).take (plainW (l.drop p)).1 = (l.drop p).take (q - p) ∧ p + (plainW (l.drop p)).1 = q ∧ plainE (l.drop p) = 0 := by unfold plainE; rw [hpl]; exact ⟨rfl, by simp only; omega, rfl⟩
      have HX := Lib.hid hX
      clear hX hpl hS hr hR
      go_wp2_with fail
      refine hsg.mono ?_
      rintro e w2 ⟨rfl, hR2, c3⟩
      have hc2 := hc.tr c3
      have d0 : w2.cell? ⟨R, 0, none⟩ = some (.string (str l)) := Blk.cell hR2 0
      have d1 : w2.cell? ⟨R, 1, none⟩ = some (.int .i64 (q : Nat)) := Blk.cell hR2 1
      go_wp2_with fail
      go_quiet (fail)
      have hRq : Rd (w2.drewN nq) R l q 0 := hR2
      have hcq := hc2.drewN nq
      go_wp2_with fail
      go_ret
      exact ⟨by rw [HX.out.1]; rfl, by rw [HX.out.2.1, HX.out.2.2]; exact hRq, hcq⟩
    · rw [if_neg hr] at hS
      have hd1 := dec_fst (l.drop q)
      have hdp := dec_pos (l.drop q)
      have hle := dec_le _ hr
      rw [List.length_drop] at hle
      have hpw := plainW_step _ hr
      cases hbl : (bad (dec (l.drop q)) || low (dec (l.drop q)).1) with
      | true =>
        rw [hbl, if_pos rfl] at hS hpw
        rw [hS] at hsg
        rw [hpw] at hpl
        simp only [Nat.add_zero] at hpl
        have hX : (l.drop p).take (plainW (l.drop p)).1 = (l.drop p).take (q - p) ∧ p + (plainW (l.drop p)).1 = q ∧ plainE (l.drop p) = 4 := by unfold plainE; rw [hpl]; exact ⟨rfl, by simp only; omega, rfl⟩
        have HX := Lib.hid hX
        clear hX hpl hS hr hR hbl hpw hd1 hdp hle
        go_wp2_with fail
        refine hsg.mono ?_
        rintro e w2 ⟨rfl, hR2, c3⟩
        have hc2 := hc.tr c3
        have d0 : w2.cell? ⟨R, 0, none⟩ = some (.string (str l)) := Blk.cell hR2 0
        have d1 : w2.cell? ⟨R, 1, none⟩ = some (.int .i64 (q : Nat)) := Blk.cell hR2 1
        go_wp2_with fail
        go_quiet (fail)
        have hRq : Rd (w2.drewN nq) R l q 4 := hR2
        have hcq := hc2.drewN nq
        go_wp2_with fail
        go_ret
        exact ⟨by rw [HX.out.1]; rfl, by rw [HX.out.2.1, HX.out.2.2]; exact hRq, hcq⟩
      | false =>
        have hnx : ((l.drop q).drop (dec (l.drop q)).2) = l.drop (q + (dec (l.drop q)).2) := by rw [List.drop_drop]
        rw [hbl, if_neg (by simp)] at hS hpw
        rw [hS] at hsg
        rw [hnx] at hpw
        clear hnx hbl hS
        generalize dec (l.drop q) = d at *
        obtain ⟨c, n⟩ := d
        simp only at hd1 hdp hle hpw hsg
        have t0 : ((n : Int) == 0) = false := by simp; omega
        by_cases h32 : c = 32
        · rw [if_pos h32] at hpw
          rw [hpw] at hpl
          simp only [Nat.add_zero] at hpl
          have hX : (l.drop p).take (plainW (l.drop p)).1 = (l.drop p).take (q - p) ∧ p + (plainW (l.drop p)).1 = q ∧ plainE (l.drop p) = 0 := by unfold plainE; rw [hpl]; exact ⟨rfl, by simp only; omega, rfl⟩
          have HX := Lib.hid hX
          subst h32
          clear hX hpl hr hR hpw hd1 hdp hle
          go_wp2_with fail
          refine hsg.mono ?_
          rintro e w2 ⟨rfl, hR2, c3⟩
          have hc2 := hc.tr c3
          have d0 : w2.cell? ⟨R, 0, none⟩ = some (.string (str l)) := Blk.cell hR2 0
          have d1 : w2.cell? ⟨R, 1, none⟩ = some (.int .i64 (q : Nat)) := Blk.cell hR2 1
          go_wp2_with fail
          go_quiet (fail)
          have hRq : Rd (w2.drewN nq) R l q 0 := hR2
          have hcq := hc2.drewN nq
          go_wp2_with fail
          go_ret
          exact ⟨by rw [HX.out.1]; rfl, by rw [HX.out.2.1, HX.out.2.2]; exact hRq, hcq⟩
        · have t32 : ((c : Int) == 32) = false := by simp; omega
          rw [if_neg h32] at hpw
          by_cases h34 : c = 34
          · rw [if_pos h34] at hpw
            rw [hpw] at hpl
            simp only [Nat.add_zero] at hpl
            have hX : (l.drop p).take (plainW (l.drop p)).1 = (l.drop p).take (q - p) ∧ p + (plainW (l.drop p)).1 = q ∧ plainE (l.drop p) = 4 := by unfold plainE; rw [hpl]; exact ⟨rfl, by simp only; omega, rfl⟩
            have HX := Lib.hid hX
            subst h34
            clear hX hpl hr hR hpw hd1 hdp hle t32 h32
            go_wp2_with fail
            refine hsg.mono ?_
            rintro e w2 ⟨rfl, hR2, c3⟩
            go_wp2_with fail
            refine (fail_any w2 R l q 0 4 hR2).mono ?_
            rintro e w3 ⟨rfl, hR3, c4⟩
            have hc2 := (hc.tr c3).tr c4
            have d0 : w3.cell? ⟨R, 0, none⟩ = some (.string (str l)) := Blk.cell hR3 0
            have d1 : w3.cell? ⟨R, 1, none⟩ = some (.int .i64 (q : Nat)) := Blk.cell hR3 1
            go_wp2_with fail
            go_quiet (fail)
            have hRq : Rd (w3.drewN nq) R l q 4 := hR3
            have hcq := hc2.drewN nq
            go_wp2_with fail
            go_ret
            exact ⟨by rw [HX.out.1]; rfl, by rw [HX.out.2.1, HX.out.2.2]; exact hRq, hcq⟩
          · have t34 : ((c : Int) == 34) = false := by simp; omega
            rw [if_neg h34] at hpw
            rw [hpw] at hpl
            simp only at hpl
            have HPL := Lib.hid hpl
            have HQ := Lib.hid hqk
            clear hpl hr hR hpw hqk h32 h34
            go_wp2_with fail
            refine hsg.mono ?_
            rintro e w2 ⟨rfl, hR2, c3⟩
            have hc2 := hc.tr c3
            have d1 : w2.cell? ⟨R, 1, none⟩ = some (.int .i64 (q : Nat)) := Blk.cell hR2 1
            have f1 := Blk.frozen hR2 1
            have hR3 := Blk.set hR2 1 (.int .i64 ((q + n : Nat) : Int))
            have hc3 := hc2.setCell (p := ⟨R, 1, none⟩) (by simp) (.int .i64 ((q + n : Nat) : Int))
            have e1 : ((q + n : Nat) : Int) = (q : Int) + (n : Int) := by omega
            rw [e1] at hR3 hc3
            have hni : (n : Int) ≤ 4 := by omega
            go_wp2_with fail
            go_roundg (gk - n)
            case measure => have := HQ.out; omega
            case rel =>
              refine ⟨q + n, by have := HQ.out; omega, by omega, by omega, ?_, hc3, ?_⟩
              · unfold Rd; rw [e1]; exact hR3
              · rw [HPL.out]; congr 1; omega
end Go.Proofs.YtihoohhngiomdaaDoor
