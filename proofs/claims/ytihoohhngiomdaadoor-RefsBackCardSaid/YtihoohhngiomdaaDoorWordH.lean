/- Contract of the reader's method escape. No statement of the seat is proved here. -/
import Derived.Test.YtihoohhngiomdaaDoorWordG
set_option linter.unusedVariables false
namespace Go.Aq.Wd
theorem escs_len : escs.length = 67 := rfl
theorem escs_ok : ∀ c ∈ escs, okR c := by decide +kernel
theorem Rs_get (l : List Nat) (i : Nat) (h : i < l.length) : (Rs l)[i]? = some (.int .i32 ((l[i]'h : Nat) : Int)) := by simp [Rs, h]
/-- What an escape gives: the sign, the place, the error. -/
def escR (l : List UInt8) (p : Nat) : Nat × Nat × Nat := match escO (l.drop p) with
  | some k => (k, p + (writ k).length, 0)
  | none => if escShort (l.drop p) then (0, l.length, 2) else (0, p, 4)
end Go.Aq.Wd
namespace Go.Proofs.YtihoohhngiomdaaDoor
open Go.RowKit Go.Aq Go.Aq.Wd
theorem pre_any (s p : List UInt8) (w : World) : Calls Tryd.prog 81 #[.string (str s), .string (str p)] w fun e w' => e = .returned (.bool (p.isPrefixOf s)) ∧ w' = w := by
  have h := Tryd.strings_HasPrefix (str s) (str p) w
  exact h
set_option maxHeartbeats 2000000 in
theorem escape_any (w : World) (hT : Tabs w) (R : Nat) (hoff : Off R) (l : List UInt8) (p : Nat) (h : Rd w R l p 0) (hp : p ≤ l.length) (hl : l.length ≤ 1000000000) :
    Calls Tryd.prog 72 #[.pointer (some ⟨R, 0, none⟩)] w fun x w' => x = .returned (.int .i32 (escR l p).1) ∧ Rd w' R l (escR l p).2.1 (escR l p).2.2 ∧ Chg [R] w w' := by
  have hsz := str_size l
  have he := str_from l p
  have hpi : (p : Int) ≤ (l.length : Int) := by omega
  have c0 : w.cell? ⟨R, 0, none⟩ = some (.string (str l)) := Blk.cell h 0
  have c1 : w.cell? ⟨R, 1, none⟩ = some (.int .i64 (p : Nat)) := Blk.cell h 1
  have hE : ∀ k, escO (l.drop p) = some k → escR l p = (k, p + (writ k).length, 0) := fun k hk => by unfold escR; rw [hk]
  have hN : escO (l.drop p) = none → escR l p = if escShort (l.drop p) then (0, l.length, 2) else (0, p, 4) := fun hk => by unfold escR; rw [hk]
  have HE := Lib.hid hE
  have HN := Lib.hid hN
  clear hE hN
  generalize l.drop p = r at *
  go_enter Tryd.func72, Tryd.ntmps72
  go_wp2_with fail
  go_quiet (fail)
  have hR1 : Rd (w.drewN nq) R l p 0 := h
  have hc1 := (Chg.refl [] w).drewN nq
  clear h c0 c1
  generalize w.drewN nq = w1 at *
  go_wp2_with fail
  refine (escapes_any w1).mono ?_
  rintro e w2 ⟨v, rfl, hf⟩
  have hR2 : Rd w2 R l p 0 := Blk.chg0 hR1 hf.chg
  have hc2 := hc1.nil hf.chg
  obtain ⟨g, cap, hv, hcap, -, -⟩ := hf.own.pos (by omega)
  subst hv
  have hown := hf.own
  clear hR1 hc1 hf
  go_wp2_with fail
  go_loopg [4, 19] 67 (fun k vs vi wr => ∃ (i : Nat) (b : Bool), vi = .int .i64 i ∧ vs = .bool b ∧ i + k = 67 ∧ b = ((escs.take i).any fun c => r.isPrefixOf (writ c)) ∧ (∀ c ∈ escs.take i, (writ c).isPrefixOf r = false) ∧ Chg [] w2 wr)
  case atStart => exact ⟨0, false, rfl, rfl, by omega, rfl, by simp, Chg.refl _ _⟩
  case round =>
    obtain ⟨i, b, rfl, rfl, hik, hb, hno, hc⟩ := hrel
    have hR3 : Rd wr R l p 0 := Blk.chg0 hR2 hc
    have hTr : Tabs wr := hT.chg (hc2.nil hc)
    by_cases hi : i < 67
    · have hil : i < escs.length := hi
      have t1 : decide ((i : Int) < 67) = true := by simp; omega
      have ii : (i : Int) < 67 := by omega
      have x0 : wr.cell? ⟨g, i, none⟩ = some (.int .i32 ((escs[i]'hil : Nat) : Int)) := by
        rw [(hown.chg hc (fun _ _ => by simp)).cellAt i (by omega), Rs_get _ _ hil]
      have hmem := List.getElem_mem hil
      have hokc := escs_ok _ hmem
      have hts := List.take_succ_eq_append_getElem hil
      have his := escO_is r (escs[i]'hil) hmem
      generalize escs[i]'hil = c at *
      have hwa := written_any c hokc wr hTr
      have hwl := writ_len c
      have hws := str_size (writ c)
      have HB := Lib.hid hb
      have HNO := Lib.hid hno
      have HTS := Lib.hid hts
      have HIK := Lib.hid hik
      have HIS := Lib.hid his
      clear hb hno hts hik his hmem
      cases hpre : (writ c).isPrefixOf r with
      | true =>
        have hER := HE.out c (HIS.out hpre)
        have HER := Lib.hid hER
        clear hER
        go_wp2_with fail
        refine hwa.mono ?_
        rintro e w3 ⟨rfl, c3⟩
        have hR4 : Rd w3 R l p 0 := Blk.chg0 hR3 c3
        have hc4 := (hc2.nil hc).nil c3
        generalize writ c = W at *
        go_wp2_with fail
        refine (pre_any r W w3).mono ?_
        rintro e w4 ⟨rfl, rfl⟩
        rw [hpre]
        have d1 : w4.cell? ⟨R, 1, none⟩ = some (.int .i64 (p : Nat)) := Blk.cell hR4 1
        have f1 := Blk.frozen hR4 1
        have hR5 := Blk.set hR4 1 (.int .i64 ((p + W.length : Nat) : Int))
        have hc5 := (hc4.toS (S := [R])).setCell (p := ⟨R, 1, none⟩) (by simp) (.int .i64 ((p + W.length : Nat) : Int))
        have e1 : ((p + W.length : Nat) : Int) = (p : Int) + (W.length : Int) := by omega
        rw [e1] at hR5 hc5
        have hwi : (W.length : Int) ≤ 6 := by omega
        have hpb : (p : Int) ≤ 1000000000 := by omega
        go_wp2_with fail
        go_ret
        refine ⟨by rw [HER.out]; rfl, ?_, hc5⟩
        rw [HER.out]
        unfold Rd
        rw [e1]
        exact hR5
      | false =>
        have hno' : ∀ x ∈ escs.take (i + 1), (writ x).isPrefixOf r = false := by
          rw [HTS.out]
          intro x hx
          rcases List.mem_append.1 hx with hx | hx
          · exact HNO.out x hx
          · simp only [List.mem_singleton] at hx; rw [hx]; exact hpre
        have hany : ((escs.take (i + 1)).any fun c => r.isPrefixOf (writ c)) = (b || r.isPrefixOf (writ c)) := by rw [HTS.out, List.any_append, ← HB.out]; simp
        have HNO2 := Lib.hid hno'
        have HANY := Lib.hid hany
        clear hno' hany HIS HNO HTS
        generalize writ c = W at *
        go_wp2_with fail
        refine hwa.mono ?_
        rintro e w3 ⟨rfl, c3⟩
        have hc4 := hc.nil c3
        go_wp2_with fail
        refine (pre_any r W w3).mono ?_
        rintro e w4 ⟨rfl, rfl⟩
        rw [hpre]
        cases b with
        | true =>
          go_wp2_with fail
          go_roundg (gk - 1)
          case measure => have := HIK.out; omega
          case rel => exact ⟨i + 1, true, by go_num, rfl, by have := HIK.out; omega, by rw [HANY.out]; rfl, HNO2.out, hc4⟩
        | false =>
          go_wp2_with fail
          refine (pre_any W r w4).mono ?_
          rintro e w5 ⟨rfl, rfl⟩
          go_wp2_with fail
          go_roundg (gk - 1)
          case measure => have := HIK.out; omega
          case rel => exact ⟨i + 1, _, by go_num, rfl, by have := HIK.out; omega, by rw [HANY.out]; rfl, HNO2.out, hc4⟩
    · have h67 : i = 67 := by omega
      subst h67
      have htk : escs.take 67 = escs := rfl
      rw [htk] at hb hno
      have hsh : b = escShort r := hb
      have hER := HN.out ((escO_none r).2 hno)
      rw [← hsh] at hER
      have HER := Lib.hid hER
      have hcw := hc2.nil hc
      have t1 : decide ((67 : Int) < 67) = false := rfl
      clear hER hsh hb hno hik htk
      cases b with
      | true =>
        have d0 : wr.cell? ⟨R, 0, none⟩ = some (.string (str l)) := Blk.cell hR3 0
        have d1 : wr.cell? ⟨R, 1, none⟩ = some (.int .i64 (p : Nat)) := Blk.cell hR3 1
        have f1 := Blk.frozen hR3 1
        have hR5 : Rd (wr.setCell ⟨R, 1, none⟩ (.int .i64 (l.length : Nat))) R l l.length 0 := Blk.set hR3 1 (.int .i64 ((l.length : Nat) : Int))
        have hc5 := (hcw.toS (S := [R])).setCell (p := ⟨R, 1, none⟩) (by simp) (.int .i64 ((l.length : Nat) : Int))
        go_wp2_with fail
        refine (fail_any _ R l l.length 0 2 hR5).mono ?_
        rintro e w5 ⟨rfl, hR6, c6⟩
        go_wp2_with fail
        go_ret
        exact ⟨by rw [HER.out]; rfl, by rw [HER.out]; exact hR6, hc5.tr c6⟩
      | false =>
        go_wp2_with fail
        refine (fail_any wr R l p 0 4 hR3).mono ?_
        rintro e w5 ⟨rfl, hR6, c6⟩
        go_wp2_with fail
        go_ret
        exact ⟨by rw [HER.out]; rfl, by rw [HER.out]; exact hR6, (hcw.toS (S := [R])).tr c6⟩
end Go.Proofs.YtihoohhngiomdaaDoor
