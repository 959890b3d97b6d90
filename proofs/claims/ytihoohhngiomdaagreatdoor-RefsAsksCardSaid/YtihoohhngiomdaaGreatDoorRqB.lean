/- The document's refs: MayRefs. No statement of the seat is proved here. -/
import Derived.Test.YtihoohhngiomdaaGreatDoorRqA
import Derived.Test.YtihoohhngiomdaaGreatDoorRWordC
set_option linter.unusedVariables false
namespace Go.Proofs.YtihoohhngiomdaaGreatDoor
open Go.RowKit Go.Aq Go.Aq.Wd
set_option maxRecDepth 100000 in
set_option maxHeartbeats 4000000 in
theorem rmay_any (w : World) (v : Value) (l : List RefD) (hv : Sees w 3 v l.length (Rfs l)) (hl : l.length ≤ 1000000) (hx : ∀ r ∈ l, r.name.length ≤ 1000000 ∧ r.key.length ≤ 1000000) :
    Calls Tryz.prog 22 #[v] w fun e w' => e = .returned (.bool (mayL l)) ∧ Chg [] w w' := by
  obtain ⟨nl, HL⟩ : ∃ n, Hid (l.length = n) := ⟨_, rfl⟩
  rw [HL.out] at hv hl
  obtain ⟨ao, cap, rfl, hcap, hno⟩ := hv.shape
  have HNO := Lib.hid hno; clear hno
  go_enter Tryz.func22, Tryz.ntmps22
  go_wp2_with fail
  go_loopg [3] nl (fun k vi wr => ∃ (i : Nat), vi = .int .i64 i ∧ i + k = nl ∧ i ≤ nl ∧ Hid ((List.range i).all (mayAt l) = true) ∧ Chg [] w wr)
  case atStart => exact ⟨0, rfl, by omega, by omega, rfl, Chg.refl _ _⟩
  case round =>
    obtain ⟨i, rfl, hik, hin, HM, hc⟩ := hrel
    by_cases hi : i < nl
    · have t1 : decide ((i : Int) < (nl : Int)) = true := by simp; omega
      have t1' : decide (i < nl) = true := by simp; omega
      have hil : i < l.length := by rw [HL.out]; exact hi
      obtain ⟨g, off, cap', hs, -, hgl, hcell⟩ := hv.cells (by omega)
      simp only [Value.slice.injEq, true_and] at hs
      obtain ⟨rfl, rfl⟩ := hs
      have HC : Hid (∀ j (h : j < l.length), w.cell? ⟨g, off + j * 3, none⟩ = some (.bool (l[j]'h).tag) ∧ w.cell? ⟨g, off + j * 3 + 1, none⟩ = some (.string (str (l[j]'h).name)) ∧ w.cell? ⟨g, off + j * 3 + 2, none⟩ = some (.string (str (l[j]'h).key))) := fun j h => Rfs_cells HL.out hcell j h
      obtain ⟨x0, x1, x2⟩ := HC.out i hil
      have y0 := hc.cell_some x0 (by simp)
      have y1 := hc.cell_some x1 (by simp)
      have y2 := hc.cell_some x2 (by simp)
      have hb := hx _ (List.getElem_mem hil)
      have hgd : l.getD i default = l[i] := by simp [List.getD, hil]
      have hM : mayAt l i = (nameL l[i].name && validB l[i].key && (i == 0 || decide (cmpR (l.getD (i - 1) default) l[i] < 0))) := by unfold mayAt; rw [hgd]
      have hib : (i : Int) ≤ 1000000 := by omega
      clear x0 x1 x2 hcell hgd
      have HMA := Lib.hid hM
      clear hM
      generalize hr : l[i] = r at *
      have HR := Lib.hid hr
      clear hr
      obtain ⟨tr, nm, ky⟩ := r
      simp only at y0 y1 y2 hb
      have cw := hc
      have f0 := y0
      have f1 := y1
      have f2 := y2
      go_upto_region 4 with (fail)
      obtain ⟨X, hne, F, x0, hF0, hF, hX⟩ := fam0 wr
      have z0 := fun x => (hF x).cell_some f0 (by simp)
      have z1 := fun x => (hF x).cell_some f1 (by simp)
      have z2 := fun x => (hF x).cell_some f2 (by simp)
      have HNa := fun x => rname_any nm (F x) (by omega)
      have HVa := fun x => refValid_any (F x) ky (by omega)
      have HC2 := Lib.hid (And.intro hc cw)
      clear y0 y1 y2 hb f0 f1 f2
      cases hN : nameL nm with
      | false =>
        have HF : Hid (mayL l = false) := mayL_bad l i hil (by rw [HMA.out]; simp [hN])
        rw [hN] at HNa
        clear hN HVa HMA hc cw
        refine wp_fam F (by kernel_rfl) (by kernel_rfl) x0 hF0 ?_
        repeat (go_big_quiet_step (exact fam_call hF hX (HNa _)))
        refine wpQuiet_nil ?_
        rintro w' ⟨x1, rfl⟩
        go_wp2_with fail
        go_ret
        exact ⟨by rw [HF.out]; rfl, HC2.out.2.nil (hF x1)⟩
      | true =>
        rw [hN] at HNa
        cases hV : validB ky with
        | false =>
          have HF : Hid (mayL l = false) := mayL_bad l i hil (by rw [HMA.out]; simp [hN, hV])
          rw [hV] at HVa
          clear hN hV HMA hc cw
          refine wp_fam F (by kernel_rfl) (by kernel_rfl) x0 hF0 ?_
          repeat (go_big_quiet_step (first | exact fam_call hF hX (HNa _) | exact fam_call hF hX (HVa _)))
          refine wpQuiet_nil ?_
          rintro w' ⟨x1, rfl⟩
          go_wp2_with fail
          go_ret
          exact ⟨by rw [HF.out]; rfl, HC2.out.2.nil (hF x1)⟩
        | true =>
          rw [hV] at HVa
          by_cases h0 : i = 0
          · subst h0
            have HG : Hid ((List.range 1).all (mayAt l) = true) := by
              show _ = _
              rw [range_all_succ, HM.out, HMA.out]; simp [hN, hV]
            clear hN hV HMA hc cw
            refine wp_fam F (by kernel_rfl) (by kernel_rfl) x0 hF0 ?_
            repeat (go_big_quiet_step (first | exact fam_call hF hX (HNa _) | exact fam_call hF hX (HVa _)))
            refine wpQuiet_nil ?_
            rintro w' ⟨x1, rfl⟩
            go_wp2_with fail
            go_roundg (gk - 1)
            case measure => omega
            case rel => exact ⟨1, rfl, by omega, by omega, HG, HC2.out.2.nil (hF x1)⟩
          · obtain ⟨m, rfl⟩ : ∃ m, i = m + 1 := ⟨i - 1, by omega⟩
            have hml : m < l.length := by omega
            obtain ⟨p0, p1, p2⟩ := HC.out m hml
            have q0 := fun x => (hF x).cell_some (cw.cell_some p0 (by simp)) (by simp)
            have q1 := fun x => (hF x).cell_some (cw.cell_some p1 (by simp)) (by simp)
            have q2 := fun x => (hF x).cell_some (cw.cell_some p2 (by simp)) (by simp)
            have hgd : l.getD (m + 1 - 1) default = l[m] := by simp [List.getD, hml]
            have hM := HMA.out
            rw [hgd, hN, hV] at hM
            have HCa := fun x => rcompare_any l[m] ⟨tr, nm, ky⟩ (F x)
            have hmb : (m : Int) ≤ 1000000 := by omega
            have hmn : m < nl := by omega
            have HM2 := Lib.hid hM
            clear hM hgd p0 p1 p2 h0 hN hV HMA hc cw
            have hrg := cmpR_range l[m] ⟨tr, nm, ky⟩
            generalize l[m] = rp at *
            generalize hcm : cmpR rp ⟨tr, nm, ky⟩ = c at *
            obtain ⟨tp, np, kp⟩ := rp
            simp only at q0 q1 q2
            unfold rfV at HCa
            simp only at HCa
            clear hcm
            have HP := Lib.hid (And.intro hik (And.intro hin hil))
            by_cases hc0 : c = -1
            case neg =>
              have t2 : (c != -1) = true := by simpa using hc0
              have HF : Hid (mayL l = false) := mayL_bad l (m + 1) hil (by rw [HM2.out]; simp; omega)
              clear HR hik hil HM2 hc0 hrg
              refine wp_fam F (by kernel_rfl) (by kernel_rfl) x0 hF0 ?_
              repeat (go_big_quiet_step (first | exact fam_call hF hX (HNa _) | exact fam_call hF hX (HVa _) | exact fam_call hF hX (HCa _)))
              refine wpQuiet_nil ?_
              rintro w' ⟨x1, rfl⟩
              go_wp2_with fail
              go_ret
              exact ⟨by rw [HF.out]; rfl, HC2.out.2.nil (hF x1)⟩
            case pos =>
              subst hc0
              have HG : Hid ((List.range (m + 1 + 1)).all (mayAt l) = true) := by
                show _ = _
                rw [range_all_succ, HM.out, HM2.out]; simp
              clear HR hik hil HM2 hrg
              refine wp_fam F (by kernel_rfl) (by kernel_rfl) x0 hF0 ?_
              repeat (go_big_quiet_step (first | exact fam_call hF hX (HNa _) | exact fam_call hF hX (HVa _) | exact fam_call hF hX (HCa _)))
              refine wpQuiet_nil ?_
              rintro w' ⟨x1, rfl⟩
              go_wp2_with fail
              go_roundg (gk - 1)
              case measure => have := HP.out; omega
              case rel => exact ⟨m + 1 + 1, by go_num, by have := HP.out; omega, by omega, HG, HC2.out.2.nil (hF x1)⟩
    · have t1 : decide ((i : Int) < (nl : Int)) = false := by simp; omega
      have t1' : decide (i < nl) = false := by simp; omega
      obtain rfl : i = nl := by omega
      have HF : Hid (mayL l = decide (i ≤ 100)) := by
        show mayL l = _
        unfold mayL
        rw [HL.out, HM.out]; rfl
      have e1 : decide ((i : Int) ≤ 100) = decide (i ≤ 100) := by simp; omega
      clear hi hik
      generalize decide (i ≤ 100) = b at *
      go_wp2_with fail
      go_ret
      exact ⟨by rw [HF.out]; rfl, hc⟩
end Go.Proofs.YtihoohhngiomdaaGreatDoor
