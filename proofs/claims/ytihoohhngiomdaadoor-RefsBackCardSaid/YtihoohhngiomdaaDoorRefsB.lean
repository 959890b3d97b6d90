/- Contracts of package refs: May. No statement of the seat is proved here. -/
import Derived.Test.YtihoohhngiomdaaDoorRefsA
import Derived.Test.YtihoohhngiomdaaDoorQuiet
set_option linter.unusedVariables false
namespace Go.Aq
open Go.RowKit Go.Aq.Wd
/-- Is the ref at a place one, and behind the one ahead of it? -/
def mayAt (l : List RefD) (j : Nat) : Bool := nameL (l.getD j default).name && validB (l.getD j default).key && (j == 0 || decide (cmpR (l.getD (j - 1) default) (l.getD j default) < 0))
def mayL (l : List RefD) : Bool := (List.range l.length).all (mayAt l) && decide (l.length ≤ 100)
theorem mayL_bad (l : List RefD) (j : Nat) (hj : j < l.length) (h : mayAt l j = false) : mayL l = false := by
  unfold mayL
  rw [List.all_eq_false.2 ⟨j, List.mem_range.2 hj, by rw [h]; decide⟩]; rfl
theorem range_all_succ (p : Nat → Bool) (i : Nat) : (List.range (i + 1)).all p = ((List.range i).all p && p i) := by rw [List.range_succ, List.all_append]; simp
theorem mayL_at {l : List RefD} (h : mayL l = true) (j : Nat) (hj : j < l.length) : mayAt l j = true := by
  simp only [mayL, Bool.and_eq_true, List.all_eq_true] at h
  exact h.1 j (List.mem_range.2 hj)
theorem mayL_len {l : List RefD} (h : mayL l = true) : l.length ≤ 100 := by
  simp only [mayL, Bool.and_eq_true, decide_eq_true_eq] at h
  exact h.2
end Go.Aq
namespace Go.Proofs.YtihoohhngiomdaaDoor
open Go.RowKit Go.Aq Go.Aq.Wd
set_option maxRecDepth 100000 in
set_option maxHeartbeats 4000000 in
theorem may_any (w : World) (hT : Tabs w) (v : Value) (l : List RefD) (hv : Sees w 3 v l.length (Rfs l)) (hl : l.length ≤ 1000000) (hx : ∀ r ∈ l, r.name.length ≤ 1000000 ∧ r.key.length ≤ 1000000) :
    Calls Tryd.prog 8 #[v] w fun e w' => e = .returned (.bool (mayL l)) ∧ Chg [] w w' := by
  obtain ⟨nl, HL⟩ : ∃ n, Hid (l.length = n) := ⟨_, rfl⟩
  rw [HL.out] at hv hl
  obtain ⟨ao, cap, rfl, hcap, hno⟩ := hv.shape
  have HNO := Lib.hid hno; clear hno
  go_enter Tryd.func8, Tryd.ntmps8
  go_wp2_with fail
  go_loopg [7] nl (fun k vi wr => ∃ (i : Nat), vi = .int .i64 i ∧ i + k = nl ∧ i ≤ nl ∧ Hid ((List.range i).all (mayAt l) = true) ∧ Chg [] w wr)
  case atStart => exact ⟨0, rfl, by omega, by omega, rfl, Chg.refl _ _⟩
  case round =>
    obtain ⟨i, rfl, hik, hin, HM, hc⟩ := hrel
    by_cases hi : i < nl
    · have t1 : decide ((i : Int) < (nl : Int)) = true := by simp; omega
      have t1' : decide (i < nl) = true := by simp; omega
      have hil : i < l.length := by rw [HL.out]; exact hi
      obtain ⟨g, off, cap', hs, -, hgl, hcell⟩ := hv.cells (by omega)
      simp only [Value.slice.injEq, true_and] at hs
      obtain ⟨rfl, rfl⟩ := hs
      have HC : Hid (∀ j (h : j < l.length), w.cell? ⟨g, off + j * 3, none⟩ = some (.bool (l[j]'h).tag) ∧ w.cell? ⟨g, off + j * 3 + 1, none⟩ = some (.string (str (l[j]'h).name)) ∧ w.cell? ⟨g, off + j * 3 + 2, none⟩ = some (.string (str (l[j]'h).key))) := fun j h => Rfs_cells HL.out hcell j h
      obtain ⟨x0, x1, x2⟩ := HC.out i hil
      have y0 := hc.cell_some x0 (by simp)
      have y1 := hc.cell_some x1 (by simp)
      have y2 := hc.cell_some x2 (by simp)
      have hb := hx _ (List.getElem_mem hil)
      have hTr := hT.chg hc
      have hgd : l.getD i default = l[i] := by simp [List.getD, hil]
      have hM : mayAt l i = (nameL l[i].name && validB l[i].key && (i == 0 || decide (cmpR (l.getD (i - 1) default) l[i] < 0))) := by unfold mayAt; rw [hgd]
      have hib : (i : Int) ≤ 1000000 := by omega
      obtain ⟨K, hK⟩ : ∃ K, wr.heap.size = K := ⟨_, rfl⟩
      clear x0 x1 x2 hcell hgd
      have HMA := Lib.hid hM
      clear hM
      generalize hr : l[i] = r at *
      have HR := Lib.hid hr
      clear hr
      obtain ⟨tr, nm, ky⟩ := r
      simp only at y0 y1 y2 hb
      have hbx : Blk (wr.alloc (.cells #[.bool tr, .string (str nm), .string (str ky)] 24)) K #[.bool tr, .string (str nm), .string (str ky)] 24 := Blk.new_at wr _ _ hK
      have hcx : Chg [] wr (wr.alloc (.cells #[.bool tr, .string (str nm), .string (str ky)] 24)) := (Chg.refl _ _).alloc _
      go_upto_region 4 with (fail)
      generalize wr.alloc (.cells #[.bool tr, .string (str nm), .string (str ky)] 24) = wb at *
      have cw := hc.nil hcx
      have f0 : wb.cell? ⟨K, 0, none⟩ = some (.bool tr) := Blk.cell hbx 0
      have f1 : wb.cell? ⟨K, 1, none⟩ = some (.string (str nm)) := Blk.cell hbx 1
      have f2 : wb.cell? ⟨K, 2, none⟩ = some (.string (str ky)) := Blk.cell hbx 2
      obtain ⟨X, hne, F, x0, hF0, hF, hX⟩ := fam0 wb
      have z0 := fun x => (hF x).cell_some f0 (by simp)
      have z1 := fun x => (hF x).cell_some f1 (by simp)
      have z2 := fun x => (hF x).cell_some f2 (by simp)
      have HNa := fun x => name_any nm (F x) (hT.chg (cw.nil (hF x))) (by omega)
      have HVa := fun x => valid_any (F x) ky (by omega)
      have HC2 := Lib.hid (And.intro hc cw)
      clear hbx hcx y0 y1 y2 hb f0 f1 f2
      cases hN : nameL nm with
      | false =>
        have HF : Hid (mayL l = false) := mayL_bad l i hil (by rw [HMA.out]; simp [hN])
        rw [hN] at HNa
        clear hN HVa HMA hc cw
        refine wp_fam F (by kernel_rfl) (by kernel_rfl) x0 hF0 ?_
        repeat (go_big_quiet_step (exact fam_call hF hX (HNa _)))
        refine wpQuiet_nil ?_
        rintro w' ⟨x1, rfl⟩
        go_wp2_with fail
        go_ret
        exact ⟨by rw [HF.out]; rfl, HC2.out.2.nil (hF x1)⟩
      | true =>
        rw [hN] at HNa
        cases hV : validB ky with
        | false =>
          have HF : Hid (mayL l = false) := mayL_bad l i hil (by rw [HMA.out]; simp [hN, hV])
          rw [hV] at HVa
          clear hN hV HMA hc cw
          refine wp_fam F (by kernel_rfl) (by kernel_rfl) x0 hF0 ?_
          repeat (go_big_quiet_step (first | exact fam_call hF hX (HNa _) | exact fam_call hF hX (HVa _)))
          refine wpQuiet_nil ?_
          rintro w' ⟨x1, rfl⟩
          go_wp2_with fail
          go_ret
          exact ⟨by rw [HF.out]; rfl, HC2.out.2.nil (hF x1)⟩
        | true =>
          rw [hV] at HVa
          by_cases h0 : i = 0
          · subst h0
            have HG : Hid ((List.range 1).all (mayAt l) = true) := by
              show _ = _
              rw [range_all_succ, HM.out, HMA.out]; simp [hN, hV]
            clear hN hV HMA hc cw
            refine wp_fam F (by kernel_rfl) (by kernel_rfl) x0 hF0 ?_
            repeat (go_big_quiet_step (first | exact fam_call hF hX (HNa _) | exact fam_call hF hX (HVa _)))
            refine wpQuiet_nil ?_
            rintro w' ⟨x1, rfl⟩
            go_wp2_with fail
            go_roundg (gk - 1)
            case measure => omega
            case rel => exact ⟨1, rfl, by omega, by omega, HG, HC2.out.2.nil (hF x1)⟩
          · obtain ⟨m, rfl⟩ : ∃ m, i = m + 1 := ⟨i - 1, by omega⟩
            have hml : m < l.length := by omega
            obtain ⟨p0, p1, p2⟩ := HC.out m hml
            have q0 := fun x => (hF x).cell_some (cw.cell_some p0 (by simp)) (by simp)
            have q1 := fun x => (hF x).cell_some (cw.cell_some p1 (by simp)) (by simp)
            have q2 := fun x => (hF x).cell_some (cw.cell_some p2 (by simp)) (by simp)
            have hgd : l.getD (m + 1 - 1) default = l[m] := by simp [List.getD, hml]
            have hM := HMA.out
            rw [hgd, hN, hV] at hM
            have HCa := fun x => compare_any l[m] ⟨tr, nm, ky⟩ (F x)
            have hmb : (m : Int) ≤ 1000000 := by omega
            have hmn : m < nl := by omega
            have HM2 := Lib.hid hM
            clear hM hgd p0 p1 p2 h0 hN hV HMA hc cw
            generalize l[m] = rp at *
            generalize hcm : cmpR rp ⟨tr, nm, ky⟩ = c at *
            obtain ⟨tp, np, kp⟩ := rp
            simp only at q0 q1 q2
            unfold rfV at HCa
            simp only at HCa
            clear hcm
            have HP := Lib.hid (And.intro hik (And.intro hin hil))
            by_cases hc0 : 0 ≤ c
            · have t2 : decide (0 ≤ c) = true := by simpa using hc0
              have HF : Hid (mayL l = false) := mayL_bad l (m + 1) hil (by rw [HM2.out]; simp; omega)
              clear HR hik hin hil HM2 hc0
              refine wp_fam F (by kernel_rfl) (by kernel_rfl) x0 hF0 ?_
              repeat (go_big_quiet_step (first | exact fam_call hF hX (HNa _) | exact fam_call hF hX (HVa _) | exact fam_call hF hX (HCa _)))
              refine wpQuiet_nil ?_
              rintro w' ⟨x1, rfl⟩
              go_wp2_with fail
              go_ret
              exact ⟨by rw [HF.out]; rfl, HC2.out.2.nil (hF x1)⟩
            · have t2 : decide (0 ≤ c) = false := by simpa using hc0
              have HG : Hid ((List.range (m + 1 + 1)).all (mayAt l) = true) := by
                show _ = _
                rw [range_all_succ, HM.out, HM2.out]; simp; omega
              clear HR hik hin hil HM2 hc0
              refine wp_fam F (by kernel_rfl) (by kernel_rfl) x0 hF0 ?_
              repeat (go_big_quiet_step (first | exact fam_call hF hX (HNa _) | exact fam_call hF hX (HVa _) | exact fam_call hF hX (HCa _)))
              refine wpQuiet_nil ?_
              rintro w' ⟨x1, rfl⟩
              go_wp2_with fail
              go_roundg (gk - 1)
              case measure => have := HP.out; omega
              case rel => exact ⟨m + 1 + 1, by go_num, by have := HP.out; omega, by omega, HG, HC2.out.2.nil (hF x1)⟩
    · have t1 : decide ((i : Int) < (nl : Int)) = false := by simp; omega
      have t1' : decide (i < nl) = false := by simp; omega
      obtain rfl : i = nl := by omega
      have HF : Hid (mayL l = decide (i ≤ 100)) := by
        show mayL l = _
        unfold mayL
        rw [HL.out, HM.out]; rfl
      have e1 : decide ((i : Int) ≤ 100) = decide (i ≤ 100) := by simp; omega
      clear hi hik
      generalize decide (i ≤ 100) = b at *
      go_wp2_with fail
      go_ret
      exact ⟨by rw [HF.out]; rfl, hc⟩
end Go.Proofs.YtihoohhngiomdaaDoor
