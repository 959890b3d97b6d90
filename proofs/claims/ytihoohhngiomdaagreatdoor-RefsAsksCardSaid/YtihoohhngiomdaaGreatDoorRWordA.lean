/- Contracts of the document's answer to chapter 2: letter, control, signs, Count, Clip. No statement of the seat is proved here. -/
import Derived.Test.YtihoohhngiomdaaGreatDoorRSgn
set_option linter.unusedVariables false
namespace Go.Aq.Wd
def Is (l : List Nat) : List Value := l.map fun c => Value.int .i64 (c : Nat)
theorem Is_append (a b : List Nat) : Is (a ++ b) = Is a ++ Is b := by simp [Is]
theorem Is_get (l : List Nat) (j : Nat) (h : j < l.length) : (Is l)[j]? = some (.int .i64 ((l[j]'h : Nat) : Int)) := by simp [Is, h]
end Go.Aq.Wd
namespace Go.Proofs.YtihoohhngiomdaaGreatDoor
open Go.RowKit Go.Aq Go.Aq.Wd
theorem sl_int /- 61 -/ : SliceTy Tryz.prog 99 3 (.int .i64 0) 1 8 := ⟨Tryz.underlying99, by kernel_rfl, rfl, by decide⟩
set_option maxHeartbeats 400000 in
theorem rcontrol_any (c : Nat) (hc : c ≤ 2000000) (w : World) :
    Calls Tryz.prog 74 #[.int .i64 c] w fun e w' => e = .returned (.bool (low c)) ∧ w' = w := by
  go_enter Tryz.func74, Tryz.ntmps74
  go_wp2_with fail
  all_goals go_ret
  all_goals refine ⟨rb ?_, rfl⟩
  all_goals (rw [Bool.eq_iff_iff]; simp [low]; omega)
/-- What signs answers. -/
def SgR (w w' : World) (e : Ending) : Option (List Nat) → Prop
  | none => e = .returned (.tuple #[.slice none 0 0, .bool false]) ∧ Chg [] w w'
  | some rs => ∃ v, e = .returned (.tuple #[v, .bool true]) ∧ Fresh w w' 3 1 v rs.length (Is rs)
set_option maxHeartbeats 2000000 in
theorem rsigns_any (l : List UInt8) (w : World) (hl : l.length ≤ 1000000000) :
    Calls Tryz.prog 61 #[.string (str l)] w fun e w' => SgR w w' e (sigs l) := by
  have hsz := str_size l
  go_enter Tryz.func61, Tryz.ntmps61
  go_wp2_with fail
  go_loopg [4, 5] l.length (fun k vo vi wr => ∃ (pos : Nat) (pre : List Nat), vi = .int .i64 pos ∧ pos + k = l.length ∧ pre.length ≤ pos ∧ Fresh w wr 3 1 vo pre.length (Is pre) ∧ Pre l pos pre)
  case atStart => exact ⟨0, [], rfl, by omega, by simp, Fresh.nil w _ _, Pre.zero l⟩
  case round =>
    obtain ⟨pos, pre, rfl, hpk, hpl, hf, hpre⟩ := hrel
    obtain ⟨ao, cap, hu4, hcap⟩ := hf.shape
    subst hu4
    by_cases hp : pos < l.length
    · have r1 : decide ((pos : Int) < (l.length : Int)) = true := by simp; omega
      have r1' : decide (pos < l.length) = true := by simp; omega
      have hsg := rsign_any l pos wr hp hl
      have hfit := dec_fits l pos hp
      have hdp := dec_pos (l.drop pos)
      have hd1 := dec_fst (l.drop pos)
      have hst := hpre.step hp
      have hbd := hpre.bad hp
      generalize dec (l.drop pos) = d at *
      obtain ⟨c, n⟩ := d
      simp only at *
      have HST := Lib.hid hst
      have HBD := Lib.hid hbd
      have HP := Lib.hid (And.intro hpk hpl)
      have hpb : pre.length ≤ 1000000000 := by omega
      clear hst hbd hpre hpk hpl
      cases hb : Wd.bad (c, n) with
      | true =>
        have hs := HBD.out hb
        have HS := Lib.hid hs
        rw [show goodO (c, n) = none by unfold goodO; rw [hb]; rfl] at hsg
        clear hb HST HBD hs
        go_wp2_with fail
        refine hsg.mono ?_
        rintro e w1 ⟨rfl, rfl⟩
        unfold sgV
        go_wp2_with fail
        go_ret2
        rw [HS.out]
        exact ⟨rfl, hf.chg⟩
      | false =>
        have hs := HST.out hb
        rw [show goodO (c, n) = some (c, n) by unfold goodO; rw [hb]; rfl] at hsg
        have HS := Lib.hid hs
        clear hb HST HBD hs
        go_wp2_with fail
        refine hsg.mono ?_
        rintro e w1 ⟨rfl, rfl⟩
        unfold sgV
        clear hsg
        go_wp2_with (at_builtin; refine wpList_appF (w0 := w) rfl _ _ 99 rfl sl_int (by exact hf.to ((Chg.refl [] w1).alloc (.cells #[.int .i64 (c : Nat)] 3))) rfl (Sees.row (cs := #[.int .i64 (c : Nat)]) (by exact Blk.new w1 _ 3) (m := 1) rfl) rfl (by simp [Value.oneCell']) (by omega) (by omega) ?_; intro v4 w4 hF4 c4)
        go_roundg (gk - n)
        case measure => have := HP.out; omega
        case rel => exact ⟨pos + n, pre ++ [c], by go_num, by have := HP.out; omega, by have := HP.out; simp; omega, by rw [Is_append]; simpa [Is] using hF4, HS.out⟩
    · have r1 : decide ((pos : Int) < (l.length : Int)) = false := by simp; omega
      have r1' : decide (pos < l.length) = false := by simp; omega
      have hs := hpre.all hp
      have HS := Lib.hid hs
      clear hs hpre hpk hpl
      go_wp2_with fail
      go_ret2
      rw [HS.out]
      exact ⟨_, rfl, hf⟩
end Go.Proofs.YtihoohhngiomdaaGreatDoor
