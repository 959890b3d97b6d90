/- Contracts of the document's answer to chapter 2: letter, control, signs, Count, Clip. No statement of the seat is proved here. -/
import Derived.Test.YtcbmceaijinpbaaDoorRSign
import Derived.Test.YtcbmceaijinpbaaDoorNames
set_option linter.unusedVariables false
namespace Go.Aq.Wd
def Is (l : List Nat) : List Value := l.map fun c => Value.int .i64 (c : Nat)
theorem Is_append (a b : List Nat) : Is (a ++ b) = Is a ++ Is b := by simp [Is]
theorem Is_get (l : List Nat) (j : Nat) (h : j < l.length) : (Is l)[j]? = some (.int .i64 ((l[j]'h : Nat) : Int)) := by simp [Is, h]
end Go.Aq.Wd
namespace Go.Proofs.YtcbmceaijinpbaaDoor
open Go.RowKit Go.Aq Go.Aq.Wd
theorem sl_int : SliceTy Tryd.prog 54 3 (.int .i64 0) 1 8 := ⟨Tryd.underlying54, by kernel_rfl, rfl, by decide⟩
set_option maxHeartbeats 400000 in
theorem rcontrol_any (c : Nat) (hc : c ≤ 2000000) (w : World) :
    Calls Tryd.prog 39 #[.int .i64 c] w fun e w' => e = .returned (.bool (low c)) ∧ w' = w := by
  go_enter Tryd.func39, Tryd.ntmps39
  go_wp2_with fail
  all_goals go_ret
  all_goals refine ⟨rb ?_, rfl⟩
  all_goals (rw [Bool.eq_iff_iff]; simp [low]; omega)
/-- What signs answers. -/
def SgR (w w' : World) (e : Ending) : Option (List Nat) → Prop
  | none => e = .returned (.tuple #[.slice none 0 0, .bool false]) ∧ Chg [] w w'
  | some rs => ∃ v, e = .returned (.tuple #[v, .bool true]) ∧ Fresh w w' 3 1 v rs.length (Is rs)
set_option maxHeartbeats 2000000 in
theorem rsigns_any (l : List UInt8) (w : World) (hl : l.length ≤ 1000000000) :
    Calls Tryd.prog 35 #[.string (str l)] w fun e w' => SgR w w' e (sigs l) := by
  have hsz := str_size l
  go_enter Tryd.func35, Tryd.ntmps35
  go_wp2_with fail
  go_loopg [4, 5] l.length (fun k vo vi wr => ∃ (pos : Nat) (pre : List Nat), vi = .int .i64 pos ∧ pos + k = l.length ∧ pre.length ≤ pos ∧ Fresh w wr 3 1 vo pre.length (Is pre) ∧ Pre l pos pre)
  case atStart => exact ⟨0, [], rfl, by omega, by simp, Fresh.nil w _ _, Pre.zero l⟩
  case round =>
    obtain ⟨pos, pre, rfl, hpk, hpl, hf, hpre⟩ := hrel
    obtain ⟨ao, cap, hu4, hcap⟩ := hf.shape
    subst hu4
    by_cases hp : pos < l.length
    · have r1 : decide ((pos : Int) < (l.length : Int)) = true := by simp; omega
      have r1' : decide (pos < l.length) = true := by simp; omega
      have hsg := rsign_any l pos wr hp hl
      have hfit := dec_fits l pos hp
      have hdp := dec_pos (l.drop pos)
      have hd1 := dec_fst (l.drop pos)
      have hst := hpre.step hp
      have hbd := hpre.bad hp
      generalize dec (l.drop pos) = d at *
      obtain ⟨c, n⟩ := d
      simp only at *
      have HST := Lib.hid hst
      have HBD := Lib.hid hbd
      have HP := Lib.hid (And.intro hpk hpl)
      have hpb : pre.length ≤ 1000000000 := by omega
      clear hst hbd hpre hpk hpl
      cases hb : Wd.bad (c, n) with
      | true =>
        have hs := HBD.out hb
        have HS := Lib.hid hs
        rw [show goodO (c, n) = none by unfold goodO; rw [hb]; rfl] at hsg
        clear hb HST HBD hs
        go_wp2_with fail
        refine hsg.mono ?_
        rintro e w1 ⟨rfl, rfl⟩
        unfold sgV
        go_wp2_with fail
        go_ret2
        rw [HS.out]
        exact ⟨rfl, hf.chg⟩
      | false =>
        have hs := HST.out hb
        rw [show goodO (c, n) = some (c, n) by unfold goodO; rw [hb]; rfl] at hsg
        have HS := Lib.hid hs
        clear hb HST HBD hs
        go_wp2_with fail
        refine hsg.mono ?_
        rintro e w1 ⟨rfl, rfl⟩
        unfold sgV
        clear hsg
        go_wp2_with (at_builtin; refine wpList_appF (w0 := w) rfl _ _ 54 rfl sl_int (by exact hf.to ((Chg.refl [] w1).alloc (.cells #[.int .i64 (c : Nat)] 3))) rfl (Sees.row (cs := #[.int .i64 (c : Nat)]) (by exact Blk.new w1 _ 3) (m := 1) rfl) rfl (by simp [Value.oneCell']) (by omega) (by omega) ?_; intro v4 w4 hF4 c4)
        go_roundg (gk - n)
        case measure => have := HP.out; omega
        case rel => exact ⟨pos + n, pre ++ [c], by go_num, by have := HP.out; omega, by have := HP.out; simp; omega, by rw [Is_append]; simpa [Is] using hF4, HS.out⟩
    · have r1 : decide ((pos : Int) < (l.length : Int)) = false := by simp; omega
      have r1' : decide (pos < l.length) = false := by simp; omega
      have hs := hpre.all hp
      have HS := Lib.hid hs
      clear hs hpre hpk hpl
      go_wp2_with fail
      go_ret2
      rw [HS.out]
      exact ⟨_, rfl, hf⟩
theorem rcount_any (l : List UInt8) (w : World) (hl : l.length ≤ 1000000000) :
    Calls Tryd.prog 19 #[.string (str l)] w fun e w' => e = .returned (.tuple #[.int .i64 (countL l).1, .int .i64 (countL l).2]) ∧ Chg [] w w' := by
  have hs := rsigns_any l w hl
  unfold countL
  cases hg : sigs l with
  | none =>
    rw [hg] at hs
    clear hg
    go_enter Tryd.func19, Tryd.ntmps19
    go_wp2_with fail
    refine hs.mono ?_
    rintro e w1 ⟨rfl, c1⟩
    go_wp2_with fail
    go_ret2
    exact ⟨rfl, c1⟩
  | some rs =>
    rw [hg] at hs
    clear hg
    go_enter Tryd.func19, Tryd.ntmps19
    go_wp2_with fail
    refine hs.mono ?_
    rintro e w1 ⟨v, rfl, hf⟩
    obtain ⟨ao, cap, rfl, hcap⟩ := hf.shape
    go_wp2_with fail
    go_ret2
    exact ⟨rfl, hf.chg⟩
set_option maxHeartbeats 2000000 in
theorem rclip_any (l : List UInt8) (n : Int) (hn : -9223372036854775808 ≤ n ∧ n ≤ 9223372036854775807) (w : World) (hl : l.length ≤ 1000000000) :
    Calls Tryd.prog 21 #[.string (str l), .int .i64 n] w fun e w' => e = .returned (.string (str (clipL l n))) ∧ Chg [] w w' := by
  have hsz := str_size l
  have hsg := rsigns_any l w hl
  cases hs : sigs l with
  | none =>
    have hp : clipL l n = [] := by unfold clipL; rw [hs]
    rw [hp]
    rw [hs] at hsg
    clear hs hp
    go_enter Tryd.func21, Tryd.ntmps21
    go_wp2_with fail
    refine hsg.mono ?_
    rintro e w1 ⟨rfl, c1⟩
    go_wp2_with fail
    go_ret
    exact ⟨rfl, c1⟩
  | some rs =>
    rw [clipL_of hs n]
    rw [hs] at hsg
    obtain ⟨he, ok⟩ := sigs_enc hs
    have HE := Lib.hid he
    have HOK := Lib.hid ok
    have hge := encL_ge rs
    rw [← he] at hge
    clear he ok hs
    go_enter Tryd.func21, Tryd.ntmps21
    go_wp2_with fail
    refine hsg.mono ?_
    rintro e w1 ⟨v, rfl, hf⟩
    have c1 := hf.chg
    obtain ⟨ao, cap, rfl, hcap⟩ := hf.shape
    clear hsg hf
    go_wp2_with fail
    go_loopg [7, 8] l.length (fun k vp vi wr => ∃ (pos j : Nat), vp = .int .i64 pos ∧ vi = .int .i64 j ∧ pos + k = l.length ∧ j ≤ rs.length ∧ (j : Int) ≤ max n 0 ∧ pos = (encL (rs.take j)).length ∧ wr = w1)
    case atStart => exact ⟨0, 0, rfl, rfl, by omega, by omega, by omega, by simp [encL], rfl⟩
    case round =>
      obtain ⟨pos, j, rfl, rfl, hpk, hjl, hjn, hpos, rfl⟩ := hrel
      have hlt := place_lt rs j hjl
      rw [← hpos, ← HE.out] at hlt
      by_cases hin : (j : Int) < n
      · have r1 : decide ((j : Int) < n) = true := by simp; omega
        by_cases hp : pos < l.length
        · have r2 : decide ((pos : Int) < (l.length : Int)) = true := by simp; omega
          have r2' : decide (pos < l.length) = true := by simp; omega
          have hj := hlt.1 hp
          have hsg := rsign_any l pos wr hp hl
          obtain ⟨hd, hnp⟩ := place_step rs HOK.out j hj
          rw [← hpos, ← HE.out] at hd
          rw [← hpos] at hnp
          have hb := not_bad_enc _ (HOK.out _ (List.getElem_mem hj))
          have hfit := dec_fits l pos hp
          rw [hd] at hfit
          simp only at hfit
          rw [hd, show goodO (rs[j], (enc1 rs[j]).length) = some (rs[j], (enc1 rs[j]).length) by unfold goodO; rw [hb]; rfl] at hsg
          have hl4 := enc1_len rs[j]
          have h3 := HOK.out _ (List.getElem_mem hj)
          have hc2 : rs[j] ≤ 2000000 := okR_le h3
          generalize (enc1 rs[j]).length = nn at *
          generalize rs[j] = c at *
          have HP := Lib.hid (And.intro hpk (And.intro hnp (And.intro hin (And.intro hj hfit))))
          have hjb : (j : Int) ≤ 1000000000 := by omega
          clear hd hb hlt hpk hnp hpos hj h3 hin hjn hfit
          go_wp2_with fail
          refine hsg.mono ?_
          rintro e w2 ⟨rfl, rfl⟩
          unfold sgV
          go_wp2_with fail
          go_roundg (gk - nn)
          case measure => have := HP.out; omega
          case rel => exact ⟨pos + nn, j + 1, by go_num, by go_num, by have := HP.out; omega, by have := HP.out; omega, by have := HP.out; omega, HP.out.2.1.symm, rfl⟩
        · have r2 : decide ((pos : Int) < (l.length : Int)) = false := by simp; omega
          have r2' : decide (pos < l.length) = false := by simp; omega
          have hj : rs.length ≤ j := by have := mt hlt.2 hp; omega
          have hup : (str l).extract 0 pos = str (encL (rs.take n.toNat)) := by rw [str_upto, HE.out, hpos, place_take, place_all _ _ hj, place_all _ _ (by omega)]
          clear hpos hlt hj hjn hin
          go_wp2_with fail
          go_ret
          exact ⟨rfl, c1⟩
      · have r1 : decide ((j : Int) < n) = false := by simp; omega
        have hup : (str l).extract 0 pos = str (encL (rs.take n.toNat)) := by rw [str_upto, HE.out, hpos, place_take, show n.toNat = j by omega]
        have hple : pos ≤ l.length := by omega
        clear hpos hlt hjn hin
        go_wp2_with fail
        go_ret
        exact ⟨rfl, c1⟩
end Go.Proofs.YtcbmceaijinpbaaDoor
