/- The walk of the law WordSigns. No statement of the seat is proved here. -/
import Derived.Test.YtcbmceaijinpbaaDoorNames
set_option linter.unusedVariables false
namespace Go.Proofs.YtcbmceaijinpbaaDoor
open Go.RowKit Go.Aq Go.Aq.Wd
theorem signs_big (s : List UInt8) (n : Int) {w : World} (hT : Tabs w) (hb : s.length ≤ 9223372036854775807) (hn : -9223372036854775808 ≤ n ∧ n ≤ 9223372036854775807) (h : ¬ (s.length ≤ 5000 ∧ 0 ≤ n ∧ n ≤ 5000)) :
    Calls Tryd.prog 8 #[.string (str s), .int .i64 n] w fun e w' => e = .returned (.bool true) ∧ Chg [] w w' := by
  have hsz := str_size s
  have hh : decide (5000 < (s.length : Int)) = true ∨ (decide (5000 < (s.length : Int)) = false ∧ decide (n < 0) = true) ∨ (decide (5000 < (s.length : Int)) = false ∧ decide (n < 0) = false ∧ decide (5000 < n) = true) := by
    simp; omega
  have e5 : decide (5000 < (s.length : Int)) = decide (5000 < s.length) := by simp; omega
  clear h hn
  rcases hh with t1 | ⟨t1, t2⟩ | ⟨t1, t2, t3⟩
  all_goals
    have t1' := t1
    rw [e5] at t1'
    clear e5
    go_enter Tryd.func8, Tryd.ntmps8
    go_wp2_with fail
    refine (first_yes w hT).mono ?_
    rintro e w1 ⟨rfl, c1⟩
    go_wp2_with fail
    refine (first_yes w1 (hT.chg c1)).mono ?_
    rintro e w2 ⟨rfl, c2⟩
    go_wp2_with fail
    go_ret
    exact ⟨rfl, c1.nil c2⟩
theorem signs_bad (s : List UInt8) (n : Nat) {w : World} (hT : Tabs w) (hb : s.length ≤ 5000) (hn : n ≤ 5000) (hs : sigs s = none) :
    Calls Tryd.prog 8 #[.string (str s), .int .i64 n] w fun e w' => e = .returned (.bool true) ∧ Chg [] w w' := by
  have hsz := str_size s
  have t1 : decide (5000 < (s.length : Int)) = false := by simp; omega
  have t1' : decide (5000 < s.length) = false := by simp; omega
  have t2 : decide ((n : Int) < 0) = false := by simp
  have t3 : decide (5000 < (n : Int)) = false := by simp; omega
  have t3' : decide (5000 < n) = false := by simp; omega
  have a1 := fun w' h' => count_any s w' h' (by omega)
  have a2 := fun w' h' => clip_any s n (by omega) w' h' (by omega)
  have a3 := fun w' h' => name_any s w' h' (by omega)
  have a4 := fun w' h' => text_any s w' h' (by omega)
  rw [show countL s = (0, 4) by unfold countL; rw [hs]] at a1
  rw [show clipL s n = [] by unfold clipL; rw [hs]] at a2
  rw [show nameL s = false by unfold nameL; rw [hs]] at a3
  rw [show textL s = false by unfold textL; rw [hs]] at a4
  clear hs
  go_enter Tryd.func8, Tryd.ntmps8
  go_wp2_with fail
  refine (first_yes w hT).mono ?_
  rintro e w1 ⟨rfl, c1⟩
  go_wp2_with fail
  refine (a1 w1 (hT.chg c1)).mono ?_
  rintro e w2 ⟨rfl, c2⟩
  have c2 := c1.nil c2
  go_wp2_with fail
  refine (first_yes w2 (hT.chg c2)).mono ?_
  rintro e w3 ⟨rfl, c3⟩
  have c3 := c2.nil c3
  go_wp2_with fail
  refine (a2 w3 (hT.chg c3)).mono ?_
  rintro e w4 ⟨rfl, c4⟩
  have c4 := c3.nil c4
  have ee : (str []).toList.isEmpty = true := by rw [str_toList]; rfl
  go_wp2_with fail
  refine (a3 w4 (hT.chg c4)).mono ?_
  rintro e w5 ⟨rfl, c5⟩
  have c5 := c4.nil c5
  go_wp2_with fail
  refine (a4 w5 (hT.chg c5)).mono ?_
  rintro e w6 ⟨rfl, c6⟩
  go_wp2_with fail
  go_ret
  exact ⟨rfl, c5.nil c6⟩
set_option maxHeartbeats 2000000 in
theorem signs_good (s : List UInt8) (n : Nat) (rs : List Nat) {w : World} (hT : Tabs w) (hb : s.length ≤ 5000) (hn : n ≤ 5000) (hs : sigs s = some rs) :
    Calls Tryd.prog 8 #[.string (str s), .int .i64 n] w fun e w' => e = .returned (.bool true) ∧ Chg [] w w' := by
  have hsz := str_size s
  have t1 : decide (5000 < (s.length : Int)) = false := by simp; omega
  have t1' : decide (5000 < s.length) = false := by simp; omega
  have t2 : decide ((n : Int) < 0) = false := by simp
  have t3 : decide (5000 < (n : Int)) = false := by simp; omega
  have t3' : decide (5000 < n) = false := by simp; omega
  obtain ⟨l1, l2, l3, l4, l5⟩ := signs_law s n rs hs
  obtain ⟨he, ok⟩ := sigs_enc hs
  have hge := encL_ge rs
  rw [← he] at hge
  have m1 := fun h => (nameL_count (l := s) h)
  have m2 := fun h => (textL_count (l := s) h)
  rw [countL_of hs] at m1 m2
  have a1 := fun w' h' => count_any s w' h' (by omega)
  have a2 := fun w' h' => clip_any s n (by omega) w' h' (by omega)
  have a3 := fun w' h' => name_any s w' h' (by omega)
  have a4 := fun w' h' => text_any s w' h' (by omega)
  have a5 := fun w' h' => count_any (clipL s n) w' h' (by omega)
  have a6 := fun w' h' => count_any (s.drop (clipL s n).length) w' h' (by rw [List.length_drop]; omega)
  rw [countL_of hs] at a1
  rw [countL_of l2] at a5
  rw [countL_of l5] at a6
  have hsa := str_size (clipL s n)
  have hup := str_upto s (clipL s n).length
  rw [l4] at hup
  have hfr := str_from s (clipL s n).length
  have HE := Lib.hid he
  have HOK := Lib.hid ok
  have HM := Lib.hid (And.intro m1 m2)
  clear l1 l2 l4 l5 hs he ok m1 m2
  generalize clipL s n = a at *
  have a1 : ∀ w', Tabs w' → Calls Tryd.prog 14 #[.string (str s)] w' fun e w'' => e = .returned (.tuple #[.int .i64 rs.length, .int .i64 0]) ∧ Chg [] w' w'' := a1
  go_enter Tryd.func8, Tryd.ntmps8
  go_wp2_with fail
  refine (first_yes w hT).mono ?_
  rintro e w1 ⟨rfl, c1⟩
  go_wp2_with fail
  refine (a1 w1 (hT.chg c1)).mono ?_
  rintro e w2 ⟨rfl, c2⟩
  have c2 := c1.nil c2
  obtain ⟨K, hK⟩ : ∃ K, w2.heap.size = K := ⟨_, rfl⟩
  go_wp2_with fail
  go_loopg [7] s.length (fun k vn wr => ∃ (pos j : Nat), vn = .int .i64 j ∧ pos + k = s.length ∧ j ≤ rs.length ∧ pos = (encL (rs.take j)).length ∧ wr.heap[K]? = some (.stringIter (str s) pos) ∧ Chg [] w2 wr)
  case atStart =>
    refine ⟨0, 0, rfl, by omega, by omega, by simp [encL], ?_, (Chg.refl _ _).range _ _⟩
    rw [← hK]; exact World.iter_heap w2 (str s) 0
  case round =>
    obtain ⟨pos, j, rfl, hpk, hjl, hpos, hit, hc⟩ := hrel
    have hlt := place_lt rs j hjl
    rw [← hpos, ← HE.out] at hlt
    by_cases hp : pos < s.length
    · have hj := hlt.1 hp
      have hnx := fun ty => next_at s wr K pos hit hp ty
      obtain ⟨hd, hnp⟩ := place_step rs HOK.out j hj
      rw [← hpos, ← HE.out] at hd
      rw [← hpos] at hnp
      have hfit := dec_fits s pos hp
      have hdp := dec_pos (s.drop pos)
      have hd1 := dec_fst (s.drop pos)
      have hcn := hc.iterAt (k := K) (.inr (by omega)) (str s) (pos + (dec (s.drop pos)).2)
      have hitn := Lib.iterAt_heap wr K (str s) pos (pos + (dec (s.drop pos)).2) hit
      rw [hd] at hnx hcn hitn hfit hdp hd1
      generalize rs[j] = c at *
      generalize (enc1 c).length = nn at *
      simp only at hnx hcn hitn hfit hdp hd1
      generalize wr.iterAt K (str s) (pos + nn) = w3 at *
      have HP := Lib.hid (And.intro hpk hnp)
      have hjb : j ≤ 5000 := by omega
      clear hd hit hc hlt hpk hnp hpos
      go_wp2_with fail
      go_roundg (gk - nn)
      case measure => have := HP.out; omega
      case rel => exact ⟨pos + nn, j + 1, by go_num, by have := HP.out; omega, by omega, HP.out.2.symm, hitn, hcn⟩
    · have hnx := fun ty => next_end s wr K pos hit hp ty
      have hj : rs.length ≤ j := by have := mt hlt.2 hp; omega
      obtain rfl : j = rs.length := by omega
      have c3 := c2.nil hc
      clear hpos hlt hit hc
      go_wp2_with fail
      refine (a2 wr (hT.chg c3)).mono ?_
      rintro e w4 ⟨rfl, c4⟩
      have c4 := c3.nil c4
      go_wp2_with fail
      refine (a5 w4 (hT.chg c4)).mono ?_
      rintro e w5 ⟨rfl, c5⟩
      have c5 := c4.nil c5
      go_wp2_with fail
      refine (a6 w5 (hT.chg c5)).mono ?_
      rintro e w6 ⟨rfl, c6⟩
      have c6 := c5.nil c6
      have e1 : ((rs.drop n).length : Int) = (rs.length : Int) - min (n : Int) (rs.length : Int) := by rw [List.length_drop]; omega
      have e1' : (((rs.length - n : Nat)) : Int) = (rs.length : Int) - min (n : Int) (rs.length : Int) := by omega
      have e2 : (min (n : Int) (rs.length : Int) + ((rs.length : Int) - min (n : Int) (rs.length : Int)) == (rs.length : Int)) = true := by simp; omega
      have hm1 : 0 ≤ min (n : Int) (rs.length : Int) ∧ min (n : Int) (rs.length : Int) ≤ (rs.length : Int) := by omega
      have hr5 : (rs.length : Int) ≤ 5000 := by omega
      go_wp2_with fail
      refine (first_yes w6 (hT.chg c6)).mono ?_
      rintro e w7 ⟨rfl, c7⟩
      have c7 := c6.nil c7
      go_wp2_with fail
      have u1 : ∀ {b : Bool}, nameL s = b → b = true → (decide (1 ≤ (rs.length : Int)) = true ∧ decide ((rs.length : Int) ≤ 40) = true) ∧ (decide (1 ≤ rs.length) = true ∧ decide (rs.length ≤ 40) = true) := by
        intro b h1 h2; have := HM.out.1 (h1.trans h2); simp; omega
      have u2 : ∀ {b : Bool}, textL s = b → b = true → decide ((rs.length : Int) ≤ 200) = true ∧ decide (rs.length ≤ 200) = true := by
        intro b h1 h2; have := HM.out.2 (h1.trans h2); simp; omega
      refine (a3 w7 (hT.chg c7)).mono ?_
      rintro e w8 ⟨rfl, c8⟩
      have c8 := c7.nil c8
      cases hN : nameL s
      all_goals
        cases hX : textL s
        all_goals
          rw [hX] at a4
          first | (obtain ⟨⟨v1, v2⟩, v3, v4⟩ := u1 hN rfl) | skip
          first | (obtain ⟨v5, v6⟩ := u2 hX rfl) | skip
          clear u1 u2 hN hX
          go_wp2_with fail
          refine (a4 w8 (hT.chg c8)).mono ?_
          rintro e w9 ⟨rfl, c9⟩
          go_wp2_with fail
          go_ret
          exact ⟨rfl, c8.nil c9⟩
theorem signs_walk (s : List UInt8) (b : s.length ≤ 9223372036854775807) (n : Int) (hn : -9223372036854775808 ≤ n ∧ n ≤ 9223372036854775807) {w : World} (hT : Tabs w) :
    Calls Tryd.prog 8 #[.string (str s), .int .i64 n] w fun e w' => e = .returned (.bool true) ∧ Chg [] w w' := by
  by_cases h : s.length ≤ 5000 ∧ 0 ≤ n ∧ n ≤ 5000
  · obtain ⟨m, rfl⟩ := Int.eq_ofNat_of_zero_le h.2.1
    cases hs : sigs s with
    | none => exact signs_bad s m hT h.1 (by omega) hs
    | some rs => exact signs_good s m rs hT h.1 (by omega) hs
  · exact signs_big s n hT b hn h
end Go.Proofs.YtcbmceaijinpbaaDoor
