/- Contracts of package word: Clip, Text, Name. No statement of the seat is proved here. -/
import Derived.Test.YtcbmceaijinpbaaDoorWordA
set_option linter.unusedVariables false
namespace Go.Aq.Wd
/-- A place in a good text: behind its first j signs. -/
theorem place_take (rs : List Nat) (j : Nat) : (encL rs).take (encL (rs.take j)).length = encL (rs.take j) := by
  conv => lhs; arg 2; rw [← List.take_append_drop j rs, encL_append]
  exact List.take_left
theorem place_drop (rs : List Nat) (j : Nat) : (encL rs).drop (encL (rs.take j)).length = encL (rs.drop j) := by
  conv => lhs; arg 2; rw [← List.take_append_drop j rs, encL_append]
  exact List.drop_left
theorem place_lt (rs : List Nat) (j : Nat) (hj : j ≤ rs.length) : (encL (rs.take j)).length < (encL rs).length ↔ j < rs.length := by
  have h : (encL rs).length = (encL (rs.take j)).length + (encL (rs.drop j)).length := by rw [← List.length_append, ← encL_append, List.take_append_drop]
  constructor
  · intro hl
    by_cases h2 : j < rs.length
    · exact h2
    · have e0 : (encL ([] : List Nat)).length = 0 := rfl
      rw [List.drop_eq_nil_of_le (by omega), e0] at h; omega
  · intro hl
    rw [List.drop_eq_getElem_cons hl, encL_cons, List.length_append] at h
    have := enc1_len rs[j]
    omega
theorem place_step (rs : List Nat) (ok : ∀ c ∈ rs, okR c) (j : Nat) (hj : j < rs.length) :
    dec ((encL rs).drop (encL (rs.take j)).length) = (rs[j], (enc1 rs[j]).length) ∧ (encL (rs.take (j + 1))).length = (encL (rs.take j)).length + (enc1 rs[j]).length := by
  refine ⟨?_, ?_⟩
  · rw [place_drop, List.drop_eq_getElem_cons hj, encL_cons]
    exact dec_enc _ (ok _ (List.getElem_mem hj)) _
  · rw [List.take_succ_eq_append_getElem hj, encL_append, List.length_append]
    simp [encL]
theorem place_all (rs : List Nat) (j : Nat) (hj : rs.length ≤ j) : encL (rs.take j) = encL rs := by rw [List.take_of_length_le hj]
theorem okR_le {c : Nat} (h : okR c) : c ≤ 2000000 := by unfold okR at h; omega
end Go.Aq.Wd
namespace Go.Proofs.YtcbmceaijinpbaaDoor
open Go.RowKit Go.Aq Go.Aq.Wd
set_option maxHeartbeats 1000000 in
theorem clip_any (l : List UInt8) (n : Int) (hn : -9223372036854775808 ≤ n ∧ n ≤ 9223372036854775807) (w : World) (hT : Tabs w) (hl : l.length ≤ 1000000000) :
    Calls Tryd.prog 18 #[.string (str l), .int .i64 n] w fun e w' => e = .returned (.string (str (clipL l n))) ∧ Chg [] w w' := by
  have hsz := str_size l
  have hca := count_any l w hT hl
  cases hs : sigs l with
  | none =>
    have hcl : countL l = (0, 4) := by unfold countL; rw [hs]
    have hp : clipL l n = [] := by unfold clipL; rw [hs]
    rw [hp]
    rw [hcl] at hca
    go_enter Tryd.func18, Tryd.ntmps18
    go_wp2_with fail
    refine hca.mono ?_
    rintro e w1 ⟨rfl, c1⟩
    go_wp2_with fail
    go_ret
    exact ⟨rfl, c1⟩
  | some rs =>
    have hcl := countL_of hs
    have hp := clipL_of hs n
    obtain ⟨he, ok⟩ := sigs_enc hs
    rw [hp]
    rw [hcl] at hca
    have hca : Calls Tryd.prog 14 #[.string (str l)] w fun e w' => e = .returned (.tuple #[.int .i64 (rs.length : Nat), .int .i64 0]) ∧ Chg [] w w' := hca
    by_cases h1 : n < 1
    · have e0 : encL (rs.take n.toNat) = [] := by rw [show n.toNat = 0 by omega]; rfl
      rw [e0]
      clear e0 hp hs hcl
      have t1 : decide (n < 1) = true := by simpa using h1
      clear he ok h1 hn
      go_enter Tryd.func18, Tryd.ntmps18
      go_wp2_with fail
      refine hca.mono ?_
      rintro e w1 ⟨rfl, c1⟩
      go_wp2_with fail
      go_ret
      exact ⟨rfl, c1⟩
    · have t1 : decide (n < 1) = false := by simpa using h1
      obtain ⟨m, rfl⟩ : ∃ m : Nat, n = m := ⟨n.toNat, by omega⟩
      rw [Int.toNat_natCast]
      have hm : m ≤ 9223372036854775807 := by omega
      have HOK := Lib.hid ok
      have HE := Lib.hid he
      clear ok he hn hp hcl hs h1
      go_enter Tryd.func18, Tryd.ntmps18
      go_wp2_with fail
      refine hca.mono ?_
      rintro e w1 ⟨rfl, c1⟩
      obtain ⟨K, hK⟩ : ∃ K, w1.heap.size = K := ⟨_, rfl⟩
      clear hca
      go_wp2_with fail
      go_loopg [1] l.length (fun k vn wr => ∃ (pos j i : Nat), vn = .int .i64 i ∧ i + j = m ∧ pos + k = l.length ∧ j ≤ rs.length ∧ pos = (encL (rs.take j)).length ∧ wr.heap[K]? = some (.stringIter (str l) pos) ∧ Chg [] w1 wr)
      case atStart =>
        refine ⟨0, 0, m, rfl, by omega, by omega, by omega, by simp [encL], ?_, (Chg.refl _ _).range _ _⟩
        rw [← hK]; exact World.iter_heap w1 (str l) 0
      case round =>
        obtain ⟨pos, j, i, rfl, hij, hpk, hjl, hpos, hit, hc⟩ := hrel
        have hlt := place_lt rs j hjl
        rw [← hpos, ← HE.out] at hlt
        by_cases hp : pos < l.length
        · have hj := hlt.1 hp
          have hnx := fun ty => next_at l wr K pos hit hp ty
          obtain ⟨hd, hnp⟩ := place_step rs HOK.out j hj
          rw [← hpos, ← HE.out] at hd
          rw [← hpos] at hnp
          have hup : (str l).extract 0 pos = str (encL (rs.take j)) := by rw [str_upto, HE.out, hpos, place_take]
          have hfit := dec_fits l pos hp
          have hdp := dec_pos (l.drop pos)
          have hd1 := dec_fst (l.drop pos)
          have hcn := hc.iterAt (k := K) (.inr (by omega)) (str l) (pos + (dec (l.drop pos)).2)
          have hitn := Lib.iterAt_heap wr K (str l) pos (pos + (dec (l.drop pos)).2) hit
          rw [hd] at hnx hcn hitn hfit hdp hd1
          generalize rs[j] = c at *
          generalize (enc1 c).length = nn at *
          simp only at hnx hcn hitn hfit hdp hd1
          generalize wr.iterAt K (str l) (pos + nn) = w2 at *
          have HP := Lib.hid (And.intro hij (And.intro hpk hnp))
          have hib : (i : Int) ≤ 9223372036854775807 := by omega
          have hib' : i ≤ 9223372036854775807 := by omega
          clear hd hit hc hlt hij hpk hnp hpos
          by_cases hi0 : i = 0
          · subst hi0
            have hjm : j = m := by have := HP.out; omega
            subst hjm
            go_wp2_with fail
            go_ret
            exact ⟨rfl, c1.nil hcn⟩
          · have t2 : ((i : Int) == 0) = false := by simp; omega
            go_wp2_with fail
            go_roundg (gk - nn)
            case measure => have := HP.out; omega
            case rel => exact ⟨pos + nn, j + 1, i - 1, by go_num, by have := HP.out; omega, by have := HP.out; omega, by omega, HP.out.2.2.symm, hitn, hcn⟩
        · have hnx := fun ty => next_end l wr K pos hit hp ty
          have hj : rs.length ≤ j := by have := mt hlt.2 hp; omega
          have e2 : encL (rs.take m) = l := by rw [place_all rs m (by omega), ← HE.out]
          have HE2 := Lib.hid e2
          clear e2 hpos hlt
          go_wp2_with fail
          go_ret
          exact ⟨by rw [HE2.out]; rfl, c1.nil hc⟩
set_option maxHeartbeats 1000000 in
theorem text_any (l : List UInt8) (w : World) (hT : Tabs w) (hl : l.length ≤ 1000000000) :
    Calls Tryd.prog 16 #[.string (str l)] w fun e w' => e = .returned (.bool (textL l)) ∧ Chg [] w w' := by
  have hsz := str_size l
  have hca := count_any l w hT hl
  cases hs : sigs l with
  | none =>
    have hcl : countL l = (0, 4) := by unfold countL; rw [hs]
    have hp : textL l = false := by unfold textL; rw [hs]
    rw [hp]
    rw [hcl] at hca
    go_enter Tryd.func16, Tryd.ntmps16
    go_wp2_with fail
    refine hca.mono ?_
    rintro e w1 ⟨rfl, c1⟩
    go_wp2_with fail
    go_ret
    exact ⟨rfl, c1⟩
  | some rs =>
    have hcl := countL_of hs
    have hp := textL_of hs
    obtain ⟨he, ok⟩ := sigs_enc hs
    rw [hp]
    rw [hcl] at hca
    have hca : Calls Tryd.prog 14 #[.string (str l)] w fun e w' => e = .returned (.tuple #[.int .i64 (rs.length : Nat), .int .i64 0]) ∧ Chg [] w w' := hca
    by_cases h1 : rs.length ≤ 200
    · have t1 : decide (200 < (rs.length : Int)) = false := by simp; omega
      have t1' : decide (200 < rs.length) = false := by simp; omega
      have hR : textR rs = rs.all fun c => !low c || c == 10 := by unfold textR; simp [h1]
      rw [hR]
      have HOK := Lib.hid ok
      have HE := Lib.hid he
      clear ok he hp hcl hs h1 hR
      go_enter Tryd.func16, Tryd.ntmps16
      go_wp2_with fail
      refine hca.mono ?_
      rintro e w1 ⟨rfl, c1⟩
      obtain ⟨K, hK⟩ : ∃ K, w1.heap.size = K := ⟨_, rfl⟩
      clear hca
      go_wp2_with fail
      go_loopg [] l.length (fun k wr => ∃ (pos j : Nat), pos + k = l.length ∧ j ≤ rs.length ∧ pos = (encL (rs.take j)).length ∧ wr.heap[K]? = some (.stringIter (str l) pos) ∧ Chg [] w1 wr ∧ (rs.take j).all (fun c => !low c || c == 10) = true)
      case atStart =>
        refine ⟨0, 0, by omega, by omega, by simp [encL], ?_, (Chg.refl _ _).range _ _, rfl⟩
        rw [← hK]; exact World.iter_heap w1 (str l) 0
      case round =>
        obtain ⟨pos, j, hpk, hjl, hpos, hit, hc, hall⟩ := hrel
        have hlt := place_lt rs j hjl
        rw [← hpos, ← HE.out] at hlt
        by_cases hp : pos < l.length
        · have hj := hlt.1 hp
          have hnx := fun ty => next_at l wr K pos hit hp ty
          obtain ⟨hd, hnp⟩ := place_step rs HOK.out j hj
          rw [← hpos, ← HE.out] at hd
          rw [← hpos] at hnp
          have hfit := dec_fits l pos hp
          have hdp := dec_pos (l.drop pos)
          have hd1 := dec_fst (l.drop pos)
          have hcn := hc.iterAt (k := K) (.inr (by omega)) (str l) (pos + (dec (l.drop pos)).2)
          have hitn := Lib.iterAt_heap wr K (str l) pos (pos + (dec (l.drop pos)).2) hit
          have hts := List.take_succ_eq_append_getElem hj
          have hmem : rs[j] ∈ rs := List.getElem_mem hj
          rw [hd] at hnx hcn hitn hfit hdp hd1
          generalize rs[j] = c at *
          generalize (enc1 c).length = nn at *
          simp only at hnx hcn hitn hfit hdp hd1
          generalize wr.iterAt K (str l) (pos + nn) = w2 at *
          have HP := Lib.hid (And.intro hpk hnp)
          have HA := Lib.hid (And.intro hall (And.intro hts hmem))
          clear hd hit hc hlt hpk hnp hpos hall hts hmem
          by_cases hf : (!low c || c == 10) = true
          · by_cases hlow : low c = true
            · have h10 : c = 10 := by simpa [hlow] using hf
              subst h10
              go_wp2_with fail
              refine (low_any 10 (by omega) w2).mono ?_
              rintro e w3 ⟨rfl, rfl⟩
              rw [hlow]
              go_wp2_with fail
              go_roundg (gk - nn)
              case measure => have := HP.out; omega
              case rel => exact ⟨pos + nn, j + 1, by have := HP.out; omega, by omega, HP.out.2.symm, hitn, hcn, by rw [HA.out.2.1, List.all_append, HA.out.1]; simp⟩
            · have hlow' : low c = false := by simpa using hlow
              go_wp2_with fail
              refine (low_any c (by omega) w2).mono ?_
              rintro e w3 ⟨rfl, rfl⟩
              rw [hlow']
              go_wp2_with fail
              go_roundg (gk - nn)
              case measure => have := HP.out; omega
              case rel => exact ⟨pos + nn, j + 1, by have := HP.out; omega, by omega, HP.out.2.symm, hitn, hcn, by rw [HA.out.2.1, List.all_append, HA.out.1]; simp [hlow']⟩
          · have hlow : low c = true := by
              cases h : low c with
              | true => rfl
              | false => simp [h] at hf
            have h10 : c ≠ 10 := by rintro rfl; simp at hf
            have t10 : ((c : Int) != 10) = true := by simp; omega
            have t10' : ((c : Int) == 10) = false := by simp; omega
            have hR : (rs.all fun c => !low c || c == 10) = false := by
              rw [List.all_eq_false]
              exact ⟨c, HA.out.2.2, hf⟩
            have HR := Lib.hid hR
            clear hR hf
            go_wp2_with fail
            refine (low_any c (by omega) w2).mono ?_
            rintro e w3 ⟨rfl, rfl⟩
            rw [hlow]
            go_wp2_with fail
            go_ret
            exact ⟨by rw [HR.out]; rfl, c1.nil hcn⟩
        · have hnx := fun ty => next_end l wr K pos hit hp ty
          have hj : rs.length ≤ j := by have := mt hlt.2 hp; omega
          rw [List.take_of_length_le hj] at hall
          have HA := Lib.hid hall
          clear hpos hlt hall
          go_wp2_with fail
          go_ret
          exact ⟨by rw [HA.out]; rfl, c1.nil hc⟩
    · have t1 : decide (200 < (rs.length : Int)) = true := by simp; omega
      have t1' : decide (200 < rs.length) = true := by simp; omega
      have hR : textR rs = false := by unfold textR; simp [h1]
      rw [hR]
      clear ok he hp hcl hs h1 hR
      go_enter Tryd.func16, Tryd.ntmps16
      go_wp2_with fail
      refine hca.mono ?_
      rintro e w1 ⟨rfl, c1⟩
      go_wp2_with fail
      go_ret
      exact ⟨rfl, c1⟩
end Go.Proofs.YtcbmceaijinpbaaDoor
