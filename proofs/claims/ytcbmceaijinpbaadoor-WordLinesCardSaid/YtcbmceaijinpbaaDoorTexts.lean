/- Contracts of aquref.Texts and of the law package's own check of the chapter's examples. No statement of the seat is proved here. -/
import Derived.Test.YtcbmceaijinpbaaDoorWordK
set_option linter.unusedVariables false
namespace Go.Proofs.YtcbmceaijinpbaaDoor
open Go.RowKit Go.Aq Go.Aq.Wd
theorem Ss_get (l : List (List UInt8)) (j : Nat) (h : j < l.length) : (Ss l)[j]? = some (.string (str (l[j]'h))) := by
  simp [Ss, h]
set_option maxHeartbeats 1000000 in
theorem texts_yes (w : World) (va vb : Value) (l : List (List UInt8)) (ha : Sees w 1 va l.length (Ss l)) (hb : Sees w 1 vb l.length (Ss l)) (hbl : l.length ≤ 1000000000) :
    Calls Tryd.prog 13 #[va, vb] w fun e w' => e = .returned (.bool true) ∧ ∃ q, w' = w.drewN q := by
  obtain ⟨nb, HB⟩ : ∃ n, Hid (l.length = n) := ⟨_, rfl⟩
  rw [HB.out] at ha hb hbl
  obtain ⟨aoa, capa, rfl, hcapa, hnoa⟩ := ha.shape
  obtain ⟨aob, capb, rfl, hcapb, hnob⟩ := hb.shape
  have HNOa := Lib.hid hnoa; clear hnoa
  have HNOb := Lib.hid hnob; clear hnob
  go_enter Tryd.func13, Tryd.ntmps13
  go_wp2_with fail
  go_loopg [5] nb (fun kk vi wr => ∃ (j : Nat), j + kk = nb ∧ vi = .int .i64 j ∧ ∃ q, wr = w.drewN q)
  case atStart => exact ⟨0, by omega, rfl, 0, rfl⟩
  case round =>
    obtain ⟨j, hj, rfl, q, rfl⟩ := hrel
    have HJ := Lib.hid hj; clear hj
    have hjn : j ≤ nb := by have := HJ.out; omega
    by_cases hlt : j < nb
    · have t1 : decide ((j : Int) < (nb : Int)) = true := by simp; omega
      have t1' : decide (j < nb) = true := by simp; omega
      obtain ⟨ga, offa, capa', hsa, -, hcella⟩ := ha.at1 (by omega)
      obtain ⟨gb, offb, capb', hsb, -, hcellb⟩ := hb.at1 (by omega)
      simp only [Value.slice.injEq, true_and] at hsa hsb
      obtain ⟨rfl, rfl⟩ := hsa
      obtain ⟨rfl, rfl⟩ := hsb
      have a0 := hcella j hlt
      have b0 := hcellb j hlt
      rw [Ss_get l j (by rw [HB.out]; exact hlt)] at a0 b0
      clear hcella hcellb
      generalize str (l[j]'(by rw [HB.out]; exact hlt)) = T at *
      have e1 : (T.toList != T.toList) = false := by simp
      go_wp2_with fail
      go_quiet (fail)
      go_wp2_with fail
      go_roundg (gk - 1)
      case measure => have := HJ.out; omega
      case rel => exact ⟨j + 1, by have := HJ.out; omega, by go_num, q + nq, rfl⟩
    · have t1 : decide ((j : Int) < (nb : Int)) = false := by simp; omega
      have t1' : decide (j < nb) = false := by simp; omega
      go_wp2_with fail
      go_ret
      exact ⟨rfl, q, rfl⟩
theorem ex_count : countL [103, 114, 195, 182, 195, 159, 101] = (5, 0) := by decide +kernel
theorem ex_words : wordsL [97, 32, 34, 98, 32, 99, 34, 32, 92, 117, 123, 101, 57, 125] = ([[97], [98, 32, 99], [92, 117, 123, 101, 57, 125]], 0, 0) := by decide +kernel
theorem ex_name : nameL [109, 97, 105, 110, 47, 195, 164] = true := by decide +kernel
set_option maxHeartbeats 1000000 in
theorem first_yes (w : World) (hT : Tabs w) :
    Calls Tryd.prog 10 #[] w fun e w' => e = .returned (.bool true) ∧ Chg [] w w' := by
  have h1 := count_any [103, 114, 195, 182, 195, 159, 101] w hT (by decide)
  rw [ex_count] at h1
  go_enter Tryd.func10, Tryd.ntmps10
  go_wp2_with fail
  refine h1.mono ?_
  rintro e w1 ⟨rfl, c1⟩
  clear h1
  have h2 := words_any [97, 32, 34, 98, 32, 99, 34, 32, 92, 117, 123, 101, 57, 125] w1 (hT.chg c1) (by decide)
  rw [ex_words] at h2
  go_wp2_with fail
  refine h2.mono ?_
  rintro e w2 ⟨v, rfl, hf⟩
  clear h2
  go_wp2_with fail
  refine (texts_yes _ _ _ [[97], [98, 32, 99], [92, 117, 123, 101, 57, 125]] ((hf.own.alloc _).sees) (Sees.row (by exact Blk.new _ _ _) rfl) (by decide)).mono ?_
  rintro e w3 ⟨rfl, q, rfl⟩
  have h3 := name_any [109, 97, 105, 110, 47, 195, 164]
  rw [ex_name] at h3
  have c3 := ((c1.nil hf.chg).alloc (.cells #[.string (str [97]), .string (str [98, 32, 99]), .string (str [92, 117, 123, 101, 57, 125])] 9)).drewN q
  go_wp2_with fail
  refine (h3 _ (hT.chg c3) (by decide)).mono ?_
  rintro e w4 ⟨rfl, c4⟩
  go_wp2_with fail
  go_ret
  exact ⟨rfl, c3.nil c4⟩
end Go.Proofs.YtcbmceaijinpbaaDoor
