/- Format. No statement of the seat is proved here. -/
import Derived.Test.YtgcmgcffndbpoaaGreatDoorFyQS
import Derived.Test.YtgcmgcffndbpoaaGreatDoorFpB
set_option linter.unusedVariables false
set_option linter.unusedSimpArgs false
namespace Go.Aq.Fy
open Go.Aq Go.RowKit
/-- What Format writes behind the log's part. -/
def fmtL (r m : Nat) : Puts := (2 + r, topB m) :: (List.range m).map fun i => (3 + r + i, zsec)
/-- The sectors behind a Format. -/
def fmtG (f : Nat → Sec) (r m : Nat) : Nat → Sec := setAll (setAll f [(0, headB r 1 0), (1, zsec)]) (fmtL r m)
theorem put_calm {D : DiskD} (h : D.falls = 0) (k : Nat) (b : Sec) : putD D k b = ({ D with writes := wrap64 (D.writes + 1), pend := D.pend ++ [(k, b)], now := setS D.now k b }, 0) := by
  unfold putD; rw [if_pos h]
theorem zsec_len : zsec.length = 256 := by unfold zsec nul; exact List.length_replicate
theorem topB_len (m : Nat) : (topB m).length = 256 := fill_length (by simp [beB_length])
/-- May a disk of n sectors be laid out so? -/
def fmtOk (n : Nat) (ring mt : Int) : Prop := 1 ≤ mt ∧ mt ≤ 200 ∧ 1 ≤ ring ∧ ring + mt + 4 ≤ n
theorem fmt_num {n r m : Nat} (hb : fmtOk n (r : Int) (m : Int)) (hle : n ≤ 4096) : ∃ x1 x2 x3 x4 : Int, wrap64 ((n : Int) - 2) = x1 ∧ wrap64 (x1 - (r : Int)) = x2 ∧ wrap64 (x2 - 1) = x3 ∧ wrap64 (x3 - (m : Int)) = x4 ∧ decide (x4 < 1) = false ∧ wrap64 (2 + (r : Int)) = ((2 + r : Nat) : Int) ∧ wrap64 (3 + (r : Int)) = ((3 + r : Nat) : Int) := by
  unfold fmtOk at hb
  refine ⟨(n : Int) - 2, (n : Int) - 2 - r, (n : Int) - 2 - r - 1, (n : Int) - 2 - r - 1 - m, ?_, ?_, ?_, ?_, decide_eq_false (by omega), ?_, ?_⟩ <;> unfold wrap64 <;> omega
theorem lf1 {a i n m r : Nat} (h : a ≤ 1 + i) (h8 : i ≤ m) (hb : fmtOk n (r : Int) (m : Int)) : a ≤ 999999 := by unfold fmtOk at hb; omega
theorem lf2 {i k m : Nat} (h : i + k = m) (hi : i < m) : i + 1 + (k - 1) = m ∧ k - 1 < k := by omega
theorem lf3 {a i : Nat} (h : a ≤ 1 + i) : a + 1 ≤ 1 + (i + 1) := by omega
theorem lf4 {i k m : Nat} (h : i + k = m) (hi : ¬ i < m) : i = m := by omega
theorem lf5 {n m r : Nat} (hb : fmtOk n (r : Int) (m : Int)) : 2 + r < n ∧ ∀ j, j < m → 3 + r + j < n := by unfold fmtOk at hb; exact ⟨by omega, fun j hj => by omega⟩
theorem fmt_wrap {n r m i : Nat} (hb : fmtOk n (r : Int) (m : Int)) (hle : n ≤ 4096) (hi : i < m) : wrap64 (((3 + r : Nat) : Int) + (i : Int)) = ((3 + r + i : Nat) : Int) ∧ wrap64 ((i : Int) + 1) = ((i + 1 : Nat) : Int) ∧ 3 + r + i < n := by
  unfold fmtOk at hb
  refine ⟨?_, ?_, by omega⟩ <;> unfold wrap64 <;> omega
end Go.Aq.Fy
namespace Go.Proofs.YtgcmgcffndbpoaaGreatDoor
open Go.RowKit Go.Aq Go.Aq.Fy Go.Maps
theorem Bs_zsec : Bs zsec = List.replicate 256 (.int .u8 0) := by unfold zsec nul Bs; rw [List.map_replicate]; rfl
theorem cast3 (r i : Nat) : ((3 + r + i : Nat) : Int) = 3 + (r : Int) + (i : Int) := by rw [Int.natCast_add, Int.natCast_add]; rfl
set_option maxRecDepth 100000 in
set_option maxHeartbeats 2000000 in
theorem format_bad (w : World) (S : List Nat) (p : Nat) (D : DiskD) (hD : DiskR w S p D) (ring mt : Int) (hb : ¬ fmtOk D.n ring mt) :
    Calls Tryz.prog 30 #[.pointer (some ⟨p, 0, none⟩), .int .i64 ring, .int .i64 mt] w fun e w' => e = .returned (.int .i64 1) ∧ w' = w := by
  have hsec := sectors_ok w S p D hD
  have hle : D.n ≤ 4096 := by obtain ⟨_, _, _, _, _, _, _, hb, _⟩ := hD; exact hb.least.2
  unfold fmtOk at hb
  generalize D.n = n at *
  clear hD
  by_cases h1 : mt < 1
  · have t1 : decide (mt < 1) = true := decide_eq_true h1
    clear h1 hb hsec
    go_enter Tryz.func30, Tryz.ntmps30
    go_wp2_with fail
    go_ret
    exact ⟨rfl, rfl⟩
  have t1 : decide (mt < 1) = false := decide_eq_false h1
  by_cases h2 : 200 < mt
  · have t2 : decide (200 < mt) = true := decide_eq_true h2
    clear h1 h2 hb hsec
    go_enter Tryz.func30, Tryz.ntmps30
    go_wp2_with fail
    go_ret
    exact ⟨rfl, rfl⟩
  have t2 : decide (200 < mt) = false := decide_eq_false h2
  by_cases h3 : ring < 1
  · have t3 : decide (ring < 1) = true := decide_eq_true h3
    clear h1 h2 h3 hb hsec
    go_enter Tryz.func30, Tryz.ntmps30
    go_wp2_with fail
    go_ret
    exact ⟨rfl, rfl⟩
  have t3 : decide (ring < 1) = false := decide_eq_false h3
  by_cases h4 : (n : Int) < ring
  · have t4 : decide ((n : Int) < ring) = true := decide_eq_true h4
    clear h1 h2 h3 h4 hb
    go_enter Tryz.func30, Tryz.ntmps30
    go_wp2_with fail
    refine hsec.mono ?_
    rintro e w1 ⟨rfl, rfl⟩
    go_wp2_with fail
    go_ret
    exact ⟨rfl, rfl⟩
  have t4 : decide ((n : Int) < ring) = false := decide_eq_false h4
  obtain ⟨x1, hx1⟩ : ∃ x, (n : Int) - 2 = x := ⟨_, rfl⟩
  obtain ⟨x2, hx2⟩ : ∃ x, x1 - ring = x := ⟨_, rfl⟩
  obtain ⟨x3, hx3⟩ : ∃ x, x2 - 1 = x := ⟨_, rfl⟩
  obtain ⟨x4, hx4⟩ : ∃ x, x3 - mt = x := ⟨_, rfl⟩
  have e1 : wrap64 ((n : Int) - 2) = x1 := by unfold wrap64; omega
  have e2 : wrap64 (x1 - ring) = x2 := by unfold wrap64; omega
  have e3 : wrap64 (x2 - 1) = x3 := by unfold wrap64; omega
  have e4 : wrap64 (x3 - mt) = x4 := by unfold wrap64; omega
  have t5 : decide (x4 < 1) = true := decide_eq_true (by omega)
  have e1w := wIq e1
  have e2w := wIq e2
  have e3w := wIq e3
  have e4w := wIq e4
  clear h1 h2 h3 h4 hb hx1 hx2 hx3 hx4 hle
  go_enter Tryz.func30, Tryz.ntmps30
  go_wp2_with fail
  refine hsec.mono ?_
  rintro e w1 ⟨rfl, hw1⟩
  obtain rfl : w = w1 := hw1.symm
  go_wp2_with fail
  refine hsec.mono ?_
  rintro e w1 ⟨rfl, hw1⟩
  obtain rfl : w = w1 := hw1.symm
  go_wp2_with fail
  go_ret
  exact ⟨rfl, rfl⟩
set_option maxRecDepth 100000 in
set_option maxHeartbeats 4000000 in
theorem format_ok (w : World) (S : List Nat) (p : Nat) (D : DiskD) (hD : DiskR w S p D) (hrest : Go.Aq.Fy.Rest D) (hfl : D.falls = 0) (r m : Nat) (hb : fmtOk D.n (r : Int) (m : Int)) :
    Calls Tryz.prog 30 #[.pointer (some ⟨p, 0, none⟩), .int .i64 r, .int .i64 m] w fun e w' => e = .returned (.int .i64 0) ∧ ∃ S' k, DiskR w' S' p { D with writes := k, now := fmtG D.now r m, dur := fmtG D.now r m } ∧ Upd S S' w w' := by
  have hsec := sectors_ok w S p D hD
  have hle : D.n ≤ 4096 := by obtain ⟨_, _, _, _, _, _, _, hb, _⟩ := hD; exact hb.least.2
  unfold fmtOk at hb
  have hfm := formatL_ok w S p D r hD hrest.up (by rw [hrest.pend]; simp) (by omega) (by omega) (by omega)
  obtain ⟨k1, hk1⟩ := writesD_calm [(0, headB r 1 0), (1, zsec)] D hrest hfl (fun q hq => by
    simp only [List.mem_cons, List.not_mem_nil, or_false] at hq
    rcases hq with rfl | rfl
    · exact ⟨by simp only; omega, headB_length _ _ _⟩
    · exact ⟨by simp only; omega, zsec_len⟩)
  rw [hk1] at hfm
  obtain ⟨g1, hg1⟩ : ∃ g1, setAll D.now [(0, headB r 1 0), (1, zsec)] = g1 := ⟨_, rfl⟩
  rw [hg1] at hfm
  obtain ⟨D1, hD1⟩ : ∃ D1 : DiskD, { D with writes := k1, now := g1, dur := g1 } = D1 := ⟨_, rfl⟩
  simp only [hD1] at hfm
  have hD1f : D1.falls = 0 ∧ D1.down = false ∧ D1.n = D.n ∧ D1.pend = [] := by rw [← hD1]; exact ⟨hfl, hrest.up, rfl, hrest.pend⟩
  obtain ⟨n, hn⟩ : ∃ n, D.n = n := ⟨_, rfl⟩
  rw [hn] at hsec hb hle
  have hb0 := hb
  have t1 : decide ((m : Int) < 1) = false := decide_eq_false (by omega)
  have t2 : decide ((200 : Int) < (m : Int)) = false := decide_eq_false (by omega)
  have t3 : decide ((r : Int) < 1) = false := decide_eq_false (by omega)
  have t4 : decide ((n : Int) < (r : Int)) = false := decide_eq_false (by omega)
  have t1' : decide (m < 1) = false := decide_eq_false (by omega)
  have t2' : decide (200 < m) = false := decide_eq_false (by omega)
  have t3' : decide (r < 1) = false := decide_eq_false (by omega)
  have t4' : decide (n < r) = false := decide_eq_false (by omega)
  have htop := fun w => top_any w m (by omega)
  obtain ⟨x1, x2, x3, x4, e1, e2, e3, e4, t5, e5, e6⟩ := fmt_num (show fmtOk n (r : Int) (m : Int) from hb0) hle
  have e1w := wIq e1
  have e2w := wIq e2
  have e3w := wIq e3
  have e4w := wIq e4
  have e5w := wIq e5
  have e6w := wIq e6
  have HH := Lib.hid (And.intro hb (And.intro hle (And.intro hn (And.intro hD1 (And.intro hD1f (And.intro hg1 (And.intro hrest (show fmtOk n (r : Int) (m : Int) from hb0))))))))
  clear hb hb0 hle hn hD1 hD1f hg1 hrest hk1 hfl hD
  go_enter Tryz.func30, Tryz.ntmps30
  go_wp2_with fail
  refine hsec.mono ?_
  rintro e w1 ⟨rfl, hw1⟩
  obtain rfl : w = w1 := hw1.symm
  go_wp2_with fail
  refine hsec.mono ?_
  rintro e w1 ⟨rfl, hw1⟩
  obtain rfl : w = w1 := hw1.symm
  clear hsec
  go_wp2_with fail
  refine hfm.mono ?_
  rintro e w1 ⟨rfl, S1, hR1, hU1⟩
  clear hfm t1 t2 t3 t4 t5 e1 e2 e3 e4 e1w e2w e3w e4w t1' t2' t3' t4'
  have H1 := Lib.hid (And.intro hR1 hU1)
  clear hR1 hU1
  go_wp2_with fail
  refine (htop _).mono ?_
  rintro e w2 ⟨vt, rfl, hFt⟩
  clear htop
  have hSt := hFt.sees
  obtain ⟨at_, ct, rfl, -⟩ := hFt.shape
  have hb0 := HH.out.2.2.2.2.2.2.2
  have hSec : SecV w2 S1 (.slice at_ 256 ct) (topB m) := ⟨hSt, fun k hk hk' => by
    have h1 := hFt.new k (eyes_own _ k hk)
    have h2 := H1.out.1.lt k hk'
    omega⟩
  have hpn : D1.pend.length ≤ 999999 := by rw [HH.out.2.2.2.2.1.2.2.2]; simp
  have hkn : 2 + r < D1.n := by rw [HH.out.2.2.2.2.1.2.2.1, HH.out.2.2.1]; have := hb0; unfold fmtOk at this; omega
  have hw1 := write_ok w2 S1 p D1 (2 + r) (topB m) (.slice at_ 256 ct) (H1.out.1.chg hFt.chg) HH.out.2.2.2.2.1.2.1 hkn hpn hSec
  rw [put_calm HH.out.2.2.2.2.1.1] at hw1
  have CF := Lib.hid hFt.chg
  clear hSt hFt hSec hpn hkn hb0
  go_wp2_with fail
  refine hw1.mono ?_
  rintro e w3 ⟨rfl, S3, hR3, hU3⟩
  have H3 := Lib.hid (And.intro hR3 ((H1.out.2.nil CF.out).trans hU3))
  clear hw1 hR3 hU3 e5 e5w
  go_wp2_with fail
  go_loopg [9, 10, 54] m (fun k (v9 v10 v54 : Value) wr => ∃ (i : Nat) (S' : List Nat) (Di : DiskD), v54 = .int .i64 i ∧ Hid (i + k = m ∧ DiskR wr S' p Di ∧ Upd S S' w wr ∧ Di.falls = 0 ∧ Di.down = false ∧ Di.n = D.n ∧ Di.pend.length ≤ 1 + i ∧ eachD D1 (fmtL r m) = eachD Di ((fmtL r m).drop (i + 1))))
  case atStart =>
    refine ⟨0, S3, _, rfl, Nat.zero_add _, H3.out.1, H3.out.2, HH.out.2.2.2.2.1.1, HH.out.2.2.2.2.1.2.1, HH.out.2.2.2.2.1.2.2.1, by simp only [List.length_append, HH.out.2.2.2.2.1.2.2.2]; simp, ?_⟩
    show eachD D1 ((2 + r, topB m) :: _) = _
    have hkn : 2 + r < D1.n := by rw [HH.out.2.2.2.2.1.2.2.1, HH.out.2.2.1]; have := HH.out.2.2.2.2.2.2.2; unfold fmtOk at this; omega
    have e : writeD D1 (2 + r) (topB m) = putD D1 (2 + r) (topB m) := writeD_good HH.out.2.2.2.2.1.2.1 (p := (2 + r, topB m)) ⟨hkn, topB_len m⟩
    simp only [eachD, e, put_calm HH.out.2.2.2.2.1.1, if_true]
    rfl
  case round =>
    obtain ⟨i, S', Di, rfl, HI⟩ := hrel
    by_cases hi : i < m
    · have t0 : decide ((i : Int) < (m : Int)) = true := by simp; omega
      have t0' : decide (i < m) = true := by simp; omega
      obtain ⟨e7, e8, hn7⟩ := fmt_wrap HH.out.2.2.2.2.2.2.2 HH.out.2.1 hi
      have e7' : wrap64 (3 + (r : Int) + (i : Int)) = 3 + (r : Int) + (i : Int) := by
        have := e7
        simpa using this
      have e7w := wIq e7'
      have e8w := wIq e8
      have HI2 := Lib.hid (And.intro hi hn7)
      clear e7 hn7 hi
      go_wp2_with (at_make; refine wpList_mk rfl _ _ 38 rfl sl_u8y rfl .i64 .i64 256 rfl rfl rfl rfl (by decide) (by decide) ?_; intro w4 h1 h2 h3)
      obtain ⟨hik, hR, hU, hfl, hdn, hDn, hpn, hea⟩ := HI.out
      have hSec : SecV w4 S' (.slice (some ⟨wr.heap.size, 0, none⟩) 256 256) zsec := ⟨by rw [Bs_zsec]; exact h1.sees, fun k hk hk' => by
        have h4 := hR.lt k hk'
        have h5 : k = wr.heap.size := by simpa [eyes] using hk
        omega⟩
      have hb0 := HH.out.2.2.2.2.2.2.2
      have hpn' : Di.pend.length ≤ 999999 := lf1 hpn (Nat.le_of_lt HI2.out.1) hb0
      have hkn : 3 + r + i < Di.n := by rw [hDn, HH.out.2.2.1]; exact HI2.out.2
      have hwr := write_ok w4 S' p Di (3 + r + i) zsec _ (hR.chg h2) hdn hkn hpn' hSec
      rw [put_calm hfl, cast3] at hwr
      have e : writeD Di (3 + r + i) zsec = putD Di (3 + r + i) zsec := writeD_good hdn (p := (3 + r + i, zsec)) ⟨hkn, zsec_len⟩
      have hdr : (fmtL r m).drop (i + 1) = (3 + r + i, zsec) :: (fmtL r m).drop (i + 1 + 1) := by
        have hl : i + 1 < (fmtL r m).length := by have := HI2.out.1; simp [fmtL]; omega
        rw [List.drop_eq_getElem_cons hl]
        congr 1
        simp [fmtL]
      have hst : eachD Di ((fmtL r m).drop (i + 1)) = eachD { Di with writes := wrap64 (Di.writes + 1), pend := Di.pend ++ [(3 + r + i, zsec)], now := setS Di.now (3 + r + i) zsec } ((fmtL r m).drop (i + 1 + 1)) := by
        rw [hdr]
        simp only [eachD, e, put_calm hfl, if_true]
      have HJ := Lib.hid (And.intro (lf2 hik HI2.out.1) (And.intro (hU.nil h2) (And.intro hfl (And.intro hdn (And.intro hDn (And.intro hpn (And.intro hst hea)))))))
      clear hik hR hU hdn hDn hpn hea h1 h2 h3 hSec hb0 hpn' hkn e hdr hst hfl HI
      go_wp2_with fail
      refine hwr.mono ?_
      rintro e w5 ⟨rfl, S5, hR5, hU5⟩
      have H5 := Lib.hid (And.intro hR5 hU5)
      clear hwr hR5 hU5
      go_wp2_with fail
      go_roundg (gk - 1)
      case measure => exact HJ.out.1.2
      case rel =>
        obtain ⟨q1, q2, q3, q4, q5, q6, q7, q8⟩ := HJ.out
        exact ⟨i + 1, S5, _, by simp, q1.1, H5.out.1, q2.trans H5.out.2, q3, q4, q5, by simp only [List.length_append, List.length_cons, List.length_nil]; exact lf3 q6, by rw [q8, q7]⟩
    · have t0 : decide ((i : Int) < (m : Int)) = false := by simp; omega
      have t0' : decide (i < m) = false := by simp; omega
      obtain ⟨hik, hR, hU, hfl, hdn, hDn, hpn, hea⟩ := HI.out
      have him : i = m := lf4 hik hi
      have hdz : (fmtL r m).drop (i + 1) = [] := List.drop_eq_nil_of_le (by rw [him]; simp [fmtL])
      rw [hdz] at hea
      have hok : OkP D1.n (fmtL r m) := fun q hq => by
        have hb0 := HH.out.2.2.2.2.2.2.2
        obtain ⟨l1, l2⟩ := lf5 hb0
        rw [HH.out.2.2.2.2.1.2.2.1, HH.out.2.2.1]
        unfold fmtL at hq
        rcases List.mem_cons.1 hq with rfl | hq
        · exact ⟨l1, topB_len m⟩
        · obtain ⟨j, hj, rfl⟩ := List.mem_map.1 hq
          have hj' := List.mem_range.1 hj
          exact ⟨l2 j hj', zsec_len⟩
      obtain ⟨k2, hk2⟩ := eachD_calm (fmtL r m) D1 HH.out.2.2.2.2.1.2.1 HH.out.2.2.2.2.1.1 hok
      have hDi : Di = { D1 with writes := k2, pend := D1.pend ++ fmtL r m, now := setAll D1.now (fmtL r m) } := by
        rw [hk2] at hea
        have := congrArg Prod.fst hea
        exact this.symm
      have hflu := flush_ok wr S' p Di hR hdn (Nat.le_trans (lf1 hpn (Nat.le_of_eq him) HH.out.2.2.2.2.2.2.2) (by decide))
      have hfd : (flushD Di).1 = { D with writes := k2, now := fmtG D.now r m, dur := fmtG D.now r m } := by
        unfold flushD
        rw [hdn]
        simp only [Bool.false_eq_true, if_false]
        rw [hDi, ← HH.out.2.2.2.1]
        simp only [HH.out.2.2.2.2.2.2.1.pend, HH.out.2.2.2.2.2.2.1.up, List.nil_append, fmtG, HH.out.2.2.2.2.2.1]
      rw [hfd] at hflu
      have HZ := Lib.hid hU
      clear hik hR hU hfl hdn hDn hpn hea him hdz hok hk2 hDi hfd hi HI
      go_wp2_with fail
      refine hflu.mono ?_
      rintro e w5 ⟨rfl, S5, hR5, hU5⟩
      go_wp2_with fail
      go_ret
      exact ⟨rfl, S5, k2, hR5, HZ.out.trans hU5⟩
end Go.Proofs.YtgcmgcffndbpoaaGreatDoor
