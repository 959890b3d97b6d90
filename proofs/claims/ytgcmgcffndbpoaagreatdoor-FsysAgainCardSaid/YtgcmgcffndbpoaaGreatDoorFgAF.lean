/- FzS, FgA, FgB, FgC, FgD, FgE, FgF in one text. No statement of the seat is proved here. -/
import Derived.Test.YtgcmgcffndbpoaaGreatDoorFzAB
import Derived.Test.YtgcmgcffndbpoaaGreatDoorFzIL
import Derived.Test.YtgcmgcffndbpoaaGreatDoorNumA
import Derived.Test.YtgcmgcffndbpoaaGreatDoorFyTY
import Derived.Test.YtgcmgcffndbpoaaGreatDoorFzDH
import Derived.Test.YtgcmgcffndbpoaaGreatDoorFzNR
import Derived.Test.YtgcmgcffndbpoaaGreatDoorFp7
set_option linter.unusedSimpArgs false
set_option linter.unusedVariables false
/- How many blocks files have, and how many no file has. No statement of the seat is proved here. -/
namespace Go.Aq.Fy
open Go.Aq Go.RowKit
/-- How many blocks the files have whose names have come. -/
def metN (left : Lit → Bool) : Files → Nat
  | [] => 0
  | p :: L => (if left (.string p.1) then 0 else p.2.blocks.length) + metN left L
theorem metN_le (left : Lit → Bool) : ∀ L : Files, metN left L ≤ (blks L).length
  | [] => Nat.le_refl _
  | p :: L => by
    have := metN_le left L
    unfold metN
    unfold blks at this ⊢
    simp only [List.flatMap_cons, List.length_append]
    split <;> omega
theorem metN_all {left : Lit → Bool} (h : ∀ z, left z = false) : ∀ L : Files, metN left L = (blks L).length
  | [] => rfl
  | p :: L => by
    have := metN_all h L
    unfold metN
    unfold blks at this ⊢
    simp only [List.flatMap_cons, List.length_append, h, this]
    simp
theorem metN_none {left : Lit → Bool} : ∀ {L : Files}, (∀ p ∈ L, left (.string p.1) = true) → metN left L = 0
  | [], _ => rfl
  | p :: L, h => by
    unfold metN
    rw [h p (.head _), metN_none fun q hq => h q (.tail _ hq)]
    simp
theorem metN_far (left : Lit → Bool) (s : Nm) : ∀ {L : Files}, (∀ p ∈ L, p.1 ≠ s) → metN (fun z => left z && !z.sameKey (.string s)) L = metN left L
  | [], _ => rfl
  | p :: L, h => by
    have hk : (Lit.string p.1).sameKey (.string s) = decide (p.1 = s) := sameKey_s p.1 s
    unfold metN
    rw [metN_far left s fun q hq => h q (.tail _ hq), hk, decide_eq_false (h p (.head _))]
    simp
theorem metN_step {left : Lit → Bool} {s : Nm} {x : FileD} (hl : left (.string s) = true) : ∀ {L : Files}, Asc L → lookK s L = some x → metN (fun z => left z && !z.sameKey (.string s)) L = metN left L + x.blocks.length
  | [], _, h => by cases h
  | (k, v) :: L, ha, h => by
    have hk : (Lit.string k).sameKey (.string s) = decide (k = s) := sameKey_s k s
    have hne : ∀ p ∈ L, k < p.1 := (List.pairwise_cons.1 ha).1
    unfold lookK at h
    unfold metN
    rw [hk]
    by_cases e : k = s
    · subst e
      rw [if_pos rfl] at h
      injection h with h
      subst h
      rw [metN_far left k fun p hp e2 => by have := hne p hp; rw [e2] at this; exact List.lt_irrefl _ this]
      simp [hl]
      omega
    · rw [if_neg e] at h
      rw [metN_step hl (List.pairwise_cons.1 ha).2 h, decide_eq_false e]
      simp
      split <;> omega
theorem FilesOk.total {all : Nat} {L : Files} (h : FilesOk all L) : (blks L).length ≤ all := by
  have := len_le_of_sub h.nodup (m := List.range all) fun x hx => List.mem_range.2 (h.bound x hx)
  rwa [List.length_range] at this
theorem us_num {n m q : Nat} (h : n + m ≤ q) (hq : q ≤ 4096) : wrap64 ((n : Int) + (m : Int)) = ((n + m : Nat) : Int) := by unfold wrap64; omega
theorem fr_num {n m : Nat} (h : m ≤ n) (hq : n ≤ 4096) : wrap64 ((n : Int) - (m : Int)) = ((n - m : Nat) : Int) := by unfold wrap64; omega
end Go.Aq.Fy
namespace Go.Proofs.YtgcmgcffndbpoaaGreatDoor
open Go.RowKit Go.Aq Go.Aq.Fy Go.Maps
set_option maxRecDepth 100000 in
set_option maxHeartbeats 4000000 in
theorem used_ok (w : World) (Sd X : List Nat) (f d l bf : Nat) (F : FsD) (h : FsR w Sd X f d l bf F) (all : Nat) (hok : FilesOk all F.files) (ha : all ≤ 4096) :
    Calls Tryz.prog 26 #[.pointer (some ⟨f, 0, none⟩)] w fun e w' => e = .returned (.int .i64 (blks F.files).length) ∧ Chg [] w w' := by
  obtain ⟨⟨-, -, -, c3⟩, -⟩ := Blk.c4b h.blk
  obtain ⟨fl, hM, hTwo⟩ := h.files
  have hasc := h.files.asc'
  have hM1 := hM.owns
  have hbw := h.files.lt
  have htot := hok.total
  have HH := Lib.hid (And.intro hTwo (And.intro hasc (And.intro (Nat.le_trans htot ha) hbw)))
  clear h hM hTwo hasc hok htot hbw
  go_enter Tryz.func26, Tryz.ntmps26
  go_wp2_with (first
    | (at_range; refine wpList_range_own _ rfl _ 69 rfl 9 72 lawT Tryz.underlying69 heldR bf fl.length (datS fl) rfl hM1 ?_; intro w3 hrg3 hg3 hs3)
    | fail)
  go_frame
  have c3w : Chg [] w w3 := Chg.of_grown hg3
  have H0 := Lib.hid (show metN (fun kl => Maps.has (datS fl) kl) F.files = 0 by
    refine metN_none fun p hp => ?_
    show Maps.has (datS fl) (.string p.1) = true
    rw [(datS_look fl p.1 .nil).2]
    rcases HH.out.1.look p.1 with ⟨e1, e2⟩ | ⟨x, y, e1, e2, _⟩
    · rw [look_of_mem HH.out.2.1 (show (p.1, p.2) ∈ F.files from hp)] at e1; cases e1
    · rw [e2]; rfl)
  have CW := Lib.hid c3w
  obtain ⟨r, hr⟩ : ∃ r, w.heap.size = r := ⟨_, rfl⟩
  rw [hr] at hrg3 ⊢
  have HR := Lib.hid hr
  clear hM1 hg3 hs3 c3 c3w hr
  generalize Maps.size (datS fl) = cnt0 at *
  go_loopg [3] cnt0 (fun k (v3 : Value) wr => ∃ (left : Lit → Bool) (n : Nat), v3 = .int .i64 n ∧ wr.ranges Tryz.prog 9 heldR bf r fl.length (datS fl) left k ∧ Hid (Chg [] w wr ∧ metN left F.files = n))
  case atStart => exact ⟨_, 0, rfl, hrg3, CW.out, H0.out⟩
  case round =>
    clear hrg3
    obtain ⟨left, n, rfl, hrg, HC⟩ := hrel
    go_wp2_with (first
      | (at_next; refine next_map _ rfl _ rfl bf r fl.length fl _ _ rfl hrg ?_ ?_)
      | fail)
    · intro HZ
      have hn := HC.out.2
      rw [metN_all HZ.out] at hn
      subst hn
      go_wp2_with fail
      go_ret
      exact ⟨rfl, HC.out.1⟩
    · intro s v wx cnt1 HX hrg1 c1 hen
      obtain ⟨x, hx, hv⟩ : ∃ x, lookK s F.files = some x ∧ FileV w (X ++ f :: l :: bf :: Sd) x v := by
        rcases HH.out.1.look s with ⟨e1, e2⟩ | ⟨x, y, e1, e2, h3⟩
        · rw [HX.out.2.2] at e2; cases e2
        · rw [HX.out.2.2] at e2; cases e2; exact ⟨x, e1, h3⟩
      obtain ⟨vv, rfl, hvs, -⟩ := hv
      obtain ⟨ao, cap, rfl, -⟩ := hvs.shape
      have cx : Chg [] w wx := HC.out.1.trans c1 (fun i hi => by simp at hi; have := HR.out; exact .inr (by omega))
      have hst := metN_step HX.out.1 HH.out.2.1 hx
      rw [HC.out.2] at hst
      have hle := metN_le (fun z => left z && !z.sameKey (.string s)) F.files
      rw [hst] at hle
      have e2 := us_num hle HH.out.2.2.1
      obtain ⟨m, hm⟩ : ∃ m, x.blocks.length = m := ⟨_, rfl⟩
      rw [hm] at hen e2 hst ⊢
      have e2w := wIq e2
      have HS := Lib.hid (And.intro hst (And.intro cx HX.out.2.1))
      obtain ⟨left', hleft⟩ : ∃ left' : Lit → Bool, (fun z => left z && !z.sameKey (Lit.string s)) = left' := ⟨_, rfl⟩
      rw [hleft] at hrg1
      have HLf := Lib.hid hleft
      clear hrg HC c1 hx hvs cx hm hst hle hleft
      go_wp2_with fail
      obtain ⟨wb, hwb⟩ : ∃ wb, wx.alloc (Obj.cells #[.int .i64 x.size, .slice ao m cap] 72) = wb := ⟨_, rfl⟩
      have cb : Chg [] wx wb := by rw [← hwb]; exact (Chg.refl [] wx).alloc _
      rw [hwb]
      have hrgb := ranges_chg hrg1 cb (by simp) (by simp)
      go_roundg cnt1
      case measure => exact HS.out.2.2
      case rel => exact ⟨left', _, rfl, hrgb, HS.out.2.1.nil cb, by rw [← HLf.out]; exact HS.out.1⟩
theorem free_ok (w : World) (Sd X : List Nat) (f d l bf : Nat) (F : FsD) (h : FsR w Sd X f d l bf F) (hok : FilesOk (allF F) F.files) :
    Calls Tryz.prog 25 #[.pointer (some ⟨f, 0, none⟩)] w fun e w' => e = .returned (.int .i64 (allF F - (blks F.files).length : Nat)) ∧ Chg [] w w' := by
  have hA4 : allF F ≤ 4096 := by have := h.small; unfold allF; omega
  have hall := all_ok w Sd X f d l bf F h
  have hus := fun w' (c : Chg [] w w') => used_ok w' Sd X f d l bf F (h.chg0 c) _ hok hA4
  have e1 := fr_num hok.total hA4
  generalize allF F = A at *
  generalize (blks F.files).length = n at *
  obtain ⟨k, hk⟩ : ∃ k, A - n = k := ⟨_, rfl⟩
  rw [hk] at e1 ⊢
  have e1w := wIq e1
  clear h hok hA4 hk
  go_enter Tryz.func25, Tryz.ntmps25
  go_wp2_with fail
  refine hall.mono ?_
  rintro e w1 ⟨rfl, nq, hw1⟩
  have c1 : Chg [] w w1 := by rw [hw1]; exact (Chg.refl _ _).drewN nq
  have hu1 := hus w1 c1
  clear hw1 hall hus
  go_wp2_with fail
  refine hu1.mono ?_
  rintro e w2 ⟨rfl, c2⟩
  clear hu1
  go_wp2_with fail
  go_ret
  exact ⟨ret_int (by first | assumption | rfl), c1.nil c2⟩
end Go.Proofs.YtgcmgcffndbpoaaGreatDoor

/- Contracts of aquref.Texts, Ints, Lists at any lists; aqulaw16.alike. No statement of the seat is proved here. -/
namespace Go.Aq.Fy
/-- The first i of both are the same, and there is one more in both. -/
theorem eq_step {α : Type} {a b : List α} {i : Nat} (ha : i < a.length) (hb : i < b.length) (h : a.take i = b.take i) : (a.take (i + 1) = b.take (i + 1)) ↔ a[i] = b[i] := by
  rw [List.take_succ_eq_append_getElem ha, List.take_succ_eq_append_getElem hb, h]
  exact ⟨fun e => by have e := List.append_cancel_left e; injection e, fun e => by rw [e]⟩
theorem eq_no {α : Type} {a b : List α} {i : Nat} (ha : i < a.length) (hb : i < b.length) (h : a[i] ≠ b[i]) : a ≠ b := by
  rintro rfl
  exact h rfl
theorem eq_all {α : Type} {a b : List α} {n : Nat} (ha : a.length = n) (hb : b.length = n) (h : a.take n = b.take n) : a = b := by
  rw [List.take_of_length_le (by omega), List.take_of_length_le (by omega)] at h
  exact h
theorem lg1 {i k m : Nat} (h : i + k = m) (hi : i < m) : i + 1 + (k - 1) = m ∧ k - 1 < k := by omega
theorem lg2 {i k m : Nat} (h : i + k = m) (hi : ¬ i < m) : i = m := by omega
end Go.Aq.Fy
namespace Go.Proofs.YtgcmgcffndbpoaaGreatDoor
open Go.RowKit Go.Aq Go.Aq.Fy Go.Maps
set_option maxHeartbeats 1000000 in
theorem texts_any (w : World) (va vb : Value) (a b : List Nm) (n m : Nat) (hn : a.length = n) (hm : b.length = m) (ha : Sees w 1 va n (names a)) (hb : Sees w 1 vb m (names b)) (hbl : n ≤ 1000000000) :
    Calls Tryz.prog 31 #[va, vb] w fun e w' => e = .returned (.bool (decide (a = b))) ∧ Chg [] w w' := by
  obtain ⟨aoa, capa, rfl, hcapa, hnoa⟩ := ha.shape
  obtain ⟨aob, capb, rfl, hcapb, hnob⟩ := hb.shape
  obtain ⟨R, hR⟩ : ∃ R, decide (a = b) = R := ⟨_, rfl⟩
  rw [hR]
  have HR := Lib.hid hR
  clear hR
  by_cases hnm : n = m
  · subst hnm
    have t0 : ((n : Int) != (n : Int)) = false := by simp
    have t0' : (n != n) = false := by simp
    have HH := Lib.hid (And.intro hn (And.intro hm (And.intro ha (And.intro hb hbl))))
    clear hn hm ha hb hbl hnoa hnob
    go_enter Tryz.func31, Tryz.ntmps31
    go_wp2_with fail
    go_loopg [5] n (fun kk vi wr => ∃ (j : Nat), vi = .int .i64 j ∧ Hid (j + kk = n ∧ a.take j = b.take j ∧ Chg [] w wr))
    case atStart => exact ⟨0, rfl, Nat.zero_add _, rfl, Chg.refl _ _⟩
    case round =>
      obtain ⟨j, rfl, HJ⟩ := hrel
      by_cases hlt : j < n
      · have t1 : decide ((j : Int) < (n : Int)) = true := by simp; omega
        have t1' : decide (j < n) = true := by simp; omega
        obtain ⟨ga, offa, capa', hsa, -, hcella⟩ := (HH.out.2.2.1.chg0 HJ.out.2.2).at1 (by omega)
        obtain ⟨gb, offb, capb', hsb, -, hcellb⟩ := (HH.out.2.2.2.1.chg0 HJ.out.2.2).at1 (by omega)
        simp only [Value.slice.injEq, true_and] at hsa hsb
        obtain ⟨rfl, rfl⟩ := hsa
        obtain ⟨rfl, rfl⟩ := hsb
        have a0 := hcella j hlt
        have b0 := hcellb j hlt
        have hja : j < a.length := by rw [HH.out.1]; exact hlt
        have hjb : j < b.length := by rw [HH.out.2.1]; exact hlt
        have xa : (names a)[j]? = some (.string (str (a[j]'hja))) := by simp [names, hja]
        have xb : (names b)[j]? = some (.string (str (b[j]'hjb))) := by simp [names, hjb]
        rw [xa] at a0
        rw [xb] at b0
        have e2 : wrap64 ((j : Int) + 1) = ((j + 1 : Nat) : Int) := by unfold wrap64; have := HH.out.2.2.2.2; omega
        have e2w := wIq e2
        have hst := eq_step hja hjb HJ.out.2.1
        have hno := eq_no hja hjb
        have HQ := Lib.hid (And.intro (lg1 HJ.out.1 hlt) (And.intro hst hno))
        clear hcella hcellb hst hno xa xb
        generalize (a[j]'hja) = A at *
        generalize (b[j]'hjb) = B at *
        by_cases hAB : A = B
        · subst hAB
          have e1 : ((str A).toList != (str A).toList) = false := by simp
          go_wp2_with fail
          go_quiet (fail)
          go_wp2_with fail
          go_roundg (gk - 1)
          case measure => exact HQ.out.1.2
          case rel => exact ⟨j + 1, by simp, HQ.out.1.1, HQ.out.2.1.2 (by simp), HJ.out.2.2.trans ((Chg.refl [] wr).drewN nq) (by simp)⟩
        · have e1 : ((str A).toList == (str B).toList) = false := by rw [str_toList, str_toList]; simpa using hAB
          have HN := Lib.hid (HQ.out.2.2 hAB)
          clear hAB
          go_wp2_with fail
          go_quiet (fail)
          go_wp2_with fail
          go_ret
          have hRf : R = false := by rw [← HR.out, decide_eq_false HN.out]
          subst hRf
          exact ⟨rfl, HJ.out.2.2.trans ((Chg.refl [] wr).drewN nq) (by simp)⟩
      · have t1 : decide ((j : Int) < (n : Int)) = false := by simp; omega
        have t1' : decide (j < n) = false := by simp; omega
        have hjn := lg2 HJ.out.1 hlt
        have hall := eq_all HH.out.1 HH.out.2.1 (by rw [← hjn]; exact HJ.out.2.1)
        clear hlt hjn
        go_wp2_with fail
        go_ret
        have hRf : R = true := by rw [← HR.out, decide_eq_true hall]
        subst hRf
        exact ⟨rfl, HJ.out.2.2⟩
  · have t0 : ((n : Int) != (m : Int)) = true := by simp; omega
    have t0' : (n != m) = true := by simp; omega
    have hne : a ≠ b := fun e => hnm (by rw [← hn, ← hm, e])
    clear hn hm ha hb hbl hnoa hnob hnm
    go_enter Tryz.func31, Tryz.ntmps31
    go_wp2_with fail
    go_ret
    have hRf : R = false := by rw [← HR.out, decide_eq_false hne]
    subst hRf
    exact ⟨rfl, Chg.refl _ _⟩
/- PRINTED BY gen_fga.py -/
set_option maxHeartbeats 1000000 in
theorem ints_any (w : World) (va vb : Value) (a b : List Nat) (n m : Nat) (hn : a.length = n) (hm : b.length = m) (ha : Sees w 1 va n (ints a)) (hb : Sees w 1 vb m (ints b)) (hbl : n ≤ 1000000000) :
    Calls Tryz.prog 18 #[va, vb] w fun e w' => e = .returned (.bool (decide (a = b))) ∧ Chg [] w w' := by
  obtain ⟨aoa, capa, rfl, hcapa, hnoa⟩ := ha.shape
  obtain ⟨aob, capb, rfl, hcapb, hnob⟩ := hb.shape
  obtain ⟨R, hR⟩ : ∃ R, decide (a = b) = R := ⟨_, rfl⟩
  rw [hR]
  have HR := Lib.hid hR
  clear hR
  by_cases hnm : n = m
  · subst hnm
    have t0 : ((n : Int) != (n : Int)) = false := by simp
    have t0' : (n != n) = false := by simp
    have HH := Lib.hid (And.intro hn (And.intro hm (And.intro ha (And.intro hb hbl))))
    clear hn hm ha hb hbl hnoa hnob
    go_enter Tryz.func18, Tryz.ntmps18
    go_wp2_with fail
    go_loopg [5] n (fun kk vi wr => ∃ (j : Nat), vi = .int .i64 j ∧ Hid (j + kk = n ∧ a.take j = b.take j ∧ Chg [] w wr))
    case atStart => exact ⟨0, rfl, Nat.zero_add _, rfl, Chg.refl _ _⟩
    case round =>
      obtain ⟨j, rfl, HJ⟩ := hrel
      by_cases hlt : j < n
      · have t1 : decide ((j : Int) < (n : Int)) = true := by simp; omega
        have t1' : decide (j < n) = true := by simp; omega
        obtain ⟨ga, offa, capa', hsa, -, hcella⟩ := (HH.out.2.2.1.chg0 HJ.out.2.2).at1 (by omega)
        obtain ⟨gb, offb, capb', hsb, -, hcellb⟩ := (HH.out.2.2.2.1.chg0 HJ.out.2.2).at1 (by omega)
        simp only [Value.slice.injEq, true_and] at hsa hsb
        obtain ⟨rfl, rfl⟩ := hsa
        obtain ⟨rfl, rfl⟩ := hsb
        have a0 := hcella j hlt
        have b0 := hcellb j hlt
        have hja : j < a.length := by rw [HH.out.1]; exact hlt
        have hjb : j < b.length := by rw [HH.out.2.1]; exact hlt
        have xa : (ints a)[j]? = some (.int .i64 ((a[j]'hja : Nat) : Int)) := by simp [ints, hja]
        have xb : (ints b)[j]? = some (.int .i64 ((b[j]'hjb : Nat) : Int)) := by simp [ints, hjb]
        rw [xa] at a0
        rw [xb] at b0
        have e2 : wrap64 ((j : Int) + 1) = ((j + 1 : Nat) : Int) := by unfold wrap64; have := HH.out.2.2.2.2; omega
        have e2w := wIq e2
        have hst := eq_step hja hjb HJ.out.2.1
        have hno := eq_no hja hjb
        have HQ := Lib.hid (And.intro (lg1 HJ.out.1 hlt) (And.intro hst hno))
        clear hcella hcellb hst hno xa xb
        generalize (a[j]'hja) = A at *
        generalize (b[j]'hjb) = B at *
        by_cases hAB : A = B
        · subst hAB
          have e1 : ((A : Int) != (A : Int)) = false := by simp
          go_wp2_with fail
          go_quiet (fail)
          go_wp2_with fail
          go_roundg (gk - 1)
          case measure => exact HQ.out.1.2
          case rel => exact ⟨j + 1, by simp, HQ.out.1.1, HQ.out.2.1.2 (by simp), HJ.out.2.2.trans ((Chg.refl [] wr).drewN nq) (by simp)⟩
        · have e1 : ((A : Int) == (B : Int)) = false := by simp; omega
          have e1' : (A == B) = false := by simp; omega
          have HN := Lib.hid (HQ.out.2.2 hAB)
          clear hAB
          go_wp2_with fail
          go_quiet (fail)
          go_wp2_with fail
          go_ret
          have hRf : R = false := by rw [← HR.out, decide_eq_false HN.out]
          subst hRf
          exact ⟨rfl, HJ.out.2.2.trans ((Chg.refl [] wr).drewN nq) (by simp)⟩
      · have t1 : decide ((j : Int) < (n : Int)) = false := by simp; omega
        have t1' : decide (j < n) = false := by simp; omega
        have hjn := lg2 HJ.out.1 hlt
        have hall := eq_all HH.out.1 HH.out.2.1 (by rw [← hjn]; exact HJ.out.2.1)
        clear hlt hjn
        go_wp2_with fail
        go_ret
        have hRf : R = true := by rw [← HR.out, decide_eq_true hall]
        subst hRf
        exact ⟨rfl, HJ.out.2.2⟩
  · have t0 : ((n : Int) != (m : Int)) = true := by simp; omega
    have t0' : (n != m) = true := by simp; omega
    have hne : a ≠ b := fun e => hnm (by rw [← hn, ← hm, e])
    clear hn hm ha hb hbl hnoa hnob hnm
    go_enter Tryz.func18, Tryz.ntmps18
    go_wp2_with fail
    go_ret
    have hRf : R = false := by rw [← HR.out, decide_eq_false hne]
    subst hRf
    exact ⟨rfl, Chg.refl _ _⟩
/-- The value v is the list of lists of bytes L; no call that changes S touches it. -/
def RowsV (w : World) (S : List Nat) (v : Value) (L : List Sec) : Prop := ∃ xs, Sees w 1 v L.length xs ∧ (∀ (i : Nat) (b : Sec), L[i]? = some b → ∃ y, xs[i]? = some y ∧ Sees w 1 y b.length (Bs b) ∧ Disj (eyes y) S) ∧ Disj (eyes v) S
theorem RowsV.chg {w w' : World} {S T : List Nat} {v : Value} {L : List Sec} (h : RowsV w S v L) (c : Chg T w w') (hT : ∀ k ∈ T, k ∈ S ∨ w.heap.size ≤ k) : RowsV w' S v L := by
  obtain ⟨xs, h1, h2, h3⟩ := h
  have far : ∀ {y : Value} {n : Nat} {ys : List Value}, Sees w 1 y n ys → Disj (eyes y) S → Sees w' 1 y n ys := fun hs hd => hs.chg c fun k hk hk' => by
    rcases hT k hk' with h4 | h4
    · exact hd k hk h4
    · have := hs.lt (by decide) k hk; omega
  refine ⟨xs, far h1 h3, fun i b hb => ?_, h3⟩
  obtain ⟨y, e, hs, hd⟩ := h2 i b hb
  exact ⟨y, e, far hs hd, hd⟩
theorem RowsV.wide {w : World} {S T : List Nat} {v : Value} {L : List Sec} (h : RowsV w S v L) (hs : ∀ k ∈ T, k ∈ S ∨ w.heap.size ≤ k) : RowsV w T v L := by
  obtain ⟨xs, h1, h2, h3⟩ := h
  have far : ∀ {y : Value} {n : Nat} {ys : List Value}, Sees w 1 y n ys → Disj (eyes y) S → Disj (eyes y) T := fun hy hd k hk hk' => by
    rcases hs k hk' with h4 | h4
    · exact hd k hk h4
    · have := hy.lt (by decide) k hk; omega
  refine ⟨xs, h1, fun i b hb => ?_, far h1 h3⟩
  obtain ⟨y, e, hy, hd⟩ := h2 i b hb
  exact ⟨y, e, hy, far hy hd⟩
set_option maxHeartbeats 1000000 in
theorem lists_any (w : World) (va vb : Value) (a b : List Sec) (n m : Nat) (hn : a.length = n) (hm : b.length = m) (ha : RowsV w [] va a) (hb : RowsV w [] vb b) (hbl : n ≤ 1000000000) :
    Calls Tryz.prog 40 #[va, vb] w fun e w' => e = .returned (.bool (decide (a = b))) ∧ Chg [] w w' := by
  obtain ⟨xsa, ha, hra, -⟩ := ha
  obtain ⟨xsb, hb, hrb, -⟩ := hb
  rw [hn] at ha
  rw [hm] at hb
  obtain ⟨aoa, capa, rfl, hcapa, hnoa⟩ := ha.shape
  obtain ⟨aob, capb, rfl, hcapb, hnob⟩ := hb.shape
  obtain ⟨R, hR⟩ : ∃ R, decide (a = b) = R := ⟨_, rfl⟩
  rw [hR]
  have HR := Lib.hid hR
  clear hR
  by_cases hnm : n = m
  · subst hnm
    have t0 : ((n : Int) != (n : Int)) = false := by simp
    have t0' : (n != n) = false := by simp
    have HH := Lib.hid (And.intro hn (And.intro hm (And.intro ha (And.intro hb (And.intro hbl (And.intro hra hrb))))))
    clear hn hm ha hb hbl hra hrb hnoa hnob
    go_enter Tryz.func40, Tryz.ntmps40
    go_wp2_with fail
    go_loopg [5] n (fun kk vi wr => ∃ (j : Nat), vi = .int .i64 j ∧ Hid (j + kk = n ∧ a.take j = b.take j ∧ Chg [] w wr))
    case atStart => exact ⟨0, rfl, Nat.zero_add _, rfl, Chg.refl _ _⟩
    case round =>
      obtain ⟨j, rfl, HJ⟩ := hrel
      by_cases hlt : j < n
      · have t1 : decide ((j : Int) < (n : Int)) = true := by simp; omega
        have t1' : decide (j < n) = true := by simp; omega
        obtain ⟨ga, offa, capa', hsa, -, hcella⟩ := (HH.out.2.2.1.chg0 HJ.out.2.2).at1 (by omega)
        obtain ⟨gb, offb, capb', hsb, -, hcellb⟩ := (HH.out.2.2.2.1.chg0 HJ.out.2.2).at1 (by omega)
        simp only [Value.slice.injEq, true_and] at hsa hsb
        obtain ⟨rfl, rfl⟩ := hsa
        obtain ⟨rfl, rfl⟩ := hsb
        have a0 := hcella j hlt
        have b0 := hcellb j hlt
        have hja : j < a.length := by rw [HH.out.1]; exact hlt
        have hjb : j < b.length := by rw [HH.out.2.1]; exact hlt
        obtain ⟨ya, xa, sa, -⟩ := HH.out.2.2.2.2.2.1 j _ (List.getElem?_eq_getElem hja)
        obtain ⟨yb, xb, sb, -⟩ := HH.out.2.2.2.2.2.2 j _ (List.getElem?_eq_getElem hjb)
        obtain ⟨aya, cya, rfl, -⟩ := sa.shape
        obtain ⟨ayb, cyb, rfl, -⟩ := sb.shape
        have kS := fun w' (c : Chg [] w w') => same_any w' _ _ _ _ _ _ (sa.chg0 c) (sb.chg0 c)
        rw [xa] at a0
        rw [xb] at b0
        have e2 : wrap64 ((j : Int) + 1) = ((j + 1 : Nat) : Int) := by unfold wrap64; have := HH.out.2.2.2.2.1; omega
        have e2w := wIq e2
        have hst := eq_step hja hjb HJ.out.2.1
        have hno := eq_no hja hjb
        have HQ := Lib.hid (And.intro (lg1 HJ.out.1 hlt) (And.intro hst hno))
        clear hcella hcellb hst hno xa xb sa sb
        generalize (a[j]'hja) = A at *
        generalize (b[j]'hjb) = B at *
        generalize A.length = nA at *
        generalize B.length = nB at *
        have kS1 := fun w' (c : Chg [] wr w') => kS w' (HJ.out.2.2.nil c)
        clear kS
        by_cases hAB : A = B
        · subst hAB
          simp only [decide_true] at kS1
          obtain ⟨W0, hW0⟩ : ∃ W0, wr.drew = W0 := ⟨_, rfl⟩
          have cd : Chg [] wr W0 := by rw [← hW0]; exact (Chg.refl _ _).drew
          go_wp2_with fail
          refine wp_region_U [] (fun _ => false) (by kernel_rfl) ?_
          rw [hW0]
          clear hW0
          have C0 : Chg [] W0 W0 := Chg.refl _ _
          refine wpAnyU_take 0 (v := (.slice (some ⟨ga, offa, none⟩) n capa)) C0 rfl (by kernel_rfl) (by kernel_rfl) (by kernel_rfl) (by kernel_rfl) (fun _ _ _ h => h) (by rfl) (fun w4 c4 => ?_) ?_
          · go_simp
          try simp only [Act.put, List.getElem_toArray, List.getElem_cons_succ, List.getElem_cons_zero, List.setIfInBounds_toArray, List.set_cons_zero, List.set_cons_succ]
          refine wpAnyU_take 1 (v := (.int .i64 (j : Int))) C0 rfl (by kernel_rfl) (by kernel_rfl) (by kernel_rfl) (by kernel_rfl) (fun _ _ _ h => h) (by rfl) (fun w4 c4 => ?_) ?_
          · go_simp
          try simp only [Act.put, List.getElem_toArray, List.getElem_cons_succ, List.getElem_cons_zero, List.setIfInBounds_toArray, List.set_cons_zero, List.set_cons_succ]
          refine wpAnyU_take 2 (v := (.pointer (some ⟨ga, offa + j, none⟩))) C0 rfl (by kernel_rfl) (by kernel_rfl) (by kernel_rfl) (by kernel_rfl) (fun _ _ _ h => h) (by rfl) (fun w4 c4 => ?_) ?_
          · go_simp
          try simp only [Act.put, List.getElem_toArray, List.getElem_cons_succ, List.getElem_cons_zero, List.setIfInBounds_toArray, List.set_cons_zero, List.set_cons_succ]
          refine wpAnyU_take 3 (v := (.slice aya nA cya)) C0 rfl (by kernel_rfl) (by kernel_rfl) (by kernel_rfl) (by kernel_rfl) (fun _ _ _ h => h) (by rfl) (fun w4 c4 => ?_) ?_
          · have a1 := (cd.nil c4).cell_some a0 (by simp)
            go_simp
          try simp only [Act.put, List.getElem_toArray, List.getElem_cons_succ, List.getElem_cons_zero, List.setIfInBounds_toArray, List.set_cons_zero, List.set_cons_succ]
          refine wpAnyU_take 4 (v := (.slice (some ⟨gb, offb, none⟩) n capb)) C0 rfl (by kernel_rfl) (by kernel_rfl) (by kernel_rfl) (by kernel_rfl) (fun _ _ _ h => h) (by rfl) (fun w4 c4 => ?_) ?_
          · go_simp
          try simp only [Act.put, List.getElem_toArray, List.getElem_cons_succ, List.getElem_cons_zero, List.setIfInBounds_toArray, List.set_cons_zero, List.set_cons_succ]
          refine wpAnyU_take 5 (v := (.int .i64 (j : Int))) C0 rfl (by kernel_rfl) (by kernel_rfl) (by kernel_rfl) (by kernel_rfl) (fun _ _ _ h => h) (by rfl) (fun w4 c4 => ?_) ?_
          · go_simp
          try simp only [Act.put, List.getElem_toArray, List.getElem_cons_succ, List.getElem_cons_zero, List.setIfInBounds_toArray, List.set_cons_zero, List.set_cons_succ]
          refine wpAnyU_take 6 (v := (.pointer (some ⟨gb, offb + j, none⟩))) C0 rfl (by kernel_rfl) (by kernel_rfl) (by kernel_rfl) (by kernel_rfl) (fun _ _ _ h => h) (by rfl) (fun w4 c4 => ?_) ?_
          · go_simp
          try simp only [Act.put, List.getElem_toArray, List.getElem_cons_succ, List.getElem_cons_zero, List.setIfInBounds_toArray, List.set_cons_zero, List.set_cons_succ]
          refine wpAnyU_take 7 (v := (.slice ayb nB cyb)) C0 rfl (by kernel_rfl) (by kernel_rfl) (by kernel_rfl) (by kernel_rfl) (fun _ _ _ h => h) (by rfl) (fun w4 c4 => ?_) ?_
          · have a1 := (cd.nil c4).cell_some b0 (by simp)
            go_simp
          try simp only [Act.put, List.getElem_toArray, List.getElem_cons_succ, List.getElem_cons_zero, List.setIfInBounds_toArray, List.set_cons_zero, List.set_cons_succ]
          refine wpAnyU_only 8 rfl (by kernel_rfl) (by rfl) (by rfl) ?_
          go_simp
          refine (kS1 W0 cd).mono ?_
          rintro e w5 ⟨rfl, hw5⟩
          obtain rfl : W0 = w5 := hw5
          refine ⟨C0, ?_⟩
          try simp only [Act.put, List.getElem_toArray, List.getElem_cons_succ, List.getElem_cons_zero, List.setIfInBounds_toArray, List.set_cons_zero, List.set_cons_succ]
          refine wpAnyU_take 9 (v := (.bool false)) C0 rfl (by kernel_rfl) (by kernel_rfl) (by kernel_rfl) (by kernel_rfl) (fun _ _ _ h => h) (by rfl) (fun w4 c4 => ?_) ?_
          · go_simp
          try simp only [Act.put, List.getElem_toArray, List.getElem_cons_succ, List.getElem_cons_zero, List.setIfInBounds_toArray, List.set_cons_zero, List.set_cons_succ]
          refine wpAnyU_done (by kernel_rfl) ?_ _
          clear kS1 C0
          go_wp2_with fail
          go_roundg (gk - 1)
          case measure => exact HQ.out.1.2
          case rel => exact ⟨j + 1, by simp, HQ.out.1.1, HQ.out.2.1.2 (by simp), HJ.out.2.2.nil cd⟩
        · simp only [decide_eq_false hAB] at kS1
          have HN := Lib.hid (HQ.out.2.2 hAB)
          clear hAB
          obtain ⟨W0, hW0⟩ : ∃ W0, wr.drew = W0 := ⟨_, rfl⟩
          have cd : Chg [] wr W0 := by rw [← hW0]; exact (Chg.refl _ _).drew
          go_wp2_with fail
          refine wp_region_U [] (fun _ => false) (by kernel_rfl) ?_
          rw [hW0]
          clear hW0
          have C0 : Chg [] W0 W0 := Chg.refl _ _
          refine wpAnyU_take 0 (v := (.slice (some ⟨ga, offa, none⟩) n capa)) C0 rfl (by kernel_rfl) (by kernel_rfl) (by kernel_rfl) (by kernel_rfl) (fun _ _ _ h => h) (by rfl) (fun w4 c4 => ?_) ?_
          · go_simp
          try simp only [Act.put, List.getElem_toArray, List.getElem_cons_succ, List.getElem_cons_zero, List.setIfInBounds_toArray, List.set_cons_zero, List.set_cons_succ]
          refine wpAnyU_take 1 (v := (.int .i64 (j : Int))) C0 rfl (by kernel_rfl) (by kernel_rfl) (by kernel_rfl) (by kernel_rfl) (fun _ _ _ h => h) (by rfl) (fun w4 c4 => ?_) ?_
          · go_simp
          try simp only [Act.put, List.getElem_toArray, List.getElem_cons_succ, List.getElem_cons_zero, List.setIfInBounds_toArray, List.set_cons_zero, List.set_cons_succ]
          refine wpAnyU_take 2 (v := (.pointer (some ⟨ga, offa + j, none⟩))) C0 rfl (by kernel_rfl) (by kernel_rfl) (by kernel_rfl) (by kernel_rfl) (fun _ _ _ h => h) (by rfl) (fun w4 c4 => ?_) ?_
          · go_simp
          try simp only [Act.put, List.getElem_toArray, List.getElem_cons_succ, List.getElem_cons_zero, List.setIfInBounds_toArray, List.set_cons_zero, List.set_cons_succ]
          refine wpAnyU_take 3 (v := (.slice aya nA cya)) C0 rfl (by kernel_rfl) (by kernel_rfl) (by kernel_rfl) (by kernel_rfl) (fun _ _ _ h => h) (by rfl) (fun w4 c4 => ?_) ?_
          · have a1 := (cd.nil c4).cell_some a0 (by simp)
            go_simp
          try simp only [Act.put, List.getElem_toArray, List.getElem_cons_succ, List.getElem_cons_zero, List.setIfInBounds_toArray, List.set_cons_zero, List.set_cons_succ]
          refine wpAnyU_take 4 (v := (.slice (some ⟨gb, offb, none⟩) n capb)) C0 rfl (by kernel_rfl) (by kernel_rfl) (by kernel_rfl) (by kernel_rfl) (fun _ _ _ h => h) (by rfl) (fun w4 c4 => ?_) ?_
          · go_simp
          try simp only [Act.put, List.getElem_toArray, List.getElem_cons_succ, List.getElem_cons_zero, List.setIfInBounds_toArray, List.set_cons_zero, List.set_cons_succ]
          refine wpAnyU_take 5 (v := (.int .i64 (j : Int))) C0 rfl (by kernel_rfl) (by kernel_rfl) (by kernel_rfl) (by kernel_rfl) (fun _ _ _ h => h) (by rfl) (fun w4 c4 => ?_) ?_
          · go_simp
          try simp only [Act.put, List.getElem_toArray, List.getElem_cons_succ, List.getElem_cons_zero, List.setIfInBounds_toArray, List.set_cons_zero, List.set_cons_succ]
          refine wpAnyU_take 6 (v := (.pointer (some ⟨gb, offb + j, none⟩))) C0 rfl (by kernel_rfl) (by kernel_rfl) (by kernel_rfl) (by kernel_rfl) (fun _ _ _ h => h) (by rfl) (fun w4 c4 => ?_) ?_
          · go_simp
          try simp only [Act.put, List.getElem_toArray, List.getElem_cons_succ, List.getElem_cons_zero, List.setIfInBounds_toArray, List.set_cons_zero, List.set_cons_succ]
          refine wpAnyU_take 7 (v := (.slice ayb nB cyb)) C0 rfl (by kernel_rfl) (by kernel_rfl) (by kernel_rfl) (by kernel_rfl) (fun _ _ _ h => h) (by rfl) (fun w4 c4 => ?_) ?_
          · have a1 := (cd.nil c4).cell_some b0 (by simp)
            go_simp
          try simp only [Act.put, List.getElem_toArray, List.getElem_cons_succ, List.getElem_cons_zero, List.setIfInBounds_toArray, List.set_cons_zero, List.set_cons_succ]
          refine wpAnyU_only 8 rfl (by kernel_rfl) (by rfl) (by rfl) ?_
          go_simp
          refine (kS1 W0 cd).mono ?_
          rintro e w5 ⟨rfl, hw5⟩
          obtain rfl : W0 = w5 := hw5
          refine ⟨C0, ?_⟩
          try simp only [Act.put, List.getElem_toArray, List.getElem_cons_succ, List.getElem_cons_zero, List.setIfInBounds_toArray, List.set_cons_zero, List.set_cons_succ]
          refine wpAnyU_take 9 (v := (.bool true)) C0 rfl (by kernel_rfl) (by kernel_rfl) (by kernel_rfl) (by kernel_rfl) (fun _ _ _ h => h) (by rfl) (fun w4 c4 => ?_) ?_
          · go_simp
          try simp only [Act.put, List.getElem_toArray, List.getElem_cons_succ, List.getElem_cons_zero, List.setIfInBounds_toArray, List.set_cons_zero, List.set_cons_succ]
          refine wpAnyU_done (by kernel_rfl) ?_ _
          clear kS1 C0
          go_wp2_with fail
          go_ret
          have hRf : R = false := by rw [← HR.out, decide_eq_false HN.out]
          subst hRf
          exact ⟨rfl, HJ.out.2.2.nil cd⟩
      · have t1 : decide ((j : Int) < (n : Int)) = false := by simp; omega
        have t1' : decide (j < n) = false := by simp; omega
        have hjn := lg2 HJ.out.1 hlt
        have hall := eq_all HH.out.1 HH.out.2.1 (by rw [← hjn]; exact HJ.out.2.1)
        clear hlt hjn
        go_wp2_with fail
        go_ret
        have hRf : R = true := by rw [← HR.out, decide_eq_true hall]
        subst hRf
        exact ⟨rfl, HJ.out.2.2⟩
  · have t0 : ((n : Int) != (m : Int)) = true := by simp; omega
    have t0' : (n != m) = true := by simp; omega
    have hne : a ≠ b := fun e => hnm (by rw [← hn, ← hm, e])
    clear hn hm ha hb hbl hra hrb hnoa hnob hnm
    go_enter Tryz.func40, Tryz.ntmps40
    go_wp2_with fail
    go_ret
    have hRf : R = false := by rw [← HR.out, decide_eq_false hne]
    subst hRf
    exact ⟨rfl, Chg.refl _ _⟩
/-- The value v is a shot of the view V. -/
def ShotR (w : World) (S : List Nat) (v : Value) (V : View) : Prop := ∃ nv bv, v = .agg #[nv, bv] ∧ Sees w 1 nv V.length (names (V.map (·.1))) ∧ Disj (eyes nv) S ∧ RowsV w S bv (V.map (·.2))
theorem ShotR.chg {w w' : World} {S T : List Nat} {v : Value} {V : View} (h : ShotR w S v V) (c : Chg T w w') (hT : ∀ k ∈ T, k ∈ S ∨ w.heap.size ≤ k) : ShotR w' S v V := by
  obtain ⟨nv, bv, rfl, h1, h2, h3⟩ := h
  exact ⟨nv, bv, rfl, h1.chg c fun k hk hk' => by
    rcases hT k hk' with h4 | h4
    · exact h2 k hk h4
    · have := h1.lt (by decide) k hk; omega, h2, h3.chg c hT⟩
theorem ShotR.wide {w : World} {S T : List Nat} {v : Value} {V : View} (h : ShotR w S v V) (hs : ∀ k ∈ T, k ∈ S ∨ w.heap.size ≤ k) : ShotR w T v V := by
  obtain ⟨nv, bv, rfl, h1, h2, h3⟩ := h
  exact ⟨nv, bv, rfl, h1, fun k hk hk' => by
    rcases hs k hk' with h4 | h4
    · exact h2 k hk h4
    · have := h1.lt (by decide) k hk; omega, h3.wide hs⟩
theorem pair_eq {V W : View} : V = W ↔ V.map (·.1) = W.map (·.1) ∧ V.map (·.2) = W.map (·.2) := by
  refine ⟨by rintro rfl; exact ⟨rfl, rfl⟩, fun ⟨h1, h2⟩ => ?_⟩
  induction V generalizing W with
  | nil => cases W with
    | nil => rfl
    | cons a l => simp at h1
  | cons a l ih => cases W with
    | nil => simp at h1
    | cons b m =>
      simp only [List.map_cons, List.cons.injEq] at h1 h2
      have e1 : l = m := ih (W := m) ⟨h1.2, h2.2⟩ h1.2 h2.2
      have e2 : a = b := Prod.ext h1.1 h2.1
      rw [e1, e2]
set_option maxRecDepth 100000 in
set_option maxHeartbeats 1000000 in
theorem alike_any (w : World) (va vb : Value) (V W : View) (ha : ShotR w [] va V) (hb : ShotR w [] vb W) (hV : V.length ≤ 1000000000) (hW : W.length ≤ 1000000000) :
    Calls Tryz.prog 13 #[va, vb] w fun e w' => e = .returned (.bool (decide (V = W))) ∧ Chg [] w w' := by
  obtain ⟨na, ba, rfl, ha1, -, ha2⟩ := ha
  obtain ⟨nb, bb, rfl, hb1, -, hb2⟩ := hb
  have kT := fun w' (c : Chg [] w w') => texts_any w' na nb (V.map (·.1)) (W.map (·.1)) _ _ (by simp) (by simp) (ha1.chg0 c) (hb1.chg0 c) hV
  have kL := fun w' (c : Chg [] w w') => lists_any w' ba bb (V.map (·.2)) (W.map (·.2)) _ _ rfl rfl (ha2.chg c (by simp)) (hb2.chg c (by simp)) (by simpa using hV)
  have hRR : decide (V = W) = (decide (V.map (·.1) = W.map (·.1)) && decide (V.map (·.2) = W.map (·.2))) := by rw [Bool.eq_iff_iff]; simp only [Bool.and_eq_true, decide_eq_true_eq]; exact pair_eq
  rw [hRR]
  obtain ⟨aa1, ca1, rfl, -⟩ := ha1.shape
  obtain ⟨ab1, cb1, rfl, -⟩ := hb1.shape
  obtain ⟨aa2, ca2, rfl, -⟩ := ha2.choose_spec.1.shape
  obtain ⟨ab2, cb2, rfl, -⟩ := hb2.choose_spec.1.shape
  generalize decide (V.map (·.1) = W.map (·.1)) = R1 at *
  generalize decide (V.map (·.2) = W.map (·.2)) = R2 at *
  clear ha1 ha2 hb1 hb2 hV hW hRR
  cases R1 with
  | false =>
    go_enter Tryz.func13, Tryz.ntmps13
    go_upto_region 1 with (fail)
    obtain ⟨wa, hwa⟩ : ∃ wa, w.alloc (.cells #[.slice aa1 V.length ca1, .slice aa2 (V.map (·.2)).length ca2] 33) = wa := ⟨_, rfl⟩
    obtain ⟨wb, hwb⟩ : ∃ wb, wa.alloc (.cells #[.slice ab1 W.length cb1, .slice ab2 (W.map (·.2)).length cb2] 33) = wb := ⟨_, rfl⟩
    have ba : Blk wa w.heap.size #[.slice aa1 V.length ca1, .slice aa2 (V.map (·.2)).length ca2] 33 := by rw [← hwa]; exact Blk.new _ _ _
    have bb : Blk wb wa.heap.size #[.slice ab1 W.length cb1, .slice ab2 (W.map (·.2)).length cb2] 33 := by rw [← hwb]; exact Blk.new _ _ _
    have ka : Chg [] w wa := by rw [← hwa]; exact (Chg.refl [] w).alloc _
    have kb : Chg [] wa wb := by rw [← hwb]; exact (Chg.refl [] wa).alloc _
    have hqb : wa.heap.size = w.heap.size + 1 := by rw [← hwa]; simp
    rw [hqb] at bb
    rw [List.length_map] at hwa hwb ba bb
    rw [hwa, hwb]
    replace ba := ba.chg0 kb
    obtain ⟨⟨xa0, xa1⟩, -⟩ := ba.c2
    obtain ⟨⟨xb0, xb1⟩, -⟩ := bb.c2
    have kw := ka.nil kb
    have kT1 := kT wb kw
    clear hqb
    generalize w.heap.size = qa at *
    clear hwa hwb ka kb ba bb kT
    go_wp2_with fail
    refine kT1.mono ?_
    rintro e w1 ⟨rfl, c1⟩
    clear kT1 kL
    go_wp2_with fail
    go_ret
    exact ⟨rfl, kw.nil c1⟩
  | true =>
    go_enter Tryz.func13, Tryz.ntmps13
    go_upto_region 1 with (fail)
    obtain ⟨wa, hwa⟩ : ∃ wa, w.alloc (.cells #[.slice aa1 V.length ca1, .slice aa2 (V.map (·.2)).length ca2] 33) = wa := ⟨_, rfl⟩
    obtain ⟨wb, hwb⟩ : ∃ wb, wa.alloc (.cells #[.slice ab1 W.length cb1, .slice ab2 (W.map (·.2)).length cb2] 33) = wb := ⟨_, rfl⟩
    have ba : Blk wa w.heap.size #[.slice aa1 V.length ca1, .slice aa2 (V.map (·.2)).length ca2] 33 := by rw [← hwa]; exact Blk.new _ _ _
    have bb : Blk wb wa.heap.size #[.slice ab1 W.length cb1, .slice ab2 (W.map (·.2)).length cb2] 33 := by rw [← hwb]; exact Blk.new _ _ _
    have ka : Chg [] w wa := by rw [← hwa]; exact (Chg.refl [] w).alloc _
    have kb : Chg [] wa wb := by rw [← hwb]; exact (Chg.refl [] wa).alloc _
    have hqb : wa.heap.size = w.heap.size + 1 := by rw [← hwa]; simp
    rw [hqb] at bb
    rw [List.length_map] at hwa hwb ba bb
    rw [hwa, hwb]
    replace ba := ba.chg0 kb
    obtain ⟨⟨xa0, xa1⟩, -⟩ := ba.c2
    obtain ⟨⟨xb0, xb1⟩, -⟩ := bb.c2
    have kw := ka.nil kb
    have kT1 := kT wb kw
    clear hqb
    generalize w.heap.size = qa at *
    clear hwa hwb ka kb ba bb kT
    go_wp2_with fail
    refine kT1.mono ?_
    rintro e w1 ⟨rfl, c1⟩
    have kL1 := kL w1 (kw.nil c1)
    rw [List.length_map, List.length_map] at kL1
    replace xa1 := c1.cell_some xa1 (by simp)
    replace xb1 := c1.cell_some xb1 (by simp)
    clear kT1 kL
    go_wp2_with fail
    refine kL1.mono ?_
    rintro e w2 ⟨rfl, c2⟩
    clear kL1
    go_wp2_with fail
    go_ret
    exact ⟨rfl, (kw.nil c1).nil c2⟩
end Go.Proofs.YtgcmgcffndbpoaaGreatDoor

/- aqulaw16.taken: names and bytes of all files. No statement of the seat is proved here. -/
namespace Go.Aq
open Go.RowKit
theorem results_ct {P : Program} {fn : Func} {p u : Tmp} {tu : TypeId} (h : fn.results = #[.cell u tu, .tmp p]) (tmps : Array Value) (w : World) {g : Nat} {x y : Value} (hu : tmps.getD u undef = .pointer (some ⟨g, 0, none⟩))
    (ha : ∀ w, (isAgg tu).run P w = .ok true w) (hs : ∀ w, (sizeOf tu).run P w = .ok 2 w) (c0 : w.cell? ⟨g, 0, none⟩ = some x) (c1 : w.cell? ⟨g, 1, none⟩ = some y) : (results fn tmps).run P w = .ok (.tuple #[.agg #[x, y], tmps.getD p undef]) w := by
  have hu' : tmps[u]?.getD undef = .pointer (some ⟨g, 0, none⟩) := by simpa using hu
  have hl : (loadCells ⟨g, 0, none⟩ 2).run P w = .ok #[x, y] w := by
    have e0 : (⟨g, 0, none⟩ : Addr).add 0 = ⟨g, 0, none⟩ := by simp [Addr.add]
    have e1 : (⟨g, 0, none⟩ : Addr).add 1 = ⟨g, 1, none⟩ := by simp [Addr.add]
    simp [go_sem, loadCells, e0, e1, c0, c1]
  simp only [results, h]
  simp [Sem.run_bind, Result.andThen, loadVar, ha, hs, hu', asAddr, hl]
end Go.Aq
namespace Go.Aq.Fy
open Go.Aq Go.RowKit
theorem flat_len {g : Nat → Sec} (h : ∀ k, (g k).length = 256) : ∀ ks : List Nat, (ks.flatMap g).length = 256 * ks.length
  | [] => rfl
  | k :: ks => by rw [List.flatMap_cons, List.length_append, h, flat_len h ks, List.length_cons]; omega
theorem bytesB_len {q : Nat} {F : FsD} (h : FInv q F) {s : Nm} {x : FileD} (hx : (s, x) ∈ F.files) : (bytesB F x).length = x.size := by
  obtain ⟨-, h2⟩ := h.files.size _ hx
  simp only at h2
  unfold bytesB
  rw [List.length_take, flat_len (g := fun k => F.disk.now (firstF F + k)) (fun k => h.rest.len _), h2]
  unfold cnt
  omega
theorem viewF_at (F : FsD) (i : Nat) : (viewF F)[i]? = (F.files[i]?).map fun p => (p.1, bytesB F p.2) := by
  unfold viewF viewG mapK
  rw [List.getElem?_map]
  rfl
theorem viewF_names (F : FsD) : (viewF F).map (·.1) = F.files.map (·.1) := by unfold viewF viewG; exact mapK_keys _ _
theorem viewF_len (F : FsD) : (viewF F).length = F.files.length := by unfold viewF viewG; exact mapK_len _ _
/-- What Read and Size want of a file. -/
theorem FInv.at {q : Nat} {F : FsD} (h : FInv q F) {s : Nm} {x : FileD} (hx : (s, x) ∈ F.files) : s.length ≤ 1048576 ∧ lookK s F.files = some x ∧ x.size ≤ 256 * x.blocks.length ∧ x.blocks.length ≤ 4096 ∧ (∀ k ∈ x.blocks, k < allF F) ∧ (bytesB F x).length = x.size ∧ x.size ≤ 65535 := by
  obtain ⟨h1, h2⟩ := h.files.size _ hx
  simp only at h1 h2
  have h3 := nameOk_len (h.files.name _ hx)
  refine ⟨Nat.le_trans h3 (by decide), look_of_mem h.files.asc hx, ?_, ?_, fun k hk => h.files.bound k (List.mem_flatMap.2 ⟨_, hx, hk⟩), bytesB_len h hx, h1⟩
  · rw [h2]; unfold cnt; omega
  · rw [h2]; unfold cnt; omega
end Go.Aq.Fy
namespace Go.Proofs.YtgcmgcffndbpoaaGreatDoor
open Go.RowKit Go.Aq Go.Aq.Fy Go.Maps
/-- The values ys are the lists of bytes L; they lie behind B. -/
def RowsN (w : World) (B : Nat) (ys : List Value) (L : List Sec) : Prop := ys.length = L.length ∧ ∀ (i : Nat) (b : Sec), L[i]? = some b → ∃ y, ys[i]? = some y ∧ Sees w 1 y b.length (Bs b) ∧ ∀ k ∈ eyes y, B ≤ k ∧ k < w.heap.size
theorem RowsN.push {w : World} {B : Nat} {ys : List Value} {L : List Sec} (h : RowsN w B ys L) {y : Value} {b : Sec} (hy : Sees w 1 y b.length (Bs b)) (hn : ∀ k ∈ eyes y, B ≤ k) : RowsN w B (ys ++ [y]) (L ++ [b]) := by
  refine ⟨by simp [h.1], fun i c hc => ?_⟩
  rw [List.getElem?_append] at hc ⊢
  rw [h.1]
  split at hc
  · rename_i hi
    rw [if_pos hi]
    exact h.2 i c hc
  · rename_i hi
    rw [if_neg hi]
    have : i - L.length = 0 := by
      have := (List.getElem?_eq_some_iff.1 hc).1
      simp at this
      omega
    rw [this] at hc ⊢
    simp only [List.getElem?_cons_zero, Option.some.injEq] at hc
    subst hc
    exact ⟨y, rfl, hy, fun k hk => ⟨hn k hk, hy.lt (by decide) k hk⟩⟩
theorem RowsN.chg {w w' : World} {B : Nat} {ys : List Value} {L : List Sec} {T : List Nat} (h : RowsN w B ys L) (c : Chg T w w') (hT : ∀ (y : Value), y ∈ ys → Disj (eyes y) T) : RowsN w' B ys L := by
  refine ⟨h.1, fun i b hb => ?_⟩
  obtain ⟨y, e, hs, hn⟩ := h.2 i b hb
  exact ⟨y, e, hs.chg c (hT y (List.mem_of_getElem? e)), fun k hk => ⟨(hn k hk).1, Nat.lt_of_lt_of_le (hn k hk).2 c.size⟩⟩
theorem RowsN.mem {w : World} {B : Nat} {ys : List Value} {L : List Sec} (h : RowsN w B ys L) {y : Value} (hy : y ∈ ys) : ∀ k ∈ eyes y, B ≤ k ∧ k < w.heap.size := by
  obtain ⟨i, hi, rfl⟩ := List.getElem_of_mem hy
  obtain ⟨y', e, -, h3⟩ := h.2 i (L[i]'(by rw [← h.1]; exact hi)) (List.getElem?_eq_getElem _)
  rw [List.getElem?_eq_getElem hi] at e
  cases e
  exact h3
set_option maxRecDepth 100000 in
set_option maxHeartbeats 8000000 in
theorem taken_ok {q : Nat} (w : World) (Sd : List Nat) (f d l bf : Nat) (F : FsD) (hF : FsR w Sd [] f d l bf F) (hI : FInv q F) :
    Calls Tryz.prog 12 #[.pointer (some ⟨f, 0, none⟩)] w fun e w' => ∃ v, e = .returned (.tuple #[v, .bool true]) ∧ (∀ S, In w S → ShotR w' S v (viewF F)) ∧ Chg [] w w' := by
  obtain ⟨N, hN⟩ : ∃ N, F.files.length = N := ⟨_, rfl⟩
  have hN4 : N ≤ 400 := by rw [← hN]; exact hI.files.few
  have hli := fun w' (c : Chg [] w w') => list_ok w' Sd [] f d l bf F (hF.chg0 c) (by omega)
  rw [hN] at hli
  have HH := Lib.hid (And.intro hF (And.intro hI hN))
  clear hF hI hN
  have zs : ∀ w, (zeroValue 33).run Tryz.prog w = .ok (.agg #[.slice none 0 0, .slice none 0 0]) w := fun w => by kernel_rfl
  go_enter Tryz.func12, Tryz.ntmps12
  go_upto_region 1 with (fail)
  obtain ⟨w1, hw1⟩ : ∃ w1, w.alloc (.cells #[.slice none 0 0, .slice none 0 0] 33) = w1 := ⟨_, rfl⟩
  obtain ⟨A2, hA2⟩ : ∃ A2, w.heap.size = A2 := ⟨_, rfl⟩
  have hb1 : Blk w1 A2 #[.slice none 0 0, .slice none 0 0] 33 := by rw [← hw1, ← hA2]; exact Blk.new _ _ _
  have k1 : Chg [] w w1 := by rw [← hw1]; exact (Chg.refl [] w).alloc _
  rw [hw1, hA2]
  have hl1 := hli w1 k1
  have H1 := Lib.hid (And.intro hb1 (And.intro k1 hA2))
  clear hw1 hb1 k1 hA2 hli
  go_wp2_with fail
  refine hl1.mono ?_
  rintro e w2 ⟨nv, rfl, hF2⟩
  obtain ⟨an, cn, rfl, hcn⟩ := hF2.shape
  clear hl1
  go_upto_region 2 with (fail)
  obtain ⟨w3, hw3⟩ : ∃ w3, w2.alloc (.cells #[.slice an N cn, .slice none 0 0] 33) = w3 := ⟨_, rfl⟩
  obtain ⟨A, hA⟩ : ∃ A, w2.heap.size = A := ⟨_, rfl⟩
  have hb3 : Blk w3 A #[.slice an N cn, .slice none 0 0] 33 := by rw [← hw3, ← hA]; exact Blk.new _ _ _
  have k3 : Chg [] w2 w3 := by rw [← hw3]; exact (Chg.refl [] w2).alloc _
  have hs3 : w3.heap.size = A + 1 := by rw [← hw3, ← hA]; exact Array.size_push _
  rw [hw3, hA]
  have hA12 : A2 < A := by have h1 := H1.out.1.lt; have h2 := hF2.chg.size; omega
  have heA : ∀ t ∈ eyes (.slice an N cn), t < A ∧ A2 < t := fun t ht => ⟨by rw [← hA]; exact hF2.own.sees.lt (by decide) t ht, by
    have h1 := hF2.new t (eyes_own _ t ht)
    have h2 := H1.out.1.lt
    omega⟩
  have H3 := Lib.hid (And.intro hb3 (And.intro (hF2.to k3) (And.intro (H1.out.1.chg0 (hF2.chg.nil k3)) (And.intro ((H1.out.2.1.nil hF2.chg).nil k3) (And.intro hs3 (And.intro hA12 heA))))))
  clear hw3 hA hb3 k3 hF2 hs3 hA12 heA
  go_wp2_with fail
  go_loopg [5, 6, 7] N (fun k (v5 v6 v7 : Value) wr => ∃ (i : Nat) (bv : Value) (ys : List Value), v5 = .int .i64 i ∧ Blk wr A #[.slice an N cn, bv] 33 ∧ OwnN w3 wr 38 1 bv i ys ∧ Hid (i + k = N ∧ Chg [A] w3 wr ∧ RowsN wr (A + 1) ys (((viewF F).map (·.2)).take i) ∧ ∀ y ∈ ys, Disj (eyes y) bv.ownBlock.toList))
  case atStart =>
    exact ⟨0, _, [], rfl, H3.out.1, OwnN.nil _ _ _ _, Nat.zero_add _, Chg.refl _ _, ⟨rfl, fun i b h => by simp at h⟩, fun y hy => by simp at hy⟩
  case round =>
    obtain ⟨i, bv, ys, rfl, hbA, hO, HJ⟩ := hrel
    obtain ⟨ab, cb, rfl, -⟩ := hO.shape
    obtain ⟨⟨x0, x1⟩, g0, g1⟩ := hbA.c2
    by_cases hi : i < N
    · have t0 : decide ((i : Int) < (N : Int)) = true := by simp; omega
      have t0' : decide (i < N) = true := by simp; omega
      obtain ⟨hik, cA, hR, hD⟩ := HJ.out
      obtain ⟨hF, hI, hN⟩ := HH.out
      have hil : i < F.files.length := by omega
      obtain ⟨sx, hsx⟩ : ∃ sx, F.files[i]'hil = sx := ⟨_, rfl⟩
      obtain ⟨s, x⟩ := sx
      have hmem : (s, x) ∈ F.files := by rw [← hsx]; exact List.getElem_mem hil
      obtain ⟨q1, q2, q3, q4, q5, q6, q7⟩ := hI.at hmem
      have cw : Chg [] w wr := H3.out.2.2.2.1.trans cA (fun t ht => .inr (by simp at ht; have h1 := H1.out.2.2; have h2 := H3.out.2.2.2.2.2.1; omega))
      have hrd := fun w' (c : Chg [] w w') => fread_ok w' Sd [] f d l bf F (hF.chg0 c) hI.rest.up s q1 x q2 q3 q4 q5 (fun k _ => hI.rest.len k)
      have hsz := fun w' (c : Chg [] w w') => size_ok w' Sd [] f d l bf F (hF.chg0 c) s q1
      rw [q2] at hsz
      simp only at hsz
      have hrd1 := hrd wr cw
      have hnvS : Sees wr 1 (.slice an N cn) N (names (F.files.map (·.1))) := H3.out.2.1.own.sees.chg cA (fun t ht ht' => by simp at ht'; subst ht'; have h2 := H3.out.2.2.2.2.2.2 t ht; omega)
      obtain ⟨ga, offa, capa', e, -, hca⟩ := hnvS.at1 (by omega)
      cases e
      have a0 := hca i hi
      have a1 : (names (F.files.map (·.1)))[i]? = some (.string (str s)) := by unfold names; rw [List.map_map, List.getElem?_map, List.getElem?_eq_getElem hil, hsx]; rfl
      rw [a1] at a0
      have hv1 : ((viewF F).map (·.2))[i]? = some (bytesB F x) := by rw [List.getElem?_map, viewF_at, List.getElem?_eq_getElem hil, hsx]; rfl
      have hvt : ((viewF F).map (·.2)).take (i + 1) = ((viewF F).map (·.2)).take i ++ [bytesB F x] := by
        have hl : i < ((viewF F).map (·.2)).length := (List.getElem?_eq_some_iff.1 hv1).1
        rw [List.take_succ_eq_append_getElem hl, (List.getElem?_eq_some_iff.1 hv1).2]
      obtain ⟨m, hm⟩ : ∃ m, x.size = m := ⟨_, rfl⟩
      obtain ⟨b, hb⟩ : ∃ b, bytesB F x = b := ⟨_, rfl⟩
      rw [hb] at q6 hvt hrd1
      rw [hm] at q6 hsz
      have e2 : wrap64 ((i : Int) + 1) = ((i + 1 : Nat) : Int) := by unfold wrap64; omega
      have E2 := Lib.hid e2
      have tm : ((m : Int) != (m : Int)) = false := by simp
      have HR := Lib.hid (And.intro (lg1 hik hi) (And.intro cA (And.intro hR (And.intro hD (And.intro cw (And.intro hvt (And.intro q6 (And.intro hi (And.intro hN4 (show ∀ t ∈ (Value.slice ab i cb).ownBlock.toList, t < wr.heap.size from fun t ht => hO.own.lt t ht))))))))))
      clear hik cA hR hD hF hI hN hil hsx hmem q1 q2 q3 q4 q5 q7 hrd hnvS hca a1 hv1 hvt hm hb e2 q6
      go_wp2_with fail
      refine hrd1.mono ?_
      rintro e w4 ⟨v4, rfl, hv4, hn4, c4⟩
      rw [HR.out.2.2.2.2.2.2.1] at hv4
      obtain ⟨a4, p4, rfl, -⟩ := hv4.shape
      have hsz4 := hsz w4 (HR.out.2.2.2.2.1.nil c4)
      replace x0 := c4.cell_some x0 (by simp)
      replace a0 := c4.cell_some a0 (by simp)
      have hbA4 := hbA.chg0 c4
      have hO4 := hO.to c4
      have H4 := Lib.hid (And.intro c4 (And.intro hv4 hn4))
      clear hrd1 hsz c4 hv4 hn4 hbA hO x1 g0 g1
      go_wp2_with fail
      refine hsz4.mono ?_
      rintro e w5 ⟨rfl, c5⟩
      have hbA5 := hbA4.chg0 c5
      have hO5 := hO4.to c5
      have hown := hO5.own
      have hneA := Go.Aq.Own.ne hown hbA5 (by decide)
      obtain ⟨⟨y0, y1⟩, g0, g1⟩ := hbA5.c2
      have H5 := Lib.hid (And.intro c5 (And.intro hO5 hbA5))
      clear hsz4 hbA4 hO4 hO5 c5 x0 a0
      go_wp2_with (first
        | (at_builtin; refine wpList_push rfl _ _ 31 rfl sl_rows hown rfl rfl rfl (by have := HR.out.2.2.2.2.2.2.2.1; have := HR.out.2.2.2.2.2.2.2.2.1; omega) (by have := HR.out.2.2.2.2.2.2.2.1; have := HR.out.2.2.2.2.2.2.2.2.1; omega) ?_; intro g6 cp6 w6 ho6 c6 hg6 hcp6 hgl6; have hbA6 := hbA5.chg c6 hneA; obtain ⟨⟨y0, y1⟩, g0, g1⟩ := hbA6.c2)
        | fail)
      have H6 := Lib.hid (And.intro ho6 (And.intro c6 (And.intro hg6 hbA6)))
      have e2 := E2.out
      have e2w := wIq e2
      clear ho6 c6 hg6 hcp6 hgl6 hbA6 hbA5 hown hneA
      go_wp2_with fail
      go_roundg (gk - 1)
      case measure => exact HR.out.1.2
      case rel =>
        obtain ⟨hik, cA, hR, hD, cw, hvt, q6, hi, hN4, hOlt⟩ := HR.out
        obtain ⟨c4, hv4, hn4⟩ := H4.out
        obtain ⟨c5, hO5, hbA5⟩ := H5.out
        obtain ⟨ho6, c6, hg6, hbA6⟩ := H6.out
        obtain ⟨-, -, -, -, hs3, hA12, heA⟩ := H3.out
        have hAr : A < wr.heap.size := by have := cA.size; omega
        have h45 := c4.size
        have h56 := c5.size
        have hrows5 : RowsN w5 (A + 1) (ys ++ [.slice a4 m p4]) (((viewF F).map (·.2)).take (i + 1)) := by
          rw [hvt]
          refine ((hR.chg c4 (fun _ _ => fun _ _ => by simp)).chg c5 (fun _ _ => fun _ _ => by simp)).push (by rw [q6]; exact hv4.chg0 c5) (fun t ht => ?_)
          have := hn4 t ht
          omega
        have hdis : ∀ y ∈ ys ++ [Value.slice a4 m p4], Disj (eyes y) (Value.slice ab i cb).ownBlock.toList := fun y hy => by
          rcases List.mem_append.1 hy with h | h
          · exact hD y h
          · rw [List.mem_singleton.1 h]
            intro t ht ht'
            have h1 := hn4 t ht
            have h2 := hOlt t ht'
            omega
        have hbS := hbA6.set 1 (.slice (some ⟨g6, 0, none⟩) (i + 1) cp6)
        simp only [List.setIfInBounds_toArray, List.set_cons_zero, List.set_cons_succ] at hbS
        have cS : Chg [A] w6 (w6.setCell ⟨A, 1, none⟩ (.slice (some ⟨g6, 0, none⟩) (i + 1) cp6)) := (Chg.refl _ _).setCell (by simp) _
        have hneO := Go.Aq.Own.ne ho6 hbA6 (by decide)
        have hTn : ∀ t ∈ (Value.slice ab i cb).ownBlock.toList, w3.heap.size ≤ t := fun t ht => hO5.new t ht
        refine ⟨i + 1, _, ys ++ [.slice a4 m p4], by simp, hbS, ⟨ho6.chg cS (fun t ht ht' => by simp at ht'; subst ht'; exact hneO ht), fun t ht => ?_⟩, hik.1, ?_, ?_, ?_⟩
        · simp [Value.ownBlock] at ht
          subst ht
          rcases hg6 with h | h
          · exact hTn t h
          · have := cA.size; omega
        · exact (((cA.nil c4).nil c5).trans c6 (fun t ht => .inr (hTn t ht))).trans cS (fun t ht => .inl ht)
        · exact (hrows5.chg c6 (fun y hy => hdis y hy)).chg cS (fun y hy t ht ht' => by simp at ht'; subst ht'; have := (hrows5.mem hy t ht).1; omega)
        · intro y hy t ht ht'
          simp [Value.ownBlock] at ht'
          subst ht'
          rcases hg6 with h | h
          · exact hdis y hy t ht h
          · have := (hrows5.mem hy t ht).2; omega
    · have t0 : decide ((i : Int) < (N : Int)) = false := by simp; omega
      have t0' : decide (i < N) = false := by simp; omega
      obtain rfl : i = N := lg2 HJ.out.1 hi
      obtain ⟨⟨z0, z1⟩, f0, f1⟩ := (H3.out.2.2.1.chg HJ.out.2.1 (by have := H3.out.2.2.2.2.2.1; simp; omega)).c2
      go_upto_region 9 with (fail)
      go_wp2_with fail
      have hbE := (H3.out.2.2.1.chg HJ.out.2.1 (by have := H3.out.2.2.2.2.2.1; simp; omega))
      have hbS := (hbE.set 0 (.slice an i cn)).set 1 (.slice ab i cb)
      simp only [List.setIfInBounds_toArray, List.set_cons_zero, List.set_cons_succ] at hbS
      have ia : ∀ w, (isAgg 33).run Tryz.prog w = .ok true w := fun w => by kernel_rfl
      have isz : ∀ w, (sizeOf 33).run Tryz.prog w = .ok 2 w := fun w => by kernel_rfl
      refine bodyPost_ret (results_ct rfl _ _ rfl ia isz (hbS.cell 0) (hbS.cell 1)) rfl ?_
      obtain ⟨hik, cA, hR, hD⟩ := HJ.out
      obtain ⟨-, hF2, -, c3, hs3, hA12, heA⟩ := H3.out
      have hA2w := H1.out.2.2
      have cS : Chg [A2] wr ((wr.setCell ⟨A2, 0, none⟩ (.slice an i cn)).setCell ⟨A2, 1, none⟩ (.slice ab i cb)) := ((Chg.refl [A2] wr).setCell (by simp) _).setCell (by simp) _
      have cw : Chg [] w wr := c3.trans cA (fun t ht => .inr (by simp at ht; omega))
      have hVl : ((viewF F).map (·.2)).length = i := by rw [List.length_map, viewF_len]; exact HH.out.2.2
      rw [List.take_of_length_le (Nat.le_of_eq hVl)] at hR
      have hNv : Sees wr 1 (.slice an i cn) i (names (F.files.map (·.1))) := hF2.own.sees.chg cA (fun t ht ht' => by simp at ht'; subst ht'; have h2 := heA t ht; omega)
      have hE : ∀ t ∈ eyes (.slice ab i cb), w3.heap.size ≤ t := fun t ht => hO.new t (eyes_own _ t ht)
      refine ⟨_, rfl, fun S hS => ⟨.slice an i cn, .slice ab i cb, rfl, ?_, fun t ht ht' => ?_, ⟨ys, ?_, fun j b hb => ?_, fun t ht ht' => ?_⟩⟩, cw.trans cS (fun t ht => .inr (by simp at ht; omega))⟩
      · rw [viewF_names, viewF_len, HH.out.2.2]
        exact hNv.chg cS (fun t ht ht' => by simp at ht'; subst ht'; have := heA t ht; omega)
      · have h1 := heA t ht; have h2 := hS t ht'; omega
      · rw [hVl]
        exact hO.own.sees.chg cS (fun t ht ht' => by simp at ht'; subst ht'; have := hE t ht; omega)
      · obtain ⟨y, e, h1, h2⟩ := hR.2 j b hb
        exact ⟨y, e, h1.chg cS (fun t ht ht' => by simp at ht'; subst ht'; have := (h2 t ht).1; omega), fun t ht ht' => by have h3 := (h2 t ht).1; have h4 := hS t ht'; omega⟩
      · have h1 := hE t ht; have h2 := hS t ht'; omega
end Go.Proofs.YtgcmgcffndbpoaaGreatDoor

/- aqulaw16.Few. No statement of the seat is proved here. -/
namespace Go.Aq.Fy
open Go.Aq Go.RowKit
/-- What Few says of changes. -/
def FewC (cs : List ChangeD) : Prop := cs.length ≤ 40 ∧ ∀ c ∈ cs, c.name.length ≤ 400 ∧ c.tonm.length ≤ 400 ∧ c.data.length ≤ 70000
def fewI (cs : List ChangeD) (i n : Nat) : Prop := n ≤ 280000 ∧ ∀ c ∈ cs.take i, c.name.length ≤ 400 ∧ c.tonm.length ≤ 400 ∧ min c.data.length 70001 ≤ n
theorem fewI_step {cs : List ChangeD} {i n : Nat} (h : fewI cs i n) (hi : i < cs.length) {c : ChangeD} (hc : cs[i] = c) (h1 : c.name.length ≤ 400) (h2 : c.tonm.length ≤ 400) : fewI cs (i + 1) (min (n + min c.data.length 70001) 280000) := by
  obtain ⟨ha, hb⟩ := h
  refine ⟨by omega, fun x hx => ?_⟩
  rw [List.take_succ_eq_append_getElem hi, hc] at hx
  rcases List.mem_append.1 hx with hx | hx
  · obtain ⟨h3, h4, h5⟩ := hb x hx
    exact ⟨h3, h4, by omega⟩
  · rw [List.mem_singleton.1 hx]
    exact ⟨h1, h2, by omega⟩
theorem fewI_end {cs : List ChangeD} {i n : Nat} (h : fewI cs i n) (hi : i = min cs.length 40) (h1 : cs.length ≤ 40) (h2 : n ≤ 70000) : FewC cs := by
  refine ⟨h1, fun c hc => ?_⟩
  obtain ⟨-, hb⟩ := h
  rw [List.take_of_length_le (by omega)] at hb
  obtain ⟨h3, h4, h5⟩ := hb c hc
  exact ⟨h3, h4, by omega⟩
end Go.Aq.Fy
namespace Go.Proofs.YtgcmgcffndbpoaaGreatDoor
open Go.RowKit Go.Aq Go.Aq.Fy Go.Maps
set_option maxRecDepth 100000 in
set_option maxHeartbeats 4000000 in
theorem few_ok (w : World) (cs : List ChangeD) (v : Value) (xs : List Value) (hv : Sees w 4 v cs.length xs) (hx : CellsC w cs xs) :
    Calls Tryz.prog 10 #[v] w fun e w' => ∃ b : Bool, e = .returned (.bool b) ∧ (b = true → FewC cs) ∧ Chg [] w w' := by
  obtain ⟨ao, cap, rfl, hcap, -⟩ := hv.shape
  obtain ⟨N, hN⟩ : ∃ N, cs.length = N := ⟨_, rfl⟩
  rw [hN] at hv
  obtain ⟨M, hM⟩ : ∃ M, min N 40 = M := ⟨_, rfl⟩
  have HH := Lib.hid (And.intro hv (And.intro hx (And.intro hN (show min cs.length 40 = M by rw [hN]; exact hM))))
  have hM40 : M ≤ 40 ∧ M ≤ N := by omega
  rw [hN] at hcap ⊢
  clear hv hx hN
  go_enter Tryz.func10, Tryz.ntmps10
  go_wp2_with fail
  go_loopg [3, 4] M (fun kk (v3 v4 : Value) wr => ∃ (i n : Nat), v4 = .int .i64 i ∧ v3 = .int .i64 n ∧ Hid (i + kk = M ∧ fewI cs i n ∧ Chg [] w wr))
  case atStart => exact ⟨0, 0, rfl, rfl, Nat.zero_add _, ⟨Nat.zero_le _, fun c hc => by simp at hc⟩, Chg.refl _ _⟩
  case round =>
    obtain ⟨i, n, rfl, rfl, HJ⟩ := hrel
    by_cases hi : i < M
    · have hiN : i < N := by omega
      have t0 : decide ((i : Int) < (N : Int)) = true := by simp; omega
      have t0' : decide (i < N) = true := by simp; omega
      have t1 : decide ((i : Int) < 40) = true := by simp; omega
      have t1' : decide (i < 40) = true := by simp; omega
      obtain ⟨hik, hfi, cw⟩ := HJ.out
      have hn28 := hfi.1
      have hil : i < cs.length := by rw [HH.out.2.2.1]; exact hiN
      obtain ⟨c, hc⟩ : ∃ c, cs[i]'hil = c := ⟨_, rfl⟩
      obtain ⟨dv, y0, y1, y2, y3, hds⟩ := HH.out.2.1.get (i := i) (by rw [List.getElem?_eq_getElem hil, hc])
      obtain ⟨g1, o1, cp1, e, -, -, hcell⟩ := (HH.out.1.chg0 cw).cells (by omega)
      cases e
      obtain ⟨ad, cd, rfl, -⟩ := hds.shape
      have z1 := hcell (i * 4 + 1) (by omega)
      have z2 := hcell (i * 4 + 2) (by omega)
      have z3 := hcell (i * 4 + 3) (by omega)
      rw [show i * 4 = 4 * i by omega] at z1 z2 z3
      rw [y1] at z1
      rw [y2] at z2
      rw [y3] at z3
      rw [show 4 * i = i * 4 by omega] at z1 z2 z3
      rw [show o1 + (i * 4 + 1) = o1 + i * 4 + 1 by omega] at z1
      rw [show o1 + (i * 4 + 2) = o1 + i * 4 + 2 by omega] at z2
      rw [show o1 + (i * 4 + 3) = o1 + i * 4 + 3 by omega] at z3
      have e2 : wrap64 ((i : Int) + 1) = ((i + 1 : Nat) : Int) := by unfold wrap64; omega
      have hstep := fewI_step hfi hil hc
      obtain ⟨nd, hnd⟩ : ∃ nd, c.data.length = nd := ⟨_, rfl⟩
      obtain ⟨cn, hcn⟩ : ∃ cn, c.name = cn := ⟨_, rfl⟩
      obtain ⟨ct, hct⟩ : ∃ ct, c.tonm = ct := ⟨_, rfl⟩
      rw [hnd] at z3 hstep
      rw [hcn] at z1 hstep
      rw [hct] at z2 hstep
      have hq := lg1 hik hi
      have HQ := Lib.hid (And.intro hq (And.intro cw hstep))
      clear hik hfi cw hil hc y0 y1 y2 y3 hds hnd hcn hct hstep hq hcell
      have e2w := wIq e2
      obtain ⟨nn, hnn⟩ : ∃ nn, (str cn).size = nn := ⟨_, rfl⟩
      obtain ⟨tt, htt⟩ : ∃ tt, (str ct).size = tt := ⟨_, rfl⟩
      have hnn' : cn.length = nn := by rw [← hnn]; exact (str_size cn).symm
      have htt' : ct.length = tt := by rw [← htt]; exact (str_size ct).symm
      rw [hnn', htt'] at HQ
      clear hnn' htt'
      obtain ⟨sn, hsn⟩ : ∃ sn, str cn = sn := ⟨_, rfl⟩
      obtain ⟨st, hst⟩ : ∃ st, str ct = st := ⟨_, rfl⟩
      rw [hsn] at z1 hnn
      rw [hst] at z2 htt
      clear hsn hst
      by_cases h1 : 400 < nn
      · have f1 : (400 : Int) < (nn : Int) := by omega
        have t2 : decide ((400 : Int) < (nn : Int)) = true := decide_eq_true f1
        have t2' : decide (400 < nn) = true := decide_eq_true h1
        clear h1 f1
        go_wp2_with fail
        go_ret
        exact ⟨false, rfl, fun h => (by cases h), HQ.out.2.1⟩
      · have f1 : ¬ (400 : Int) < (nn : Int) := by omega
        have t2 : decide ((400 : Int) < (nn : Int)) = false := decide_eq_false f1
        have t2' : decide (400 < nn) = false := decide_eq_false h1
        by_cases h2 : 400 < tt
        · have f2 : (400 : Int) < (tt : Int) := by omega
          have t3 : decide ((400 : Int) < (tt : Int)) = true := decide_eq_true f2
          have t3' : decide (400 < tt) = true := decide_eq_true h2
          clear h1 h2 f1 f2
          go_wp2_with fail
          go_ret
          exact ⟨false, rfl, fun h => (by cases h), HQ.out.2.1⟩
        · have f2 : ¬ (400 : Int) < (tt : Int) := by omega
          have t3 : decide ((400 : Int) < (tt : Int)) = false := decide_eq_false f2
          have t3' : decide (400 < tt) = false := decide_eq_false h2
          have hst := HQ.out.2.2 (Nat.le_of_not_lt h1) (Nat.le_of_not_lt h2)
          have hmin : min ((n : Int) + min (nd : Int) 70001) 280000 = ((min (n + min nd 70001) 280000 : Nat) : Int) := by omega
          have hw1 : wrap64 ((n : Int) + min (nd : Int) 70001) = (n : Int) + min (nd : Int) 70001 := by unfold wrap64; omega
          have hw1' := wIq hw1
          have HM := Lib.hid (And.intro hst hmin)
          clear h1 h2 f1 f2 hst hmin
          go_wp2_with fail
          go_roundg (gk - 1)
          case measure => exact HQ.out.1.2
          case rel => exact ⟨i + 1, _, by simp, by rw [HM.out.2], HQ.out.1.1, HM.out.1, HQ.out.2.1⟩
    · obtain ⟨hik, hfi, cw⟩ := HJ.out
      have hiM : i = M := lg2 hik hi
      have hn28 := hfi.1
      by_cases h40 : N ≤ 40
      · have hiN : i = N := by omega
        have t0 : decide ((i : Int) < (N : Int)) = false := by simp; omega
        have t0' : decide (i < N) = false := by simp; omega
        have t1 : decide ((N : Int) ≤ 40) = true := by simp; omega
        have t1' : decide (N ≤ 40) = true := by simp; omega
        by_cases h7 : n ≤ 70000
        · have t2 : decide ((n : Int) ≤ 70000) = true := by simp; omega
          have t2' : decide (n ≤ 70000) = true := by simp; omega
          have hfew : FewC cs := fewI_end hfi (by rw [hiM]; exact HH.out.2.2.2.symm) (by rw [HH.out.2.2.1]; exact h40) h7
          clear h7 h40 hiN hi hik hfi hiM
          go_wp2_with fail
          go_ret
          exact ⟨true, rfl, fun _ => hfew, cw⟩
        · have t2 : decide ((n : Int) ≤ 70000) = false := by simp; omega
          have t2' : decide (n ≤ 70000) = false := by simp; omega
          clear h7 h40 hiN hi hik hfi hiM
          go_wp2_with fail
          go_ret
          exact ⟨false, rfl, fun h => (by cases h), cw⟩
      · have hi4 : i = 40 := by omega
        have t0 : decide ((i : Int) < (N : Int)) = true := by simp; omega
        have t0' : decide (i < N) = true := by simp; omega
        have t3 : decide ((i : Int) < 40) = false := by simp; omega
        have t3' : decide (i < 40) = false := by simp; omega
        have t1 : decide ((N : Int) ≤ 40) = false := by simp; omega
        have t1' : decide (N ≤ 40) = false := by simp; omega
        clear h40 hi4 hi hik hfi hiM
        go_wp2_with fail
        go_ret
        exact ⟨false, rfl, fun h => (by cases h), cw⟩
end Go.Proofs.YtgcmgcffndbpoaaGreatDoor

/- Opening anew; Read of a name that is none; what a turned disk does to files. No statement of the seat is proved here. -/
namespace Go.Proofs.YtgcmgcffndbpoaaGreatDoor
open Go.RowKit Go.Aq Go.Aq.Fy Go.Maps
/-- The disk was turned by another. -/
theorem FsR.turn {w w' : World} {S S' X : List Nat} {f d l bf : Nat} {F : FsD} {D : DiskD} (h : FsR w S [] f d l bf F) (hU : Upd S (X ++ S') w w') (hD : DiskR w' S' d D) (hn : D.n = F.disk.n) : FsR w' S' [] f d l bf { F with disk := D } := by
  obtain ⟨n1, n2, n3, n4, n5, n6⟩ := h.ne
  have hlt := h.lt
  have far : ∀ k, k < w.heap.size → k ∉ S → k ∉ S' := fun k hk hS hh => by
    rcases hU.new k (List.mem_append_right _ hh) with h1 | h1
    · exact hS h1
    · omega
  refine ⟨h.blk.chg hU.chg n4, hD, h.log.chg hU.chg n5, ?_, ⟨n1, n2, n3, far f (hlt f (by simp)) n4, far l (hlt l (by simp)) n5, far bf (hlt bf (by simp)) n6⟩, fun _ h => absurd h (by simp), ?_⟩
  · have h1 := h.files.wide (T := S ++ (f :: l :: bf :: S')) (fun k hk => by
      simp only [List.nil_append, List.mem_append, List.mem_cons] at hk ⊢
      rcases hk with h1 | h1 | h1 | h1 | h1
      · exact .inl (.inr (.inr (.inr h1)))
      · exact .inl (.inl h1)
      · exact .inl (.inr (.inl h1))
      · exact .inl (.inr (.inr (.inl h1)))
      · rcases hU.new k (List.mem_append_right _ h1) with h2 | h2
        · exact .inl (.inr (.inr (.inr h2)))
        · exact .inr h2)
    exact (h1.chg hU.chg (fun k hk => .inl (List.mem_append_left _ hk)) n6).wide fun k hk => .inl (List.mem_append_right _ (by simpa using hk))
  · have := h.small
    rw [show ({ F with disk := D } : FsD).disk.n = F.disk.n from hn]
    exact this
theorem same_disk (F : FsD) : { F with disk := F.disk } = F := rfl
/-- An opening where nothing fell. -/
theorem reopen_ok {q : Nat} (w : World) (S : List Nat) (p : Nat) (F : FsD) (hD : DiskR w S p F.disk) (hI : FInv q F) (hq : q < 2 ^ 47) :
    Calls Tryz.prog 24 #[.pointer (some ⟨p, 0, none⟩)] w fun e w' => ∃ f l bf S', e = .returned (.tuple #[.pointer (some ⟨f, 0, none⟩), .int .i64 0]) ∧ FsR w' S' [] f p l bf F ∧ Upd S (f :: l :: bf :: S') w w' := by
  obtain ⟨h1, h2, h3, h4, h5⟩ := open_same hI hq
  refine (fopen_ok w S p F.disk F.log F q hD hI.rest.up hI.rest.pend h1 h2 h3 hI.rest.len (fun i hi => by rw [h4] at hi; omega) (fun _ => ?_) hq).mono ?_
  · rw [h5, h4]
    exact ⟨rfl, rfl, hI⟩
  · rintro e w' (⟨-, f, l, bf, S', rfl, hF, hU⟩ | ⟨hc, -⟩)
    · exact ⟨f, l, bf, S', rfl, hF, hU⟩
    · rw [h5] at hc
      exact absurd rfl hc
set_option maxRecDepth 100000 in
set_option maxHeartbeats 1000000 in
theorem fread_none (w : World) (Sd X : List Nat) (f d l bf : Nat) (F : FsD) (h : FsR w Sd X f d l bf F) (s : Nm) (hs : s.length ≤ 1048576) (hx : lookK s F.files = none) :
    Calls Tryz.prog 16 #[.pointer (some ⟨f, 0, none⟩), .string (str s)] w fun e w' => e = .returned (.tuple #[.slice none 0 0, .int .i64 6]) ∧ Chg [] w w' := by
  obtain ⟨⟨c0, -, -, c3⟩, -⟩ := Blk.c4b h.blk
  obtain ⟨n, ao, m, cap, ⟨-, l2⟩, h1, h2, h3⟩ := h.files.look s hs
  unfold hasF at l2
  rw [hx] at l2
  simp only [Option.isSome_none] at l2
  clear h h1 h2 h3 hx
  go_enter Tryz.func16, Tryz.ntmps16
  go_wp2_with fail
  refine bodyPost_ret (results_tmp2 rfl _ _ _) rfl ?_
  exact ⟨rfl, (Chg.refl _ _).alloc _⟩
end Go.Proofs.YtgcmgcffndbpoaaGreatDoor

/- aqulaw16.made. No statement of the seat is proved here. -/
namespace Go.Aq.Fy
open Go.Aq Go.RowKit
theorem F0_tw (n r m : Nat) (k k' : Int) : Tw (F0 n r m k) (F0 n r m k') := ⟨rfl, rfl, rfl, rfl, rfl⟩
theorem FewC.facts {cs : List ChangeD} (h : FewC cs) : (∀ c ∈ cs, c.name.length ≤ 1048576 ∧ c.tonm.length ≤ 1048576 ∧ c.data.length ≤ 1000000) ∧ cs.length ≤ 1000 :=
  ⟨fun c hc => by obtain ⟨h1, h2, h3⟩ := h.2 c hc; omega, by have := h.1; omega⟩
/-- Files behind the changes css, done on n sectors laid out with a ring of r and a table of m. -/
structure MadeF (q n r m : Nat) (css : List (List ChangeD)) (F : FsD) : Prop where
  inv : FInv q F
  falls : F.disk.falls = 0
  secs : F.disk.n = n
  ring : F.log.ring = r
  mt : F.mt = m
  twin : Tw F (dosF (F0 n r m 0) css)
  inv0 : FInv q (dosF (F0 n r m 0) css)
  falls0 : (dosF (F0 n r m 0) css).disk.falls = 0
theorem MadeF.start {n r m : Nat} (hb : fmtOk n (r : Int) (m : Int)) (hn : n ≤ 4096) (k : Int) : MadeF 1 n r m [] (F0 n r m k) :=
  ⟨fmt_inv hb hn k, rfl, rfl, rfl, rfl, F0_tw n r m k 0, fmt_inv hb hn 0, rfl⟩
theorem MadeF.step {q n r m : Nat} {css : List (List ChangeD)} {F : FsD} (h : MadeF q n r m css F) (hq : q < 2 ^ 47) (c : List ChangeD) : MadeF (q + 1) n r m (css ++ [c]) (doF F c).1 := by
  obtain ⟨a1, a2, a3, a4, a5, -⟩ := do_law h.inv hq h.falls c
  obtain ⟨b1, b2, -, -, -, -⟩ := do_law h.inv0 hq h.falls0 c
  refine ⟨a1, a2, a3.trans h.secs, a5.trans h.ring, a4.trans h.mt, ?_, ?_, ?_⟩ <;> rw [dosF_snoc]
  · exact (h.twin.doF h.inv h.inv0 h.falls h.falls0 c).1
  · exact b1
  · exact b2
theorem MadeF.up {q n r m : Nat} {css : List (List ChangeD)} {F : FsD} (h : MadeF q n r m css F) (hq : q ≤ 40) : MadeF 40 n r m css F := by
  have up : ∀ {q' : Nat} {G : FsD}, FInv q' G → q' ≤ 40 → FInv 40 G := fun k hk => ⟨k.geo, k.rest, by have := k.seq; omega, k.lies, k.un, k.tlen, k.files⟩
  exact ⟨up h.inv hq, h.falls, h.secs, h.ring, h.mt, h.twin, up h.inv0 hq, h.falls0⟩
end Go.Aq.Fy
namespace Go.Proofs.YtgcmgcffndbpoaaGreatDoor
open Go.RowKit Go.Aq Go.Aq.Fy Go.Maps
/-- The value v is the list css of lists of changes. -/
def ListsC (w : World) (v : Value) (css : List (List ChangeD)) : Prop := ∃ ys, Sees w 1 v css.length ys ∧ ∀ (i : Nat) (cs : List ChangeD), css[i]? = some cs → ∃ y xs, ys[i]? = some y ∧ Sees w 4 y cs.length xs ∧ CellsC w cs xs
theorem ListsC.chg0 {w w' : World} {v : Value} {css : List (List ChangeD)} (h : ListsC w v css) (c : Chg [] w w') : ListsC w' v css := by
  obtain ⟨ys, h1, h2⟩ := h
  refine ⟨ys, h1.chg0 c, fun i cs hc => ?_⟩
  obtain ⟨y, xs, e, h3, h4⟩ := h2 i cs hc
  exact ⟨y, xs, e, h3.chg0 c, h4.chg0 c⟩
/-- How made ends. -/
def MadeEndX (w : World) (X : List Nat) (n r m : Int) (css : List (List ChangeD)) (e : Ending) (w' : World) : Prop :=
  Chg [] w w' ∧ (e = .returned (.pointer none) ∨ ∃ (f d l bf : Nat) (Sd : List Nat) (F : FsD) (N R M : Nat), e = .returned (.pointer (some ⟨f, 0, none⟩)) ∧ n = N ∧ r = R ∧ m = M ∧ 4 ≤ N ∧ N ≤ 300 ∧ fmtOk N r m ∧ MadeF 40 N R M css F ∧ FsR w' Sd X f d l bf F ∧ ∀ k ∈ f :: l :: bf :: Sd, w.heap.size ≤ k)
/-- Files that are none: nobody's blocks are seen. -/
theorem FsR.none {w : World} {Sd X : List Nat} {f d l bf : Nat} {F : FsD} (h : FsR w Sd [] f d l bf F) (h0 : F.files = []) (ha : Disj X (f :: l :: bf :: Sd)) : FsR w Sd X f d l bf F := by
  refine ⟨h.blk, h.disk, h.log, ?_, h.ne, ha, h.small⟩
  obtain ⟨k, h1, h2⟩ := h.files
  rw [h0] at h2 ⊢
  refine ⟨k, h1, ?_⟩
  cases k with
  | nil => exact trivial
  | cons a b => cases h2
set_option maxRecDepth 100000 in
set_option maxHeartbeats 8000000 in
theorem made_okX (w : World) (X : List Nat) (hX : ∀ k ∈ X, k < w.heap.size) (n r m : Int) (v : Value) (css : List (List ChangeD)) (hv : ListsC w v css) :
    Calls Tryz.prog 9 #[.int .i64 n, .int .i64 r, .int .i64 m, v] w (MadeEndX w X n r m css) := by
  have HX0 := Lib.hid hX
  clear hX
  have hlc := hv
  obtain ⟨ys, hys, hyx⟩ := hv
  obtain ⟨ao, cap, rfl, hcap, -⟩ := hys.shape
  obtain ⟨N, hN⟩ : ∃ N, css.length = N := ⟨_, rfl⟩
  rw [hN] at hys hcap hlc ⊢
  by_cases hn : 4 ≤ n ∧ n ≤ 4096
  · obtain ⟨nn, rfl⟩ : ∃ k : Nat, n = k := ⟨n.toNat, by omega⟩
    have hnew := new_ok w nn (by omega) (by omega)
    by_cases h3 : 300 < nn
    · have t1 : decide ((300 : Int) < (nn : Int)) = true := by simp; omega
      have t1' : decide (300 < nn) = true := by simp; omega
      clear hlc hys hyx hN hn h3 hcap
      go_enter Tryz.func9, Tryz.ntmps9
      go_wp2_with fail
      refine hnew.mono ?_
      rintro e w1 ⟨p, S, rfl, -, c1, -⟩
      clear hnew
      go_wp2_with fail
      go_ret
      exact ⟨c1, .inl rfl⟩
    · have t1 : decide ((300 : Int) < (nn : Int)) = false := by simp; omega
      have t1' : decide (300 < nn) = false := by simp; omega
      by_cases h30 : 30 < N
      · have t2 : decide ((30 : Int) < (N : Int)) = true := by simp; omega
        have t2' : decide (30 < N) = true := by simp; omega
        clear hlc hys hyx hN hn h3 hcap h30
        go_enter Tryz.func9, Tryz.ntmps9
        go_wp2_with fail
        refine hnew.mono ?_
        rintro e w1 ⟨p, S, rfl, -, c1, -⟩
        clear hnew
        go_wp2_with fail
        go_ret
        exact ⟨c1, .inl rfl⟩
      · have t2 : decide ((30 : Int) < (N : Int)) = false := by simp; omega
        have t2' : decide (30 < N) = false := by simp; omega
        by_cases hb : fmtOk nn r m
        · have hb' := hb
          unfold fmtOk at hb'
          obtain ⟨rr, rfl⟩ : ∃ k : Nat, r = k := ⟨r.toNat, by omega⟩
          obtain ⟨mm, rfl⟩ : ∃ k : Nat, m = k := ⟨m.toNat, by omega⟩
          have HH := Lib.hid (And.intro hb (And.intro hn (And.intro hlc (And.intro hys (And.intro hyx (And.intro hN (And.intro (Nat.le_of_not_lt h3) (Nat.le_of_not_lt h30))))))))
          have hN30 : N ≤ 30 := Nat.le_of_not_lt h30
          clear hlc hys hyx hN hn h3 h30 hb hb'
          go_enter Tryz.func9, Tryz.ntmps9
          go_wp2_with fail
          refine hnew.mono ?_
          rintro e w1 ⟨p, S, rfl, hD, c1, hS1⟩
          have hfm := format_ok w1 S p (newD nn) hD ⟨rfl, rfl, rfl, fun _ => zsec_len⟩ rfl rr mm HH.out.1
          clear hnew hD
          go_wp2_with fail
          refine hfm.mono ?_
          rintro e w2 ⟨rfl, S2, k2, hD2, hU2⟩
          have hM2 := MadeF.start HH.out.1 (by have := HH.out.2.1; omega) k2
          have hop := reopen_ok (q := 1) w2 S2 p (F0 nn rr mm k2) hD2 hM2.inv (by decide)
          have H2 := Lib.hid (And.intro c1 (And.intro hS1 (And.intro hU2 hM2)))
          clear hfm hD2 hM2 hU2 c1 hS1
          go_wp2_with fail
          refine hop.mono ?_
          rintro e w3 ⟨f, l, bf, S3, rfl, hF3, hU3⟩
          have c23 : Chg [] w w2 := by
            obtain ⟨c1, hS1, hU2, hM2⟩ := H2.out
            exact c1.trans hU2.chg (fun t ht => .inr (hS1 t ht))
          have hnew2 : ∀ k ∈ S2, w.heap.size ≤ k := fun k hk => by
            obtain ⟨c1, hS1, hU2, hM2⟩ := H2.out
            rcases hU2.new k hk with h | h
            · exact hS1 k h
            · have := c1.size; omega
          have c3 : Chg [] w w3 := c23.trans hU3.chg (fun t ht => .inr (hnew2 t ht))
          have hnew3 : ∀ k ∈ f :: l :: bf :: S3, w.heap.size ≤ k := fun k hk => by
            rcases hU3.new k hk with h | h
            · exact hnew2 k h
            · have := c23.size; omega
          have H3 := Lib.hid (And.intro hF3 (And.intro c3 (And.intro hnew3 H2.out.2.2.2)))
          clear hop hF3 hU3 c23 hnew2 c3 hnew3
          go_wp2_with fail
          go_loopg [13] N (fun k (v13 : Value) wr => ∃ (i : Nat) (Sd : List Nat) (bf' : Nat) (F : FsD), v13 = .int .i64 i ∧ Hid (i + k = N ∧ Chg [] w wr ∧ FsR wr Sd X f p l bf' F ∧ (∀ k ∈ f :: l :: bf' :: Sd, w.heap.size ≤ k) ∧ MadeF (i + 1) nn rr mm (css.take i) F))
          case atStart =>
            obtain ⟨hF3, c3, hnew3, hM2⟩ := H3.out
            exact ⟨0, S3, bf, _, rfl, Nat.zero_add _, c3, hF3.none rfl (fun k hk hk' => by have h1 := HX0.out k hk; have h2 := hnew3 k hk'; omega), hnew3, hM2⟩
          case round =>
            obtain ⟨i, Sd, bf', F, rfl, HJ⟩ := hrel
            by_cases hi : i < N
            · have t0 : decide ((i : Int) < (N : Int)) = true := by simp; omega
              have t0' : decide (i < N) = true := by simp; omega
              obtain ⟨hik, cw, hF, hnw, hM⟩ := HJ.out
              have hil : i < css.length := by rw [HH.out.2.2.2.2.2.1]; exact hi
              obtain ⟨cs, hcs⟩ : ∃ cs, css[i]'hil = cs := ⟨_, rfl⟩
              have htk : css.take (i + 1) = css.take i ++ [cs] := by rw [List.take_succ_eq_append_getElem hil, hcs]
              obtain ⟨y, xs, hy, hS4, hC⟩ := HH.out.2.2.2.2.1 i cs (by rw [List.getElem?_eq_getElem hil, hcs])
              obtain ⟨ga, offa, capa', e, -, hca⟩ := (HH.out.2.2.2.1.chg0 cw).at1 (by omega)
              cases e
              have a0 := hca i hi
              rw [hy] at a0
              obtain ⟨ay, cy, rfl, -⟩ := hS4.shape
              have hfew := few_ok wr cs _ xs (hS4.chg0 cw) (hC.chg0 cw)
              have hdo := fun w' (c : Chg [] wr w') (hfw : FewC cs) => do_okX (q := i + 1) w' Sd X f p l bf' F (hF.chg0 c) (fun k hk => by have h1 := HX0.out k hk; have h2 := (cw.nil c).size; omega) hM.inv (by omega) cs hfw.facts.1 hfw.facts.2 _ xs (hS4.chg0 (cw.nil c)) (hC.chg0 (cw.nil c))
              have e2 : wrap64 ((i : Int) + 1) = ((i + 1 : Nat) : Int) := by unfold wrap64; omega
              have E2 := Lib.hid e2
              have HQ := Lib.hid (And.intro (lg1 hik hi) (And.intro cw (And.intro hnw (And.intro (hM.step (by omega) cs) htk))))
              clear hik cw hF hnw hM hil hcs htk hy hS4 hC hca e2
              go_wp2_with fail
              refine hfew.mono ?_
              rintro e w4 ⟨b, rfl, hb, c4⟩
              clear hfew
              cases b with
              | false =>
                clear hdo
                go_wp2_with fail
                go_ret
                exact ⟨HQ.out.2.1.nil c4, .inl rfl⟩
              | true =>
                have hdo1 := hdo w4 c4 (hb rfl)
                have C4 := Lib.hid c4
                replace a0 := c4.cell_some a0 (by simp)
                clear hdo hb c4
                go_wp2_with fail
                refine hdo1.mono ?_
                rintro e w5 ⟨rfl, Sd5, bf5, hF5, hU5⟩
                have H5 := Lib.hid (And.intro hF5 hU5)
                have e2 := E2.out
                have e2w := wIq e2
                clear hdo1 hF5 hU5
                go_wp2_with fail
                go_roundg (gk - 1)
                case measure => exact HQ.out.1.2
                case rel =>
                  obtain ⟨hq, cw, hnw, hM, htk⟩ := HQ.out
                  obtain ⟨hF5, hU5⟩ := H5.out
                  have c4 := C4.out
                  refine ⟨i + 1, Sd5, bf5, _, by simp, hq.1, (cw.nil c4).trans hU5.chg (fun t ht => .inr (hnw t ht)), hF5, fun k hk => ?_, by rw [htk]; exact hM⟩
                  rcases hU5.new k hk with h | h
                  · exact hnw k h
                  · have := (cw.nil c4).size; omega
            · have t0 : decide ((i : Int) < (N : Int)) = false := by simp; omega
              have t0' : decide (i < N) = false := by simp; omega
              obtain ⟨hik, cw, hF, hnw, hM⟩ := HJ.out
              have hiN : i = N := lg2 hik hi
              rw [List.take_of_length_le (by rw [HH.out.2.2.2.2.2.1]; omega)] at hM
              have hM' := hM.up (by omega)
              have HE := Lib.hid (And.intro cw (And.intro hF (And.intro hnw hM')))
              clear hik cw hF hnw hM hM' hiN hi
              go_wp2_with fail
              go_ret
              obtain ⟨cw, hF, hnw, hM⟩ := HE.out
              obtain ⟨h1, h2, -, -, -, -, h7, -⟩ := HH.out
              exact ⟨cw, .inr ⟨f, p, l, bf', Sd, F, nn, rr, mm, rfl, rfl, rfl, rfl, by omega, h7, h1, hM, hF, hnw⟩⟩
        · have HH := Lib.hid hb
          clear hlc hys hyx hN hn h3 hcap h30 hb
          go_enter Tryz.func9, Tryz.ntmps9
          go_wp2_with fail
          refine hnew.mono ?_
          rintro e w1 ⟨p, S, rfl, hD, c1, -⟩
          have hbad := format_bad w1 S p (newD nn) hD r m HH.out
          clear hnew hD
          go_wp2_with fail
          refine hbad.mono ?_
          rintro e w2 ⟨rfl, hw2⟩
          obtain rfl : w2 = w1 := hw2
          clear hbad
          go_wp2_with fail
          go_ret
          exact ⟨c1, .inl rfl⟩
  · have hbad := new_bad w n (by omega)
    clear hlc hys hyx hN hn hcap
    go_enter Tryz.func9, Tryz.ntmps9
    go_wp2_with fail
    refine hbad.mono ?_
    rintro e w1 ⟨rfl, hw1⟩
    obtain rfl : w1 = w := hw1
    clear hbad
    go_wp2_with fail
    go_ret
    exact ⟨Chg.refl _ _, .inl rfl⟩
abbrev MadeEnd (w : World) (n r m : Int) (css : List (List ChangeD)) (e : Ending) (w' : World) : Prop := MadeEndX w [] n r m css e w'
theorem made_ok (w : World) (n r m : Int) (v : Value) (css : List (List ChangeD)) (hv : ListsC w v css) :
    Calls Tryz.prog 9 #[.int .i64 n, .int .i64 r, .int .i64 m, v] w (MadeEnd w n r m css) :=
  made_okX w [] (fun _ h => absurd h (by simp)) n r m v css hv
end Go.Proofs.YtgcmgcffndbpoaaGreatDoor

/- aqulaw16.first. No statement of the seat is proved here. -/
namespace Go.Aq.Fy
open Go.Aq Go.RowKit
def exC : List ChangeD := [⟨1, [97], [], [120]⟩, ⟨3, [97], [], [121]⟩, ⟨4, [97], [98], []⟩]
set_option maxRecDepth 100000 in
theorem ex_prep : (prepF (F0 40 6 3 0) exC).1 = 0 := by kernel_rfl
theorem ex_view : allV [] exC = ([([98], [120, 121])], 0) := by decide
theorem ex_law (k : Int) : FInv 2 (doF (F0 40 6 3 k) exC).1 ∧ (doF (F0 40 6 3 k) exC).2 = 0 ∧ viewF (doF (F0 40 6 3 k) exC).1 = [([98], [120, 121])] := by
  have hb : fmtOk 40 ((6 : Nat) : Int) ((3 : Nat) : Int) := by unfold fmtOk; decide
  have hI := fmt_inv hb (by decide) k
  have hv : viewF (F0 40 6 3 k) = [] := rfl
  obtain ⟨h1, -, -, -, -, h⟩ := do_law hI (by decide) rfl exC
  rw [hv, ex_view] at h
  rcases h with ⟨h2, h3, h4⟩ | ⟨h2, -, h4, -⟩
  · exfalso
    rcases do_calm hI rfl exC with ⟨e, e0, e1, -⟩ | ⟨st, fs, lg, k', e1, e2⟩
    · have := (F0_tw 40 6 3 k 0).prep exC
      rw [e1] at this
      have h5 := ex_prep
      rw [← this] at h5
      exact e0 h5
    · rw [e2] at h2
      exact h2 rfl
  · exact ⟨h1, h2, h4⟩
end Go.Aq.Fy
namespace Go.Proofs.YtgcmgcffndbpoaaGreatDoor
open Go.RowKit Go.Aq Go.Aq.Fy Go.Maps
theorem sees_lit (w : World) (C : Array Value) (e : TypeId) (n size : Nat) (hC : C.size = n * size) : Sees (w.alloc (.cells C e)) size (.slice (some ⟨w.heap.size, 0, none⟩) n n) n C.toList := by
  refine ⟨by rw [Array.length_toList]; exact hC, _, _, rfl, Nat.le_refl _, (fun h => (nomatch h)), fun ad had j u hu => ?_⟩
  cases had
  have h1 := (Blk.new w C e).cell j
  have h2 : (⟨w.heap.size, 0, none⟩ : Addr).add j = ⟨w.heap.size, j, none⟩ := by simp [Addr.add]; omega
  rw [h2, h1]
  rw [← hu]
  simp
set_option maxRecDepth 100000 in
set_option maxHeartbeats 8000000 in
theorem first_ok16 (w : World) :
    Calls Tryz.prog 8 #[] w fun e w' => e = .returned (.bool true) ∧ Chg [] w w' := by
  have hb : fmtOk 40 ((6 : Nat) : Int) ((3 : Nat) : Int) := by unfold fmtOk; decide
  have HB := Lib.hid hb
  clear hb
  have hnew := new_ok w 40 (by decide) (by decide)
  have kc := fun w C n c => Lib.run_convert_bytes_const (P := Tryz.prog) w 38 5 C n c Tryz.underlying38 Tryz.underlying5
  go_enter Tryz.func8, Tryz.ntmps8
  go_wp2_with fail
  refine hnew.mono ?_
  rintro e w1 ⟨p, S, rfl, hD, c1, hS1⟩
  have hfm := format_ok w1 S p (newD 40) hD ⟨rfl, rfl, rfl, fun _ => zsec_len⟩ rfl 6 3 HB.out
  clear hnew hD
  go_wp2_with fail
  refine hfm.mono ?_
  rintro e w2 ⟨rfl, S2, k2, hD2, hU2⟩
  have hM2 := fmt_inv HB.out (by decide) k2
  have hop := reopen_ok (q := 1) w2 S2 p (F0 40 6 3 k2) hD2 hM2 (by decide)
  have H2 := Lib.hid (And.intro c1 (And.intro hS1 (And.intro hU2 hM2)))
  clear hfm hD2 hM2 hU2 c1 hS1
  go_wp2_with fail
  refine hop.mono ?_
  rintro e w3 ⟨f, l, bf, S3, rfl, hF3, hU3⟩
  have c23 : Chg [] w w2 := by
    obtain ⟨c1, hS1, hU2, hM2⟩ := H2.out
    exact c1.trans hU2.chg (fun t ht => .inr (hS1 t ht))
  have hnew2 : ∀ k ∈ S2, w.heap.size ≤ k := fun k hk => by
    obtain ⟨c1, hS1, hU2, hM2⟩ := H2.out
    rcases hU2.new k hk with h | h
    · exact hS1 k h
    · have := c1.size; omega
  have c3 : Chg [] w w3 := c23.trans hU3.chg (fun t ht => .inr (hnew2 t ht))
  have hnew3 : ∀ k ∈ f :: l :: bf :: S3, w.heap.size ≤ k := fun k hk => by
    rcases hU3.new k hk with h | h
    · exact hnew2 k h
    · have := c23.size; omega
  have H3 := Lib.hid (And.intro hF3 (And.intro c3 (And.intro hnew3 H2.out.2.2.2)))
  clear hop hF3 hU3 c23 hnew2 c3 hnew3
  go_upto_region 7 with (fail)
  go_wp2_with fail
  obtain ⟨W1, hW1⟩ : ∃ W1, w3.alloc (.cells #[.int .u8 120] 5 (1, 2)) = W1 := ⟨_, rfl⟩
  obtain ⟨q1, hq1⟩ : ∃ q1, w3.heap.size = q1 := ⟨_, rfl⟩
  have hs1 : q1 + 1 = W1.heap.size := by rw [← hW1, ← hq1]; simp
  have hF1 : FreshM w3 W1 5 (.slice (some ⟨q1, 0, none⟩) 1 1) 1 (Bs [120]) := by rw [← hW1, ← hq1]; exact FreshM.const w3 #[.int .u8 120] 5 (by decide)
  rw [hW1, hq1, hs1]
  clear hW1 hq1
  rw [kc W1 #[.int .u8 121] 1 1]
  obtain ⟨W2, hW2⟩ : ∃ W2, W1.alloc (.cells #[.int .u8 121] 5 (1, 2)) = W2 := ⟨_, rfl⟩
  obtain ⟨q2, hq2⟩ : ∃ q2, W1.heap.size = q2 := ⟨_, rfl⟩
  have hF2 : FreshM W1 W2 5 (.slice (some ⟨q2, 0, none⟩) 1 1) 1 (Bs [121]) := by rw [← hW2, ← hq2]; exact FreshM.const W1 #[.int .u8 121] 5 (by decide)
  show Oper.upon _ _ _ _ _ ((Result.ok (Value.slice (some ⟨W1.heap.size, 0, none⟩) 1 1) (W1.alloc (.cells #[.int .u8 121] 5 (1, 2)))).andThen _)
  rw [hW2, hq2]
  rw [hq2] at hs1
  clear hW2 hq2
  go_wp2_with fail
  obtain ⟨W3, hW3⟩ : ∃ W3, W2.alloc (.cells #[.int .i64 1, .string ⟨#[97]⟩, .string ⟨#[]⟩, .slice (some ⟨q1, 0, none⟩) 1 1, .int .i64 3, .string ⟨#[97]⟩, .string ⟨#[]⟩, .slice (some ⟨q2, 0, none⟩) 1 1, .int .i64 4, .string ⟨#[97]⟩, .string ⟨#[98]⟩, .slice none 0 0] 43) = W3 := ⟨_, rfl⟩
  have hS3 : Sees W3 4 (.slice (some ⟨W2.heap.size, 0, none⟩) 3 3) 3 [.int .i64 1, .string ⟨#[97]⟩, .string ⟨#[]⟩, .slice (some ⟨q1, 0, none⟩) 1 1, .int .i64 3, .string ⟨#[97]⟩, .string ⟨#[]⟩, .slice (some ⟨q2, 0, none⟩) 1 1, .int .i64 4, .string ⟨#[97]⟩, .string ⟨#[98]⟩, .slice none 0 0] := by
    rw [← hW3]; exact sees_lit W2 _ _ 3 4 rfl
  have k3 : Chg [] W2 W3 := by rw [← hW3]; exact (Chg.refl [] W2).alloc _
  have hC3 : CellsC W3 exC [.int .i64 1, .string ⟨#[97]⟩, .string ⟨#[]⟩, .slice (some ⟨q1, 0, none⟩) 1 1, .int .i64 3, .string ⟨#[97]⟩, .string ⟨#[]⟩, .slice (some ⟨q2, 0, none⟩) 1 1, .int .i64 4, .string ⟨#[97]⟩, .string ⟨#[98]⟩, .slice none 0 0] :=
    .cons (c := ⟨1, [97], [], [120]⟩) (hF1.sees.chg0 (hF2.chg.nil k3)) (.cons (c := ⟨3, [97], [], [121]⟩) (hF2.sees.chg0 k3) (.cons (c := ⟨4, [97], [98], []⟩) (Sees.nil _ _) .nil))
  have cW : Chg [] w3 W3 := (hF1.chg.nil hF2.chg).nil k3
  have hdo := do_ok (q := 1) W3 S3 f p l bf (F0 40 6 3 k2) (H3.out.1.chg0 cW) H3.out.2.2.2 (by decide) exC (by unfold exC; intro c hc; simp only [List.mem_cons, List.not_mem_nil, or_false] at hc; rcases hc with rfl | rfl | rfl <;> simp) (by decide) _ _ hS3 hC3
  obtain ⟨hI4, hz4, hv4⟩ := ex_law k2
  obtain ⟨R, hR⟩ : ∃ R, doF (F0 40 6 3 k2) exC = R := ⟨_, rfl⟩
  rw [hR] at hdo hI4 hz4 hv4
  obtain ⟨F4, c4⟩ := R
  simp only at hI4 hz4 hv4
  subst hz4
  have H4 := Lib.hid (And.intro cW (And.intro hI4 hv4))
  rw [hW3]
  clear hW3 hS3 k3 hC3 cW hI4 hv4 hR hF1 hF2 hs1 kc
  refine hdo.mono ?_
  rintro e w4 ⟨rfl, Sd4, bf4, hF4, hU4⟩
  obtain ⟨cW, hI4, hv4⟩ := H4.out
  have hlk : ∃ x, lookK [98] F4.files = some x ∧ bytesB F4 x = [120, 121] := by
    have h1 : lookK [98] (viewF F4) = some [120, 121] := by rw [hv4]; rfl
    unfold viewF viewG at h1
    rw [mapK_look] at h1
    cases hx : lookK [98] F4.files with
    | none => rw [hx] at h1; cases h1
    | some x =>
      rw [hx] at h1
      exact ⟨x, rfl, Option.some.inj h1⟩
  obtain ⟨x, hx, hbx⟩ := hlk
  obtain ⟨p1, p2, p3, p4, p5, p6, p7⟩ := hI4.at (look_mem hx)
  have hnm : F4.files.map (·.1) = [[98]] := by rw [← viewF_names, hv4]; rfl
  have hrd := fread_ok w4 Sd4 [] f p l bf4 F4 hF4 hI4.rest.up [98] p1 x hx p3 p4 p5 (fun k _ => hI4.rest.len k)
  rw [hbx] at hrd
  have hli := fun w' (c : Chg [] w4 w') => list_ok w' Sd4 [] f p l bf4 F4 (hF4.chg0 c) (by have := hI4.files.few; omega)
  have hl1 : F4.files.length = 1 := by rw [← List.length_map (f := fun p : Nm × FileD => p.1), hnm]; rfl
  rw [hnm, hl1] at hli
  have C4 := Lib.hid (show Chg [] w w4 from (H3.out.2.1.nil cW).trans hU4.chg (fun t ht => .inr (H3.out.2.2.1 t ht)))
  clear hdo hF4 hU4 cW hI4 hv4 hx hbx p1 p2 p3 p4 p5 p6 p7 hnm hl1
  go_wp2_with fail
  refine hrd.mono ?_
  rintro e w5 ⟨v5, rfl, hv5, -, c5⟩
  rw [show ([120, 121] : Sec).length = 2 from rfl] at hv5
  have hst := run_str8 hv5
  rw [show str [120, 121] = ⟨#[120, 121]⟩ from rfl] at hst
  obtain ⟨a5, k5, rfl, -⟩ := hv5.shape
  have hli5 := hli w5 c5
  have H5 := Lib.hid c5
  clear hrd hv5 c5 hli
  go_wp2_with fail
  refine hli5.mono ?_
  rintro e w6 ⟨v6, rfl, hF6⟩
  have H6 := Lib.hid hF6
  obtain ⟨a6, k6, rfl, -⟩ := hF6.shape
  clear hli5 hF6
  go_wp2_with fail
  have hF7 := H6.out
  have k7 : Chg [] w6 (w6.alloc (.cells #[.string ⟨#[98]⟩] 9)) := (Chg.refl [] w6).alloc _
  have htx := texts_any _ _ _ [[98]] [[98]] 1 1 rfl rfl (hF7.own.sees.chg0 k7) (sees_lit w6 #[.string ⟨#[98]⟩] 9 1 1 rfl) (by decide)
  rw [decide_eq_true rfl] at htx
  refine htx.mono ?_
  rintro e w7 ⟨rfl, c7⟩
  have HE := Lib.hid (((C4.out.nil H5.out).nil hF7.chg).nil (k7.nil c7))
  clear htx hF7 k7 c7
  go_wp2_with fail
  go_ret
  exact ⟨rfl, HE.out⟩
end Go.Proofs.YtgcmgcffndbpoaaGreatDoor

