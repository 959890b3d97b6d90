/- slices.symMergeCmpFunc at texts, by stamps: whole. No statement of the seat is proved here. -/
import Derived.Test.YtphmplbcegibjaaSoC
import Derived.Deep.DeepCutAuto
set_option linter.unusedVariables false
set_option linter.unusedSimpArgs false
namespace Go.Proofs.Ytphmplbcegibjaa
open Go.RowKit Go.Aq Go.Aq.Dg Go.Aq.So

theorem wI {x : Int} {q : Nat} (h : x = q) (h2 : q ≤ 4611686018427387904) : IntKind.i64.wrap x = (q : Int) := by rw [h]; exact wrap_i64_nat q h2
/-- What the merge of so many at most does. -/
def SymOK (N : Nat) : Prop := ∀ (w0 w : World) (K n cap a m b : Nat) (P L R Z : List (List UInt8)) (gp : Value) (st : List UInt8 → Int), CmpOK w0 K gp st → Chg [K] w0 w → RowK w K n cap (P ++ (L ++ (R ++ Z))) → P.length = a → a + L.length = m → m + R.length = b → 0 < L.length → 0 < R.length → L.length + R.length ≤ N →
    ((∀ x ∈ L, x.length ≤ 1048576) ∧ ∀ x ∈ R, x.length ≤ 1048576) → Srt st L → Srt st R → (∀ x ∈ L, ∀ y ∈ R, x ≤ y) → n ≤ 1152921504606846976 →
    Calls Try.prog 42 #[.slice (some ⟨K, 0, none⟩) n cap, .int .i64 (a : Int), .int .i64 (m : Int), .int .i64 (b : Int), cmpF gp] w fun e w' => e = .returned (.tuple #[]) ∧ RowK w' K n cap (P ++ (sortT st (L ++ R) ++ Z)) ∧ Chg [K] w w'

set_option maxHeartbeats 4000000 in
set_option maxRecDepth 100000 in
theorem sym_long (N : Nat) (ih : SymOK N) (w0 w : World) (K n cap a m b : Nat) (P L R Z : List (List UInt8)) (gp : Value) (st : List UInt8 → Int) (hC : CmpOK w0 K gp st) (hw : Chg [K] w0 w) (hv : RowK w K n cap (P ++ (L ++ (R ++ Z)))) (ha : P.length = a) (hm : a + L.length = m) (hb : m + R.length = b) (hL1 : 1 < L.length) (hR1 : 1 < R.length) (hN : L.length + R.length ≤ N + 1)
    (hl : (∀ x ∈ L, x.length ≤ 1048576) ∧ ∀ x ∈ R, x.length ≤ 1048576) (hSL : Srt st L) (hSR : Srt st R) (hup : ∀ x ∈ L, ∀ y ∈ R, x ≤ y) (hn : n ≤ 1152921504606846976) :
    Calls Try.prog 42 #[.slice (some ⟨K, 0, none⟩) n cap, .int .i64 (a : Int), .int .i64 (m : Int), .int .i64 (b : Int), cmpF gp] w fun e w' => e = .returned (.tuple #[]) ∧ RowK w' K n cap (P ++ (sortT st (L ++ R) ++ Z)) ∧ Chg [K] w w' := by
  have hlen := hv.length
  simp only [List.length_append] at hlen
  obtain ⟨M, hM⟩ : ∃ M, M = (a + b) / 2 := ⟨_, rfl⟩
  obtain ⟨Nn, hNn⟩ : ∃ Nn, Nn = M + m := ⟨_, rfl⟩
  obtain ⟨p, hp⟩ : ∃ p, p + 1 = Nn := ⟨Nn - 1, by omega⟩
  have b1 : ((m : Int) - a == 1) = false := by simp; omega
  have b2 : ((b : Int) - m == 1) = false := by simp; omega
  have b3 : 0 ≤ (m : Int) - a ∧ (m : Int) - a ≤ 4611686018427387904 := by omega
  have b4 : 0 ≤ (b : Int) - m ∧ (b : Int) - m ≤ 4611686018427387904 := by omega
  have b5 : (a : Int) + b ≤ 9223372036854775807 := by omega
  have e1 : ((a : Int) + (b : Int)) / 2 = (M : Int) := by omega
  have e2 : (M : Int) + (m : Int) = (Nn : Int) := by omega
  have e2' : (Nn : Int) ≤ 9223372036854775807 := by omega
  have e3 : wrap64 ((Nn : Int) - 1) = (p : Int) := by unfold wrap64; omega
  have e4 : IntKind.i64.wrap ((Nn : Int) - 1) = (p : Int) := wI (by omega) (by omega)
  have HL := Lib.hid (And.intro ha (And.intro hm (And.intro hb (And.intro hL1 (And.intro hR1 (And.intro hN (And.intro hl (And.intro hSL (And.intro hSR (And.intro hup (And.intro hlen (And.intro hM (And.intro hNn hp)))))))))))))
  have HC := Lib.hid hC
  have HI := Lib.hid ih
  clear ha hm hb hL1 hR1 hN hl hSL hSR hup hlen hM hNn hp hC ih
  go_enter Try.func42, Try.ntmps42
  go_upto_if 140 with (fail)
  clear b1 b2 b3 b4
  go_cut [20, 21] from 140 to 146 (fun s20 s21 wx => ∃ lo hi : Nat, s20 = .int .i64 (lo : Int) ∧ s21 = .int .i64 (hi : Int) ∧ (M < m ∧ lo + b = M + m ∧ hi = M ∨ m ≤ M ∧ lo = a ∧ hi = m) ∧ wx = w)
  case first =>
    by_cases h : M < m
    · have t1 : decide ((M : Int) < (m : Int)) = true := decide_eq_true (by omega)
      have t1' : decide (M < m) = true := decide_eq_true h
      obtain ⟨ha, hm, hb, hL1, hR1, hN, hl, hSL, hSR, hup, hlen, hM, hNn, hp⟩ := HL.out
      obtain ⟨lo, hlo⟩ : ∃ lo, lo + b = M + m := ⟨M + m - b, by omega⟩
      have e5 : wrap64 ((Nn : Int) - (b : Int)) = (lo : Int) := by unfold wrap64; omega
      have e6 : IntKind.i64.wrap ((Nn : Int) - (b : Int)) = (lo : Int) := wI (by omega) (by omega)
      have HH := Lib.hid (And.intro h hlo)
      clear ha hm hb hL1 hR1 hN hl hSL hSR hup hlen hM hNn hp hlo hv
      go_wp2_with fail
      go_meet
      exact ⟨lo, M, rfl, rfl, .inl ⟨HH.out.1, HH.out.2, rfl⟩, rfl⟩
    · have t1 : decide ((M : Int) < (m : Int)) = false := decide_eq_false (by omega)
      have t1' : decide (M < m) = false := decide_eq_false h
      have HH := Lib.hid h
      clear h hv
      go_wp2_with fail
      go_meet
      exact ⟨a, m, rfl, rfl, .inr ⟨by have := HH.out; omega, rfl, rfl⟩, rfl⟩
  case rest =>
  obtain ⟨lo, hi, rfl, rfl, hlh, hwx⟩ := hcut
  have hwx' := hwx.symm
  clear hwx
  subst hwx'
  have HH := Lib.hid hlh
  clear hlh
  go_upto_region 33 with (fail)
  clear e1 b5
  go_loopg [20, 21, 23] (hi - lo) (fun gk (v20 v21 v23 : Value) wr => ∃ s r : Nat, v20 = .int .i64 (s : Int) ∧ v21 = .int .i64 (r : Int) ∧ lo ≤ s ∧ s ≤ r ∧ r ≤ hi ∧ gk = r - s ∧ (s = lo ∨ ∃ (q1 : s - 1 - a < L.length) (q2 : M - s < R.length), le st L[s - 1 - a] R[M - s] = true) ∧ (r = hi ∨ ∃ (q1 : r - a < L.length) (q2 : M - 1 - r < R.length), ¬ le st L[r - a] R[M - 1 - r] = true) ∧
    RowK wr K n cap (P ++ (L ++ (R ++ Z))) ∧ Chg [K] w wr)
  case atStart =>
    obtain ⟨ha, hm, hb, hL1, hR1, hN, hl, hSL, hSR, hup, hlen, hM, hNn, hp⟩ := HL.out
    exact ⟨lo, hi, rfl, rfl, by omega, by have := HH.out; omega, by omega, rfl, .inl rfl, .inl rfl, hv, Chg.refl _ _⟩
  case round =>
    obtain ⟨s, r, rfl, rfl, hls, hsr, hrh, hgk, hs1, hr1, hr, hc⟩ := hrel
    obtain ⟨ha, hm, hb, hL1, hR1, hN, hl, hSL, hSR, hup, hlen, hM, hNn, hp⟩ := HL.out
    have hlh := HH.out
    by_cases hlt : s < r
    · have t1 : decide ((s : Int) < (r : Int)) = true := decide_eq_true (by omega)
      have t1' : decide (s < r) = true := decide_eq_true hlt
      obtain ⟨h, hh⟩ : ∃ h, h = (s + r) / 2 := ⟨_, rfl⟩
      have i1 : (s : Int) + r ≤ 9223372036854775807 := by omega
      have eh : ((s : Int) + (r : Int)) / 2 = (h : Int) := by omega
      have hhL : h - a < L.length := by omega
      have hhR : M - 1 - h < R.length := by omega
      obtain ⟨q, hq⟩ : ∃ q, q = m + (M - 1 - h) := ⟨_, rfl⟩
      have hqp : q + h = p := by omega
      obtain ⟨x, hx⟩ : ∃ x, x = L[h - a] := ⟨_, rfl⟩
      obtain ⟨y, hy⟩ : ∃ y, y = R[M - 1 - h] := ⟨_, rfl⟩
      have hxm : x ∈ L := by rw [hx]; exact List.getElem_mem _
      have hym : y ∈ R := by rw [hy]; exact List.getElem_mem _
      have hxy := hup x hxm y hym
      have hxl := hl.1 x hxm
      have hyl := hl.2 y hym
      have xh := hr.cell (j := h) (x := x) (by
        rw [List.getElem?_append_right (by omega), show h - P.length = h - a by omega, List.getElem?_append_left hhL, hx]
        exact List.getElem?_eq_getElem hhL)
      have xq := hr.cell (j := q) (x := y) (by
        rw [List.getElem?_append_right (by omega), List.getElem?_append_right (by omega), show q - P.length - L.length = M - 1 - h by omega, List.getElem?_append_left hhR, hy]
        exact List.getElem?_eq_getElem hhR)
      obtain ⟨c, hcv⟩ : ∃ c, c = cmpV st y x := ⟨_, rfl⟩
      have hle := cmpV_le st hxy
      rw [← hcv] at hle
      have kc := fun W (h : Chg [] wr W) => HC.out W ((hw.tr hc).nil h) y x hyl hxl
      rw [← hcv] at kc
      have e5 : wrap64 ((p : Int) - (h : Int)) = (q : Int) := by unfold wrap64; omega
      have e6 : IntKind.i64.wrap ((p : Int) - (h : Int)) = (q : Int) := wI (by omega) (by omega)
      have i2 : (q : Int) < n := by omega
      have i3 : (h : Int) < n := by omega
      have i4 : (h : Int) + 1 ≤ 4611686018427387904 := by omega
      have HJ := Lib.hid (And.intro hls (And.intro hsr (And.intro hrh (And.intro hgk (And.intro hs1 (And.intro hr1 (And.intro hr (And.intro hc (And.intro hlt (And.intro hh (And.intro hx (And.intro hy hle))))))))))))
      clear hls hsr hrh hgk hs1 hr1 hr hc hlt hh hx hy hle hcv hxm hym hxy hxl hyl ha hm hb hL1 hR1 hN hl hSL hSR hup hlen hM hNn hp hlh hq hqp hv
      go_upto_region 35 with (fail)
      obtain ⟨X, hnX, F, x0, hF0, hF, hX⟩ := fam0 wr
      have ya := fun u => (hF u).cell_some xh (by simp)
      have yh := fun u => (hF u).cell_some xq (by simp)
      refine wp_fam F (by kernel_rfl) (by kernel_rfl) x0 hF0 ?_
      repeat (go_big_quiet_step (exact fam_call hF hX (kc _ (hF _))))
      refine wpQuiet_nil ?_
      rintro w' ⟨x1, rfl⟩
      have cF := hF x1
      clear hF hX hF0 ya yh xh xq kc
      generalize F x1 = w2 at *
      by_cases h0 : c < 0
      · have r4 : decide (c < 0) = true := decide_eq_true h0
        rw [r4, Bool.not_true]
        go_wp2_with fail
        obtain ⟨hls, hsr, hrh, hgk, hs1, hr1, hr, hc, hlt, hh, hx, hy, hle⟩ := HJ.out
        go_roundg (h - s)
        case measure => omega
        case rel => exact ⟨s, h, rfl, rfl, hls, by omega, by omega, rfl, hs1, .inr ⟨hhL, hhR, by rw [← hx, ← hy]; exact hle.1 h0⟩, hr.chg cF, hc.nil cF⟩
      · have r4 : decide (c < 0) = false := decide_eq_false h0
        rw [r4, Bool.not_false]
        go_wp2_with fail
        obtain ⟨hls, hsr, hrh, hgk, hs1, hr1, hr, hc, hlt, hh, hx, hy, hle⟩ := HJ.out
        go_roundg (r - (h + 1))
        case measure => omega
        case rel =>
          refine ⟨h + 1, r, by first | rfl | go_num, rfl, by omega, by omega, hrh, rfl, .inr ?_, hr1, hr.chg cF, hc.nil cF⟩
          have z1 : h + 1 - 1 - a = h - a := by omega
          have z2 : M - (h + 1) = M - 1 - h := by omega
          simp only [z1, z2]
          exact ⟨hhL, hhR, by rw [← hx, ← hy]; exact Classical.byContradiction fun h => absurd (hle.2 h) (by omega)⟩
    · have t1 : decide ((s : Int) < (r : Int)) = false := decide_eq_false (by omega)
      have t1' : decide (s < r) = false := decide_eq_false hlt
      obtain rfl : s = r := by omega
      obtain ⟨u, hu⟩ : ∃ u, u = s - a := ⟨_, rfl⟩
      obtain ⟨t, ht⟩ : ∃ t, t = M - s := ⟨_, rfl⟩
      obtain ⟨e, he⟩ : ∃ e, e = m + t := ⟨_, rfl⟩
      have hsM : s ≤ M := by omega
      have has : a ≤ s := by omega
      have huL : u ≤ L.length := by omega
      have htR : t ≤ R.length := by omega
      have heN : e + s = Nn := by omega
      have hfin := cut_ok st hSL hSR (s := u) (t := t) huL htR (by
        rcases hs1 with h1 | ⟨q1, q2, h1⟩
        · rcases hlh with h2 | h2
          · exact .inr (.inl (by omega))
          · exact .inl (by omega)
        · refine .inr (.inr ?_)
          have z1 : s - 1 - a = u - 1 := by omega
          have z2 : M - s = t := by omega
          simp only [z1, z2] at h1 q1 q2
          exact ⟨q1, q2, h1⟩) (by
        rcases hr1 with h1 | ⟨q1, q2, h1⟩
        · rcases hlh with h2 | h2
          · exact .inr (.inl (by omega))
          · exact .inl (by omega)
        · refine .inr (.inr ?_)
          have z1 : s - a = u := by omega
          have z2 : M - 1 - s = t - 1 := by omega
          simp only [z1, z2] at h1 q1 q2
          exact ⟨q1, q2, not_le st h1⟩)
      obtain ⟨L1, eL1⟩ : ∃ L1, L1 = L.take u := ⟨_, rfl⟩
      obtain ⟨L2, eL2⟩ : ∃ L2, L2 = L.drop u := ⟨_, rfl⟩
      obtain ⟨R1, eR1⟩ : ∃ R1, R1 = R.take t := ⟨_, rfl⟩
      obtain ⟨R2, eR2⟩ : ∃ R2, R2 = R.drop t := ⟨_, rfl⟩
      rw [← eL1, ← eL2, ← eR1, ← eR2] at hfin
      have lL1 : L1.length = u := by rw [eL1, List.length_take]; omega
      have lL2 : L2.length = L.length - u := by rw [eL2, List.length_drop]
      have lR1 : R1.length = t := by rw [eR1, List.length_take]; omega
      have lR2 : R2.length = R.length - t := by rw [eR2, List.length_drop]
      have eL : L = L1 ++ L2 := by rw [eL1, eL2, List.take_append_drop]
      have eR : R = R1 ++ R2 := by rw [eR1, eR2, List.take_append_drop]
      have sL : Srt st (L1 ++ L2) := by rw [← eL]; exact hSL
      have sR : Srt st (R1 ++ R2) := by rw [← eR]; exact hSR
      obtain ⟨sL1, sL2, -⟩ := List.pairwise_append.1 sL
      obtain ⟨sR1, sR2, -⟩ := List.pairwise_append.1 sR
      have iL1 : ∀ x ∈ L1, x ∈ L := fun x hx => by rw [eL]; exact List.mem_append_left _ hx
      have iL2 : ∀ x ∈ L2, x ∈ L := fun x hx => by rw [eL]; exact List.mem_append_right _ hx
      have iR1 : ∀ x ∈ R1, x ∈ R := fun x hx => by rw [eR]; exact List.mem_append_left _ hx
      have iR2 : ∀ x ∈ R2, x ∈ R := fun x hx => by rw [eR]; exact List.mem_append_right _ hx
      rw [eL, eR] at hr
      have kR : 0 < L2.length → 0 < R1.length → Calls Try.prog 47 #[.slice (some ⟨K, 0, none⟩) n cap, .int .i64 (s : Int), .int .i64 (m : Int), .int .i64 (e : Int), cmpF gp] wr fun e w' => e = .returned (.tuple #[]) ∧ RowK w' K n cap (P ++ (L1 ++ (R1 ++ (L2 ++ (R2 ++ Z))))) ∧ Chg [K] wr w' := fun h1 h2 => by
        have := rotate_any wr K n cap s m e (P ++ L1) L2 R1 (R2 ++ Z) (cmpF gp) (by simpa using hr) (by rw [List.length_append]; omega) (by omega) (by omega) h1 h2 (by omega)
        refine this.mono fun e w' ⟨g1, g2, g3⟩ => ⟨g1, by simpa using g2, g3⟩
      have nR : ¬ (0 < L2.length ∧ 0 < R1.length) → RowK wr K n cap (P ++ (L1 ++ (R1 ++ (L2 ++ (R2 ++ Z))))) := fun h => by
        rcases Nat.eq_zero_or_pos L2.length with h1 | h1
        · obtain rfl := List.length_eq_zero_iff.1 h1; simpa using hr
        · obtain rfl : R1 = [] := List.length_eq_zero_iff.1 (by omega)
          simpa using hr
      have k1 : 0 < L1.length → 0 < R1.length → ∀ W, RowK W K n cap (P ++ (L1 ++ (R1 ++ (L2 ++ (R2 ++ Z))))) → Chg [K] w W → Calls Try.prog 42 #[.slice (some ⟨K, 0, none⟩) n cap, .int .i64 (a : Int), .int .i64 (s : Int), .int .i64 (M : Int), cmpF gp] W fun e w' => e = .returned (.tuple #[]) ∧ RowK w' K n cap (P ++ (sortT st (L1 ++ R1) ++ (L2 ++ (R2 ++ Z)))) ∧ Chg [K] W w' := fun h1 h2 W hW hcW =>
        HI.out w0 W K n cap a s M P L1 R1 (L2 ++ (R2 ++ Z)) gp st HC.out (hw.tr hcW) hW ha (by omega) (by omega) h1 h2 (by omega) ⟨fun x hx => hl.1 x (iL1 x hx), fun x hx => hl.2 x (iR1 x hx)⟩ sL1 sR1 (fun x hx y hy => hup x (iL1 x hx) y (iR1 y hy)) hn
      have n1 : ¬ (0 < L1.length ∧ 0 < R1.length) → sortT st (L1 ++ R1) = L1 ++ R1 := fun h => by
        rcases Nat.eq_zero_or_pos L1.length with h1 | h1
        · obtain rfl := List.length_eq_zero_iff.1 h1; exact sortT_self st sR1
        · obtain rfl : R1 = [] := List.length_eq_zero_iff.1 (by omega)
          rw [List.append_nil]; exact sortT_self st sL1
      have k2 : 0 < L2.length → 0 < R2.length → ∀ W, RowK W K n cap (P ++ (sortT st (L1 ++ R1) ++ (L2 ++ (R2 ++ Z)))) → Chg [K] w W → Calls Try.prog 42 #[.slice (some ⟨K, 0, none⟩) n cap, .int .i64 (M : Int), .int .i64 (e : Int), .int .i64 (b : Int), cmpF gp] W fun e w' => e = .returned (.tuple #[]) ∧ RowK w' K n cap (P ++ (sortT st (L1 ++ R1) ++ (sortT st (L2 ++ R2) ++ Z))) ∧ Chg [K] W w' := fun h1 h2 W hW hcW => by
        have := HI.out w0 W K n cap M e b (P ++ sortT st (L1 ++ R1)) L2 R2 Z gp st HC.out (hw.tr hcW) (by simpa using hW) (by rw [List.length_append, sortT_len, List.length_append]; omega) (by omega) (by omega) h1 h2 (by omega) ⟨fun x hx => hl.1 x (iL2 x hx), fun x hx => hl.2 x (iR2 x hx)⟩ sL2 sR2 (fun x hx y hy => hup x (iL2 x hx) y (iR2 y hy)) hn
        refine this.mono fun e w' ⟨g1, g2, g3⟩ => ⟨g1, by simpa using g2, g3⟩
      have n2 : ¬ (0 < L2.length ∧ 0 < R2.length) → sortT st (L2 ++ R2) = L2 ++ R2 := fun h => by
        rcases Nat.eq_zero_or_pos L2.length with h1 | h1
        · obtain rfl := List.length_eq_zero_iff.1 h1; exact sortT_self st sR2
        · obtain rfl : R2 = [] := List.length_eq_zero_iff.1 (by omega)
          rw [List.append_nil]; exact sortT_self st sL2
      have e5 : wrap64 ((Nn : Int) - (s : Int)) = (e : Int) := by unfold wrap64; omega
      have e6 : IntKind.i64.wrap ((Nn : Int) - (s : Int)) = (e : Int) := wI (by omega) (by omega)
      have ef : RowK wr K n cap (P ++ (sortT st (L1 ++ R1) ++ (sortT st (L2 ++ R2) ++ Z))) ↔ RowK wr K n cap (P ++ (sortT st (L1 ++ R1) ++ (sortT st (L2 ++ R2) ++ Z))) := Iff.rfl
      have E3 : P ++ (sortT st (L ++ R) ++ Z) = P ++ (sortT st (L1 ++ R1) ++ (sortT st (L2 ++ R2) ++ Z)) := by rw [← hfin]; simp
      have HE := Lib.hid E3
      clear ef E3 hfin eL1 eL2 eR1 eR2 eL eR sL sR sL1 sL2 sR1 sR2 iL1 iL2 iR1 iR2 hl hSL hSR hup hlen
      have HK := Lib.hid (And.intro kR (And.intro nR (And.intro k1 (And.intro n1 (And.intro k2 n2)))))
      clear kR nR k1 n1 k2 n2
      have cL1 : u = 0 ∨ 0 < u := by omega
      have way : (u = 0 ∧ 0 < L2.length ∨ 0 < u ∧ L2.length = 0 ∨ 0 < u ∧ 0 < L2.length) := by omega
      have wag : (t = 0 ∧ 0 < R2.length ∨ 0 < t ∧ R2.length = 0 ∨ 0 < t ∧ 0 < R2.length) := by omega
      clear cL1
      have HF := Lib.hid (And.intro lL1 (And.intro lR1 (And.intro hr hc)))
      rcases way with ⟨w1, w2⟩ | ⟨w1, w2⟩ | ⟨w1, w2⟩ <;> rcases wag with ⟨w3, w4⟩ | ⟨w3, w4⟩ | ⟨w3, w4⟩
      · -- 0101
        have d1 : decide ((s : Int) < (m : Int)) = true := decide_eq_true (by omega)
        have d1' : decide (s < m) = true := decide_eq_true (by omega)
        have d2 : decide ((m : Int) < (e : Int)) = false := decide_eq_false (by omega)
        have d2' : decide (m < e) = false := decide_eq_false (by omega)
        have d3 : decide ((a : Int) < (s : Int)) = false := decide_eq_false (by omega)
        have d3' : decide (a < s) = false := decide_eq_false (by omega)
        have d4 : decide ((s : Int) < (M : Int)) = false := decide_eq_false (by omega)
        have d4' : decide (s < M) = false := decide_eq_false (by omega)
        have d5 : decide ((M : Int) < (e : Int)) = true := decide_eq_true (by omega)
        have d5' : decide (M < e) = true := decide_eq_true (by omega)
        have d6 : decide ((e : Int) < (b : Int)) = true := decide_eq_true (by omega)
        have d6' : decide (e < b) = true := decide_eq_true (by omega)
        have HW := Lib.hid (And.intro w1 (And.intro w2 (And.intro w3 w4)))
        clear w1 w2 w3 w4 hls hsr hrh hgk hs1 hr1 hr hc ha hm hb hL1 hR1 hN hM hNn hp hlh hlt hu ht he hsM has huL htR heN lL1 lL2 lR1 lR2 hv
        go_wp2_with fail
        obtain ⟨kR, nR, k1, n1, k2, n2⟩ := HK.out
        obtain ⟨w1, w2, w3, w4⟩ := HW.out
        obtain ⟨lL1, lR1, hr, hc⟩ := HF.out
        have r1 := nR (by omega)
        have n1 := n1 (by omega)
        have k2 := k2 (by omega) (by omega)
        have c1 := hc
        clear w1 w2 w3 w4 lL1 lR1
        have r2 := r1
        rw [← List.append_assoc L1, ← n1] at r2
        have c2 := c1
        refine (k2 _ r2 c2).mono ?_
        rintro e w5 ⟨rfl, r3, c5⟩
        have c6 := c2.tr c5
        go_wp2_with fail
        go_end0
        exact ⟨rfl, by rw [HE.out]; exact r3, c6⟩
      · -- 0110
        have d1 : decide ((s : Int) < (m : Int)) = true := decide_eq_true (by omega)
        have d1' : decide (s < m) = true := decide_eq_true (by omega)
        have d2 : decide ((m : Int) < (e : Int)) = true := decide_eq_true (by omega)
        have d2' : decide (m < e) = true := decide_eq_true (by omega)
        have d3 : decide ((a : Int) < (s : Int)) = false := decide_eq_false (by omega)
        have d3' : decide (a < s) = false := decide_eq_false (by omega)
        have d4 : decide ((s : Int) < (M : Int)) = true := decide_eq_true (by omega)
        have d4' : decide (s < M) = true := decide_eq_true (by omega)
        have d5 : decide ((M : Int) < (e : Int)) = true := decide_eq_true (by omega)
        have d5' : decide (M < e) = true := decide_eq_true (by omega)
        have d6 : decide ((e : Int) < (b : Int)) = false := decide_eq_false (by omega)
        have d6' : decide (e < b) = false := decide_eq_false (by omega)
        have HW := Lib.hid (And.intro w1 (And.intro w2 (And.intro w3 w4)))
        clear w1 w2 w3 w4 hls hsr hrh hgk hs1 hr1 hr hc ha hm hb hL1 hR1 hN hM hNn hp hlh hlt hu ht he hsM has huL htR heN lL1 lL2 lR1 lR2 hv
        go_wp2_with fail
        obtain ⟨kR, nR, k1, n1, k2, n2⟩ := HK.out
        obtain ⟨w1, w2, w3, w4⟩ := HW.out
        obtain ⟨lL1, lR1, hr, hc⟩ := HF.out
        have kR := kR (by omega) (by omega)
        have n1 := n1 (by omega)
        have n2 := n2 (by omega)
        have c1 := hc
        clear w1 w2 w3 w4 lL1 lR1
        refine kR.mono ?_
        rintro e w3 ⟨rfl, r1, c3⟩
        have c1 := hc.tr c3
        have r2 := r1
        rw [← List.append_assoc L1, ← n1] at r2
        have c2 := c1
        have r3 := r2
        rw [← List.append_assoc L2, ← n2] at r3
        have c6 := c2
        go_wp2_with fail
        go_end0
        exact ⟨rfl, by rw [HE.out]; exact r3, c6⟩
      · -- 0111
        have d1 : decide ((s : Int) < (m : Int)) = true := decide_eq_true (by omega)
        have d1' : decide (s < m) = true := decide_eq_true (by omega)
        have d2 : decide ((m : Int) < (e : Int)) = true := decide_eq_true (by omega)
        have d2' : decide (m < e) = true := decide_eq_true (by omega)
        have d3 : decide ((a : Int) < (s : Int)) = false := decide_eq_false (by omega)
        have d3' : decide (a < s) = false := decide_eq_false (by omega)
        have d4 : decide ((s : Int) < (M : Int)) = true := decide_eq_true (by omega)
        have d4' : decide (s < M) = true := decide_eq_true (by omega)
        have d5 : decide ((M : Int) < (e : Int)) = true := decide_eq_true (by omega)
        have d5' : decide (M < e) = true := decide_eq_true (by omega)
        have d6 : decide ((e : Int) < (b : Int)) = true := decide_eq_true (by omega)
        have d6' : decide (e < b) = true := decide_eq_true (by omega)
        have HW := Lib.hid (And.intro w1 (And.intro w2 (And.intro w3 w4)))
        clear w1 w2 w3 w4 hls hsr hrh hgk hs1 hr1 hr hc ha hm hb hL1 hR1 hN hM hNn hp hlh hlt hu ht he hsM has huL htR heN lL1 lL2 lR1 lR2 hv
        go_wp2_with fail
        obtain ⟨kR, nR, k1, n1, k2, n2⟩ := HK.out
        obtain ⟨w1, w2, w3, w4⟩ := HW.out
        obtain ⟨lL1, lR1, hr, hc⟩ := HF.out
        have kR := kR (by omega) (by omega)
        have n1 := n1 (by omega)
        have k2 := k2 (by omega) (by omega)
        have c1 := hc
        clear w1 w2 w3 w4 lL1 lR1
        refine kR.mono ?_
        rintro e w3 ⟨rfl, r1, c3⟩
        have c1 := hc.tr c3
        have r2 := r1
        rw [← List.append_assoc L1, ← n1] at r2
        have c2 := c1
        go_wp2_with fail
        refine (k2 _ r2 c2).mono ?_
        rintro e w5 ⟨rfl, r3, c5⟩
        have c6 := c2.tr c5
        go_wp2_with fail
        go_end0
        exact ⟨rfl, by rw [HE.out]; exact r3, c6⟩
      · -- 1001
        have d1 : decide ((s : Int) < (m : Int)) = false := decide_eq_false (by omega)
        have d1' : decide (s < m) = false := decide_eq_false (by omega)
        have d2 : decide ((m : Int) < (e : Int)) = false := decide_eq_false (by omega)
        have d2' : decide (m < e) = false := decide_eq_false (by omega)
        have d3 : decide ((a : Int) < (s : Int)) = true := decide_eq_true (by omega)
        have d3' : decide (a < s) = true := decide_eq_true (by omega)
        have d4 : decide ((s : Int) < (M : Int)) = false := decide_eq_false (by omega)
        have d4' : decide (s < M) = false := decide_eq_false (by omega)
        have d5 : decide ((M : Int) < (e : Int)) = false := decide_eq_false (by omega)
        have d5' : decide (M < e) = false := decide_eq_false (by omega)
        have d6 : decide ((e : Int) < (b : Int)) = true := decide_eq_true (by omega)
        have d6' : decide (e < b) = true := decide_eq_true (by omega)
        have HW := Lib.hid (And.intro w1 (And.intro w2 (And.intro w3 w4)))
        clear w1 w2 w3 w4 hls hsr hrh hgk hs1 hr1 hr hc ha hm hb hL1 hR1 hN hM hNn hp hlh hlt hu ht he hsM has huL htR heN lL1 lL2 lR1 lR2 hv
        go_wp2_with fail
        obtain ⟨kR, nR, k1, n1, k2, n2⟩ := HK.out
        obtain ⟨w1, w2, w3, w4⟩ := HW.out
        obtain ⟨lL1, lR1, hr, hc⟩ := HF.out
        have r1 := nR (by omega)
        have n1 := n1 (by omega)
        have n2 := n2 (by omega)
        have c1 := hc
        clear w1 w2 w3 w4 lL1 lR1
        have r2 := r1
        rw [← List.append_assoc L1, ← n1] at r2
        have c2 := c1
        have r3 := r2
        rw [← List.append_assoc L2, ← n2] at r3
        have c6 := c2
        go_end0
        exact ⟨rfl, by rw [HE.out]; exact r3, c6⟩
      · -- 1010
        have d1 : decide ((s : Int) < (m : Int)) = false := decide_eq_false (by omega)
        have d1' : decide (s < m) = false := decide_eq_false (by omega)
        have d2 : decide ((m : Int) < (e : Int)) = true := decide_eq_true (by omega)
        have d2' : decide (m < e) = true := decide_eq_true (by omega)
        have d3 : decide ((a : Int) < (s : Int)) = true := decide_eq_true (by omega)
        have d3' : decide (a < s) = true := decide_eq_true (by omega)
        have d4 : decide ((s : Int) < (M : Int)) = true := decide_eq_true (by omega)
        have d4' : decide (s < M) = true := decide_eq_true (by omega)
        have d5 : decide ((M : Int) < (e : Int)) = false := decide_eq_false (by omega)
        have d5' : decide (M < e) = false := decide_eq_false (by omega)
        have d6 : decide ((e : Int) < (b : Int)) = false := decide_eq_false (by omega)
        have d6' : decide (e < b) = false := decide_eq_false (by omega)
        have HW := Lib.hid (And.intro w1 (And.intro w2 (And.intro w3 w4)))
        clear w1 w2 w3 w4 hls hsr hrh hgk hs1 hr1 hr hc ha hm hb hL1 hR1 hN hM hNn hp hlh hlt hu ht he hsM has huL htR heN lL1 lL2 lR1 lR2 hv
        go_wp2_with fail
        obtain ⟨kR, nR, k1, n1, k2, n2⟩ := HK.out
        obtain ⟨w1, w2, w3, w4⟩ := HW.out
        obtain ⟨lL1, lR1, hr, hc⟩ := HF.out
        have r1 := nR (by omega)
        have k1 := k1 (by omega) (by omega)
        have n2 := n2 (by omega)
        have c1 := hc
        clear w1 w2 w3 w4 lL1 lR1
        refine (k1 _ r1 c1).mono ?_
        rintro e w4 ⟨rfl, r2, c4⟩
        have c2 := c1.tr c4
        have r3 := r2
        rw [← List.append_assoc L2, ← n2] at r3
        have c6 := c2
        go_wp2_with fail
        go_end0
        exact ⟨rfl, by rw [HE.out]; exact r3, c6⟩
      · -- 1011
        have d1 : decide ((s : Int) < (m : Int)) = false := decide_eq_false (by omega)
        have d1' : decide (s < m) = false := decide_eq_false (by omega)
        have d2 : decide ((m : Int) < (e : Int)) = true := decide_eq_true (by omega)
        have d2' : decide (m < e) = true := decide_eq_true (by omega)
        have d3 : decide ((a : Int) < (s : Int)) = true := decide_eq_true (by omega)
        have d3' : decide (a < s) = true := decide_eq_true (by omega)
        have d4 : decide ((s : Int) < (M : Int)) = true := decide_eq_true (by omega)
        have d4' : decide (s < M) = true := decide_eq_true (by omega)
        have d5 : decide ((M : Int) < (e : Int)) = false := decide_eq_false (by omega)
        have d5' : decide (M < e) = false := decide_eq_false (by omega)
        have d6 : decide ((e : Int) < (b : Int)) = true := decide_eq_true (by omega)
        have d6' : decide (e < b) = true := decide_eq_true (by omega)
        have HW := Lib.hid (And.intro w1 (And.intro w2 (And.intro w3 w4)))
        clear w1 w2 w3 w4 hls hsr hrh hgk hs1 hr1 hr hc ha hm hb hL1 hR1 hN hM hNn hp hlh hlt hu ht he hsM has huL htR heN lL1 lL2 lR1 lR2 hv
        go_wp2_with fail
        obtain ⟨kR, nR, k1, n1, k2, n2⟩ := HK.out
        obtain ⟨w1, w2, w3, w4⟩ := HW.out
        obtain ⟨lL1, lR1, hr, hc⟩ := HF.out
        have r1 := nR (by omega)
        have k1 := k1 (by omega) (by omega)
        have n2 := n2 (by omega)
        have c1 := hc
        clear w1 w2 w3 w4 lL1 lR1
        refine (k1 _ r1 c1).mono ?_
        rintro e w4 ⟨rfl, r2, c4⟩
        have c2 := c1.tr c4
        have r3 := r2
        rw [← List.append_assoc L2, ← n2] at r3
        have c6 := c2
        go_wp2_with fail
        go_end0
        exact ⟨rfl, by rw [HE.out]; exact r3, c6⟩
      · -- 1101
        have d1 : decide ((s : Int) < (m : Int)) = true := decide_eq_true (by omega)
        have d1' : decide (s < m) = true := decide_eq_true (by omega)
        have d2 : decide ((m : Int) < (e : Int)) = false := decide_eq_false (by omega)
        have d2' : decide (m < e) = false := decide_eq_false (by omega)
        have d3 : decide ((a : Int) < (s : Int)) = true := decide_eq_true (by omega)
        have d3' : decide (a < s) = true := decide_eq_true (by omega)
        have d4 : decide ((s : Int) < (M : Int)) = false := decide_eq_false (by omega)
        have d4' : decide (s < M) = false := decide_eq_false (by omega)
        have d5 : decide ((M : Int) < (e : Int)) = true := decide_eq_true (by omega)
        have d5' : decide (M < e) = true := decide_eq_true (by omega)
        have d6 : decide ((e : Int) < (b : Int)) = true := decide_eq_true (by omega)
        have d6' : decide (e < b) = true := decide_eq_true (by omega)
        have HW := Lib.hid (And.intro w1 (And.intro w2 (And.intro w3 w4)))
        clear w1 w2 w3 w4 hls hsr hrh hgk hs1 hr1 hr hc ha hm hb hL1 hR1 hN hM hNn hp hlh hlt hu ht he hsM has huL htR heN lL1 lL2 lR1 lR2 hv
        go_wp2_with fail
        obtain ⟨kR, nR, k1, n1, k2, n2⟩ := HK.out
        obtain ⟨w1, w2, w3, w4⟩ := HW.out
        obtain ⟨lL1, lR1, hr, hc⟩ := HF.out
        have r1 := nR (by omega)
        have n1 := n1 (by omega)
        have k2 := k2 (by omega) (by omega)
        have c1 := hc
        clear w1 w2 w3 w4 lL1 lR1
        have r2 := r1
        rw [← List.append_assoc L1, ← n1] at r2
        have c2 := c1
        refine (k2 _ r2 c2).mono ?_
        rintro e w5 ⟨rfl, r3, c5⟩
        have c6 := c2.tr c5
        go_wp2_with fail
        go_end0
        exact ⟨rfl, by rw [HE.out]; exact r3, c6⟩
      · -- 1110
        have d1 : decide ((s : Int) < (m : Int)) = true := decide_eq_true (by omega)
        have d1' : decide (s < m) = true := decide_eq_true (by omega)
        have d2 : decide ((m : Int) < (e : Int)) = true := decide_eq_true (by omega)
        have d2' : decide (m < e) = true := decide_eq_true (by omega)
        have d3 : decide ((a : Int) < (s : Int)) = true := decide_eq_true (by omega)
        have d3' : decide (a < s) = true := decide_eq_true (by omega)
        have d4 : decide ((s : Int) < (M : Int)) = true := decide_eq_true (by omega)
        have d4' : decide (s < M) = true := decide_eq_true (by omega)
        have d5 : decide ((M : Int) < (e : Int)) = true := decide_eq_true (by omega)
        have d5' : decide (M < e) = true := decide_eq_true (by omega)
        have d6 : decide ((e : Int) < (b : Int)) = false := decide_eq_false (by omega)
        have d6' : decide (e < b) = false := decide_eq_false (by omega)
        have HW := Lib.hid (And.intro w1 (And.intro w2 (And.intro w3 w4)))
        clear w1 w2 w3 w4 hls hsr hrh hgk hs1 hr1 hr hc ha hm hb hL1 hR1 hN hM hNn hp hlh hlt hu ht he hsM has huL htR heN lL1 lL2 lR1 lR2 hv
        go_wp2_with fail
        obtain ⟨kR, nR, k1, n1, k2, n2⟩ := HK.out
        obtain ⟨w1, w2, w3, w4⟩ := HW.out
        obtain ⟨lL1, lR1, hr, hc⟩ := HF.out
        have kR := kR (by omega) (by omega)
        have k1 := k1 (by omega) (by omega)
        have n2 := n2 (by omega)
        have c1 := hc
        clear w1 w2 w3 w4 lL1 lR1
        refine kR.mono ?_
        rintro e w3 ⟨rfl, r1, c3⟩
        have c1 := hc.tr c3
        have HK2 := Lib.hid (And.intro r1 c1)
        go_wp2_with fail
        refine (k1 _ r1 c1).mono ?_
        rintro e w4 ⟨rfl, r2, c4⟩
        have c2 := c1.tr c4
        have r3 := r2
        rw [← List.append_assoc L2, ← n2] at r3
        have c6 := c2
        go_wp2_with fail
        go_end0
        exact ⟨rfl, by rw [HE.out]; exact r3, c6⟩
      · -- 1111
        have d1 : decide ((s : Int) < (m : Int)) = true := decide_eq_true (by omega)
        have d1' : decide (s < m) = true := decide_eq_true (by omega)
        have d2 : decide ((m : Int) < (e : Int)) = true := decide_eq_true (by omega)
        have d2' : decide (m < e) = true := decide_eq_true (by omega)
        have d3 : decide ((a : Int) < (s : Int)) = true := decide_eq_true (by omega)
        have d3' : decide (a < s) = true := decide_eq_true (by omega)
        have d4 : decide ((s : Int) < (M : Int)) = true := decide_eq_true (by omega)
        have d4' : decide (s < M) = true := decide_eq_true (by omega)
        have d5 : decide ((M : Int) < (e : Int)) = true := decide_eq_true (by omega)
        have d5' : decide (M < e) = true := decide_eq_true (by omega)
        have d6 : decide ((e : Int) < (b : Int)) = true := decide_eq_true (by omega)
        have d6' : decide (e < b) = true := decide_eq_true (by omega)
        have HW := Lib.hid (And.intro w1 (And.intro w2 (And.intro w3 w4)))
        clear w1 w2 w3 w4 hls hsr hrh hgk hs1 hr1 hr hc ha hm hb hL1 hR1 hN hM hNn hp hlh hlt hu ht he hsM has huL htR heN lL1 lL2 lR1 lR2 hv
        go_wp2_with fail
        obtain ⟨kR, nR, k1, n1, k2, n2⟩ := HK.out
        obtain ⟨w1, w2, w3, w4⟩ := HW.out
        obtain ⟨lL1, lR1, hr, hc⟩ := HF.out
        have kR := kR (by omega) (by omega)
        have k1 := k1 (by omega) (by omega)
        have k2 := k2 (by omega) (by omega)
        have c1 := hc
        clear w1 w2 w3 w4 lL1 lR1
        refine kR.mono ?_
        rintro e w3 ⟨rfl, r1, c3⟩
        have c1 := hc.tr c3
        have HK2 := Lib.hid (And.intro r1 c1)
        go_wp2_with fail
        refine (k1 _ r1 c1).mono ?_
        rintro e w4 ⟨rfl, r2, c4⟩
        have c2 := c1.tr c4
        go_wp2_with fail
        refine (k2 _ r2 c2).mono ?_
        rintro e w5 ⟨rfl, r3, c5⟩
        have c6 := c2.tr c5
        go_wp2_with fail
        go_end0
        exact ⟨rfl, by rw [HE.out]; exact r3, c6⟩

theorem sym_any : ∀ N, SymOK N := by
  intro N
  induction N with
  | zero => intro w0 w K n cap a m b P L R Z gp st _ _ _ _ _ _ h1 h2 h3; omega
  | succ N ih =>
    intro w0 w K n cap a m b P L R Z gp st hC hw hv ha hm hb hL0 hR0 hN hl hSL hSR hup hn
    by_cases h1 : L.length = 1
    · match L, h1 with
      | [x], _ =>
        exact symL_any w0 w K n cap a m b P R Z x gp st hC hw (by simpa using hv) ha (by simpa using hm) hb ⟨hl.1 x (by simp), hl.2⟩ hSR (fun y hy => hup x (by simp) y hy) (by omega)
    · by_cases h2 : R.length = 1
      · match R, h2 with
        | [x], _ =>
          exact symR_any w0 w K n cap a m b P L Z x gp st hC hw (by simpa using hv) ha hm (by simpa using hb) (by omega) ⟨hl.2 x (by simp), hl.1⟩ hSL (fun y hy => hup y hy x (by simp)) (by omega)
      · exact sym_long N ih w0 w K n cap a m b P L R Z gp st hC hw hv ha hm hb (by omega) (by omega) hN hl hSL hSR hup hn
end Go.Proofs.Ytphmplbcegibjaa
