/- slices.insertionSortCmpFunc at texts, by stamps. No statement of the seat is proved here. -/
import Derived.Test.YtphmplbcegibjaaSoA
import Derived.Test.YtphmplbcegibjaaQuiet
import Derived.Deep.QuietTactic
import Derived.BigQuiet
set_option linter.unusedVariables false
set_option linter.unusedSimpArgs false
namespace Go.Aq.So
/-- What the comparison answers. -/
def cmpV (st : List UInt8 → Int) (x y : List UInt8) : Int := Lib.compareInt (st y) (st x)
theorem cmpV_neg (st : List UInt8 → Int) (x y : List UInt8) : cmpV st x y < 0 ↔ st y < st x := by
  unfold cmpV Lib.compareInt
  split
  · simp; assumption
  · split
    · simp; omega
    · simp; omega
theorem cmpV_le (st : List UInt8 → Int) {x y : List UInt8} (h : y ≤ x) : cmpV st x y < 0 ↔ ¬ le st y x = true := by rw [cmpV_neg, later_iff st h]
abbrev KeyUp (l : List (List UInt8)) : Prop := l.Pairwise fun x y => x ≤ y
end Go.Aq.So
namespace Go.Proofs.Ytphmplbcegibjaa
open Go.RowKit Go.Aq Go.Aq.Dg Go.Aq.So

/-- The comparison's contract, wherever nothing but block K turned. -/
def CmpOK (w0 : World) (K : Nat) (gp : Value) (st : List UInt8 → Int) : Prop := ∀ W, Chg [K] w0 W → ∀ x y : List UInt8, x.length ≤ 1048576 → y.length ≤ 1048576 →
  Calls Try.prog 26 #[gp, .string (str x), .string (str y)] W fun e W' => e = .returned (.int .i64 (cmpV st x y)) ∧ Chg [] W W'
/-- The function value 'g.later'. -/
abbrev cmpF (gp : Value) : Value := .func (.func 26) #[gp] #[]

set_option maxHeartbeats 1000000 in
set_option maxRecDepth 100000 in
theorem insertion_any (w0 w : World) (K n cap a b : Nat) (P O Z : List (List UInt8)) (gp : Value) (st : List UInt8 → Int) (hC : CmpOK w0 K gp st) (hw : Chg [K] w0 w) (hv : RowK w K n cap (P ++ (O ++ Z))) (ha : P.length = a) (hb : a + O.length = b)
    (hl : ∀ x ∈ O, x.length ≤ 1048576) (ho : KeyUp O) (hn : n ≤ 4611686018427387904) :
    Calls Try.prog 41 #[.slice (some ⟨K, 0, none⟩) n cap, .int .i64 (a : Int), .int .i64 (b : Int), cmpF gp] w fun e w' => e = .returned (.tuple #[]) ∧ RowK w' K n cap (P ++ (sortT st O ++ Z)) ∧ Chg [K] w w' := by
  have hlen := hv.length
  simp only [List.length_append] at hlen
  have HL := Lib.hid (And.intro ha (And.intro hb (And.intro hlen (And.intro hl ho))))
  have HC := Lib.hid hC
  have b1 : (a : Int) ≤ b := by omega
  have b2 : (b : Int) ≤ n := by omega
  clear ha hb hlen hl ho hC
  go_enter Try.func41, Try.ntmps41
  go_wp2_with fail
  go_loopg [8, 9] (b - (a + 1)) (fun gk (v8 v9 : Value) wr => ∃ i : Nat, v8 = .int .i64 (i : Int) ∧ a + 1 ≤ i ∧ (i ≤ b ∨ i = a + 1) ∧ gk = b - i ∧ RowK wr K n cap (P ++ (sortT st (O.take (i - a)) ++ (O.drop (i - a) ++ Z))) ∧ Chg [K] w wr)
  case atStart =>
    obtain ⟨ha, hb, hlen, hl, ho⟩ := HL.out
    refine ⟨a + 1, by push_cast; rfl, by omega, .inr rfl, rfl, ?_, Chg.refl _ _⟩
    rw [show a + 1 - a = 1 by omega]
    have e : sortT st (O.take 1) = O.take 1 := by
      refine sortT_self st ?_
      cases O <;> simp
    rw [e, ← List.append_assoc (O.take 1), List.take_append_drop]
    exact hv
  case round =>
    obtain ⟨i, rfl, hai, hib, hgk, hr, hc⟩ := hrel
    by_cases hlt : i < b
    · have t1 : decide ((i : Int) < (b : Int)) = true := decide_eq_true (by omega)
      have t1' : decide (i < b) = true := decide_eq_true hlt
      obtain ⟨ha, hb, hlen, hl, ho⟩ := HL.out
      have hiO : i - a < O.length := by omega
      obtain ⟨x, hx⟩ : ∃ x, x = O[i - a] := ⟨_, rfl⟩
      have e0 : O.drop (i - a) = x :: O.drop (i - a + 1) := by rw [hx]; exact List.drop_eq_getElem_cons hiO
      have e1 : O.take (i - a + 1) = O.take (i - a) ++ [x] := by rw [hx]; exact List.take_succ_eq_append_getElem hiO
      have hxl : x.length ≤ 1048576 := hl x (by rw [hx]; exact List.getElem_mem _)
      have hup : ∀ y ∈ O.take (i - a), y ≤ x := by
        intro y hy
        obtain ⟨k, hk, rfl⟩ := List.getElem_of_mem hy
        rw [List.length_take] at hk
        rw [List.getElem_take, hx]
        exact List.pairwise_iff_getElem.1 ho k (i - a) (by omega) hiO (by omega)
      rw [e0] at hr
      obtain ⟨S, hS⟩ : ∃ S, S = sortT st (O.take (i - a)) := ⟨_, rfl⟩
      rw [← hS] at hr
      have hSs : Srt st S := by rw [hS]; exact sortT_srt st _
      have hSl : S.length + a = i := by rw [hS, sortT_len, List.length_take]; omega
      have hSm : ∀ y ∈ S, y ≤ x ∧ y.length ≤ 1048576 := fun y hy => by
        rw [hS, sortT_mem] at hy
        exact ⟨hup y hy, hl y (List.mem_of_mem_take hy)⟩
      have hfin : ∀ s, s ≤ S.length → (∀ y ∈ S.take s, le st y x = true) → (∀ y ∈ S.drop s, le st x y = true) → sortT st (O.take (i + 1 - a)) = S.take s ++ x :: S.drop s := fun s hs h1 h2 => by
        refine ins_ok st hSs hs h1 h2 ?_
        rw [show i + 1 - a = i - a + 1 by omega, e1, hS]
        exact List.perm_append_comm.trans (List.Perm.cons x (sortT_perm st _).symm)
      have hdr : O.drop (i + 1 - a) = O.drop (i - a + 1) := by rw [show i + 1 - a = i - a + 1 by omega]
      have HS := Lib.hid (And.intro hS (And.intro hSs (And.intro hSl (And.intro hSm (And.intro hfin (And.intro hdr (And.intro hgk (And.intro hai (And.intro hlt (And.intro ha (And.intro hb hlen)))))))))))
      clear hx e0 e1 hup hS hSs hSl hSm hfin hdr hgk ha hb hlen hl ho hiO hib hv hai
      have q1 : (a : Int) < i := by have := HS.out.2.2.2.2.2.2.2.1; omega
      have q2 : (i : Int) < n := by have := HS.out.2.2.2.2.2.2.2.2.1; omega
      clear hlt
      go_wp2_with fail
      obtain ⟨G, rfl⟩ : ∃ G, G = gk := ⟨_, rfl⟩
      obtain ⟨W1, rfl⟩ : ∃ W, W = wr := ⟨_, rfl⟩
      go_loopg [9] (i - a) (fun gk (v9 : Value) wr => ∃ (j : Nat) (S1 S2 : List (List UInt8)), v9 = .int .i64 (j : Int) ∧ gk = j - a ∧ S = S1 ++ S2 ∧ S1.length + a = j ∧ RowK wr K n cap (P ++ (S1 ++ (x :: (S2 ++ (O.drop (i - a + 1) ++ Z))))) ∧ (∀ y ∈ S2, le st x y = true) ∧ Chg [K] w wr)
      case atStart => exact ⟨i, S, [], rfl, rfl, by simp, HS.out.2.2.1, by simpa using hr, by simp, hc⟩
      case round =>
        clear hr hc
        obtain ⟨j, S1, S2, rfl, hgk, hSS, hj, hr, hx2, hc⟩ := hrel
        rcases List.eq_nil_or_concat S1 with rfl | ⟨S1', y, rfl⟩
        · obtain rfl : S = S2 := by simpa using hSS
          have hja : j = a := by simpa using hj.symm
          have r1 : decide ((a : Int) < (j : Int)) = false := decide_eq_false (by omega)
          have r1' : decide (a < j) = false := decide_eq_false (by omega)
          have HJ := Lib.hid (And.intro hx2 (And.intro hr hc))
          clear hgk hSS hj hja hx2 hr hc
          go_wp2_with fail
          obtain ⟨X, hne, F, x0, hF0, hF, hX⟩ := fam0 wr
          refine wp_fam F (by kernel_rfl) (by kernel_rfl) x0 hF0 ?_
          repeat (go_big_quiet_step (fail))
          refine wpQuiet_nil ?_
          rintro w' ⟨x1, rfl⟩
          have cF := hF x1
          clear hF hX hF0
          generalize F x1 = w2 at *
          go_wp2_with fail
          obtain ⟨hx2, hr, hc⟩ := HJ.out
          obtain ⟨hS, hSs, hSl, hSm, hfin, hdr, hgk, hai, hlt, ha, hb, hlen⟩ := HS.out
          go_roundg (b - (i + 1))
          case measure => omega
          case rel =>
            refine ⟨i + 1, by go_num, by omega, .inl (by omega), rfl, ?_, hc.nil cF⟩
            rw [hfin 0 (by omega) (by simp) (by simpa using hx2), hdr]
            have := hr.chg cF
            simpa using this
        · rw [List.concat_eq_append] at hSS hj hr
          obtain ⟨m, hm⟩ : ∃ m, j = m + 1 := ⟨j - 1, by rw [List.length_append, List.length_singleton] at hj; omega⟩
          have hjS : S1'.length + a = m := by rw [List.length_append, List.length_singleton] at hj; omega
          have hyS : y ∈ S := by rw [hSS]; simp
          obtain ⟨hyx, hyl⟩ := HS.out.2.2.2.1 y hyS
          have ePA : (P ++ S1').length = m := by rw [List.length_append]; have := HS.out.2.2.2.2.2.2.2.2.2.1; omega
          have eD : P ++ ((S1' ++ [y]) ++ (x :: (S2 ++ (O.drop (i - a + 1) ++ Z)))) = (P ++ S1') ++ y :: ([] ++ x :: (S2 ++ (O.drop (i - a + 1) ++ Z))) := by simp
          rw [eD] at hr
          have hlr := hr.length
          simp only [List.length_append, List.length_cons, List.length_nil] at hlr
          rw [List.length_append] at ePA
          have xm := hr.cell (get_mid (P ++ S1') _ y (i := m) (by rw [List.length_append]; omega))
          have xj := hr.cell (get_mid2 (P ++ S1') [] _ y x (j := j) (by rw [List.length_append, List.length_nil]; omega))
          obtain ⟨c, hcv⟩ : ∃ c, c = cmpV st x y := ⟨_, rfl⟩
          have hle := cmpV_le st hyx
          rw [← hcv] at hle
          have kc := fun W (h : Chg [] wr W) => HC.out W ((hw.tr hc).nil h) x y hxl hyl
          rw [← hcv] at kc
          have r1 : decide ((a : Int) < (j : Int)) = true := decide_eq_true (by omega)
          have r1' : decide (a < j) = true := decide_eq_true (by omega)
          have r2 : wrap64 ((j : Int) - 1) = (m : Int) := by unfold wrap64; omega
          have r3 : IntKind.i64.wrap ((j : Int) - 1) = (m : Int) := by rw [show (j : Int) - 1 = (m : Int) by omega]; exact wrap_i64_nat m (by omega)
          have i1 : (j : Int) < n := by omega
          have i2 : (m : Int) < n := by omega
          have HJ := Lib.hid (And.intro hx2 (And.intro hr (And.intro hc (And.intro hSS (And.intro hj (And.intro hm (And.intro hjS (And.intro hgk hle))))))))
          have hne : (m = j) = False := by simp; omega
          have hne' : (j = m) = False := by simp; omega
          clear hx2 hr hc hSS hj hm hjS hgk hle hcv hyS hyx hyl ePA eD hlr
          go_wp2_with fail
          obtain ⟨X, hnX, F, x0, hF0, hF, hX⟩ := fam0 wr
          have ym := fun q => (hF q).cell_some xm (by simp)
          have yj := fun q => (hF q).cell_some xj (by simp)
          refine wp_fam F (by kernel_rfl) (by kernel_rfl) x0 hF0 ?_
          repeat (go_big_quiet_step (exact fam_call hF hX (kc _ (hF _))))
          refine wpQuiet_nil ?_
          rintro w' ⟨x1, rfl⟩
          have cF := hF x1
          have zm := ym x1
          have zj := yj x1
          have hr2 := HJ.out.2.1.chg cF
          have f0 := Own.frozenAt hr2 j
          have f1 := Own.frozenAt hr2 m
          clear hF hX hF0 ym yj xm xj kc
          generalize F x1 = w2 at *
          by_cases h0 : c < 0
          · have r4 : decide (c < 0) = true := decide_eq_true h0
            rw [r4]
            have ho2 := (hr2.set j y).set m x
            rw [swap_mid' (P ++ S1') [] _ y x (i := m) (j := j) (by rw [List.length_append]; have := HS.out.2.2.2.2.2.2.2.2.2.1; have := HJ.out.2.2.2.2.2.2.1; omega) (by rw [List.length_append, List.length_nil]; have := HS.out.2.2.2.2.2.2.2.2.2.1; have := HJ.out.2.2.2.2.2.2.1; have := HJ.out.2.2.2.2.2.1; omega)] at ho2
            have hc2 := ((HJ.out.2.2.1.nil cF).setCell (p := ⟨K, j, none⟩) (by simp) (.string (str y))).setCell (p := ⟨K, m, none⟩) (by simp) (.string (str x))
            have ho3 : RowK ((w2.setCell ⟨K, j, none⟩ (.string (str y))).setCell ⟨K, m, none⟩ (.string (str x))).drew K n cap ((P ++ S1') ++ x :: ([] ++ y :: (S2 ++ (O.drop (i - a + 1) ++ Z)))) := ho2
            have hc3 := hc2.drew
            clear ho2 hc2 h0 hr2 cF
            go_wp2
            go_region
            generalize ((w2.setCell ⟨K, j, none⟩ (.string (str y))).setCell ⟨K, m, none⟩ (.string (str x))).drew = w3 at *
            go_wp2
            obtain ⟨hx2, hr, hc, hSS, hj, hm, hjS, hgk, hle⟩ := HJ.out
            go_roundg (m - a)
            case measure => omega
            case rel =>
              refine ⟨m, S1', y :: S2, rfl, rfl, by rw [hSS]; simp, hjS, ?_, ?_, hc3⟩
              · simpa using ho3
              · intro z hz
                rcases List.mem_cons.1 hz with rfl | hz
                · exact not_le st (hle.1 (of_decide_eq_true r4))
                · exact hx2 z hz
          · have r4 : decide (c < 0) = false := decide_eq_false h0
            rw [r4]
            go_wp2_with fail
            obtain ⟨hx2, hr, hc, hSS, hj, hm, hjS, hgk, hle⟩ := HJ.out
            obtain ⟨hS, hSs, hSl, hSm, hfin, hdr, hgk, hai, hlt, ha, hb, hlen⟩ := HS.out
            have hyx : le st y x = true := Classical.byContradiction fun h => absurd (hle.2 h) (of_decide_eq_false r4)
            go_roundg (b - (i + 1))
            case measure => omega
            case rel =>
              refine ⟨i + 1, by go_num, by omega, .inl (by omega), rfl, ?_, hc.nil cF⟩
              have hsl : (S1' ++ [y]).length ≤ S.length := by rw [hSS]; simp
              have et : S.take (S1' ++ [y]).length = S1' ++ [y] := by rw [hSS]; exact List.take_left' rfl
              have ed : S.drop (S1' ++ [y]).length = S2 := by rw [hSS]; exact List.drop_left' rfl
              rw [hfin _ hsl (by
                rw [et]
                intro z hz
                have hp : Srt st (S1' ++ [y]) := by rw [hSS] at hSs; exact (List.pairwise_append.1 hSs).1
                rcases List.mem_append.1 hz with h1 | h1
                · exact le_trans st ((List.pairwise_append.1 hp).2.2 z h1 y (by simp)) hyx
                · rw [List.mem_singleton.1 h1]; exact hyx) (by rw [ed]; exact hx2), hdr, et, ed]
              simpa using hr2
    · have t1 : decide ((i : Int) < (b : Int)) = false := decide_eq_false (by omega)
      have t1' : decide (i < b) = false := decide_eq_false hlt
      obtain ⟨ha, hb, hlen, hl, ho⟩ := HL.out
      have e1 : O.take (i - a) = O := List.take_of_length_le (by omega)
      have e2 : O.drop (i - a) = [] := List.drop_of_length_le (by omega)
      rw [e1, e2, List.nil_append] at hr
      clear ha hb hlen hl ho e1 e2 hib hlt hgk hai hv
      go_wp2_with fail
      go_end0
      exact ⟨rfl, hr, hc⟩
end Go.Proofs.Ytphmplbcegibjaa
