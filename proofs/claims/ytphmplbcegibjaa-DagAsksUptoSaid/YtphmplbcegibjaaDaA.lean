/- The law DagAsks walked. No statement of the seat is proved here. -/
import Derived.Test.YtphmplbcegibjaaRgG
import Derived.Test.YtphmplbcegibjaaDmA
set_option linter.unusedVariables false
set_option linter.unusedSimpArgs false
namespace Go.Aq.Dg
open Go.Aq.So
open Classical in
/-- What is reached, as a list. -/
theorem anc_ex {g : List NodeD} (nd : (g.map (·.key)).Nodup) (a : List UInt8) : ∃ ss, Anc g a ss ∧ ss.length ≤ g.length := by
  have hp := List.mergeSort_perm ((g.map (·.key)).filter fun k => decide (Rch g a k)) (fun x y : List UInt8 => decide (x ≤ y))
  refine ⟨((g.map (·.key)).filter fun k => decide (Rch g a k)).mergeSort fun x y => decide (x ≤ y), ⟨?_, ?_, fun k => ?_⟩, ?_⟩
  · have := List.pairwise_mergeSort (le := fun x y : List UInt8 => decide (x ≤ y)) (fun _ _ _ h k => by rw [decide_eq_true_eq] at h k ⊢; exact List.le_trans h k) (fun x y => by rw [Bool.or_eq_true, decide_eq_true_eq, decide_eq_true_eq]; exact List.le_total x y) ((g.map (·.key)).filter fun k => decide (Rch g a k))
    exact this.imp fun h => by simpa using h
  · exact hp.symm.nodup (nd.filter _)
  · rw [hp.mem_iff, List.mem_filter, decide_eq_true_iff]
    refine ⟨fun h => h.2, fun h => ⟨?_, h⟩⟩
    obtain ⟨y, hy, e⟩ := hasK_iff.1 h.has
    exact List.mem_map.2 ⟨y, hy, e⟩
  · rw [hp.length_eq]
    have := List.length_filter_le (fun k => decide (Rch g a k)) (g.map (·.key))
    rw [List.length_map] at this
    exact this
theorem base_two {g : List NodeD} {a b x y : List UInt8} {e f : Int} (h : BaseR g a b x e) (k : BaseR g a b y f) : x = y ∧ e = f := base_one h (base_swap k)
theorem rch_bool (g : List NodeD) (a b : List UInt8) : ∃ r : Bool, r = true ↔ Rch g b a := by
  by_cases h : Rch g b a
  · exact ⟨true, fun _ => h, fun _ => rfl⟩
  · exact ⟨false, fun e => (by cases e), fun h' => absurd h' h⟩
end Go.Aq.Dg
namespace Go.Proofs.Ytphmplbcegibjaa
open Go.RowKit Go.Aq Go.Aq.Dg Go.Maps Go.Aq.So

theorem ranc_at {w : World} {p : Nat} {L : List (NodeD × Value)} (hR : RefG w p L) (G : Dg.Good (L.map (·.1))) (S : SmallG (L.map (·.1))) (hl : L.length ≤ 2097152) (a : List UInt8) {ss : List (List UInt8)} (hA : Anc (L.map (·.1)) a ss) :
    Calls Try.prog 21 #[.pointer (some ⟨p, 0, none⟩), .string (str a)] w fun e w' => ∃ v, e = .returned v ∧ Sees w' 1 v ss.length (Sk ss) ∧ Chg [] w w' := by
  refine (ranc_any hR G S hl a).mono ?_
  rintro e w' ⟨v, s2, rfl, h1, h2, h3⟩
  have := hA.one h1
  subst this
  exact ⟨_, rfl, h3.own.sees, h3.chg⟩
theorem rlog_at {w : World} {p : Nat} {L : List (NodeD × Value)} (hR : RefG w p L) (G : Dg.Good (L.map (·.1))) (S : SmallG (L.map (·.1))) (hl : L.length ≤ 2097152) (a : List UInt8) {ss lg : List (List UInt8)} (hA : Anc (L.map (·.1)) a ss) (hlg : lg = sortT (stampK (L.map (·.1))) ss) :
    Calls Try.prog 23 #[.pointer (some ⟨p, 0, none⟩), .string (str a)] w fun e w' => ∃ v, e = .returned v ∧ Sees w' 1 v lg.length (Sk lg) ∧ Chg [] w w' := by
  refine (rlog_any hR G S hl a).mono ?_
  rintro e w' ⟨v, s2, rfl, h1, h2, h3, h4⟩
  have := hA.one h1
  subst this
  subst hlg
  exact ⟨_, rfl, by rw [sortT_len]; exact h3, h4⟩
theorem log_at2 {w : World} {p : Nat} {g : List NodeD} (nd : (g.map (·.key)).Nodup) (S : SmallG g) (h : GraphR w p g) (a : List UInt8) (ha : a.length ≤ 1048576) {ss lg : List (List UInt8)} (hA : Anc g a ss) (hlg : lg = sortT (stampK g) ss) :
    Calls Try.prog 10 #[.pointer (some ⟨p, 0, none⟩), .string (str a)] w fun e w' => ∃ v, e = .returned v ∧ Sees w' 1 v lg.length (Sk lg) ∧ Chg [] w w' := by
  refine (log_any nd S h a ha).mono ?_
  rintro e w' ⟨v, s2, rfl, h1, h2, h3, h4⟩
  have := hA.one h1
  subst this
  subst hlg
  exact ⟨_, rfl, by rw [sortT_len]; exact h3, h4⟩

set_option maxHeartbeats 2000000 in
set_option maxRecDepth 100000 in
theorem asks_any (w : World) (v : Value) (L : List (NodeD × Value)) (h : NodesR w v L) (hl : L.length ≤ 2097152) (hk : ∀ q ∈ L, q.1.key.length ≤ 1048576 ∧ q.1.parents.length ≤ 2097152 ∧ ∀ p ∈ q.1.parents, p.length ≤ 1048576)
    (S : SmallG (L.map (·.1))) (a b : List UInt8) (ha : a.length ≤ 1048576) (hb : b.length ≤ 1048576) :
    Calls Try.prog 5 #[v, .string (str a), .string (str b)] w fun e w' => e = .returned (.bool true) ∧ Chg [] w w' := by
  obtain ⟨A, HA⟩ : ∃ A, Hid (a.length = A) := ⟨_, rfl⟩
  obtain ⟨B, HB⟩ : ∃ B, Hid (b.length = B) := ⟨_, rfl⟩
  have sa : (str a).size = A := by rw [str_size]; exact HA.out
  have sb : (str b).size = B := by rw [str_size]; exact HB.out
  have kf := fun w1 (c : Chg [] w w1) => few_any w1 v L (h.chg c) hl hk
  have kn := fun w1 (c : Chg [] w w1) => graph_any w1 v L (h.chg c) hl hk
  have HH := Lib.hid (And.intro hl (And.intro S (And.intro ha hb)))
  obtain ⟨g, hg⟩ : ∃ g, g = L.map (·.1) := ⟨_, rfl⟩
  have hgl : g.length = L.length := by rw [hg, List.length_map]
  rw [← hg] at kn HH
  obtain ⟨ao, cap, rfl, hcap, hno⟩ := h.sees.shape
  obtain ⟨n, HN⟩ : ∃ n, Hid (L.length = n) := ⟨_, rfl⟩
  clear h hl hk S ha hb
  have k1 := first_any
  rw [show L.length = n from HN.out] at hcap hno kf kn ⊢
  have HGL := Lib.hid (And.intro hgl hg)
  clear hgl hg hno hcap
  go_enter Try.func5, Try.ntmps5
  go_wp2_with (go_at_call 6; refine (k1 _).mono ?_; rintro e w1 ⟨rfl, c1⟩)
  refine (kf w1 c1).mono ?_
  rintro e w2 ⟨r, rfl, c2⟩
  have c2 := c1.nil c2
  clear kf
  cases r with
  | false =>
    clear kn
    go_wp2_with (go_at_call 6; refine (k1 _).mono ?_; rintro e w3 ⟨rfl, c3⟩)
    go_ret
    exact ⟨rfl, c2.nil c3⟩
  | true =>
  by_cases h1 : 1000 < A
  · have t1 : decide ((1000 : Int) < (A : Int)) = true := decide_eq_true (by omega)
    have t1' : decide (1000 < A) = true := decide_eq_true h1
    clear h1 kn
    go_wp2_with (go_at_call 6; refine (k1 _).mono ?_; rintro e w3 ⟨rfl, c3⟩)
    go_ret
    exact ⟨rfl, c2.nil c3⟩
  have t1 : decide ((1000 : Int) < (A : Int)) = false := decide_eq_false (by omega)
  have t1' : decide (1000 < A) = false := decide_eq_false h1
  by_cases h2 : 1000 < B
  · have t2 : decide ((1000 : Int) < (B : Int)) = true := decide_eq_true (by omega)
    have t2' : decide (1000 < B) = true := decide_eq_true h2
    clear h1 h2 kn
    go_wp2_with (go_at_call 6; refine (k1 _).mono ?_; rintro e w3 ⟨rfl, c3⟩)
    go_ret
    exact ⟨rfl, c2.nil c3⟩
  have t2 : decide ((1000 : Int) < (B : Int)) = false := decide_eq_false (by omega)
  have t2' : decide (1000 < B) = false := decide_eq_false h2
  clear h1 h2
  go_wp2_with fail
  refine (kn w2 c2).mono ?_
  clear kn t1 t1' t2 t2'
  rintro e w3 ⟨L2, hL2, c3, ⟨hE, p, p2, rfl, hG, hR⟩ | ⟨hE, rfl⟩⟩
  case inr =>
    have c3 := c2.nil c3
    generalize newE g = E at *
    have z1 : (E != 0) = true := by simpa using hE
    have z2 : (E == 0) = false := by simpa using hE
    clear hE
    go_wp2_with (go_at_call 6; refine (k1 _).mono ?_; rintro e w4 ⟨rfl, c4⟩)
    go_ret
    exact ⟨rfl, c3.nil c4⟩
  have c3 := c2.nil c3
  have hgood := newE_good hE
  obtain ⟨hl, S, ha, hb⟩ := HH.out
  have hl2 : L2.length = g.length := by rw [← hL2, List.length_map]
  have hl2b : L2.length ≤ 2097152 := by rw [hl2, HGL.out.1]; exact hl
  obtain ⟨ss, hA, hsl⟩ := anc_ex hgood.1 a
  obtain ⟨lg, hlg⟩ : ∃ lg, lg = sortT (stampK g) ss := ⟨_, rfl⟩
  obtain ⟨r, hr⟩ := rch_bool g a b
  obtain ⟨H, hH⟩ : ∃ H, H = hasK g a := ⟨_, rfl⟩
  obtain ⟨N, hN⟩ : ∃ N, N = g.length := ⟨_, rfl⟩
  have hllg : lg.length ≤ 1000000000 := by rw [hlg, sortT_len]; have := HGL.out.1; omega
  have hlss : ss.length ≤ 1000000000 := by have := HGL.out.1; omega
  have kB := fun w1 (c : Chg [] w3 w1) => base_any hgood.1 S (hG.chg c) a b ha hb
  have kBr := fun w1 (c : Chg [] w3 w1) => rbase_any (hR.chg c) (by rw [hL2]; exact hgood) (by rw [hL2]; exact S) hl2b a b
  have kL := fun w1 (c : Chg [] w3 w1) => len_any hgood.1 (hG.chg c)
  have kLr : ∀ w1, Chg [] w3 w1 → Calls Try.prog 19 #[.pointer (some ⟨p2, 0, none⟩)] w1 fun e w' => e = .returned (.int .i64 (N : Int)) ∧ Chg [] w1 w' := fun w1 c => (rlen_any (hR.chg c)).mono fun e w' ⟨h1, h2⟩ => ⟨by rw [h1, hN, hl2], by rw [h2]; exact Chg.refl _ _⟩
  have kH := fun w1 (c : Chg [] w3 w1) => has_any (hG.chg c) a ha
  have kHr : ∀ w1, Chg [] w3 w1 → Calls Try.prog 20 #[.pointer (some ⟨p2, 0, none⟩), .string (str a)] w1 fun e w' => e = .returned (.bool H) ∧ Chg [] w1 w' := fun w1 c => (rhas_any (hR.chg c) hl2b a).mono fun e w' ⟨h1, h2⟩ => ⟨by rw [h1, hH, hL2], by rw [h2]; exact Chg.refl _ _⟩
  have kA := fun w1 (c : Chg [] w3 w1) => anc_at hgood.1 S (hG.chg c) a ha hA
  have kAr := fun w1 (c : Chg [] w3 w1) => ranc_at (hR.chg c) (by rw [hL2]; exact hgood) (by rw [hL2]; exact S) hl2b a (ss := ss) (by rw [hL2]; exact hA)
  have kI := fun w1 (c : Chg [] w3 w1) => is_at hgood.1 S (hG.chg c) a b r ⟨hr, ha, hb⟩
  have kIr := fun w1 (c : Chg [] w3 w1) => ris_at (hR.chg c) (by rw [hL2]; exact hgood) (by rw [hL2]; exact S) hl2b a b r (by rw [hL2]; exact hr)
  have kG := fun w1 (c : Chg [] w3 w1) => log_at2 hgood.1 S (hG.chg c) a ha hA hlg
  have kGr := fun w1 (c : Chg [] w3 w1) => rlog_at (hR.chg c) (by rw [hL2]; exact hgood) (by rw [hL2]; exact S) hl2b a (ss := ss) (lg := lg) (by rw [hL2]; exact hA) (by rw [hL2]; exact hlg)
  rw [hL2] at kBr
  rw [← hH] at kH
  rw [← hN] at kL
  have HLL := Lib.hid (And.intro hllg hlss)
  have kT : ∀ (w1 : World) (va vb : Value) (l : List (List UInt8)), Sees w1 1 va l.length (Sk l) → Sees w1 1 vb l.length (Sk l) → l.length ≤ 1000000000 → Calls Try.prog 9 #[va, vb] w1 fun e w' => e = .returned (.bool true) ∧ Chg [] w1 w' := fun w1 va vb l h1 h2 h3 => (texts_same w1 va vb l h1 h2 h3).mono fun e w' ⟨h1, q, h2⟩ => ⟨h1, by rw [h2]; exact (Chg.refl _ _).drewN q⟩
  clear hE hG hR hgood hl S ha hb hl2 hl2b hA hsl hlg hr hH hN hllg hlss hL2
  go_upto_region 12 with (first
    | (go_at_call 18; refine (kBr w4 c4).mono ?_; rintro e w5 ⟨x', f', rfl, hb2, c5⟩; have d5 := c4.nil c5)
    | (go_at_call 15; refine (kB w3 (Chg.refl _ _)).mono ?_; rintro e w4 ⟨x, f, rfl, hb1, hxl, c4⟩))
  obtain ⟨rfl, rfl⟩ := base_two hb1 hb2
  clear hb1 hb2 kB kBr c4 c5 hxl
  go_wp2_with (first
    | (go_at_call 9; refine (kT w16 v14 v16 lg (by exact hs14.chg0 c16) (by exact hs16) HLL.out.1).mono ?_; rintro e w17 ⟨rfl, c17⟩; have d17 := d16.nil c17)
    | (go_at_call 23; refine (kGr w15 d15).mono ?_; rintro e w16 ⟨v16, rfl, hs16, c16⟩; have d16 := d15.nil c16)
    | (go_at_call 10; refine (kG w14 d14).mono ?_; rintro e w15 ⟨v14, rfl, hs14, c15⟩; have d15 := d14.nil c15)
    | (go_at_call 22; refine (kIr w13 d13).mono ?_; rintro e w14 ⟨rfl, c14⟩; have d14 := d13.nil c14)
    | (go_at_call 14; refine (kI w12 d12).mono ?_; rintro e w13 ⟨rfl, c13⟩; have d13 := d12.nil c13)
    | (go_at_call 9; refine (kT w11 v10 v11 ss (by exact hs10.chg0 c11) (by exact hs11) HLL.out.2).mono ?_; rintro e w12 ⟨rfl, c12⟩; have d12 := d11.nil c12)
    | (go_at_call 21; refine (kAr w10 d10).mono ?_; rintro e w11 ⟨v11, rfl, hs11, c11⟩; have d11 := d10.nil c11)
    | (go_at_call 12; refine (kA w9 d9).mono ?_; rintro e w10 ⟨v10, rfl, hs10, c10⟩; have d10 := d9.nil c10)
    | (go_at_call 20; refine (kHr w8 d8).mono ?_; rintro e w9 ⟨rfl, c9⟩; have d9 := d8.nil c9)
    | (go_at_call 13; refine (kH w7' d7').mono ?_; rintro e w8 ⟨rfl, c8⟩; have d8 := d7'.nil c8)
    | (go_at_call 19; refine (kLr w7 d7).mono ?_; rintro e w7' ⟨rfl, c7'⟩; have d7' := d7.nil c7')
    | (go_at_call 16; refine (kL w6 d6).mono ?_; rintro e w7 ⟨rfl, c7⟩; have d7 := d6.nil c7)
    | (go_at_call 6; refine (k1 _).mono ?_; rintro e w6 ⟨rfl, c6⟩; have d6 := d5.nil c6))
  go_ret
  exact ⟨rfl, c3.nil d17⟩
end Go.Proofs.Ytphmplbcegibjaa
