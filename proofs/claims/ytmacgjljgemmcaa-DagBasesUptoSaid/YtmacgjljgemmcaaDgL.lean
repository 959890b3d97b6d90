/- The law DagBases walked. No statement of the seat is proved here. -/
import Derived.Test.YtmacgjljgemmcaaDgQ
set_option linter.unusedVariables false
set_option linter.unusedSimpArgs false
namespace Go.Proofs.Ytmacgjljgemmcaa
open Go.RowKit Go.Aq Go.Aq.Dg Go.Maps

set_option maxHeartbeats 2000000 in
set_option maxRecDepth 100000 in
theorem bases_any (w : World) (v : Value) (L : List (NodeD × Value)) (h : NodesR w v L) (hl : L.length ≤ 2097152) (hk : ∀ q ∈ L, q.1.key.length ≤ 1048576 ∧ q.1.parents.length ≤ 2097152 ∧ ∀ p ∈ q.1.parents, p.length ≤ 1048576)
    (S : SmallG (L.map (·.1))) (a b : List UInt8) (ha : a.length ≤ 1048576) (hb : b.length ≤ 1048576) :
    Calls Try.prog 3 #[v, .string (str a), .string (str b)] w fun e w' => e = .returned (.bool true) ∧ Chg [] w w' := by
  obtain ⟨A, HA⟩ : ∃ A, Hid (a.length = A) := ⟨_, rfl⟩
  obtain ⟨B, HB⟩ : ∃ B, Hid (b.length = B) := ⟨_, rfl⟩
  have sa : (str a).size = A := by rw [str_size]; exact HA.out
  have sb : (str b).size = B := by rw [str_size]; exact HB.out
  have kf := fun w1 (c : Chg [] w w1) => few_any w1 v L (h.chg c) hl hk
  have kn := fun w1 (c : Chg [] w w1) => new_any w1 v L (h.chg c) hl hk
  have HS := Lib.hid S
  clear h hl hk S
  generalize L.map (·.1) = g at *
  have k1 := first_any
  go_enter Try.func3, Try.ntmps3
  go_wp2_with (go_at_call 4; refine (k1 _).mono ?_; rintro e w1 ⟨rfl, c1⟩)
  refine (kf w1 c1).mono ?_
  rintro e w2 ⟨r, rfl, c2⟩
  have c2 := c1.nil c2
  clear kf
  cases r with
  | false =>
    clear kn
    go_wp2_with (go_at_call 4; refine (k1 _).mono ?_; rintro e w3 ⟨rfl, c3⟩)
    go_ret
    exact ⟨rfl, c2.nil c3⟩
  | true =>
    by_cases h1 : 1000 < A
    · have t1 : decide ((1000 : Int) < (A : Int)) = true := decide_eq_true (by omega)
      have t1' : decide (1000 < A) = true := decide_eq_true h1
      clear kn h1
      go_wp2_with (go_at_call 4; refine (k1 _).mono ?_; rintro e w3 ⟨rfl, c3⟩)
      go_ret
      exact ⟨rfl, c2.nil c3⟩
    · have t1 : decide ((1000 : Int) < (A : Int)) = false := decide_eq_false (by omega)
      have t1' : decide (1000 < A) = false := decide_eq_false h1
      by_cases h2 : 1000 < B
      · have t2 : decide ((1000 : Int) < (B : Int)) = true := decide_eq_true (by omega)
        have t2' : decide (1000 < B) = true := decide_eq_true h2
        clear kn h1 h2
        go_wp2_with (go_at_call 4; refine (k1 _).mono ?_; rintro e w3 ⟨rfl, c3⟩)
        go_ret
        exact ⟨rfl, c2.nil c3⟩
      · have t2 : decide ((1000 : Int) < (B : Int)) = false := decide_eq_false (by omega)
        have t2' : decide (1000 < B) = false := decide_eq_false h2
        clear h1 h2
        go_wp2_with fail
        refine (kn w2 c2).mono ?_
        clear kn t1 t1' t2 t2'
        rintro e w3 ⟨c3, ⟨hE, p, rfl, hG⟩ | ⟨hE, rfl⟩⟩
        case inr =>
          have c3 := c2.nil c3
          go_wp2_with (go_at_call 4; refine (k1 _).mono ?_; rintro e w4 ⟨rfl, c4⟩)
          go_ret
          exact ⟨rfl, c3.nil c4⟩
        have c3 := c2.nil c3
        have hgood := Lib.hid (newE_good hE)
        have kb := fun w1 (c : Chg [] w3 w1) => base_any hgood.out.1 HS.out (hG.chg c) a b ha hb
        have kb' := fun w1 (c : Chg [] w3 w1) => base_any hgood.out.1 HS.out (hG.chg c) b a hb ha
        clear hE
        go_wp2_with fail
        refine (kb w3 (Chg.refl _ _)).mono ?_
        rintro e w4 ⟨x, f, rfl, hb1, hxl, c4⟩
        go_wp2_with fail
        refine (kb' w4 c4).mono ?_
        rintro e w5 ⟨y, f', rfl, hb2, -, c5⟩
        obtain ⟨rfl, rfl⟩ := base_one hb1 hb2
        have c5 := c4.nil c5
        clear kb kb' c4
        go_upto_region 10 with (fail)
        go_cut [85] from 64 to 85 (fun s wx => s = .bool false ∧ Chg [] w3 wx)
        case first =>
          have kA := fun w1 (c : Chg [] w3 w1) => has_any (hG.chg c) a ha
          have kB := fun w1 (c : Chg [] w3 w1) => has_any (hG.chg c) b hb
          rcases hb1 with ⟨rfl, rfl, h1⟩ | ⟨rfl, rfl, h1, h2⟩ | ⟨rfl, h1⟩
          · cases hA : hasK g a
            · rw [hA] at kA
              clear kB h1 hb2
              go_wp2_with (go_at_call 8; refine (kA _ c5).mono ?_; rintro e w6 ⟨rfl, c6⟩)
              go_meet
              exact ⟨rfl, c5.nil c6⟩
            · have hB : hasK g b = false := by
                cases hB : hasK g b
                · rfl
                · exact absurd ⟨hA, hB⟩ h1
              rw [hA] at kA
              rw [hB] at kB
              clear h1 hb2
              go_wp2_with (first
                | (go_at_call 8; refine (kB _ (c5.nil c6)).mono ?_; rintro e w7 ⟨rfl, c7⟩)
                | (go_at_call 8; refine (kA _ c5).mono ?_; rintro e w6 ⟨rfl, c6⟩))
              go_meet
              exact ⟨rfl, (c5.nil c6).nil c7⟩
          · clear kA kB h1 h2 hb2
            go_wp2_with fail
            go_meet
            exact ⟨rfl, c5⟩
          · clear kA kB h1 hb2
            go_wp2_with fail
            go_meet
            exact ⟨rfl, c5⟩
        case rest =>
        obtain ⟨rfl, c6⟩ := hcut
        have kA := fun w1 (c : Chg [] w3 w1) => ancestors_any hgood.out.1 HS.out (hG.chg c) a ha
        have kB := fun w1 (c : Chg [] w3 w1) => ancestors_any hgood.out.1 HS.out (hG.chg c) b hb
        have HB := Lib.hid (And.intro hb1 hb2)
        clear hb1 hb2
        go_upto_region 13 with (first
          | (go_at_call 9; refine (kB _ (c6.nil c7)).mono ?_; rintro e w8 ⟨v2, s2, rfl, hv2, hm2, hl2, c8⟩)
          | (go_at_call 9; refine (kA _ c6).mono ?_; rintro e w7 ⟨v1, s1, rfl, hv1, hm1, hl1, c7⟩))
        obtain ⟨ao, cap, rfl, hcap, -⟩ := hv1.shape
        obtain ⟨n1, hn1⟩ : ∃ n1, n1 = s1.length := ⟨_, rfl⟩
        rw [← hn1] at hv1 hcap hl1 ⊢
        have HN := Lib.hid hn1
        clear hn1
        have cw := (c6.nil c7).nil c8
        have cv := c3.nil cw
        have hv1 := hv1.chg0 c8
        clear kA kB c6 c7 c8

        have hG8 := hG.chg cw
        clear hG cw

        go_upto_region 15 with (fail)
        go_loopg [15, 16, 17] n1 (fun k (v15 v16 v17 : Value) wr => ∃ j : Nat, v15 = .bool ((s1.take j).any fun k => decide (k ∈ s2)) ∧ v16 = .int .i64 (j : Int) ∧ j ≤ n1 ∧ k = n1 - j ∧ Chg [] w8 wr)
        case atStart => exact ⟨0, rfl, rfl, by omega, by omega, Chg.refl _ _⟩
        case round =>
          obtain ⟨j, rfl, rfl, hj, hk, cr⟩ := hrel
          obtain ⟨A0, hA0⟩ : ∃ A0, A0 = (s1.take j).any fun k => decide (k ∈ s2) := ⟨_, rfl⟩
          rw [← hA0]
          by_cases hjl : j < n1
          · have t1 : decide ((j : Int) < (n1 : Int)) = true := decide_eq_true (by omega)
            have t1' : decide (j < n1) = true := decide_eq_true hjl
            have hjs : j < s1.length := by rw [← HN.out]; exact hjl
            obtain ⟨gb, off, cp, e, -, hc⟩ := (hv1.chg0 cr).at1 (by omega)
            injection e with e1 _ e2
            subst e1 e2
            have hcell := hc j hjl
            have hg : (Sk s1)[j]? = some (.string (str s1[j])) := by simp [Sk, hjs]
            rw [hg] at hcell
            have hh := hasL_any v2 s2 s1[j] wr (hv2.chg0 cr) (by omega)
            have hr : ((s1.take (j + 1)).any fun k => decide (k ∈ s2)) = (A0 || decide (s1[j] ∈ s2)) := by rw [List.take_succ_eq_append_getElem hjs, List.any_append, hA0]; simp
            have hqa : Rch g a s1[j] := (hm1 _).1 (List.getElem_mem _)
            clear hc hg hA0
            generalize s1[j] = q at *
            have hql : q.length ≤ 1048576 := by
              obtain ⟨y, hy, rfl⟩ := hasK_iff.1 hqa.has
              exact HS.out.keys y hy
            have hse := str_eq q x
            have hwr : wrap64 ((j : Int) + 1) = (j : Int) + 1 := by unfold wrap64; omega
            have HR := Lib.hid (And.intro hj (And.intro hk (And.intro hr (And.intro hjl (And.intro cr cv)))))
            by_cases hq : q ∈ s2
            · rw [decide_eq_true hq] at hh
              have hqb : Rch g b q := (hm2 q).1 hq
              obtain rfl : f = 0 := Classical.byContradiction fun h => (base_not HB.out.1 h).2 q hqa hqb
              have ki := is_any hgood.out.1 HS.out (hG8.chg cr) x q hxl hql
              have kr : ∀ r : Bool, (r = true ↔ Rch g q x) → q ≠ x → r = false := fun r h1 h2 => by
                cases r
                · rfl
                · exact absurd (base_near hgood.out HB.out.1 hqa hqb (h1.1 rfl)) h2
              by_cases hqx : q = x
              · rw [decide_eq_true hqx] at hse
                have HQ := Lib.hid (And.intro hq hqx)
                clear ki kr hqa hqb hj hk hr cr cv hq hqx hl1 hl2 hm1 hm2 hv1 hv2 hG8 hql hxl hjs
                cases A0
                · go_wp2_with (go_at_call 10; refine hh.mono ?_; rintro e w9 ⟨rfl, rfl⟩)
                  obtain ⟨hj, hk, hr, hjl, cr, cv⟩ := HR.out
                  go_roundg (n1 - (j + 1))
                  case measure => omega
                  case rel => exact ⟨j + 1, by rw [hr, decide_eq_true HQ.out.1]; rfl, by rw [hwr]; push_cast; rfl, by omega, rfl, cr⟩
                · go_wp2_with (go_at_call 10; refine hh.mono ?_; rintro e w9 ⟨rfl, rfl⟩)
                  obtain ⟨hj, hk, hr, hjl, cr, cv⟩ := HR.out
                  go_roundg (n1 - (j + 1))
                  case measure => omega
                  case rel => exact ⟨j + 1, by rw [hr]; rfl, by rw [hwr]; push_cast; rfl, by omega, rfl, cr⟩
              · rw [decide_eq_false hqx] at hse
                have HQ := Lib.hid (And.intro hq hqx)
                clear hqa hqb hj hk hr cr cv hq hqx hl1 hl2 hm1 hm2 hv1 hv2 hG8 hql hxl hjs
                cases A0
                · go_wp2_with (first
                    | (go_at_call 10; refine hh.mono ?_; rintro e w9 ⟨rfl, rfl⟩)
                    | (go_at_call 11; refine ki.mono ?_; rintro e w9 ⟨r9, rfl, hr9, c9⟩; obtain rfl := kr r9 hr9 HQ.out.2; clear hr9))
                  obtain ⟨hj, hk, hr, hjl, cr, cv⟩ := HR.out
                  go_roundg (n1 - (j + 1))
                  case measure => omega
                  case rel => exact ⟨j + 1, by rw [hr, decide_eq_true HQ.out.1]; rfl, by rw [hwr]; push_cast; rfl, by omega, rfl, cr.nil c9⟩
                · go_wp2_with (first
                    | (go_at_call 10; refine hh.mono ?_; rintro e w9 ⟨rfl, rfl⟩)
                    | (go_at_call 11; refine ki.mono ?_; rintro e w9 ⟨r9, rfl, hr9, c9⟩; obtain rfl := kr r9 hr9 HQ.out.2; clear hr9))
                  obtain ⟨hj, hk, hr, hjl, cr, cv⟩ := HR.out
                  go_roundg (n1 - (j + 1))
                  case measure => omega
                  case rel => exact ⟨j + 1, by rw [hr]; rfl, by rw [hwr]; push_cast; rfl, by omega, rfl, cr.nil c9⟩
            · rw [decide_eq_false hq] at hh
              have HQ := Lib.hid hq
              clear hqa hj hk hr cr cv hq hl1 hl2 hm1 hm2 hv1 hv2 hG8 hql hxl hjs hse
              cases A0
              · go_wp2_with (go_at_call 10; refine hh.mono ?_; rintro e w9 ⟨rfl, rfl⟩)
                obtain ⟨hj, hk, hr, hjl, cr, cv⟩ := HR.out
                go_roundg (n1 - (j + 1))
                case measure => omega
                case rel => exact ⟨j + 1, by rw [hr, decide_eq_false HQ.out]; rfl, by rw [hwr]; push_cast; rfl, by omega, rfl, cr⟩
              · go_wp2_with (go_at_call 10; refine hh.mono ?_; rintro e w9 ⟨rfl, rfl⟩)
                obtain ⟨hj, hk, hr, hjl, cr, cv⟩ := HR.out
                go_roundg (n1 - (j + 1))
                case measure => omega
                case rel => exact ⟨j + 1, by rw [hr]; rfl, by rw [hwr]; push_cast; rfl, by omega, rfl, cr⟩
          · obtain rfl : j = n1 := by omega
            have t1 : decide ((j : Int) < (j : Int)) = false := decide_eq_false (by omega)
            have t1' : decide (j < j) = false := decide_eq_false (by omega)
            rw [HN.out, List.take_length] at hA0
            have cwr := cv.nil cr
            rcases HB.out.1 with ⟨rfl, rfl, h1⟩ | ⟨rfl, rfl, h1, h2⟩ | ⟨rfl, h1⟩
            · have hno := (base_not HB.out.1 (by decide)).2
              obtain rfl : A0 = false := by
                rw [hA0, List.any_eq_false]
                exact fun k h2 => by simpa using fun h3 => hno k ((hm1 k).1 h2) ((hm2 k).1 h3)
              have HC := Lib.hid cwr
              clear h1 hno hA0 hj hk hjl cv cwr hl1 hl2 hm1 hm2 hv1 hv2 hG8 hxl cr
              have se : (str []).size = 0 := rfl
              go_wp2_with (go_at_call 4; refine (k1 _).mono ?_; rintro e w9 ⟨rfl, c9⟩)
              go_ret
              exact ⟨rfl, HC.out.nil c9⟩
            · have hno := (base_not HB.out.1 (by decide)).2
              obtain rfl : A0 = false := by
                rw [hA0, List.any_eq_false]
                exact fun k h2 => by simpa using fun h3 => hno k ((hm1 k).1 h2) ((hm2 k).1 h3)
              have HC := Lib.hid cwr
              clear h1 h2 hno hA0 hj hk hjl cv cwr hl1 hl2 hm1 hm2 hv1 hv2 hG8 hxl cr
              have se : (str []).size = 0 := rfl
              go_wp2_with (go_at_call 4; refine (k1 _).mono ?_; rintro e w9 ⟨rfl, c9⟩)
              go_ret
              exact ⟨rfl, HC.out.nil c9⟩
            · obtain ⟨hxa, hxb⟩ := (base_ok HB.out.1).1
              have m1 : x ∈ s1 := (hm1 x).2 hxa
              have m2 : x ∈ s2 := (hm2 x).2 hxb
              obtain rfl : A0 = true := by rw [hA0, List.any_eq_true]; exact ⟨x, m1, by simpa using m2⟩
              have kh : ∀ (w' : World) (c : Chg [] wr w') (v : Value), v = .slice ao j cap ∨ v = v2 → Calls Try.prog 10 #[v, .string (str x)] w' fun e w'' => e = .returned (.bool true) ∧ w'' = w' := by
                rintro w' c v (rfl | rfl)
                · have := hasL_any (.slice ao j cap) s1 x w' (by rw [← HN.out]; exact (hv1.chg0 cr).chg0 c) (by rw [← HN.out]; omega)
                  rwa [decide_eq_true m1] at this
                · have := hasL_any v s2 x w' ((hv2.chg0 cr).chg0 c) (by omega)
                  rwa [decide_eq_true m2] at this
              have ka := fun w' (c : Chg [] wr w') => is_any hgood.out.1 HS.out ((hG8.chg cr).chg c) a b ha hb
              have kb := fun w' (c : Chg [] wr w') => is_any hgood.out.1 HS.out ((hG8.chg cr).chg c) b a hb ha
              have hEa : ∀ r : Bool, (r = true ↔ Rch g b a) → r = false ∨ (r = true ∧ ((str x).toList == (str a).toList) = true) := fun r h => by
                cases r
                · exact .inl rfl
                · exact .inr ⟨rfl, by rw [base_elder hgood.out HB.out.1 (h.1 rfl)]; simp⟩
              have hEb : ∀ r : Bool, (r = true ↔ Rch g a b) → r = false ∨ (r = true ∧ ((str x).toList == (str b).toList) = true) := fun r h => by
                cases r
                · exact .inl rfl
                · exact .inr ⟨rfl, by rw [base_elder' hgood.out HB.out.1 (h.1 rfl)]; simp⟩
              have HC := Lib.hid cwr
              clear h1 m1 m2 hxa hxb hA0 hj hk hjl cv cwr hl1 hl2 hm1 hm2 hv1 hv2 hG8 hxl cr
              go_wp2_with (first
                | (go_at_call 11; refine (kb _ (c9.nil c10)).mono ?_; rintro e w11 ⟨r11, rfl, hr11, c11⟩; rcases hEb r11 hr11 with rfl | ⟨rfl, hxb⟩ <;> clear hr11)
                | (go_at_call 11; refine (ka _ c9).mono ?_; rintro e w10 ⟨r10, rfl, hr10, c10⟩; rcases hEa r10 hr10 with rfl | ⟨rfl, hxa⟩ <;> clear hr10)
                | (go_at_call 10; refine (kh _ c9 _ (by first | exact .inl rfl | exact .inr rfl)).mono ?_; rintro e w' ⟨rfl, rfl⟩)
                | (go_at_call 4; refine (k1 _).mono ?_; rintro e w9 ⟨rfl, c9⟩))
              all_goals (go_ret; exact ⟨rfl, ((HC.out.nil c9).nil c10).nil c11⟩)
end Go.Proofs.Ytmacgjljgemmcaa
