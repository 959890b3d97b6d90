/- The document's Is and Log. No statement of the seat is proved here. -/
import Derived.Test.YtphmplbcegibjaaRgD
set_option linter.unusedVariables false
set_option linter.unusedSimpArgs false
namespace Go.Proofs.Ytphmplbcegibjaa
open Go.RowKit Go.Aq Go.Aq.Dg Go.Maps Go.Aq.So

set_option maxRecDepth 100000 in
theorem ris_any {w : World} {p : Nat} {L : List (NodeD × Value)} (hR : RefG w p L) (G : Dg.Good (L.map (·.1))) (S : SmallG (L.map (·.1))) (hl : L.length ≤ 2097152) (a b : List UInt8) :
    Calls Try.prog 22 #[.pointer (some ⟨p, 0, none⟩), .string (str a), .string (str b)] w fun e w' => ∃ r : Bool, e = .returned (.bool r) ∧ (r = true ↔ Rch (L.map (·.1)) b a) ∧ Chg [] w w' := by
  have kh := rhas_any hR hl a
  have kr := ranc_any hR G S hl b
  cases hk : hasK (L.map (·.1)) a with
  | false =>
    rw [hk] at kh
    have HK := Lib.hid hk
    clear hk hR G S hl kr
    go_enter Try.func22, Try.ntmps22
    go_wp2_with fail
    refine kh.mono ?_
    rintro e w1 ⟨rfl, rfl⟩
    go_wp2_with fail
    go_ret
    exact ⟨false, rfl, ⟨fun h => (by cases h), fun h => by have := h.has; rw [HK.out] at this; cases this⟩, Chg.refl _ _⟩
  | true =>
    rw [hk] at kh
    clear hk hR G S hl
    go_enter Try.func22, Try.ntmps22
    go_wp2_with fail
    refine kh.mono ?_
    rintro e w1 ⟨rfl, hw1⟩
    have hw1' := hw1.symm
    clear hw1 kh
    subst hw1'
    go_wp2_with fail
    refine kr.mono ?_
    rintro e w2 ⟨v, ss, rfl, hA, hsl, hF⟩
    clear kr
    have kx := hasL_any v ss a w2 hF.own.sees (by omega)
    have HA := Lib.hid (And.intro hA hF.chg)
    clear hA hF hsl
    go_wp2_with fail
    refine kx.mono ?_
    rintro e w3 ⟨rfl, hw3⟩
    have hw3' := hw3.symm
    clear hw3 kx
    subst hw3'
    go_wp2_with fail
    go_ret
    exact ⟨_, rfl, by rw [decide_eq_true_iff]; exact HA.out.1.mem a, HA.out.2⟩

/-- Where a key's stamp stands. -/
theorem RefG.stamp {w : World} {p : Nat} {L : List (NodeD × Value)} (hR : RefG w p L) (nd : ((L.map (·.1)).map (·.key)).Nodup) (hl : L.length ≤ 2097152) {k : List UInt8} (hk : hasK (L.map (·.1)) k = true) :
    ∃ q gn offn capn : Nat, q < L.length ∧ w.cell? ⟨p, 0, none⟩ = some (.slice (some ⟨gn, offn, none⟩) L.length capn) ∧ w.cell? ⟨gn, offn + q * 3 + 2, none⟩ = some (.int .i64 (stampK (L.map (·.1)) k)) ∧
      ∀ W, Chg [] w W → Calls Try.prog 35 #[.pointer (some ⟨p, 0, none⟩), .string (str k)] W fun e w' => e = .returned (.int .i64 (q : Int)) ∧ w' = W := by
  obtain ⟨q, hq, hqe, hqk, -⟩ := atI_has hk
  have hqL : q < L.length := by rw [List.length_map] at hq; exact hq
  have kA : ∀ W, Chg [] w W → Calls Try.prog 35 #[.pointer (some ⟨p, 0, none⟩), .string (str k)] W fun e w' => e = .returned (.int .i64 (q : Int)) ∧ w' = W := fun W hW => by
    have := at_any (hR.chg hW) hl k
    rw [hqe] at this; exact this
  obtain ⟨pv, hbp, hN⟩ := hR
  obtain ⟨gn, offn, capn, aq, cq, hpv, -, -, -, -, x2, -⟩ := hN.cells hqL
  subst hpv
  rw [List.getElem_map] at hqk
  have hsq : stampK (L.map (·.1)) k = L[q].1.stamp := by rw [← hqk]; exact stampK_of nd (List.mem_map.2 ⟨_, List.getElem_mem hqL, rfl⟩)
  rw [← hsq] at x2
  exact ⟨q, gn, offn, capn, hqL, hbp.cell 0, x2, kA⟩
theorem lss_i64 (a b : Int) (w : World) : (binOp BinOp.lss 3 (.int .i64 a) (.int .i64 b)).run Try.prog w = .ok (.bool (decide (a < b))) w := by rfl

set_option maxHeartbeats 2000000 in
set_option maxRecDepth 100000 in
theorem rlog_any {w : World} {p : Nat} {L : List (NodeD × Value)} (hR : RefG w p L) (GG : Dg.Good (L.map (·.1))) (S : SmallG (L.map (·.1))) (hll : L.length ≤ 2097152) (key : List UInt8) :
    Calls Try.prog 23 #[.pointer (some ⟨p, 0, none⟩), .string (str key)] w fun e w' => ∃ (v : Value) (ss : List (List UInt8)), e = .returned v ∧ Anc (L.map (·.1)) key ss ∧ ss.length ≤ 2097152 ∧ Sees w' 1 v ss.length (Sk (sortT (stampK (L.map (·.1))) ss)) ∧ Chg [] w w' := by
  have kr := ranc_any hR GG S hll key
  obtain ⟨st, hst⟩ : ∃ st, st = stampK (L.map (·.1)) := ⟨_, rfl⟩
  have hS : Hid (∀ k, hasK (L.map (·.1)) k = true → ∃ q gn offn capn : Nat, q < L.length ∧ w.cell? ⟨p, 0, none⟩ = some (.slice (some ⟨gn, offn, none⟩) L.length capn) ∧ w.cell? ⟨gn, offn + q * 3 + 2, none⟩ = some (.int .i64 (st k)) ∧
      ∀ W, Chg [] w W → Calls Try.prog 35 #[.pointer (some ⟨p, 0, none⟩), .string (str k)] W fun e w' => e = .returned (.int .i64 (q : Int)) ∧ w' = W) := Lib.hid fun k hk => by
    rw [hst]; exact hR.stamp GG.1 hll hk
  rw [← hst]
  clear hst hR GG S hll
  go_enter Try.func23, Try.ntmps23
  go_wp2_with fail
  refine kr.mono ?_
  rintro e w1 ⟨v5, l, rfl, hA, hl, hF0⟩
  clear kr
  obtain ⟨n, HN⟩ : ∃ n, Hid (l.length = n) := ⟨_, rfl⟩
  rw [HN.out] at hl hF0
  have hv := hF0.own.sees
  obtain ⟨ao, cap, rfl, hcap, -⟩ := hv.shape
  have HV := Lib.hid hv
  have HL := Lib.hid hl
  have HA := Lib.hid hA
  have HC1 := Lib.hid hF0.chg
  clear hv hl hA hF0
  go_wp2_with fail
  go_loopg [6, 7, 8] n (fun gk (v6 v7 v8 : Value) wr => ∃ (i : Nat) (U : List (List UInt8)), v7 = .int .i64 (i : Int) ∧ i + gk = n ∧ Fresh w1 wr 9 1 v6 U.length (Sk U) ∧ U.length = i ∧ U = sortT st (l.take i))
  case atStart => exact ⟨0, [], rfl, by omega, Fresh.nil _ _ _, by simp, by rw [List.take_zero, sortT_nil]⟩
  case round =>
    obtain ⟨i, U, rfl, hik, hF, hUi, hUs⟩ := hrel
    by_cases hin : i < n
    · have t1 : decide ((i : Int) < (n : Int)) = true := decide_eq_true (by omega)
      have t1' : decide (i < n) = true := decide_eq_true hin
      obtain ⟨gl, offl, capl, e, -, hcl⟩ := (HV.out.chg0 hF.chg).at1 (by omega)
      injection e with e1 _ e2
      subst e1 e2
      have xl := hcl i hin
      have hil : i < l.length := by rw [HN.out]; exact hin
      have hg : (Sk l)[i]? = some (.string (str l[i])) := by simp [Sk, hil]
      rw [hg] at xl
      have htk : l.take (i + 1) = l.take i ++ [l[i]] := List.take_succ_eq_append_getElem hil
      have hxA : hasK (L.map (·.1)) l[i] = true := ((HA.out.mem _).1 (List.getElem_mem hil)).has
      have hUl : ∀ y ∈ U, y ∈ l.take i := fun y hy => by rw [hUs] at hy; exact (sortT_mem st _ y).1 hy
      have hUh : ∀ y ∈ U, hasK (L.map (·.1)) y = true := fun y hy => ((HA.out.mem _).1 (List.mem_of_mem_take (hUl y hy))).has
      have hUx : ∀ y ∈ U, y ≤ l[i] := fun y hy => by
        obtain ⟨j, hj, rfl⟩ := List.getElem_of_mem (hUl y hy)
        rw [List.length_take] at hj
        rw [List.getElem_take]
        exact List.pairwise_iff_getElem.1 HA.out.up j i (by omega) hil (by omega)
      have hUS : Srt st U := by rw [hUs]; exact sortT_srt st _
      have hUp : (l.take (i + 1)).Perm (l[i] :: U) := by
        rw [htk, hUs]
        exact (List.perm_append_comm (l₁ := l.take i) (l₂ := [l[i]])).trans ((sortT_perm st _).symm.cons _)
      clear hcl hg
      generalize l[i] = x at *
      obtain ⟨m, hm⟩ : ∃ m, m = U.length := ⟨_, rfl⟩
      obtain ⟨ao3, cap3, rfl, hc3⟩ := hF.shape
      rw [← hm] at hF hc3 hUi ⊢
      have HU := Lib.hid (And.intro hik (And.intro hF (And.intro hUi (And.intro hUS (And.intro hUp (And.intro htk hm))))))
      have HX := Lib.hid (And.intro hxA (And.intro hUh hUx))
      have hml := HL.out
      have hmi : (m : Int) ≤ 8388608 := by omega
      clear hik hF hUi hUS hUp htk hm hml hUs hxA hUh hUx hUl
      go_wp2_with fail
      obtain ⟨G, rfl⟩ : ∃ G, G = gk := ⟨_, rfl⟩
      obtain ⟨W1, hW1⟩ : ∃ W, W = wr := ⟨_, rfl⟩
      rw [← hW1]
      rw [← hW1] at HU xl
      clear hW1
      go_loopg [8] m (fun gk (v8 : Value) wr => ∃ k : Nat, v8 = .int .i64 (k : Int) ∧ gk = k ∧ k ≤ m ∧ (∀ y ∈ U.drop k, st y < st x) ∧ Chg [] W1 wr)
      case atStart => exact ⟨m, rfl, rfl, Nat.le_refl _, by rw [HU.out.2.2.2.2.2.2, List.drop_length]; simp, Chg.refl _ _⟩
      case round =>
        obtain ⟨k, rfl, hgk, hkm, hdr, ck⟩ := hrel
        have hmU := HU.out.2.2.2.2.2.2
        have hcW : Chg [] w wr := HC1.out.nil (HU.out.2.1.chg.nil ck)
        by_cases hP : ∃ j, k = j + 1 ∧ ∃ hj : j < U.length, st U[j] < st x
        · obtain ⟨j, hj, hjU, hxj⟩ := hP
          obtain ⟨g, cp, hsv, -, -, -⟩ := HU.out.2.1.own.pos (by omega)
          injection hsv with e1 _ e2
          subst e1 e2
          have xo : W1.cell? ⟨g, j, none⟩ = some (.string (str U[j])) := by
            rw [Own.cellAt HU.out.2.1.own j (by omega)]; simp [Sk, hjU]
          obtain ⟨q1, gn, offn, capn, hq1, y0, y1, ka1⟩ := hS.out U[j] (HX.out.2.1 _ (List.getElem_mem hjU))
          obtain ⟨q2, gn', offn', capn', hq2, y0', y2, ka2⟩ := hS.out x HX.out.1
          rw [y0] at y0'
          injection y0' with y0'
          injection y0' with e3 _ e4
          injection e3 with e3
          injection e3 with e5 e6
          subst e4 e5 e6
          obtain ⟨sz, hsz⟩ : ∃ z, z = st U[j] := ⟨_, rfl⟩
          obtain ⟨sx, hsx⟩ : ∃ z, z = st x := ⟨_, rfl⟩
          rw [← hsz] at y1
          rw [← hsx] at y2
          obtain ⟨nl, hnl⟩ : ∃ nl, nl = L.length := ⟨_, rfl⟩
          rw [← hnl] at y0 hq1 hq2
          have xo2 := ck.cell_some xo (by simp)
          have xl2 := ck.cell_some xl (by simp)
          clear xl
          replace y0 := hcW.cell_some y0 (by simp)
          replace y1 := hcW.cell_some y1 (by simp)
          replace y2 := hcW.cell_some y2 (by simp)
          have r1 : decide ((0 : Int) < (k : Int)) = true := decide_eq_true (by omega)
          have r1' : decide (0 < k) = true := decide_eq_true (by omega)
          have r2 : wrap64 ((k : Int) - 1) = (j : Int) := by unfold wrap64; omega
          have r3 : IntKind.i64.wrap ((k : Int) - 1) = (j : Int) := by rw [show (k : Int) - 1 = (j : Int) by omega]; exact wrap_i64_nat j (by omega)
          have i0 : (0 : Int) ≤ (j : Int) := by omega
          have i1 : (j : Int) < m := by omega
          have i2 : (i : Int) < n := by omega
          have i3 : (0 : Int) ≤ (q1 : Int) := by omega
          have i4 : (q1 : Int) < nl := by omega
          have i5 : (0 : Int) ≤ (q2 : Int) := by omega
          have i6 : (q2 : Int) < nl := by omega
          clear hq1 hq2 hnl
          have hlt : decide (sz < sx) = true := decide_eq_true (by rw [hsz, hsx]; exact hxj)
          have hd' : ∀ y ∈ U.drop j, st y < st x := by
            intro y hy
            rw [List.drop_eq_getElem_cons hjU] at hy
            rcases List.mem_cons.1 hy with rfl | hy
            · exact hxj
            · exact hdr y (by rw [hj]; exact hy)
          have HJ := Lib.hid (And.intro hkm (And.intro hj (And.intro hd' (And.intro hgk ck))))
          clear hd' hxj hsz hsx hdr hgk
          generalize str U[j] = sU at *
          generalize str x = sX at *
          clear hkm hj hjU hmU hmi xo hin
          go_upto_region 7 with (fail)
          obtain ⟨X, hnX, F, x0, hF0, hF, hX⟩ := fam0 wr
          have z0 := fun u => (hF u).cell_some y0 (by simp)
          have z1 := fun u => (hF u).cell_some y1 (by simp)
          have z2 := fun u => (hF u).cell_some y2 (by simp)
          have z3 := fun u => (hF u).cell_some xo2 (by simp)
          have z4 := fun u => (hF u).cell_some xl2 (by simp)
          have kb1 := fun u => ka1 (F u) (hcW.nil (hF u))
          have kb2 := fun u => ka2 (F u) (hcW.nil (hF u))
          refine wp_fam F (by kernel_rfl) (by kernel_rfl) x0 hF0 ?_
          repeat (go_big_quiet_step (first | with_reducible exact fam_same (kb1 _) | with_reducible exact fam_same (kb2 _)))
          refine wpQuiet_nil ?_
          rintro w' ⟨xx, rfl⟩
          have cF := hF xx
          clear hF hX hF0 z0 z1 z2 z3 z4 y0 y1 y2 xo2 xl2 ka1 ka2 kb1 kb2
          generalize F xx = w2 at *
          try rw [hlt]
          obtain ⟨hkm, hj, hd', hgk, ck⟩ := HJ.out
          go_wp2_with fail
          go_roundg j
          case measure => omega
          case rel => exact ⟨j, by first | rfl | exact congrArg (Value.int .i64) (wN rfl (by have := HL.out; have := HU.out.2.2.1; omega)), rfl, by omega, hd', ck.nil cF⟩
        · have hex : ∀ y ∈ U.take k, le st y x = true := by
            rcases Nat.eq_zero_or_pos k with h0 | h0
            · subst h0; simp
            · refine take_le st HU.out.2.2.2.1 (.inr ⟨by omega, ?_⟩)
              have hjU : k - 1 < U.length := by omega
              have h1 : ¬ st U[k - 1] < st x := fun h => hP ⟨k - 1, by omega, hjU, h⟩
              rw [le_iff]
              rcases Int.lt_or_eq_of_le (Int.not_lt.1 h1) with h | h
              · exact .inl h
              · exact .inr ⟨h.symm, HX.out.2.2 _ (List.getElem_mem hjU)⟩
          have hdl : ∀ y ∈ U.drop k, le st x y = true := fun y hy => (le_iff st x y).2 (.inl (hdr y hy))
          have HQ := Lib.hid (And.intro hex hdl)
          clear hex hdl hdr
          go_upto_region 7 with (fail)
          go_cut [51] from 20 to 51 (fun s wx => s = .bool false ∧ Chg [] W1 wx)
          case first =>
            rcases Nat.eq_zero_or_pos k with h0 | h0
            · have r1 : decide ((0 : Int) < (k : Int)) = false := decide_eq_false (by omega)
              have r1' : decide (0 < k) = false := decide_eq_false (by omega)
              have HCK := Lib.hid ck
              clear hP hkm hgk hmU hmi h0 ck hcW
              go_quiet (fail)
              go_wp2_with fail
              go_meet
              exact ⟨rfl, HCK.out.drewN _⟩
            · obtain ⟨j, hj⟩ : ∃ j, k = j + 1 := ⟨k - 1, by omega⟩
              have hjU : j < U.length := by omega
              have hxj : ¬ st U[j] < st x := fun h => hP ⟨j, hj, hjU, h⟩
              obtain ⟨g, cp, hsv, -, -, -⟩ := HU.out.2.1.own.pos (by omega)
              injection hsv with e1 _ e2
              subst e1 e2
              have xo : W1.cell? ⟨g, j, none⟩ = some (.string (str U[j])) := by
                rw [Own.cellAt HU.out.2.1.own j (by omega)]; simp [Sk, hjU]
              obtain ⟨q1, gn, offn, capn, hq1, y0, y1, ka1⟩ := hS.out U[j] (HX.out.2.1 _ (List.getElem_mem hjU))
              obtain ⟨q2, gn', offn', capn', hq2, y0', y2, ka2⟩ := hS.out x HX.out.1
              rw [y0] at y0'
              injection y0' with y0'
              injection y0' with e3 _ e4
              injection e3 with e3
              injection e3 with e5 e6
              subst e4 e5 e6
              obtain ⟨sz, hsz⟩ : ∃ z, z = st U[j] := ⟨_, rfl⟩
              obtain ⟨sx, hsx⟩ : ∃ z, z = st x := ⟨_, rfl⟩
              rw [← hsz] at y1
              rw [← hsx] at y2
              obtain ⟨nl, hnl⟩ : ∃ nl, nl = L.length := ⟨_, rfl⟩
              rw [← hnl] at y0 hq1 hq2
              have xo2 := ck.cell_some xo (by simp)
              have xl2 := ck.cell_some xl (by simp)
              clear xl
              replace y0 := hcW.cell_some y0 (by simp)
              replace y1 := hcW.cell_some y1 (by simp)
              replace y2 := hcW.cell_some y2 (by simp)
              have r1 : decide ((0 : Int) < (k : Int)) = true := decide_eq_true (by omega)
              have r1' : decide (0 < k) = true := decide_eq_true (by omega)
              have r2 : wrap64 ((k : Int) - 1) = (j : Int) := by unfold wrap64; omega
              have r3 : IntKind.i64.wrap ((k : Int) - 1) = (j : Int) := by rw [show (k : Int) - 1 = (j : Int) by omega]; exact wrap_i64_nat j (by omega)
              have i0 : (0 : Int) ≤ (j : Int) := by omega
              have i1 : (j : Int) < m := by omega
              have i2 : (i : Int) < n := by omega
              have i3 : (0 : Int) ≤ (q1 : Int) := by omega
              have i4 : (q1 : Int) < nl := by omega
              have i5 : (0 : Int) ≤ (q2 : Int) := by omega
              have i6 : (q2 : Int) < nl := by omega
              clear hq1 hq2 hnl
              have hlt : decide (sz < sx) = false := decide_eq_false (by rw [hsz, hsx]; exact hxj)
              have HCK := Lib.hid ck
              clear hxj hsz hsx hgk hP
              generalize str U[j] = sU at *
              generalize str x = sX at *
              clear hkm hj hjU hmU hmi xo hin
              obtain ⟨X, hnX, F, x0, hF0, hF, hX⟩ := fam0 wr
              have z0 := fun u => (hF u).cell_some y0 (by simp)
              have z1 := fun u => (hF u).cell_some y1 (by simp)
              have z2 := fun u => (hF u).cell_some y2 (by simp)
              have z3 := fun u => (hF u).cell_some xo2 (by simp)
              have z4 := fun u => (hF u).cell_some xl2 (by simp)
              have kb1 := fun u => ka1 (F u) (hcW.nil (hF u))
              have kb2 := fun u => ka2 (F u) (hcW.nil (hF u))
              refine wp_fam F (by kernel_rfl) (by kernel_rfl) x0 hF0 ?_
              repeat (go_big_quiet_step (first | with_reducible exact fam_same (kb1 _) | with_reducible exact fam_same (kb2 _)))
              refine wpQuiet_nil ?_
              rintro w' ⟨xx, rfl⟩
              have cF := hF xx
              clear hF hX hF0 z0 z1 z2 z3 z4 y0 y1 y2 xo2 xl2 ka1 ka2 kb1 kb2
              generalize F xx = w2 at *
              try rw [hlt]
              go_wp2_with fail
              go_meet
              exact ⟨rfl, HCK.out.nil cF⟩
          case rest =>
          obtain ⟨rfl, c2⟩ := hcut
          clear hP hgk ck hcW
          have hF := HU.out.2.1.to c2
          have x1 : wc.cell? ⟨gl, offl + i, none⟩ = some (.string (str x)) := c2.cell_some xl (by simp)
          have hs9 : sortT st (l.take (i + 1)) = U.take k ++ ([x] ++ U.drop k) := ins_ok st HU.out.2.2.2.1 (by omega) HQ.out.1 HQ.out.2 HU.out.2.2.2.2.1
          have HI := Lib.hid hs9
          generalize wc = W2 at *
          clear HQ hs9 c2 hmU
          have i2 : (i : Int) < n := by omega
          have w3 : wrap64 ((i : Int) + 1) = ((i + 1 : Nat) : Int) := by have := HL.out; unfold wrap64; omega
          rcases hF.own.2 with ⟨hnil, hm0⟩ | ⟨g, cp, cur, hsv, -, hblk, -, -, -⟩
          · injection hnil with e1 e2 e3
            subst e1 e2 e3
            obtain rfl : k = 0 := by omega
            have hU0 : U = [] := List.length_eq_zero_iff.1 HU.out.2.2.2.2.2.2.symm
            subst hU0
            have hF5 : ∀ w5, Chg (Value.slice (some ⟨W2.heap.size, 0, none⟩) 1 1).ownBlock.toList (W2.alloc (.cells #[.string (str x)] 9)).drew w5 → Fresh w1 w5 9 1 (.slice none 0 0) 0 [] := fun w5 c5 =>
              ⟨Own.nil _ _ _, (hF.chg.alloc _).drew.trans c5 (fun b hb => .inr (by simp [Value.ownBlock] at hb; subst hb; exact hF.chg.size)), by simp [Value.ownBlock]⟩
            clear hF hkm hmi hc3
            go_upto_region 9 with (fail)
            go_region_law (first
              | (refine step_app (by rfl) _ _ 30 (by rfl) sl_S (v := .slice (some ⟨W2.heap.size, 0, none⟩) 1 1) (n := 1) (xs := [.string (str x)]) (by exact Own.one (by exact Blk.new W2 _ 9)) (by rfl) (vx := .slice none 0 0) (m := 0) (news := []) (by exact Sees.nil _ _) (by rfl) (by simp) (by omega) (by omega) ?_; intro v5 w5 hO5 c5 n5)
              | (refine step_app (by rfl) _ _ 30 (by rfl) sl_S (v := .slice none 0 0) (n := 0) (xs := []) (by exact (hF5 w5 c5).own) (by rfl) (vx := v5) (m := 1 + 0) (news := [.string (str x)] ++ []) (by exact hO5.sees) (by rfl) (by exact Sk_one1 x []) (by omega) (by omega) ?_; intro v6 w6 hO6 c6 n6))
            all_goals
              have hF6 := (hF5 w5 c5).app hO6 c6 n6
              go_wp2_with fail
              obtain ⟨hik, hF, hUi, hUS, hUp, htk, hm⟩ := HU.out
              go_roundg (G - 1)
              case measure => omega
              case rel => exact ⟨i + 1, [x], by first | rfl | (rw [w3]), by omega, by first | exact hF6 | exact hF6.to (Chg.refl [] _).drew, by simp only [List.length_singleton]; omega, by have := HI.out; simpa using this.symm⟩
          · injection hsv with e1 _ e2
            subst e1 e2
            have hmU := HU.out.2.2.2.2.2.2
            have hvs : Own W2 9 1 (.slice (some ⟨g, 0, none⟩) k cap3) k (Sk (U.take k)) := by
              have h := hF.own
              rw [← List.take_append_drop k U, Sk_app] at h
              exact Own.cut h (by rw [Sk_len, List.length_take]; omega) hkm
            have hnw : ∀ b ∈ (Value.slice (some ⟨g, 0, none⟩) k cap3).ownBlock.toList, w1.heap.size ≤ b := fun b hb => hF.new b (by simpa [Value.ownBlock] using hb)
            by_cases hck : cap3 = k
            · have hmk : m = k := by omega
              subst hck
              subst hmk
              have hvd : Sees W2 1 (.slice (some ⟨g, 0, none⟩) 0 0) (m - m) (Sk (U.drop m)) := by
                have e1 : U.drop m = [] := by rw [hmU]; exact List.drop_length
                rw [e1, Nat.sub_self]; exact Sees.none0 _ _
              clear hmU
              have hF5 : ∀ w5, Chg (Value.slice (some ⟨W2.heap.size, 0, none⟩) 1 1).ownBlock.toList (W2.alloc (.cells #[.string (str x)] 9)).drew w5 → Fresh w1 w5 9 1 (.slice (some ⟨g, 0, none⟩) m m) m (Sk (U.take m)) := fun w5 c5 =>
                ⟨Own.chg (w := (W2.alloc (.cells #[.string (str x)] 9)).drew) (hvs.alloc (.cells #[.string (str x)] 9)) c5 (fun b hb hb' => by simp [Value.ownBlock] at hb'; subst hb'; exact Nat.lt_irrefl _ (hvs.lt _ hb)), (hF.chg.alloc _).drew.trans c5 (fun b hb => .inr (by simp [Value.ownBlock] at hb; subst hb; exact hF.chg.size)), hnw⟩
              have hsd : Sees (W2.alloc (.cells #[.string (str x)] 9)) 1 (.slice (some ⟨g, 0, none⟩) 0 0) (m - m) (Sk (U.drop m)) := hvd.chg0 ((Chg.refl [] W2).alloc _)
              have HHF := Lib.hid hF
              have hb1 : m + (1 + (m - m)) ≤ 8388609 := by omega
              have i1 : (m : Int) ≤ m := by omega
              have i3 : (m : Int) ≤ m := by omega
              clear hvs hvd hnw hF hmi hblk
              go_upto_region 9 with (fail)
              go_region_law (first
                | (refine step_app (by rfl) _ _ 30 (by rfl) sl_S (v := .slice (some ⟨W2.heap.size, 0, none⟩) 1 1) (n := 1) (xs := [.string (str x)]) (by exact Own.one (by exact Blk.new W2 _ 9)) (by rfl) (vx := .slice (some ⟨g, 0, none⟩) 0 0) (m := m - m) (news := Sk (U.drop m)) (by exact hsd) (by rfl) (by exact Sk_one _) (by omega) (by omega) ?_; intro v5 w5 hO5 c5 n5)
                | (refine step_app (by rfl) _ _ 30 (by rfl) sl_S (v := .slice (some ⟨g, 0, none⟩) m m) (n := m) (xs := Sk (U.take m)) (by exact (hF5 w5 c5).own) (by rfl) (vx := v5) (m := 1 + (m - m)) (news := [.string (str x)] ++ Sk (U.drop m)) (by exact hO5.sees) (by rfl) (by exact Sk_one1 x _) (by omega) (by omega) ?_; intro v6 w6 hO6 c6 n6))
              all_goals
                have hF6 := (hF5 w5 c5).app hO6 c6 n6
                go_wp2_with fail
                obtain ⟨hik, hF, hUi, hUS, hUp, htk, hm⟩ := HU.out
                have hel : (U.take m ++ ([x] ++ U.drop m)).length = m + (1 + (m - m)) := by simp only [List.length_append, List.length_take, List.length_drop, List.length_singleton]; omega
                have hes : Sk (U.take m ++ ([x] ++ U.drop m)) = Sk (U.take m) ++ ([.string (str x)] ++ Sk (U.drop m)) := by simp [Sk]
                go_roundg (G - 1)
                case measure => omega
                case rel => exact ⟨i + 1, U.take m ++ ([x] ++ U.drop m), by first | rfl | (rw [w3]), by omega, by rw [hel, hes]; first | exact hF6 | exact hF6.to (Chg.refl [] _).drew, by rw [hel]; omega, HI.out.symm⟩
            · have hvd : Sees W2 1 (.slice (some ⟨g, 0 + k, none⟩) (m - k) (cap3 - k)) (m - k) (Sk (U.drop k)) := by
                have h := Sees.dropK hF.own.sees hkm
                have e1 : (Sk U).drop k = Sk (U.drop k) := by simp [Sk, List.map_drop]
                rw [e1] at h; exact h
              rw [Nat.zero_add] at hvd
              have hck' : (cap3 = k) = False := by simp; exact hck
              clear hmU
              have hF5 : ∀ w5, Chg (Value.slice (some ⟨W2.heap.size, 0, none⟩) 1 1).ownBlock.toList (W2.alloc (.cells #[.string (str x)] 9)).drew w5 → Fresh w1 w5 9 1 (.slice (some ⟨g, 0, none⟩) k cap3) k (Sk (U.take k)) := fun w5 c5 =>
                ⟨Own.chg (w := (W2.alloc (.cells #[.string (str x)] 9)).drew) (hvs.alloc (.cells #[.string (str x)] 9)) c5 (fun b hb hb' => by simp [Value.ownBlock] at hb'; subst hb'; exact Nat.lt_irrefl _ (hvs.lt _ hb)), (hF.chg.alloc _).drew.trans c5 (fun b hb => .inr (by simp [Value.ownBlock] at hb; subst hb; exact hF.chg.size)), hnw⟩
              have hsd : Sees (W2.alloc (.cells #[.string (str x)] 9)) 1 (.slice (some ⟨g, k, none⟩) (m - k) (cap3 - k)) (m - k) (Sk (U.drop k)) := hvd.chg0 ((Chg.refl [] W2).alloc _)
              have HHF := Lib.hid hF
              have hb1 : k + (1 + (m - k)) ≤ 8388609 := by omega
              have i1 : (k : Int) ≤ m := by omega
              have i3 : (k : Int) ≤ cap3 := by omega
              clear hvs hvd hnw hF hkm hmi hc3 hblk
              go_upto_region 9 with (fail)
              go_region_law (first
                | (refine step_app (by rfl) _ _ 30 (by rfl) sl_S (v := .slice (some ⟨W2.heap.size, 0, none⟩) 1 1) (n := 1) (xs := [.string (str x)]) (by exact Own.one (by exact Blk.new W2 _ 9)) (by rfl) (vx := .slice (some ⟨g, k, none⟩) (m - k) (cap3 - k)) (m := m - k) (news := Sk (U.drop k)) (by exact hsd) (by rfl) (by exact Sk_one _) (by omega) (by omega) ?_; intro v5 w5 hO5 c5 n5)
                | (refine step_app (by rfl) _ _ 30 (by rfl) sl_S (v := .slice (some ⟨g, 0, none⟩) k cap3) (n := k) (xs := Sk (U.take k)) (by exact (hF5 w5 c5).own) (by rfl) (vx := v5) (m := 1 + (m - k)) (news := [.string (str x)] ++ Sk (U.drop k)) (by exact hO5.sees) (by rfl) (by exact Sk_one1 x _) (by omega) (by omega) ?_; intro v6 w6 hO6 c6 n6))
              all_goals
                have hF6 := (hF5 w5 c5).app hO6 c6 n6
                go_wp2_with fail
                obtain ⟨hik, hF, hUi, hUS, hUp, htk, hm⟩ := HU.out
                have hel : (U.take k ++ ([x] ++ U.drop k)).length = k + (1 + (m - k)) := by simp only [List.length_append, List.length_take, List.length_drop, List.length_singleton]; omega
                have hes : Sk (U.take k ++ ([x] ++ U.drop k)) = Sk (U.take k) ++ ([.string (str x)] ++ Sk (U.drop k)) := by simp [Sk]
                go_roundg (G - 1)
                case measure => omega
                case rel => exact ⟨i + 1, U.take k ++ ([x] ++ U.drop k), by first | rfl | (rw [w3]), by omega, by rw [hel, hes]; first | exact hF6 | exact hF6.to (Chg.refl [] _).drew, by rw [hel]; omega, HI.out.symm⟩
    · have t1 : decide ((i : Int) < (n : Int)) = false := decide_eq_false (by omega)
      have t1' : decide (i < n) = false := decide_eq_false hin
      obtain rfl : i = n := by omega
      have hlt : l.take i = l := by rw [← HN.out, List.take_length]
      rw [hlt] at hUs
      have HU := Lib.hid (And.intro hF (And.intro hUs hUi))
      clear hik hF hUi hUs hlt
      go_wp2_with fail
      go_ret
      refine ⟨_, l, rfl, HA.out, by rw [HN.out]; exact HL.out, ?_, HC1.out.nil HU.out.1.chg⟩
      rw [← HU.out.2.1, HN.out]
      have := HU.out.1.own.sees
      rw [HU.out.2.2] at this
      exact this
end Go.Proofs.Ytphmplbcegibjaa
