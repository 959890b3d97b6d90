/- dag.New. No statement of the seat is proved here. -/
import Derived.Test.YtphmplbcegibjaaDgO
set_option linter.unusedVariables false
set_option linter.unusedSimpArgs false
namespace Go.Proofs.Ytphmplbcegibjaa
open Go.RowKit Go.Aq Go.Aq.Dg Go.Maps

theorem nodeTy : ArrTy Try.prog 35 3 := ⟨⟨_, Try.underlying35, rfl⟩, by kernel_rfl⟩

set_option maxHeartbeats 2000000 in
set_option maxRecDepth 100000 in
theorem new_any (w : World) (v : Value) (L : List (NodeD × Value)) (h : NodesR w v L) (hl : L.length ≤ 2097152) (hk : ∀ q ∈ L, q.1.key.length ≤ 1048576 ∧ q.1.parents.length ≤ 2097152 ∧ ∀ p ∈ q.1.parents, p.length ≤ 1048576) :
    Calls Try.prog 8 #[v] w fun e w' => Chg [] w w' ∧ ((newE (L.map (·.1)) = 0 ∧ ∃ p, e = .returned (.tuple #[.pointer (some ⟨p, 0, none⟩), .int .i64 0]) ∧ GraphR w' p (L.map (·.1))) ∨
      (newE (L.map (·.1)) ≠ 0 ∧ e = .returned (.tuple #[.pointer none, .int .i64 (newE (L.map (·.1)))]))) := by
  obtain ⟨nl, HL⟩ : ∃ n, Hid (L.length = n) := ⟨_, rfl⟩
  have hv := h.sees
  obtain ⟨ao, cap, rfl, hcap, -⟩ := hv.shape
  rw [HL.out] at hcap hv hl
  clear hv
  have h' : NodesR w (.slice ao nl cap) L := by rw [← HL.out]; exact h
  have HH := Lib.hid h'
  clear h h'
  rw [show L.length = nl from HL.out]
  by_cases hbig : 500 < nl
  · have hE : newE (L.map (·.1)) = 17 := by unfold newE; rw [if_pos (by rw [List.length_map, HL.out]; exact hbig)]
    rw [hE]
    have t1 : decide ((500 : Int) < (nl : Int)) = true := decide_eq_true (by omega)
    have t1' : decide (500 < nl) = true := decide_eq_true hbig
    clear hE hk
    go_enter Try.func8, Try.ntmps8
    go_wp2_with fail
    go_ret2
    exact ⟨Chg.refl _ _, .inr ⟨by decide, rfl⟩⟩
  · have t1 : decide ((500 : Int) < (nl : Int)) = false := decide_eq_false (by omega)
    have t1' : decide (500 < nl) = false := decide_eq_false hbig
    have HE1 : Hid (¬ 500 < (L.map (·.1)).length) := by show ¬ _; rw [List.length_map, HL.out]; exact hbig
    obtain ⟨E, HE⟩ : ∃ E, Hid (newE (L.map (·.1)) = E) := ⟨_, rfl⟩
    rw [HE.out]
    have hnl : nl ≤ 500 := by omega
    have hnli : (nl : Int) ≤ 500 := by omega
    clear hbig hl
    have hmm := @run_makeMap Try.prog
    go_enter Try.func8, Try.ntmps8
    go_wp2_with fail
    clear hmm t1 t1'
    have hB : Blk ((w.alloc (.map #[] 0)).alloc (.cells #[.map (some w.heap.size)] 48)) (w.heap.size + 1) #[.map (some w.heap.size)] 48 := Blk.new_at _ _ _ (by simp)
    have hM : MapF Try.prog 9 ((w.alloc (.map #[] 0)).alloc (.cells #[.map (some w.heap.size)] 48)) w.heap.size (fun _ => none) := (MapF.new _ _ w).chg ((Chg.refl [] _).alloc _) (by simp)
    have hc0 : Chg [] w ((w.alloc (.map #[] 0)).alloc (.cells #[.map (some w.heap.size)] 48)) := ((Chg.refl [] w).alloc _).alloc _
    have hG0 : GraphB ((w.alloc (.map #[] 0)).alloc (.cells #[.map (some w.heap.size)] 48)) (w.heap.size + 1) w.heap.size (fun _ => none) [] := ⟨hB, hM, by simp, fun k v hk => by cases hk⟩
    clear hB hM
    go_loopg [6, 20] nl (fun k (v6 v20 : Value) wr => ∃ (i : Nat) (f : Value → Option Value), v20 = .int .i64 (i : Int) ∧ i ≤ nl ∧ k = nl - i ∧ Chg [] w wr ∧ GraphB wr (w.heap.size + 1) w.heap.size f ((L.take i).map (·.1)) ∧ Hid ((((L.take i).map (·.1)).map (·.key)).Nodup))
    case atStart => exact ⟨0, _, rfl, by omega, by omega, hc0, hG0, by simp [Hid]⟩
    case round =>
      obtain ⟨i, f, rfl, hi, hk1, hc, hG, hnd⟩ := hrel
      clear hc0 hG0
      by_cases hil : i < nl
      · have t1 : decide ((i : Int) < (nl : Int)) = true := decide_eq_true (by omega)
        have hilL : i < L.length := by rw [HL.out]; exact hil
        have hib : (i : Int) ≤ 500 := by omega
        obtain ⟨g, off, cap', aq, cq, hs, -, e2, x0, x1, x2, hcq⟩ := (HH.out.chg hc).cells hilL
        injection hs with hs1 hs0 hs2
        subst hs1 hs2
        clear hs0
        have hb := hk _ (List.getElem_mem hilL)
        have hpp := HH.out.pars _ (List.getElem_mem hilL)
        rw [e2] at hpp
        have hts := List.take_succ_eq_append_getElem hilL
        have hdup : hasK ((L.take i).map (·.1)) L[i].1.key = true → ¬ ((L.map (·.1)).map (·.key)).Nodup := fun h1 h2 => by
          obtain ⟨y, hy, e⟩ := hasK_iff.1 h1
          have h3 : (((L.take (i + 1)).map (·.1)).map (·.key)).Nodup := (List.Sublist.map _ (List.Sublist.map _ (List.take_sublist _ _))).nodup h2
          rw [hts, List.map_append, List.map_append, List.nodup_append] at h3
          exact h3.2.2 y.key (List.mem_map.2 ⟨y, hy, rfl⟩) y.key (by rw [e]; simp) rfl
        have HP := Lib.hid (And.intro hts (And.intro hdup (And.intro hk1 (And.intro hi hb))))
        clear hts hdup hk1 hi e2
        generalize L[i] = nd at *
        obtain ⟨⟨ky, ps, st⟩, pv⟩ := nd
        simp only at x0 x1 x2 hb hpp hcq
        have hgA : GraphR (wr.alloc (.cells #[.string (str ky), .slice aq ps.length cq, .int .i64 st] 35)) (w.heap.size + 1) ((L.take i).map (·.1)) := ⟨_, f, hG.chg ((Chg.refl [] wr).alloc _)⟩
        have kh := has_any hgA ky hb.1
        have hbx : Blk (wr.alloc (.cells #[.string (str ky), .slice aq ps.length cq, .int .i64 st] 35)) wr.heap.size #[.string (str ky), .slice aq ps.length cq, .int .i64 st] 35 := Blk.new _ _ _
        clear hgA
        cases hK : hasK ((L.take i).map (·.1)) ky with
        | true =>
          rw [hK] at kh
          have hE7 : E = 7 := by
            have hnd7 := HP.out.2.1 hK
            rw [← HE.out]
            unfold newE
            rw [if_neg HE1.out, if_pos hnd7]
          subst hE7
          clear hK HP hb hpp hk hbx
          go_wp2_with (go_at_call 13; refine kh.mono ?_; rintro e w1 ⟨rfl, c1⟩)
          go_ret2
          exact ⟨(hc.alloc _).nil c1, .inr ⟨by decide, rfl⟩⟩
        | false =>
          rw [hK] at kh
          have HK := Lib.hid hK
          have hpsl := hb.2.1
          clear hK hb hk
          go_upto_region 9 with (go_at_call 13; refine kh.mono ?_; rintro e w1 ⟨rfl, c1⟩)
          have cA := ((Chg.refl [] wr).alloc (.cells #[.string (str ky), .slice aq ps.length cq, .int .i64 st] 35)).nil c1
          have hb1 := hbx.chg0 c1
          have hG1 := hG.chg cA
          have hc1 := hc.nil cA
          have hpp1 := (hpp.chg0 hc1)
          generalize wr.heap.size = K at *
          clear kh hbx hG hc cA c1 x0 x1 x2 hpp
          have q0 := hG1.1.c1.1
          have y0 : w1.cell? ⟨K, 0, none⟩ = some (.string (str ky)) := hb1.cell 0
          have y1 : w1.cell? ⟨K, 1, none⟩ = some (.slice aq ps.length cq) := hb1.cell 1
          have y2 : w1.cell? ⟨K, 2, none⟩ = some (.int .i64 st) := hb1.cell 2
          refine wp_region_S (fun i => i == 14) (by kernel_rfl) ?_
          refine wpAnyS_take 0 (v := .pointer (some ⟨w.heap.size + 1, 0, none⟩)) rfl (by kernel_rfl) (by kernel_rfl) (by kernel_rfl) (by kernel_rfl) (fun _ _ _ h => h) (by rfl) (fun w4 c4 => ?_) ?_
          · go_simp
          try simp only [Act.put, List.getElem_toArray, List.getElem_cons_succ, List.getElem_cons_zero, List.setIfInBounds_toArray, List.set_cons_zero, List.set_cons_succ]
          refine wpAnyS_take 1 (v := .pointer (some ⟨w.heap.size + 1, 0, none⟩)) rfl (by kernel_rfl) (by kernel_rfl) (by kernel_rfl) (by kernel_rfl) (fun _ _ _ h => h) (by rfl) (fun w4 c4 => ?_) ?_
          · have z := c4.cell_some q0 (by simp)
            go_simp
          try simp only [Act.put, List.getElem_toArray, List.getElem_cons_succ, List.getElem_cons_zero, List.setIfInBounds_toArray, List.set_cons_zero, List.set_cons_succ]
          refine wpAnyS_take 2 (v := .pointer (some ⟨w.heap.size + 1, 0, none⟩)) rfl (by kernel_rfl) (by kernel_rfl) (by kernel_rfl) (by kernel_rfl) (fun _ _ _ h => h) (by rfl) (fun w4 c4 => ?_) ?_
          · go_simp
          try simp only [Act.put, List.getElem_toArray, List.getElem_cons_succ, List.getElem_cons_zero, List.setIfInBounds_toArray, List.set_cons_zero, List.set_cons_succ]
          refine wpAnyS_take 3 (v := .map (some w.heap.size)) rfl (by kernel_rfl) (by kernel_rfl) (by kernel_rfl) (by kernel_rfl) (fun _ _ _ h => h) (by rfl) (fun w4 c4 => ?_) ?_
          · have z := c4.cell_some q0 (by simp)
            go_simp
          try simp only [Act.put, List.getElem_toArray, List.getElem_cons_succ, List.getElem_cons_zero, List.setIfInBounds_toArray, List.set_cons_zero, List.set_cons_succ]
          refine wpAnyS_take 4 (v := .pointer (some ⟨K, 0, none⟩)) rfl (by kernel_rfl) (by kernel_rfl) (by kernel_rfl) (by kernel_rfl) (fun _ _ _ h => h) (by rfl) (fun w4 c4 => ?_) ?_
          · go_simp
          try simp only [Act.put, List.getElem_toArray, List.getElem_cons_succ, List.getElem_cons_zero, List.setIfInBounds_toArray, List.set_cons_zero, List.set_cons_succ]
          refine wpAnyS_take 5 (v := .string (str ky)) rfl (by kernel_rfl) (by kernel_rfl) (by kernel_rfl) (by kernel_rfl) (fun _ _ _ h => h) (by rfl) (fun w4 c4 => ?_) ?_
          · have z := c4.cell_some y0 (by simp)
            go_simp
          try simp only [Act.put, List.getElem_toArray, List.getElem_cons_succ, List.getElem_cons_zero, List.setIfInBounds_toArray, List.set_cons_zero, List.set_cons_succ]
          refine wpAnyS_take 6 (v := .pointer (some ⟨K, 0, none⟩)) rfl (by kernel_rfl) (by kernel_rfl) (by kernel_rfl) (by kernel_rfl) (fun _ _ _ h => h) (by rfl) (fun w4 c4 => ?_) ?_
          · go_simp
          try simp only [Act.put, List.getElem_toArray, List.getElem_cons_succ, List.getElem_cons_zero, List.setIfInBounds_toArray, List.set_cons_zero, List.set_cons_succ]
          refine wpAnyS_take 7 (v := .string (str ky)) rfl (by kernel_rfl) (by kernel_rfl) (by kernel_rfl) (by kernel_rfl) (fun _ _ _ h => h) (by rfl) (fun w4 c4 => ?_) ?_
          · have z := c4.cell_some y0 (by simp)
            go_simp
          try simp only [Act.put, List.getElem_toArray, List.getElem_cons_succ, List.getElem_cons_zero, List.setIfInBounds_toArray, List.set_cons_zero, List.set_cons_succ]
          refine wpAnyS_take 8 (v := .pointer (some ⟨K, 1, none⟩)) rfl (by kernel_rfl) (by kernel_rfl) (by kernel_rfl) (by kernel_rfl) (fun _ _ _ h => h) (by rfl) (fun w4 c4 => ?_) ?_
          · go_simp
          try simp only [Act.put, List.getElem_toArray, List.getElem_cons_succ, List.getElem_cons_zero, List.setIfInBounds_toArray, List.set_cons_zero, List.set_cons_succ]
          refine wpAnyS_take 9 (v := .slice aq ps.length cq) rfl (by kernel_rfl) (by kernel_rfl) (by kernel_rfl) (by kernel_rfl) (fun _ _ _ h => h) (by rfl) (fun w4 c4 => ?_) ?_
          · have z := c4.cell_some y1 (by simp)
            go_simp
          try simp only [Act.put, List.getElem_toArray, List.getElem_cons_succ, List.getElem_cons_zero, List.setIfInBounds_toArray, List.set_cons_zero, List.set_cons_succ]
          refine wpAnyS_take 11 (v := .pointer (some ⟨K, 2, none⟩)) rfl (by kernel_rfl) (by kernel_rfl) (by kernel_rfl) (by kernel_rfl) (fun _ _ _ h => h) (by rfl) (fun w4 c4 => ?_) ?_
          · go_simp
          try simp only [Act.put, List.getElem_toArray, List.getElem_cons_succ, List.getElem_cons_zero, List.setIfInBounds_toArray, List.set_cons_zero, List.set_cons_succ]
          refine wpAnyS_take 12 (v := .int .i64 st) rfl (by kernel_rfl) (by kernel_rfl) (by kernel_rfl) (by kernel_rfl) (fun _ _ _ h => h) (by rfl) (fun w4 c4 => ?_) ?_
          · have z := c4.cell_some y2 (by simp)
            go_simp
          try simp only [Act.put, List.getElem_toArray, List.getElem_cons_succ, List.getElem_cons_zero, List.setIfInBounds_toArray, List.set_cons_zero, List.set_cons_succ]
          refine wpAnyS_only 10 rfl (by kernel_rfl) rfl (by rfl) (fun w10 c10 => ?_)
          go_simp
          refine (clone_any w10 _ ps (hpp1.chg0 c10) hpsl).mono ?_
          rintro e w11 ⟨a11, cp11, rfl, hs11, c11⟩
          refine ⟨c11, ?_⟩
          try simp only [Act.put, List.getElem_toArray, List.getElem_cons_succ, List.getElem_cons_zero, List.setIfInBounds_toArray, List.set_cons_zero, List.set_cons_succ]
          refine wpAnyS_take 13 (v := .agg #[.string (str ky), .slice a11 ps.length cp11, .int .i64 st]) rfl (by kernel_rfl) (by kernel_rfl) (by kernel_rfl) (by kernel_rfl) (fun _ _ _ h => h) (by rfl) (fun w4 c4 => ?_) ?_
          · go_simp
          try simp only [Act.put, List.getElem_toArray, List.getElem_cons_succ, List.getElem_cons_zero, List.setIfInBounds_toArray, List.set_cons_zero, List.set_cons_succ]
          have hG11 := (hG1.chg c10).chg c11
          refine wpAnyS_last 14 rfl (by kernel_rfl) rfl (by rfl) (fun w12 c12 => ?_)
          have hG12 := hG11.chg c12
          refine wp_put _ _ _ 46 rfl lawS Try.underlying46 hG12.2.1 rfl (goodS ky HP.out.2.2.2.2.1) rfl rfl ?_
          intro w13 hM13 c13
          try simp only [Act.put, List.getElem_toArray, List.getElem_cons_succ, List.getElem_cons_zero, List.setIfInBounds_toArray, List.set_cons_zero, List.set_cons_succ]
          refine wpAny_fin (by kernel_rfl) ?_ _
          have hc13 : Chg [] w w13 := (((hc1.nil c10).nil c11).nil c12).trans c13 (fun k hk => by simp at hk; right; omega)
          obtain ⟨f13, hG13⟩ := hG12.put (x := ⟨ky, ps, st⟩) HK.out (hs11.chg0 c12) hM13 c13
          clear hM13 c13 c12 hG12 hG11 c11 hs11 c10 hb1 hG1 hc1 hpp1 q0 y0 y1 y2
          go_wp2_with fail
          go_roundg (nl - (i + 1))
          case measure => have := HP.out.2.2.1; omega
          case rel =>
            obtain ⟨hts, hdup, hk1, hi, hb⟩ := HP.out
            have hmap : (L.take (i + 1)).map (·.1) = (L.take i).map (·.1) ++ [⟨ky, ps, st⟩] := by rw [hts]; simp
            refine ⟨i + 1, f13, by go_num, by omega, rfl, hc13, by rw [hmap]; exact hG13, ?_⟩
            show List.Nodup _
            rw [hmap, List.map_append, List.nodup_append]
            refine ⟨hnd, by simp, fun a ha b hb' e => ?_⟩
            obtain ⟨y, hy, rfl⟩ := List.mem_map.1 ha
            simp only [List.map_cons, List.map_nil, List.mem_singleton] at hb'
            rw [hb'] at e
            have : hasK ((L.take i).map (·.1)) ky = true := hasK_iff.2 ⟨y, hy, e⟩
            rw [HK.out] at this; cases this
      · have hin : i = nl := by omega
        subst hin
        have htk : L.take i = L := by rw [← HL.out, List.take_length]
        rw [htk] at hG hnd
        have t1 : decide ((i : Int) < (i : Int)) = false := decide_eq_false (by omega)
        clear hil hk1 hi htk
        go_wp2_with fail
        clear t1
        obtain ⟨w0, rfl⟩ : ∃ W, W = wr := ⟨_, rfl⟩
        have hc0 := Chg.refl [] w0
        go_loopg [7, 9, 11, 45] i (fun k (v7 v9 v11 v45 : Value) wr => ∃ (m : Nat) (lt : Bool), v7 = .bool lt ∧ v45 = .int .i64 (m : Int) ∧ m ≤ i ∧ k = i - m ∧ Chg [] w0 wr ∧ Hid (((((L.take m).map (·.1)).any fun x => x.parents.any fun p => !hasK (L.map (·.1)) p) = false) ∧ lt = ((L.take m).map (·.1)).any fun x => x.parents.any fun p => decide (x.stamp ≤ stampK (L.map (·.1)) p)))
        case atStart => exact ⟨0, false, rfl, rfl, by omega, by omega, hc0, by simp [Hid]⟩
        case round =>
          obtain ⟨m, lt, rfl, rfl, hm, hk2, hcx, HF⟩ := hrel
          clear hc0
          by_cases hml : m < i
          · have t1 : decide ((m : Int) < (i : Int)) = true := decide_eq_true (by omega)
            have hmL : m < L.length := by rw [HL.out]; exact hml
            have hib : (m : Int) ≤ 500 := by omega
            obtain ⟨g2, off2, cap2, aq, cq, hs, -, e2, x0, x1, x2, hcq⟩ := ((HH.out.chg hc).chg hcx).cells hmL
            injection hs with hs1 hs0 hs2
            subst hs1 hs2
            clear hs0
            have hb := hk _ (List.getElem_mem hmL)
            have hpp := ((HH.out.pars _ (List.getElem_mem hmL)).chg0 hc).chg0 hcx
            rw [e2] at hpp
            have hts := List.take_succ_eq_append_getElem hmL
            have hmem : L[m].1 ∈ L.map (·.1) := List.mem_map.2 ⟨_, List.getElem_mem hmL, rfl⟩
            have HP := Lib.hid (And.intro hts (And.intro hmem (And.intro hk2 (And.intro hm hb.2.2))))
            have hpsl := hb.2.1
            clear hts hk2 hm e2 hmem hb
            generalize L[m] = nd at *
            obtain ⟨⟨ky, ps, st⟩, pv⟩ := nd
            simp only at x0 x1 x2 hpp hcq hpsl
            have hbx : Blk (wr.alloc (.cells #[.string (str ky), .slice aq ps.length cq, .int .i64 st] 35)) wr.heap.size #[.string (str ky), .slice aq ps.length cq, .int .i64 st] 35 := Blk.new _ _ _
            have hcA : Chg [] w0 (wr.alloc (.cells #[.string (str ky), .slice aq ps.length cq, .int .i64 st] 35)) := hcx.alloc _
            have hpA := hpp.chg0 ((Chg.refl [] wr).alloc (.cells #[.string (str ky), .slice aq ps.length cq, .int .i64 st] 35))
            have HPL := Lib.hid (rfl : ps.length = ps.length)
            obtain ⟨B, HB⟩ : ∃ B, Hid (ps.length = B) := ⟨_, rfl⟩
            rw [HB.out] at x1 hcq hpsl hbx hcA hpA
            clear HPL hpp hcx
            go_wp2_with fail
            clear x0 x1 x2 t1
            obtain ⟨G, rfl⟩ : ∃ G, G = gk := ⟨_, rfl⟩
            generalize wr.alloc (.cells #[.string (str ky), .slice aq B cq, .int .i64 st] 35) = wA at *
            generalize wr.heap.size = K at *
            have hcI := Chg.refl [] wA
            go_loopg [7, 11, 52] B (fun k (v7 v11 v52 : Value) wr => ∃ (j : Nat) (l2 : Bool), v7 = .bool l2 ∧ v52 = .int .i64 (j : Int) ∧ j ≤ B ∧ k = B - j ∧ Chg [] wA wr ∧ Hid (((ps.take j).any fun p => !hasK (L.map (·.1)) p) = false ∧ l2 = (lt || (ps.take j).any fun p => decide (st ≤ stampK (L.map (·.1)) p))))
            case atStart => exact ⟨0, lt, rfl, rfl, by omega, by omega, hcI, by simp [Hid]⟩
            case round =>
              clear hcI
              obtain ⟨j, l2, rfl, rfl, hj, hk3, hcJ, HF2⟩ := hrel
              by_cases hjB : j < B
              · have r1 : decide ((j : Int) < (B : Int)) = true := decide_eq_true (by omega)
                have hjL : j < ps.length := by rw [HB.out]; exact hjB
                have hpA' : Sees wA 1 (.slice aq ps.length cq) ps.length (Sk ps) := by rw [HB.out]; exact hpA
                obtain ⟨g3, o3, rfl, hcell⟩ := Sk_cells (hpA'.chg0 hcJ) hjL
                have hts := List.take_succ_eq_append_getElem hjL
                have hjm := List.getElem_mem hjL
                have hpl := HP.out.2.2.2.2 _ hjm
                have hjb : (j : Int) ≤ 2097152 := by omega
                generalize ps[j] = pj at *
                have hc2 := hcA.nil hcJ
                have kh := has_any (p := w.heap.size + 1) (g := L.map (·.1)) ⟨_, f, hG.chg hc2⟩ pj hpl
                obtain ⟨ks, aa, na, ca, hlq⟩ := hG.stamp hnd pj hpl
                have HQ := Lib.hid (And.intro hts (And.intro hjm (And.intro hk3 hj)))
                clear hts hjm hk3 hj hpA'
                cases hK : hasK (L.map (·.1)) pj with
                | false =>
                  rw [hK] at kh
                  have hE6 : E = 6 := by
                    rw [← HE.out]
                    unfold newE
                    rw [if_neg HE1.out, if_neg (not_not_intro hnd.out), if_pos]
                    exact List.any_eq_true.2 ⟨_, HP.out.2.1, List.any_eq_true.2 ⟨pj, HQ.out.2.1, by rw [hK]; rfl⟩⟩
                  subst hE6
                  clear hK HP HQ hk hlq hpA
                  go_wp2_with (go_at_call 13; refine kh.mono ?_; rintro e w1 ⟨rfl, c1⟩)
                  go_ret2
                  exact ⟨(hc.nil hc2).nil c1, .inr ⟨by decide, rfl⟩⟩
                | true =>
                  rw [hK] at kh
                  have HK := Lib.hid hK
                  clear hK
                  cases l2 with
                  | true =>
                    go_upto_region 20 with (go_at_call 13; refine kh.mono ?_; rintro e w1 ⟨rfl, c1⟩)
                    have hcJ1 := hcJ.nil c1
                    clear kh hlq hcell hpA
                    go_quiet (fail)
                    go_wp2_with fail
                    go_roundg (B - (j + 1))
                    case measure => have := HQ.out.2.2.1; omega
                    case rel =>
                      obtain ⟨hts, hjm, hk3, hj⟩ := HQ.out
                      refine ⟨j + 1, true, rfl, by go_num, by omega, rfl, hcJ1.drewN nq, ?_⟩
                      show _ ∧ _
                      rw [hts, List.any_append, List.any_append, ← Bool.or_assoc, ← HF2.out.2, HF2.out.1]
                      exact ⟨by simp [HK.out], by simp⟩
                  | false =>
                    have y2' : wr.cell? ⟨K, 2, none⟩ = some (.int .i64 st) := (hbx.chg0 hcJ).cell 2
                    have q0' : wr.cell? ⟨w.heap.size + 1, 0, none⟩ = some (.map (some w.heap.size)) := (hG.chg hc2).1.c1.1
                    go_upto_region 20 with (go_at_call 13; refine kh.mono ?_; rintro e w1 ⟨rfl, c1⟩)
                    have hcJ1 := hcJ.nil c1
                    have hc3 := hc2.nil c1
                    have y2 := c1.cell_some y2' (by simp)
                    have q0 := c1.cell_some q0' (by simp)
                    clear kh hcell hpA y2' q0' c1
                    obtain ⟨X, hne, F, x0, hF0, hF, hX⟩ := fam0 w1
                    have z0 := fun x => (hF x).cell_some q0 (by simp)
                    have z2 := fun x => (hF x).cell_some y2 (by simp)
                    have la := fun x => hlq (F x) (hc3.nil (hF x))
                    have f2 := fun x => fld2 ks aa na ca (stampK (L.map (·.1)) pj) (F x)
                    clear hlq y2 q0
                    obtain ⟨sp, hsp⟩ : ∃ sp, Hid (stampK (L.map (·.1)) pj = sp) := ⟨_, rfl⟩
                    rw [hsp.out] at la f2
                    refine wp_fam F (by kernel_rfl) (by kernel_rfl) x0 hF0 ?_
                    repeat (go_big_quiet_step (fail))
                    refine wpQuiet_nil ?_
                    rintro w' ⟨x1, rfl⟩
                    have hcF := hF x1
                    clear z0 z2 la f2
                    go_wp2_with fail
                    go_roundg (B - (j + 1))
                    case measure => have := HQ.out.2.2.1; omega
                    case rel =>
                      obtain ⟨hts, hjm, hk3, hj⟩ := HQ.out
                      refine ⟨j + 1, decide (st ≤ sp), rfl, by go_num, by omega, rfl, hcJ1.nil hcF, ?_⟩
                      show _ ∧ _
                      rw [hts, List.any_append, List.any_append, ← Bool.or_assoc, ← HF2.out.2, HF2.out.1, ← hsp.out]
                      exact ⟨by simp [HK.out], by simp⟩
              · have hjj : j = B := by omega
                subst hjj
                have r1 : decide ((j : Int) < (j : Int)) = false := decide_eq_false (by omega)
                have HJ := Lib.hid (And.intro hcJ hcA)
                clear hjB hk3 hj hpA hk hcJ hcA
                go_wp2_with fail
                go_roundg (i - (m + 1))
                case measure => have := HP.out.2.2.1; omega
                case rel =>
                  obtain ⟨hts, hmem, hk2, hm, -⟩ := HP.out
                  have hmap : (L.take (m + 1)).map (·.1) = (L.take m).map (·.1) ++ [⟨ky, ps, st⟩] := by rw [hts]; simp
                  have htk : ps.take j = ps := by rw [← HB.out, List.take_length]
                  have h2 := HF2.out
                  rw [htk] at h2
                  refine ⟨m + 1, l2, rfl, by go_num, by omega, rfl, HJ.out.2.nil HJ.out.1, ?_⟩
                  show _ ∧ _
                  rw [hmap, List.any_append, List.any_append, ← HF.out.2, HF.out.1]
                  simp only [List.any_cons, List.any_nil, Bool.or_false, Bool.false_or]
                  exact h2
          · have hin : m = i := by omega
            subst hin
            have htk : L.take m = L := by rw [← HL.out, List.take_length]
            have hf := HF.out
            rw [htk] at hf
            have t1 : decide ((m : Int) < (m : Int)) = false := decide_eq_false (by omega)
            have hEE : E = if lt = true then 1 else 0 := by
              rw [← HE.out]
              unfold newE
              rw [if_neg HE1.out, if_neg (not_not_intro hnd.out), if_neg (by rw [hf.1]; decide), hf.2]
              rfl
            clear hm hk2 hk htk hf
            cases lt with
            | true =>
              have h1 : E = 1 := hEE
              subst h1
              clear hEE
              go_wp2_with fail
              go_ret2
              exact ⟨hc.nil hcx, rfl⟩
            | false =>
              have h1 : E = 0 := hEE
              subst h1
              clear hEE
              go_wp2_with fail
              go_ret2
              exact ⟨hc.nil hcx, _, rfl, ⟨_, f, hG.chg hcx⟩⟩
end Go.Proofs.Ytphmplbcegibjaa
