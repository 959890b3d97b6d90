/- What is made of the nodes (aqulaw22.graph): both graphs. No statement of the seat is proved here. -/
import Derived.Test.YtphmplbcegibjaaRgF
import Derived.Test.YtphmplbcegibjaaDgP
set_option linter.unusedVariables false
set_option linter.unusedSimpArgs false
namespace Go.Proofs.Ytphmplbcegibjaa
open Go.RowKit Go.Aq Go.Aq.Dg Go.Maps Go.Aq.So

theorem results_tmp4 {fn : Func} {t u v x : Tmp} (h : fn.results = #[.tmp t, .tmp u, .tmp v, .tmp x]) (tmps : Array Value) (P : Program) (w : World) :
    (results fn tmps).run P w = .ok (.tuple #[tmps.getD t undef, tmps.getD u undef, tmps.getD v undef, tmps.getD x undef]) w := by
  simp [results, h]
theorem sl_RN : SliceTy Try.prog 60 61 zN 3 48 := ⟨Try.underlying60, by kernel_rfl, rfl, by decide⟩
theorem own_disj {w : World} {e e' : TypeId} {size size' : Nat} {v v' : Value} {n n' : Nat} {xs xs' : List Value} (h : Own w e size v n xs) (k : Own w e' size' v' n' xs') (hne : e ≠ e') : Disj v.ownBlock.toList v'.ownBlock.toList := fun i hi hj => by
  rcases k.2 with ⟨rfl, _⟩ | ⟨g, cap, cur, rfl, _, hg, _⟩
  · simp [Value.ownBlock] at hj
  · simp [Value.ownBlock] at hj
    subst hj
    exact h.ne (show Blk w i cur e' from hg) hne hi

set_option maxRecDepth 100000 in
theorem copyTexts_any (w : World) (v : Value) (l : List (List UInt8)) (hv : Sees w 1 v l.length (Sk l)) (hl : l.length ≤ 8388608) :
    Calls Try.prog 32 #[v] w fun e w' => ∃ v', e = .returned v' ∧ Fresh w w' 9 1 v' l.length (Sk l) := by
  obtain ⟨ao, cap, rfl, hcap, -⟩ := hv.shape
  have hv1 := hv.chg0 ((Chg.refl [] w).alloc (.cells #[] 9))
  have hF : Fresh w (w.alloc (.cells #[] 9)) 9 1 (.slice (some ⟨w.heap.size, 0, none⟩) 0 0) 0 [] := ⟨Own.made w _ 1, (Chg.refl [] w).alloc _, by simp [Value.ownBlock]⟩
  have HL := Lib.hid hl
  clear hv hl
  generalize hn : l.length = n at *
  go_enter Try.func32, Try.ntmps32
  go_wp2_with (first
    | (refine wpList_appF (w0 := w) rfl _ _ 30 rfl sl_S (v := .slice (some ⟨w.heap.size, 0, none⟩) 0 0) (n := 0) (xs := []) (by exact hF) rfl (vx := .slice ao n cap) (m := n) (news := Sk l) (by exact hv1) rfl (by exact Sk_one l) (by have := HL.out; omega) (by have := HL.out; omega) ?_; intro v6 w6 hF6 c6)
    | fail)
  go_ret
  refine ⟨_, rfl, ?_⟩
  rw [Nat.zero_add, List.nil_append] at hF6
  exact hF6

/-- Nodes that were copied: a list of its own, and each node's parents. -/
structure NodesO (w0 w : World) (v : Value) (L : List (NodeD × Value)) : Prop where
  fr : Fresh w0 w 61 3 v L.length (L.flatMap ndC)
  pars : ∀ q ∈ L, Own w 9 1 q.2 q.1.parents.length (Sk q.1.parents)
theorem NodesO.nil (w : World) : NodesO w w (.slice none 0 0) [] := ⟨Fresh.nil _ _ _, fun q hq => by cases hq⟩
theorem NodesO.to {w0 w w' : World} {v : Value} {L : List (NodeD × Value)} (h : NodesO w0 w v L) (c : Chg [] w w') : NodesO w0 w' v L := ⟨h.fr.to c, fun q hq => (h.pars q hq).chg c fun _ _ => by simp⟩
theorem NodesO.sees {w0 w : World} {v : Value} {L : List (NodeD × Value)} (h : NodesO w0 w v L) : NodesR w v L := ⟨h.fr.own.sees, fun q hq => (h.pars q hq).sees⟩
theorem NodesO.app {w0 w w' : World} {v v' : Value} {L : List (NodeD × Value)} {q : NodeD × Value} (h : NodesO w0 w v L) (hq : Own w 9 1 q.2 q.1.parents.length (Sk q.1.parents))
    (o : Own w' 61 3 v' (L.length + 1) (L.flatMap ndC ++ ndC q)) (c : Chg v.ownBlock.toList w w') (n : ∀ k ∈ v'.ownBlock.toList, k ∈ v.ownBlock.toList ∨ w.heap.size ≤ k) : NodesO w0 w' v' (L ++ [q]) := by
  have hall : ∀ p ∈ L ++ [q], Own w 9 1 p.2 p.1.parents.length (Sk p.1.parents) := fun p hp => (List.mem_append.1 hp).elim (h.pars p) fun hp => by rw [List.mem_singleton.1 hp]; exact hq
  refine ⟨?_, fun p hp => (hall p hp).chg c (own_disj (hall p hp) h.fr.own (by decide))⟩
  rw [List.length_append, List.flatMap_append]
  have := h.fr.app o c n
  simpa using this

set_option maxHeartbeats 2000000 in
set_option maxRecDepth 100000 in
theorem graph_any (w : World) (v : Value) (L : List (NodeD × Value)) (h : NodesR w v L) (hl : L.length ≤ 2097152) (hk : ∀ q ∈ L, q.1.key.length ≤ 1048576 ∧ q.1.parents.length ≤ 2097152 ∧ ∀ p ∈ q.1.parents, p.length ≤ 1048576) :
    Calls Try.prog 17 #[v] w fun e w' => ∃ L2 : List (NodeD × Value), L2.map (·.1) = L.map (·.1) ∧ Chg [] w w' ∧ ((newE (L.map (·.1)) = 0 ∧ ∃ p1 p2, e = .returned (.tuple #[.pointer (some ⟨p1, 0, none⟩), .pointer (some ⟨p2, 0, none⟩), .int .i64 0, .int .i64 0]) ∧ GraphR w' p1 (L.map (·.1)) ∧ RefG w' p2 L2) ∨
      (newE (L.map (·.1)) ≠ 0 ∧ e = .returned (.tuple #[.pointer none, .pointer none, .int .i64 (newE (L.map (·.1))), .int .i64 (newE (L.map (·.1)))]))) := by
  obtain ⟨n, HN⟩ : ∃ n, Hid (L.length = n) := ⟨_, rfl⟩
  obtain ⟨E, hE⟩ : ∃ E, E = newE (L.map (·.1)) := ⟨_, rfl⟩
  rw [← hE]
  have HE := Lib.hid hE
  clear hE
  obtain ⟨ao, cap, rfl, hcap, hno⟩ := h.sees.shape
  rw [show L.length = n from HN.out] at hcap hno h ⊢
  have HH := Lib.hid (And.intro h (And.intro hl hk))
  have hNA := fun i (hi : i < L.length) => node_at h HN.out hi
  have HNA := Lib.hid hNA
  clear h hl hk hno hNA
  go_enter Try.func17, Try.ntmps17
  go_wp2_with fail
  go_loopg [6, 7] n (fun gk (v6 v7 : Value) wr => ∃ (i : Nat) (L2 : List (NodeD × Value)), v7 = .int .i64 (i : Int) ∧ i + gk = n ∧ L2.map (·.1) = (L.take i).map (·.1) ∧ NodesO w wr v6 L2)
  case atStart => exact ⟨0, [], rfl, by omega, by simp, NodesO.nil _⟩
  case round =>
    obtain ⟨i, L2, rfl, hik, hL2, hO⟩ := hrel
    by_cases hin : i < n
    · have t1 : decide ((i : Int) < (n : Int)) = true := decide_eq_true (by omega)
      have t1' : decide (i < n) = true := decide_eq_true hin
      have hil : i < L.length := by rw [HN.out]; exact hin
      obtain ⟨g1, off1, aq, cq, rfl, hcc⟩ := HNA.out i hil
      obtain ⟨ao6, c6, rfl, hc6⟩ := hO.fr.shape
      have hln : L2.length = i := by
        have := congrArg List.length hL2
        rw [List.length_map, List.length_map, List.length_take] at this; omega
      have hcw := hO.fr.chg
      have htk : (L.take (i + 1)).map (·.1) = (L.take i).map (·.1) ++ [L[i].1] := by rw [List.take_succ_eq_append_getElem hil, List.map_append]; rfl
      have hpl : L[i].1.parents.length ≤ 2097152 := (HH.out.2.2 _ (List.getElem_mem hil)).2.1
      have hpp := HH.out.1.pars _ (List.getElem_mem hil)
      obtain ⟨g', off', cap', aq', cq', hs', -, e2', x0', x1', -, -⟩ := HH.out.1.cells (i := i) hil
      injection hs' with hs1' hs2' hs6'
      injection hs1' with hs3
      injection hs3 with hs4 hs5
      subst hs4 hs5
      have hx1 := (hcc w (Chg.refl _ _)).2.1
      rw [hx1] at x1'
      injection x1' with x1'
      rw [e2', ← x1'] at hpp
      have hccs : ∀ W, Chg [] w W → W.cell? ⟨g1, off1 + i * 3, none⟩ = some (.string (str L[i].1.key)) ∧ W.cell? ⟨g1, off1 + i * 3 + 1, none⟩ = some (.slice aq L[i].1.parents.length cq) ∧ W.cell? ⟨g1, off1 + i * 3 + 2, none⟩ = some (.int .i64 L[i].1.stamp) := fun W c => ⟨(hcc W c).1, (hcc W c).2.1, (hcc W c).2.2.1⟩
      have w3 : wrap64 ((i : Int) + 1) = ((i + 1 : Nat) : Int) := by have := HH.out.2.1; have := HN.out; unfold wrap64; omega
      have i1 : (0 : Int) ≤ (i : Int) := by omega
      have i2 : (i : Int) < n := by omega
      have HI := Lib.hid (And.intro hik (And.intro hL2 (And.intro htk hln)))
      have hnl : L2.length ≤ 2097152 := by have := HH.out.2.1; have := HN.out; omega
      clear hik hL2 htk hln hcc x0' hx1 x1' e2' hs2' hs6'
      generalize L[i].1 = nd at *
      obtain ⟨ky, ps, stp⟩ := nd
      simp only at hccs hpp hpl
      have hb3 : (L2.length + 1) * 48 ≤ 140737488355328 := by omega
      have hb4 : L2.length + 1 ≤ 9223372036854775807 := by omega
      generalize hL2l : L2.length = m2 at *
      go_upto_region 5 with (fail)
      have hO0 := hO.to ((Chg.refl [] wr).drew)
      have hcc0 : ∀ W, Chg (Value.slice ao6 m2 c6).ownBlock.toList wr.drew W → Chg [] w W := fun W c => hO0.fr.chg.trans c fun i hi => .inr (hO0.fr.new i hi)
      have c0 : Chg (Value.slice ao6 m2 c6).ownBlock.toList wr.drew wr.drew := Chg.refl _ _
      refine wp_region_E (Value.slice ao6 m2 c6).ownBlock.toList (by kernel_rfl) ?_
      refine wpAnyE_take 0 (v := (.slice ao6 m2 c6)) c0 rfl (by kernel_rfl) (by kernel_rfl) (by kernel_rfl) (fun _ _ _ h => h) (by rfl) (fun w4 c4 => ?_) ?_
      · go_simp
      try simp only [Act.put, List.getElem_toArray, List.getElem_cons_succ, List.getElem_cons_zero, List.setIfInBounds_toArray, List.set_cons_zero, List.set_cons_succ]
      refine wpAnyE_take 1 (v := (.slice (some ⟨g1, off1, none⟩) n cap)) c0 rfl (by kernel_rfl) (by kernel_rfl) (by kernel_rfl) (fun _ _ _ h => h) (by rfl) (fun w4 c4 => ?_) ?_
      · go_simp
      try simp only [Act.put, List.getElem_toArray, List.getElem_cons_succ, List.getElem_cons_zero, List.setIfInBounds_toArray, List.set_cons_zero, List.set_cons_succ]
      refine wpAnyE_take 2 (v := (.int .i64 (i : Int))) c0 rfl (by kernel_rfl) (by kernel_rfl) (by kernel_rfl) (fun _ _ _ h => h) (by rfl) (fun w4 c4 => ?_) ?_
      · go_simp
      try simp only [Act.put, List.getElem_toArray, List.getElem_cons_succ, List.getElem_cons_zero, List.setIfInBounds_toArray, List.set_cons_zero, List.set_cons_succ]
      refine wpAnyE_take 3 (v := (.pointer (some ⟨g1, off1 + i * 3, none⟩))) c0 rfl (by kernel_rfl) (by kernel_rfl) (by kernel_rfl) (fun _ _ _ h => h) (by rfl) (fun w4 c4 => ?_) ?_
      · obtain ⟨z0, z1, z2⟩ := hccs w4 (hcc0 w4 c4)
        go_simp
      try simp only [Act.put, List.getElem_toArray, List.getElem_cons_succ, List.getElem_cons_zero, List.setIfInBounds_toArray, List.set_cons_zero, List.set_cons_succ]
      refine wpAnyE_take 4 (v := (.pointer (some ⟨g1, off1 + i * 3, none⟩))) c0 rfl (by kernel_rfl) (by kernel_rfl) (by kernel_rfl) (fun _ _ _ h => h) (by rfl) (fun w4 c4 => ?_) ?_
      · obtain ⟨z0, z1, z2⟩ := hccs w4 (hcc0 w4 c4)
        go_simp
      try simp only [Act.put, List.getElem_toArray, List.getElem_cons_succ, List.getElem_cons_zero, List.setIfInBounds_toArray, List.set_cons_zero, List.set_cons_succ]
      refine wpAnyE_take 5 (v := (.string (str ky))) c0 rfl (by kernel_rfl) (by kernel_rfl) (by kernel_rfl) (fun _ _ _ h => h) (by rfl) (fun w4 c4 => ?_) ?_
      · obtain ⟨z0, z1, z2⟩ := hccs w4 (hcc0 w4 c4)
        go_simp
      try simp only [Act.put, List.getElem_toArray, List.getElem_cons_succ, List.getElem_cons_zero, List.setIfInBounds_toArray, List.set_cons_zero, List.set_cons_succ]
      refine wpAnyE_take 6 (v := (.slice (some ⟨g1, off1, none⟩) n cap)) c0 rfl (by kernel_rfl) (by kernel_rfl) (by kernel_rfl) (fun _ _ _ h => h) (by rfl) (fun w4 c4 => ?_) ?_
      · go_simp
      try simp only [Act.put, List.getElem_toArray, List.getElem_cons_succ, List.getElem_cons_zero, List.setIfInBounds_toArray, List.set_cons_zero, List.set_cons_succ]
      refine wpAnyE_take 7 (v := (.int .i64 (i : Int))) c0 rfl (by kernel_rfl) (by kernel_rfl) (by kernel_rfl) (fun _ _ _ h => h) (by rfl) (fun w4 c4 => ?_) ?_
      · go_simp
      try simp only [Act.put, List.getElem_toArray, List.getElem_cons_succ, List.getElem_cons_zero, List.setIfInBounds_toArray, List.set_cons_zero, List.set_cons_succ]
      refine wpAnyE_take 8 (v := (.pointer (some ⟨g1, off1 + i * 3, none⟩))) c0 rfl (by kernel_rfl) (by kernel_rfl) (by kernel_rfl) (fun _ _ _ h => h) (by rfl) (fun w4 c4 => ?_) ?_
      · obtain ⟨z0, z1, z2⟩ := hccs w4 (hcc0 w4 c4)
        go_simp
      try simp only [Act.put, List.getElem_toArray, List.getElem_cons_succ, List.getElem_cons_zero, List.setIfInBounds_toArray, List.set_cons_zero, List.set_cons_succ]
      refine wpAnyE_take 9 (v := (.pointer (some ⟨g1, off1 + i * 3 + 1, none⟩))) c0 rfl (by kernel_rfl) (by kernel_rfl) (by kernel_rfl) (fun _ _ _ h => h) (by rfl) (fun w4 c4 => ?_) ?_
      · obtain ⟨z0, z1, z2⟩ := hccs w4 (hcc0 w4 c4)
        go_simp
      try simp only [Act.put, List.getElem_toArray, List.getElem_cons_succ, List.getElem_cons_zero, List.setIfInBounds_toArray, List.set_cons_zero, List.set_cons_succ]
      refine wpAnyE_take 10 (v := (.slice aq ps.length cq)) c0 rfl (by kernel_rfl) (by kernel_rfl) (by kernel_rfl) (fun _ _ _ h => h) (by rfl) (fun w4 c4 => ?_) ?_
      · obtain ⟨z0, z1, z2⟩ := hccs w4 (hcc0 w4 c4)
        go_simp
      try simp only [Act.put, List.getElem_toArray, List.getElem_cons_succ, List.getElem_cons_zero, List.setIfInBounds_toArray, List.set_cons_zero, List.set_cons_succ]
      refine wpAnyE_take 12 (v := (.slice (some ⟨g1, off1, none⟩) n cap)) c0 rfl (by kernel_rfl) (by kernel_rfl) (by kernel_rfl) (fun _ _ _ h => h) (by rfl) (fun w4 c4 => ?_) ?_
      · go_simp
      try simp only [Act.put, List.getElem_toArray, List.getElem_cons_succ, List.getElem_cons_zero, List.setIfInBounds_toArray, List.set_cons_zero, List.set_cons_succ]
      refine wpAnyE_take 13 (v := (.int .i64 (i : Int))) c0 rfl (by kernel_rfl) (by kernel_rfl) (by kernel_rfl) (fun _ _ _ h => h) (by rfl) (fun w4 c4 => ?_) ?_
      · go_simp
      try simp only [Act.put, List.getElem_toArray, List.getElem_cons_succ, List.getElem_cons_zero, List.setIfInBounds_toArray, List.set_cons_zero, List.set_cons_succ]
      refine wpAnyE_take 14 (v := (.pointer (some ⟨g1, off1 + i * 3, none⟩))) c0 rfl (by kernel_rfl) (by kernel_rfl) (by kernel_rfl) (fun _ _ _ h => h) (by rfl) (fun w4 c4 => ?_) ?_
      · obtain ⟨z0, z1, z2⟩ := hccs w4 (hcc0 w4 c4)
        go_simp
      try simp only [Act.put, List.getElem_toArray, List.getElem_cons_succ, List.getElem_cons_zero, List.setIfInBounds_toArray, List.set_cons_zero, List.set_cons_succ]
      refine wpAnyE_take 15 (v := (.pointer (some ⟨g1, off1 + i * 3 + 2, none⟩))) c0 rfl (by kernel_rfl) (by kernel_rfl) (by kernel_rfl) (fun _ _ _ h => h) (by rfl) (fun w4 c4 => ?_) ?_
      · obtain ⟨z0, z1, z2⟩ := hccs w4 (hcc0 w4 c4)
        go_simp
      try simp only [Act.put, List.getElem_toArray, List.getElem_cons_succ, List.getElem_cons_zero, List.setIfInBounds_toArray, List.set_cons_zero, List.set_cons_succ]
      refine wpAnyE_take 16 (v := (.int .i64 stp)) c0 rfl (by kernel_rfl) (by kernel_rfl) (by kernel_rfl) (fun _ _ _ h => h) (by rfl) (fun w4 c4 => ?_) ?_
      · obtain ⟨z0, z1, z2⟩ := hccs w4 (hcc0 w4 c4)
        go_simp
      try simp only [Act.put, List.getElem_toArray, List.getElem_cons_succ, List.getElem_cons_zero, List.setIfInBounds_toArray, List.set_cons_zero, List.set_cons_succ]
      refine wpAnyE_only 11 rfl (by kernel_rfl) (by rfl) ?_
      go_simp
      refine (copyTexts_any wr.drew _ ps (hpp.chg0 (hcc0 _ c0)) (by omega)).mono ?_
      rintro e w11 ⟨v11', rfl, hF11⟩
      obtain ⟨a11, p11, rfl, -⟩ := hF11.shape
      have c11 := c0.nil hF11.chg
      have hO11 := hO0.to hF11.chg
      have hP11 := hF11.own
      refine ⟨c11, ?_⟩
      try simp only [Act.put, List.getElem_toArray, List.getElem_cons_succ, List.getElem_cons_zero, List.setIfInBounds_toArray, List.set_cons_zero, List.set_cons_succ]
      refine wpAnyE_take 17 (v := (.agg #[.string (str ky), .slice a11 ps.length p11, .int .i64 stp])) c11 rfl (by kernel_rfl) (by kernel_rfl) (by kernel_rfl) (fun _ _ _ h => h) (by rfl) (fun w4 c4 => ?_) ?_
      · go_simp
      try simp only [Act.put, List.getElem_toArray, List.getElem_cons_succ, List.getElem_cons_zero, List.setIfInBounds_toArray, List.set_cons_zero, List.set_cons_succ]
      refine wpAnyE_only 18 rfl (by kernel_rfl) (by rfl) ?_
      have hb : Blk (w11.alloc (.cells #[.string (str ky), (.slice a11 ps.length p11), .int .i64 stp] 61)) w11.heap.size #[.string (str ky), (.slice a11 ps.length p11), .int .i64 stp] 61 := Blk.new _ _ _
      have cB : Chg [] w11 (w11.alloc (.cells #[.string (str ky), (.slice a11 ps.length p11), .int .i64 stp] 61)) := (Chg.refl [] w11).alloc _
      go_simp
      have c18 := c11.nil cB
      have hO18 := hO11.to cB
      have hP18 := hP11.chg cB (fun _ _ => by simp)
      refine ⟨c18, ?_⟩
      have hs1 : Sees (w11.alloc (.cells #[.string (str ky), (.slice a11 ps.length p11), .int .i64 stp] 61)) 3 (.slice (some ⟨w11.heap.size, 0, none⟩) 1 1) 1 (ndC (⟨ky, ps, stp⟩, (.slice a11 ps.length p11))) := Sees.blk hb
      generalize w11.heap.size = KK at *
      generalize w11.alloc (.cells #[.string (str ky), (.slice a11 ps.length p11), .int .i64 stp] 61) = w18 at *
      clear cB hb
      try simp only [Act.put, List.getElem_toArray, List.getElem_cons_succ, List.getElem_cons_zero, List.setIfInBounds_toArray, List.set_cons_zero, List.set_cons_succ]
      refine wpAnyE_only 19 rfl (by kernel_rfl) (by rfl) ?_
      refine wp_app _ _ 60 (by rfl) sl_RN (v := (.slice ao6 m2 c6)) (n := m2) (xs := L2.flatMap ndC) (by have := hO18.fr.own; rw [hL2l] at this; exact this) (by rfl) (vx := (.slice (some ⟨KK, 0, none⟩) 1 1)) (m := 1) (news := ndC (⟨ky, ps, stp⟩, (.slice a11 ps.length p11))) hs1 (by rfl) (by intro u hu; simp [ndC] at hu; rcases hu with rfl | rfl | rfl <;> rfl) hb3 hb4 ?_
      intro v19 w19 o19 e19 n19
      have c19 : Chg (Value.slice ao6 m2 c6).ownBlock.toList wr.drew w19 := c18.tr e19
      have hO19 : NodesO w w19 v19 (L2 ++ [(⟨ky, ps, stp⟩, (.slice a11 ps.length p11))]) := hO18.app hP18 (by rw [hL2l]; exact o19) e19 n19
      clear o19 e19 n19
      refine ⟨c19, ?_⟩
      try simp only [Act.put, List.getElem_toArray, List.getElem_cons_succ, List.getElem_cons_zero, List.setIfInBounds_toArray, List.set_cons_zero, List.set_cons_succ]
      refine wpAnyE_take 20 (v := v19) c19 rfl (by kernel_rfl) (by kernel_rfl) (by kernel_rfl) (fun _ _ _ h => h) (by rfl) (fun w4 c4 => ?_) ?_
      · go_simp
      try simp only [Act.put, List.getElem_toArray, List.getElem_cons_succ, List.getElem_cons_zero, List.setIfInBounds_toArray, List.set_cons_zero, List.set_cons_succ]
      refine wpAnyE_done (by kernel_rfl) ?_ _
      go_wp2_with fail
      obtain ⟨hik, hL2, htk, hln⟩ := HI.out
      go_roundg (gk - 1)
      case measure => omega
      case rel => exact ⟨i + 1, L2 ++ [(⟨ky, ps, stp⟩, (.slice a11 ps.length p11))], by first | rfl | rw [w3], by omega, by rw [htk, ← hL2, List.map_append]; rfl, hO19⟩
    · have t1 : decide ((i : Int) < (n : Int)) = false := decide_eq_false (by omega)
      have t1' : decide (i < n) = false := decide_eq_false hin
      obtain rfl : i = n := by omega
      have htk : L.take i = L := by rw [← HN.out, List.take_length]
      rw [htk] at hL2
      obtain ⟨ao6, c6, rfl, hc6⟩ := hO.fr.shape
      have kn1 := new_any wr _ L (HH.out.1.chg hO.fr.chg) HH.out.2.1 HH.out.2.2
      have h2l : L2.length ≤ 2097152 := by
        have := congrArg List.length hL2
        rw [List.length_map, List.length_map] at this
        rw [this]; exact HH.out.2.1
      have h2k : ∀ q ∈ L2, q.1.parents.length ≤ 2097152 := fun q hq => by
        have h1 : q.1 ∈ L2.map (·.1) := List.mem_map.2 ⟨q, hq, rfl⟩
        rw [hL2] at h1
        obtain ⟨q', hq', e⟩ := List.mem_map.1 h1
        have := (HH.out.2.2 q' hq').2.1
        rw [e] at this; exact this
      have hc := hO.fr.chg
      have HO := Lib.hid hO
      have kn2 := fun W (c : Chg [] wr W) => rnew_any W _ L2 (HO.out.to c).sees h2l h2k
      rw [hL2, ← HE.out] at kn2
      rw [← HE.out] at kn1
      have HI := Lib.hid (And.intro hL2 hc)
      clear hik hL2 htk hO h2l h2k hc
      generalize L2.length = m2 at *
      go_wp2_with fail
      refine kn1.mono ?_
      clear kn1
      rintro e w1 ⟨c1, ⟨hE0, p1, rfl, hG1⟩ | ⟨hE0, rfl⟩⟩
      · have kn2 := kn2 w1 c1
        have HE0 := Lib.hid hE0
        have HG1 := Lib.hid hG1
        clear hE0 hG1
        go_wp2_with fail
        refine kn2.mono ?_
        clear kn2
        rintro e w2 ⟨c2, ⟨-, p2, rfl, hG2⟩ | ⟨hE1, rfl⟩⟩
        · have HG2 := Lib.hid hG2
          clear hG2
          go_wp2_with fail
          (try simp only [Exit.inBlock, Exit.then])
          refine bodyPost_ret (results_tmp4 rfl _ _ _) rfl ?_
          exact ⟨L2, HI.out.1, (HI.out.2.nil c1).nil c2, .inl ⟨HE0.out, p1, p2, rfl, HG1.out.chg c2, HG2.out⟩⟩
        · exact absurd HE0.out hE1
      · have kn2 := kn2 w1 c1
        have HE0 := Lib.hid hE0
        clear hE0
        go_wp2_with fail
        refine kn2.mono ?_
        clear kn2
        rintro e w2 ⟨c2, ⟨hE1, p2, rfl, hG2⟩ | ⟨hE1, rfl⟩⟩
        · exact absurd hE1 HE0.out
        · clear hE1
          go_wp2_with fail
          (try simp only [Exit.inBlock, Exit.then])
          refine bodyPost_ret (results_tmp4 rfl _ _ _) rfl ?_
          exact ⟨L2, HI.out.1, (HI.out.2.nil c1).nil c2, .inr ⟨HE0.out, rfl⟩⟩
end Go.Proofs.Ytphmplbcegibjaa
