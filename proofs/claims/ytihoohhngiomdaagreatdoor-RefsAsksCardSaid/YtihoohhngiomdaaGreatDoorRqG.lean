/- The document's refs: SetRef. No statement of the seat is proved here. -/
import Derived.Test.YtihoohhngiomdaaGreatDoorRqF
import Derived.Test.YtihoohhngiomdaaGreatDoorTakeAll
set_option linter.unusedVariables false
set_option linter.unusedSimpArgs false
namespace Go.Proofs.YtihoohhngiomdaaGreatDoor
open Go.RowKit Go.Aq Go.Aq.Wd
theorem sees_none (w : World) : Sees w 3 (.slice none 0 0) 0 (Rfs []) := Sees.nil _ _
theorem rfs_drop (l : List RefD) (i : Nat) (h : i ≤ l.length) : Rfs (l.drop i) = (Rfs l).drop (i * 3) := by
  have e := List.take_append_drop i l
  conv => rhs; rw [← e, Rfs_app]
  have hl : (Rfs (l.take i)).length = i * 3 := by rw [Rfs_len, List.length_take]; omega
  rw [← hl, List.drop_left]
theorem sees_take {w : World} {g n cap i : Nat} {d : List RefD} (h : Sees w 3 (.slice (some ⟨g, 0, none⟩) n cap) n (Rfs d)) (hd : d.length = n) (hi : i ≤ n) : Sees w 3 (.slice (some ⟨g, 0, none⟩) i cap) i (Rfs (d.take i)) := by
  obtain ⟨h1, ao, cp, h2, h3, -, h4⟩ := h
  injection h2 with e1 e2 e3
  subst e1 e3
  refine ⟨by rw [Rfs_len, List.length_take]; omega, _, _, rfl, by omega, by simp, fun ad had j u hu => h4 ad had j u ?_⟩
  rw [Rfs_take d i (by omega), List.getElem?_take] at hu
  split at hu
  · exact hu
  · cases hu
theorem sees_drop {w : World} {g n cap i : Nat} {d : List RefD} (h : Sees w 3 (.slice (some ⟨g, 0, none⟩) n cap) n (Rfs d)) (hd : d.length = n) (hi : i ≤ n) : Sees w 3 (.slice (some ⟨g, i * 3, none⟩) (n - i) (cap - i)) (n - i) (Rfs (d.drop i)) := by
  obtain ⟨h1, ao, cp, h2, h3, -, h4⟩ := h
  injection h2 with e1 e2 e3
  subst e1 e3
  refine ⟨by rw [Rfs_len, List.length_drop, hd], _, _, rfl, by omega, by simp, fun ad had j u hu => ?_⟩
  rw [rfs_drop d i (by omega), List.getElem?_drop] at hu
  have h5 := h4 _ rfl (i * 3 + j) u hu
  simp only [Option.some.injEq] at had
  subst had
  rw [Addr.add_lit] at h5 ⊢
  rw [Nat.zero_add] at h5
  exact h5
set_option maxRecDepth 100000 in
set_option maxHeartbeats 16000000 in
theorem rset_any (w : World) (v : Value) (l : List RefD) (r : RefD) (hv : Sees w 3 v l.length (Rfs l)) (hl : l.length ≤ 1000000) :
    Calls Tryz.prog 20 #[v, rfV r] w fun e w' => ∃ v', e = .returned v' ∧ Sees w' 3 v' (setL l r).length (Rfs (setL l r)) ∧ Chg [] w w' := by
  obtain ⟨rr, hrr⟩ : ∃ rr, r = rr := ⟨_, rfl⟩
  obtain ⟨tg, nm, ky⟩ := r
  unfold rfV
  simp only
  have HRR : Hid (rr = ⟨tg, nm, ky⟩) := hrr.symm
  obtain ⟨K, hK⟩ : ∃ K, w.heap.size = K := ⟨_, rfl⟩
  have hbx : Blk (w.alloc (.cells #[.bool tg, .string (str nm), .string (str ky)] 51)) K #[.bool tg, .string (str nm), .string (str ky)] 51 := Blk.new_at w _ _ hK
  have hcx : Chg [] w (w.alloc (.cells #[.bool tg, .string (str nm), .string (str ky)] 51)) := (Chg.refl _ _).alloc _
  have hS : Hid (setL l rr = (dropL l tg nm).take (placeL (dropL l tg nm) rr) ++ [rr] ++ (dropL l tg nm).drop (placeL (dropL l tg nm) rr)) := by
    show _ = _
    rw [← hrr]; rfl
  have HCmp : Hid (∀ (x : RefD) (w' : World), Calls Tryz.prog 24 #[rfV x, .agg #[.bool tg, .string (str nm), .string (str ky)]] w' fun e w'' => e = .returned (.int .i64 (cmpR x rr)) ∧ Chg [] w' w'') := by
    intro x w'
    rw [← hrr]
    exact rcompare_any x _ w'
  rw [hrr]
  clear hrr
  obtain ⟨lo, lcap, rfl, -⟩ := hv.shape
  have hdl := dropL_len l tg nm
  go_enter Tryz.func20, Tryz.ntmps20
  go_upto_region 1 with (fail)
  have hv1 := hv.chg0 hcx
  generalize w.alloc (.cells #[.bool tg, .string (str nm), .string (str ky)] 51) = wa at *
  have hdr := rdrop_any wa _ l tg nm hv1 hl
  obtain ⟨⟨f0, f1, f2⟩, -⟩ := hbx.c3
  have HA := Lib.hid (And.intro hcx hK)
  clear hv hv1 hcx hK
  go_wp2_with fail
  refine hdr.mono ?_
  rintro e w1 ⟨v1, rfl, hF⟩
  clear hdr f0 f1 f2
  generalize dropL l tg nm = d at *
  have hb1 := hbx.chg0 hF.chg
  have hdn : d.length ≤ 1000000 := by omega
  obtain ⟨n, HN⟩ : ∃ n, Hid (d.length = n) := ⟨_, rfl⟩
  rw [HN.out] at hF hdn
  have HBK : Hid (∀ w', Chg [] w1 w' → w'.cell? ⟨K, 0, none⟩ = some (.bool tg) ∧ w'.cell? ⟨K, 1, none⟩ = some (.string (str nm)) ∧ w'.cell? ⟨K, 2, none⟩ = some (.string (str ky))) := fun w' c => (hb1.chg0 c).c3.1
  have HR0 : Hid (∀ i N2 w' v', i + N2 = n → placeL d rr = i → Sees w' 3 v' (i + 1 + N2) (Rfs (d.take i) ++ Rfs [⟨tg, nm, ky⟩] ++ Rfs (d.drop i)) → Chg [] w1 w' → Sees w' 3 v' (setL l rr).length (Rfs (setL l rr)) ∧ Chg [] w w') := by
    intro i N2 w' v' hi hp hs hc
    have e1 : setL l rr = d.take i ++ [rr] ++ d.drop i := by rw [hS.out, hp]
    have e2 : (setL l rr).length = i + 1 + N2 := by
      have := HN.out
      rw [e1]; simp only [List.length_append, List.length_take, List.length_drop, List.length_cons, List.length_nil]; omega
    have e3 : Rfs (setL l rr) = Rfs (d.take i) ++ Rfs [⟨tg, nm, ky⟩] ++ Rfs (d.drop i) := by
      rw [e1, Rfs_app, Rfs_app, HRR.out]
    rw [e2, e3]
    exact ⟨hs, HA.out.1.nil (hF.chg.nil hc)⟩
  have HO : Hid (∀ w', Chg [] w1 w' → Aq.Own w' 51 3 v1 n (Rfs d)) := fun w' c => hF.own.chg c (fun _ _ => by simp)
  have hsh := hF.own.shape
  clear hF hbx hdl hb1
  rcases hsh with ⟨rfl, rfl, hd0⟩ | ⟨g, cap1, rfl, hnc, -, -⟩
  · have hdd : d = [] := List.eq_nil_of_length_eq_zero HN.out
    subst hdd
    clear hd0
    go_wp2_with fail
    go_loopg [5] 0 (fun k v5 wr => v5 = .int .i64 0 ∧ Hid (Chg [] w1 wr))
    case atStart => exact ⟨rfl, Chg.refl _ _⟩
    case round =>
      obtain ⟨rfl, hc⟩ := hrel
      go_wp2_with fail
      go_quiet (fail)
      have hc9 := Lib.hid (hc.out.drewN nq)
      generalize wr.drewN nq = w9 at *
      have D9 : Hid (Chg [] w1 w9.drew) := hc9.out.drew
      obtain ⟨d, hd⟩ : ∃ d : List RefD, d = [] := ⟨_, rfl⟩
      have HSA : Hid (∀ w', Chg [] w1 w' → Sees w' 3 (.slice none 0 0) 0 (Rfs (d.take 0))) := fun w' c => by rw [hd]; exact sees_none w'
      have HSB : Hid (∀ w', Chg [] w1 w' → Sees w' 3 (.slice none 0 0) 0 (Rfs (d.drop 0))) := fun w' c => by rw [hd]; exact sees_none w'
      have HRS : Hid (∀ w' v', Sees w' 3 v' (0 + 1 + 0) (Rfs (d.take 0) ++ Rfs [⟨tg, nm, ky⟩] ++ Rfs (d.drop 0)) → Chg [] w1 w' → Sees w' 3 v' (setL l rr).length (Rfs (setL l rr)) ∧ Chg [] w w') := fun w' v' h => HR0.out 0 0 w' v' rfl rfl (by rw [hd] at h; exact h)
      have HBB : Hid (0 ≤ 1000000) := Nat.zero_le _
      clear hd
      go_upto_region 5 with (fail)
      refine wp_region_E [] (by kernel_rfl) ?_
      have c0 : Chg [] w9.drew w9.drew := Chg.refl _ _
      have HS1 : Hid (∀ w', Chg [] w9.drew w' → Sees w' 3 (.slice none 0 0) 0 (Rfs (d.take 0))) := fun w' c => HSA.out w' (D9.out.nil c)
      have HS2 : Hid (∀ w', Chg [] w9.drew w' → Sees w' 3 (.slice none 0 0) 0 (Rfs (d.drop 0))) := fun w' c => HSB.out w' (D9.out.nil c)
      have HK9 : Hid (∀ w', Chg [] w9.drew w' → w'.cell? ⟨K, 0, none⟩ = some (.bool tg) ∧ w'.cell? ⟨K, 1, none⟩ = some (.string (str nm)) ∧ w'.cell? ⟨K, 2, none⟩ = some (.string (str ky))) := fun w' c => (HBK.out w' (D9.out.nil c))
      have HRES : Hid (∀ w' v', Fresh w9.drew w' 51 3 v' (0 + 1 + 0) (Rfs (d.take 0) ++ Rfs [⟨tg, nm, ky⟩] ++ Rfs (d.drop 0)) → Sees w' 3 v' (setL l rr).length (Rfs (setL l rr)) ∧ Chg [] w w') := fun w' v' h => HRS.out w' v' (by exact h.own.sees) (D9.out.nil h.chg)
      generalize w9.drew = W0 at *
      refine wpAnyE_take 1 (v := (.slice none 0 0)) c0 rfl (by kernel_rfl) (by kernel_rfl) (by kernel_rfl) (fun _ _ _ h => h) (by rfl) (fun w4 c4 => ?_) ?_
      · go_simp
      try simp only [Act.put, List.getElem_toArray, List.getElem_cons_succ, List.getElem_cons_zero, List.setIfInBounds_toArray, List.set_cons_zero, List.set_cons_succ]
      refine wpAnyE_take 2 (v := (.int .i64 0)) c0 rfl (by kernel_rfl) (by kernel_rfl) (by kernel_rfl) (fun _ _ _ h => h) (by rfl) (fun w4 c4 => ?_) ?_
      · go_simp
      try simp only [Act.put, List.getElem_toArray, List.getElem_cons_succ, List.getElem_cons_zero, List.setIfInBounds_toArray, List.set_cons_zero, List.set_cons_succ]
      refine wpAnyE_take 3 (v := (.slice none 0 0)) c0 rfl (by kernel_rfl) (by kernel_rfl) (by kernel_rfl) (fun _ _ _ h => h) (by rfl) (fun w4 c4 => ?_) ?_
      · go_simp
      try simp only [Act.put, List.getElem_toArray, List.getElem_cons_succ, List.getElem_cons_zero, List.setIfInBounds_toArray, List.set_cons_zero, List.set_cons_succ]
      refine wpAnyE_take 5 (v := (.agg #[.bool tg, .string (str nm), .string (str ky)])) c0 rfl (by kernel_rfl) (by kernel_rfl) (by kernel_rfl) (fun _ _ _ h => h) (by rfl) (fun w4 c4 => ?_) ?_
      · obtain ⟨z0, z1, z2⟩ := HK9.out w4 c4
        go_simp
      try simp only [Act.put, List.getElem_toArray, List.getElem_cons_succ, List.getElem_cons_zero, List.setIfInBounds_toArray, List.set_cons_zero, List.set_cons_succ]
      refine wpAnyE_take 8 (v := (.slice none 0 0)) c0 rfl (by kernel_rfl) (by kernel_rfl) (by kernel_rfl) (fun _ _ _ h => h) (by rfl) (fun w4 c4 => ?_) ?_
      · go_simp
      try simp only [Act.put, List.getElem_toArray, List.getElem_cons_succ, List.getElem_cons_zero, List.setIfInBounds_toArray, List.set_cons_zero, List.set_cons_succ]
      refine wpAnyE_take 9 (v := (.int .i64 0)) c0 rfl (by kernel_rfl) (by kernel_rfl) (by kernel_rfl) (fun _ _ _ h => h) (by rfl) (fun w4 c4 => ?_) ?_
      · go_simp
      try simp only [Act.put, List.getElem_toArray, List.getElem_cons_succ, List.getElem_cons_zero, List.setIfInBounds_toArray, List.set_cons_zero, List.set_cons_succ]
      refine wpAnyE_take 10 (v := (.slice none 0 0)) c0 rfl (by kernel_rfl) (by kernel_rfl) (by kernel_rfl) (fun _ _ _ h => h) (by rfl) (fun w4 c4 => ?_) ?_
      · go_simp
      try simp only [Act.put, List.getElem_toArray, List.getElem_cons_succ, List.getElem_cons_zero, List.setIfInBounds_toArray, List.set_cons_zero, List.set_cons_succ]
      have HC0 := Lib.hid c0
      clear c0
      refine wpAnyE_two 0 6 rfl rfl (by kernel_rfl) (by rfl) (by rfl) ?_ ?_
      · have cB1 : Hid (Chg [] W0 (W0.alloc (.cells #[] 51))) := (Chg.refl [] _).alloc _
        have F1 : Hid (Fresh W0 (W0.alloc (.cells #[] 51)) 51 3 (.slice (some ⟨W0.heap.size, 0, none⟩) 0 0) 0 []) := ⟨Aq.Own.made _ _ _, HC0.out.nil cB1.out, fun k hk => by simp [Value.ownBlock] at hk; rw [hk]; exact HC0.out.size⟩
        have C1 := Lib.hid (HC0.out.nil cB1.out)
        go_simp
        refine ⟨C1.out, ?_⟩
        generalize W0.heap.size = KK1 at *
        generalize W0.alloc (.cells #[] 51) = w1 at *
        clear cB1
        try simp only [Act.put, List.getElem_toArray, List.getElem_cons_succ, List.getElem_cons_zero, List.setIfInBounds_toArray, List.set_cons_zero, List.set_cons_succ]
        refine wpAnyE_two 4 6 rfl rfl (by kernel_rfl) (by rfl) (by rfl) ?_ ?_
        · refine wp_app _ _ 32 (by rfl) sl_q (v := (.slice (some ⟨KK1, 0, none⟩) 0 0)) (n := 0) (xs := []) F1.out.own (by rfl) (vx := (.slice none 0 0)) (m := 0) (news := Rfs (d.take 0)) (HS1.out _ C1.out) (by rfl) (rfs_ones _) (by have := HBB.out; omega) (by have := HBB.out; omega) ?_
          intro v2 w2 o2 e2 n2
          have F2 : Hid (Fresh W0 w2 51 3 v2 0 (Rfs (d.take 0))) := by have h := F1.out.app o2 e2 n2; first | exact h | (rw [Nat.zero_add] at h; exact h)
          have C2 := Lib.hid F2.out.chg
          obtain ⟨a2, p2, hv2, -⟩ := F2.out.shape
          subst hv2
          clear o2 e2 n2
          refine ⟨C2.out, ?_⟩
          try simp only [Act.put, List.getElem_toArray, List.getElem_cons_succ, List.getElem_cons_zero, List.setIfInBounds_toArray, List.set_cons_zero, List.set_cons_succ]
          refine wpAnyE_only 6 rfl (by kernel_rfl) (by rfl) ?_
          have cB3 : Hid (Chg [] w2 (w2.alloc (.cells #[.bool tg, .string (str nm), .string (str ky)] 51))) := (Chg.refl [] _).alloc _
          have S3 : Hid (Sees (w2.alloc (.cells #[.bool tg, .string (str nm), .string (str ky)] 51)) 3 (.slice (some ⟨w2.heap.size, 0, none⟩) 1 1) 1 (Rfs [⟨tg, nm, ky⟩])) := Sees.rows (Blk.new _ _ _) rfl
          have F3 := Lib.hid (F2.out.to cB3.out)
          have C3 := Lib.hid (C2.out.nil cB3.out)
          go_simp
          refine ⟨C3.out, ?_⟩
          generalize w2.heap.size = KK3 at *
          generalize w2.alloc (.cells #[.bool tg, .string (str nm), .string (str ky)] 51) = w3 at *
          clear cB3
          try simp only [Act.put, List.getElem_toArray, List.getElem_cons_succ, List.getElem_cons_zero, List.setIfInBounds_toArray, List.set_cons_zero, List.set_cons_succ]
          refine wpAnyE_only 7 rfl (by kernel_rfl) (by rfl) ?_
          refine wp_app _ _ 32 (by rfl) sl_q (v := (.slice a2 0 p2)) (n := 0) (xs := (Rfs (d.take 0))) F3.out.own (by rfl) (vx := (.slice (some ⟨KK3, 0, none⟩) 1 1)) (m := 1) (news := Rfs [⟨tg, nm, ky⟩]) S3.out (by rfl) (rfs_ones _) (by have := HBB.out; omega) (by have := HBB.out; omega) ?_
          intro v4 w4 o4 e4 n4
          have F4 : Hid (Fresh W0 w4 51 3 v4 1 (Rfs (d.take 0) ++ Rfs [⟨tg, nm, ky⟩])) := by have h := F3.out.app o4 e4 n4; first | exact h | (rw [Nat.zero_add] at h; exact h)
          have C4 := Lib.hid F4.out.chg
          obtain ⟨a4, p4, hv4, -⟩ := F4.out.shape
          subst hv4
          clear o4 e4 n4
          refine ⟨C4.out, ?_⟩
          try simp only [Act.put, List.getElem_toArray, List.getElem_cons_succ, List.getElem_cons_zero, List.setIfInBounds_toArray, List.set_cons_zero, List.set_cons_succ]
          refine wpAnyE_only 11 rfl (by kernel_rfl) (by rfl) ?_
          refine wp_app _ _ 32 (by rfl) sl_q (v := (.slice a4 1 p4)) (n := 1) (xs := (Rfs (d.take 0) ++ Rfs [⟨tg, nm, ky⟩])) F4.out.own (by rfl) (vx := (.slice none 0 0)) (m := 0) (news := Rfs (d.drop 0)) (HS2.out _ C4.out) (by rfl) (rfs_ones _) (by have := HBB.out; omega) (by have := HBB.out; omega) ?_
          intro v5 w5 o5 e5 n5
          have F5 : Hid (Fresh W0 w5 51 3 v5 1 (Rfs (d.take 0) ++ Rfs [⟨tg, nm, ky⟩] ++ Rfs (d.drop 0))) := by have h := F4.out.app o5 e5 n5; first | exact h | (rw [Nat.zero_add] at h; exact h)
          have C5 := Lib.hid F5.out.chg
          obtain ⟨a5, p5, hv5, -⟩ := F5.out.shape
          subst hv5
          clear o5 e5 n5
          refine ⟨C5.out, ?_⟩
          try simp only [Act.put, List.getElem_toArray, List.getElem_cons_succ, List.getElem_cons_zero, List.setIfInBounds_toArray, List.set_cons_zero, List.set_cons_succ]
          refine wpAnyE_take 12 (v := (.slice a5 1 p5)) C5.out rfl (by kernel_rfl) (by kernel_rfl) (by kernel_rfl) (fun _ _ _ h => h) (by rfl) (fun w4 c4 => ?_) ?_
          · go_simp
          try simp only [Act.put, List.getElem_toArray, List.getElem_cons_succ, List.getElem_cons_zero, List.setIfInBounds_toArray, List.set_cons_zero, List.set_cons_succ]
          refine wpAnyE_done (by kernel_rfl) ?_ _
          have HF := Lib.hid (HRES.out _ _ F5.out)
          go_wp2_with fail
          go_ret
          exact ⟨_, rfl, HF.out.1, HF.out.2⟩
        · have cB6 : Hid (Chg [] w1 (w1.alloc (.cells #[.bool tg, .string (str nm), .string (str ky)] 51))) := (Chg.refl [] _).alloc _
          have S6 : Hid (Sees (w1.alloc (.cells #[.bool tg, .string (str nm), .string (str ky)] 51)) 3 (.slice (some ⟨w1.heap.size, 0, none⟩) 1 1) 1 (Rfs [⟨tg, nm, ky⟩])) := Sees.rows (Blk.new _ _ _) rfl
          have N6 : Hid (KK1 < w1.heap.size) := F1.out.own.lt _ (by simp [Value.ownBlock])
          have F6 := Lib.hid (F1.out.to cB6.out)
          have C6 := Lib.hid (C1.out.nil cB6.out)
          go_simp
          refine ⟨C6.out, ?_⟩
          generalize w1.heap.size = KK6 at *
          generalize w1.alloc (.cells #[.bool tg, .string (str nm), .string (str ky)] 51) = w6 at *
          clear cB6
          try simp only [Act.put, List.getElem_toArray, List.getElem_cons_succ, List.getElem_cons_zero, List.setIfInBounds_toArray, List.set_cons_zero, List.set_cons_succ]
          refine wpAnyE_only 4 rfl (by kernel_rfl) (by rfl) ?_
          refine wp_app _ _ 32 (by rfl) sl_q (v := (.slice (some ⟨KK1, 0, none⟩) 0 0)) (n := 0) (xs := []) F6.out.own (by rfl) (vx := (.slice none 0 0)) (m := 0) (news := Rfs (d.take 0)) (HS1.out _ C6.out) (by rfl) (rfs_ones _) (by have := HBB.out; omega) (by have := HBB.out; omega) ?_
          intro v7 w7 o7 e7 n7
          have F7 : Hid (Fresh W0 w7 51 3 v7 0 (Rfs (d.take 0))) := by have h := F6.out.app o7 e7 n7; first | exact h | (rw [Nat.zero_add] at h; exact h)
          have C7 := Lib.hid F7.out.chg
          have S7 := Lib.hid (S6.out.chg e7 (fun k hk hm => by simp [eyes] at hk; simp [Value.ownBlock] at hm; have := N6.out; omega))
          obtain ⟨a7, p7, hv7, -⟩ := F7.out.shape
          subst hv7
          clear o7 e7 n7
          refine ⟨C7.out, ?_⟩
          try simp only [Act.put, List.getElem_toArray, List.getElem_cons_succ, List.getElem_cons_zero, List.setIfInBounds_toArray, List.set_cons_zero, List.set_cons_succ]
          refine wpAnyE_only 7 rfl (by kernel_rfl) (by rfl) ?_
          refine wp_app _ _ 32 (by rfl) sl_q (v := (.slice a7 0 p7)) (n := 0) (xs := (Rfs (d.take 0))) F7.out.own (by rfl) (vx := (.slice (some ⟨KK6, 0, none⟩) 1 1)) (m := 1) (news := Rfs [⟨tg, nm, ky⟩]) S7.out (by rfl) (rfs_ones _) (by have := HBB.out; omega) (by have := HBB.out; omega) ?_
          intro v8 w8 o8 e8 n8
          have F8 : Hid (Fresh W0 w8 51 3 v8 1 (Rfs (d.take 0) ++ Rfs [⟨tg, nm, ky⟩])) := by have h := F7.out.app o8 e8 n8; first | exact h | (rw [Nat.zero_add] at h; exact h)
          have C8 := Lib.hid F8.out.chg
          obtain ⟨a8, p8, hv8, -⟩ := F8.out.shape
          subst hv8
          clear o8 e8 n8
          refine ⟨C8.out, ?_⟩
          try simp only [Act.put, List.getElem_toArray, List.getElem_cons_succ, List.getElem_cons_zero, List.setIfInBounds_toArray, List.set_cons_zero, List.set_cons_succ]
          refine wpAnyE_only 11 rfl (by kernel_rfl) (by rfl) ?_
          refine wp_app _ _ 32 (by rfl) sl_q (v := (.slice a8 1 p8)) (n := 1) (xs := (Rfs (d.take 0) ++ Rfs [⟨tg, nm, ky⟩])) F8.out.own (by rfl) (vx := (.slice none 0 0)) (m := 0) (news := Rfs (d.drop 0)) (HS2.out _ C8.out) (by rfl) (rfs_ones _) (by have := HBB.out; omega) (by have := HBB.out; omega) ?_
          intro v9 w9 o9 e9 n9
          have F9 : Hid (Fresh W0 w9 51 3 v9 1 (Rfs (d.take 0) ++ Rfs [⟨tg, nm, ky⟩] ++ Rfs (d.drop 0))) := by have h := F8.out.app o9 e9 n9; first | exact h | (rw [Nat.zero_add] at h; exact h)
          have C9 := Lib.hid F9.out.chg
          obtain ⟨a9, p9, hv9, -⟩ := F9.out.shape
          subst hv9
          clear o9 e9 n9
          refine ⟨C9.out, ?_⟩
          try simp only [Act.put, List.getElem_toArray, List.getElem_cons_succ, List.getElem_cons_zero, List.setIfInBounds_toArray, List.set_cons_zero, List.set_cons_succ]
          refine wpAnyE_take 12 (v := (.slice a9 1 p9)) C9.out rfl (by kernel_rfl) (by kernel_rfl) (by kernel_rfl) (fun _ _ _ h => h) (by rfl) (fun w4 c4 => ?_) ?_
          · go_simp
          try simp only [Act.put, List.getElem_toArray, List.getElem_cons_succ, List.getElem_cons_zero, List.setIfInBounds_toArray, List.set_cons_zero, List.set_cons_succ]
          refine wpAnyE_done (by kernel_rfl) ?_ _
          have HF := Lib.hid (HRES.out _ _ F9.out)
          go_wp2_with fail
          go_ret
          exact ⟨_, rfl, HF.out.1, HF.out.2⟩
      · have cB10 : Hid (Chg [] W0 (W0.alloc (.cells #[.bool tg, .string (str nm), .string (str ky)] 51))) := (Chg.refl [] _).alloc _
        have S10 : Hid (Sees (W0.alloc (.cells #[.bool tg, .string (str nm), .string (str ky)] 51)) 3 (.slice (some ⟨W0.heap.size, 0, none⟩) 1 1) 1 (Rfs [⟨tg, nm, ky⟩])) := Sees.rows (Blk.new _ _ _) rfl
        have C10 := Lib.hid (HC0.out.nil cB10.out)
        go_simp
        refine ⟨C10.out, ?_⟩
        generalize W0.heap.size = KK10 at *
        generalize W0.alloc (.cells #[.bool tg, .string (str nm), .string (str ky)] 51) = w10 at *
        clear cB10
        try simp only [Act.put, List.getElem_toArray, List.getElem_cons_succ, List.getElem_cons_zero, List.setIfInBounds_toArray, List.set_cons_zero, List.set_cons_succ]
        refine wpAnyE_only 0 rfl (by kernel_rfl) (by rfl) ?_
        have cB11 : Hid (Chg [] w10 (w10.alloc (.cells #[] 51))) := (Chg.refl [] _).alloc _
        have F11 : Hid (Fresh W0 (w10.alloc (.cells #[] 51)) 51 3 (.slice (some ⟨w10.heap.size, 0, none⟩) 0 0) 0 []) := ⟨Aq.Own.made _ _ _, C10.out.nil cB11.out, fun k hk => by simp [Value.ownBlock] at hk; rw [hk]; exact C10.out.size⟩
        have N11 : Hid (KK10 < w10.heap.size) := S10.out.lt (by decide) _ (by simp [eyes])
        have S11 := Lib.hid (S10.out.chg0 cB11.out)
        have C11 := Lib.hid (C10.out.nil cB11.out)
        go_simp
        refine ⟨C11.out, ?_⟩
        generalize w10.heap.size = KK11 at *
        generalize w10.alloc (.cells #[] 51) = w11 at *
        clear cB11
        try simp only [Act.put, List.getElem_toArray, List.getElem_cons_succ, List.getElem_cons_zero, List.setIfInBounds_toArray, List.set_cons_zero, List.set_cons_succ]
        refine wpAnyE_only 4 rfl (by kernel_rfl) (by rfl) ?_
        refine wp_app _ _ 32 (by rfl) sl_q (v := (.slice (some ⟨KK11, 0, none⟩) 0 0)) (n := 0) (xs := []) F11.out.own (by rfl) (vx := (.slice none 0 0)) (m := 0) (news := Rfs (d.take 0)) (HS1.out _ C11.out) (by rfl) (rfs_ones _) (by have := HBB.out; omega) (by have := HBB.out; omega) ?_
        intro v12 w12 o12 e12 n12
        have F12 : Hid (Fresh W0 w12 51 3 v12 0 (Rfs (d.take 0))) := by have h := F11.out.app o12 e12 n12; first | exact h | (rw [Nat.zero_add] at h; exact h)
        have C12 := Lib.hid F12.out.chg
        have S12 := Lib.hid (S11.out.chg e12 (fun k hk hm => by simp [eyes] at hk; simp [Value.ownBlock] at hm; have := N11.out; omega))
        obtain ⟨a12, p12, hv12, -⟩ := F12.out.shape
        subst hv12
        clear o12 e12 n12
        refine ⟨C12.out, ?_⟩
        try simp only [Act.put, List.getElem_toArray, List.getElem_cons_succ, List.getElem_cons_zero, List.setIfInBounds_toArray, List.set_cons_zero, List.set_cons_succ]
        refine wpAnyE_only 7 rfl (by kernel_rfl) (by rfl) ?_
        refine wp_app _ _ 32 (by rfl) sl_q (v := (.slice a12 0 p12)) (n := 0) (xs := (Rfs (d.take 0))) F12.out.own (by rfl) (vx := (.slice (some ⟨KK10, 0, none⟩) 1 1)) (m := 1) (news := Rfs [⟨tg, nm, ky⟩]) S12.out (by rfl) (rfs_ones _) (by have := HBB.out; omega) (by have := HBB.out; omega) ?_
        intro v13 w13 o13 e13 n13
        have F13 : Hid (Fresh W0 w13 51 3 v13 1 (Rfs (d.take 0) ++ Rfs [⟨tg, nm, ky⟩])) := by have h := F12.out.app o13 e13 n13; first | exact h | (rw [Nat.zero_add] at h; exact h)
        have C13 := Lib.hid F13.out.chg
        obtain ⟨a13, p13, hv13, -⟩ := F13.out.shape
        subst hv13
        clear o13 e13 n13
        refine ⟨C13.out, ?_⟩
        try simp only [Act.put, List.getElem_toArray, List.getElem_cons_succ, List.getElem_cons_zero, List.setIfInBounds_toArray, List.set_cons_zero, List.set_cons_succ]
        refine wpAnyE_only 11 rfl (by kernel_rfl) (by rfl) ?_
        refine wp_app _ _ 32 (by rfl) sl_q (v := (.slice a13 1 p13)) (n := 1) (xs := (Rfs (d.take 0) ++ Rfs [⟨tg, nm, ky⟩])) F13.out.own (by rfl) (vx := (.slice none 0 0)) (m := 0) (news := Rfs (d.drop 0)) (HS2.out _ C13.out) (by rfl) (rfs_ones _) (by have := HBB.out; omega) (by have := HBB.out; omega) ?_
        intro v14 w14 o14 e14 n14
        have F14 : Hid (Fresh W0 w14 51 3 v14 1 (Rfs (d.take 0) ++ Rfs [⟨tg, nm, ky⟩] ++ Rfs (d.drop 0))) := by have h := F13.out.app o14 e14 n14; first | exact h | (rw [Nat.zero_add] at h; exact h)
        have C14 := Lib.hid F14.out.chg
        obtain ⟨a14, p14, hv14, -⟩ := F14.out.shape
        subst hv14
        clear o14 e14 n14
        refine ⟨C14.out, ?_⟩
        try simp only [Act.put, List.getElem_toArray, List.getElem_cons_succ, List.getElem_cons_zero, List.setIfInBounds_toArray, List.set_cons_zero, List.set_cons_succ]
        refine wpAnyE_take 12 (v := (.slice a14 1 p14)) C14.out rfl (by kernel_rfl) (by kernel_rfl) (by kernel_rfl) (fun _ _ _ h => h) (by rfl) (fun w4 c4 => ?_) ?_
        · go_simp
        try simp only [Act.put, List.getElem_toArray, List.getElem_cons_succ, List.getElem_cons_zero, List.setIfInBounds_toArray, List.set_cons_zero, List.set_cons_succ]
        refine wpAnyE_done (by kernel_rfl) ?_ _
        have HF := Lib.hid (HRES.out _ _ F14.out)
        go_wp2_with fail
        go_ret
        exact ⟨_, rfl, HF.out.1, HF.out.2⟩
  · have HNC := Lib.hid (And.intro hnc hdn)
    have HSE : Hid (∀ w', Chg [] w1 w' → Sees w' 3 (.slice (some ⟨g, 0, none⟩) n cap1) n (Rfs d)) := fun w' c => (HO.out w' c).sees
    clear hnc
    go_wp2_with fail
    go_loopg [5] n (fun k v5 wr => ∃ i : Nat, v5 = .int .i64 i ∧ i + k = n ∧ i ≤ n ∧ Hid (∀ x ∈ d.take i, cmpR x rr < 0) ∧ Hid (Chg [] w1 wr))
    case atStart => exact ⟨0, rfl, by omega, by omega, fun x hx => by simp at hx, Chg.refl _ _⟩
    case round =>
      obtain ⟨i, rfl, hik, hin, HM, hc⟩ := hrel
      have hib : (i : Int) ≤ 1000000 := by omega
      by_cases hi : i < n
      · obtain ⟨X, hne, F, x0, hF0, hFx, hX⟩ := fam0 wr
        have z0 := fun x => (HBK.out _ (hc.out.nil (hFx x))).1
        have z1 := fun x => (HBK.out _ (hc.out.nil (hFx x))).2.1
        have z2 := fun x => (HBK.out _ (hc.out.nil (hFx x))).2.2
        have t1 : decide ((i : Int) < (n : Int)) = true := by simp; omega
        have t1' : decide (i < n) = true := by simp; omega
        have hil : i < d.length := by rw [HN.out]; exact hi
        obtain ⟨y0, y1, y2⟩ := Rfs_at d i hil
        have q0 := fun x => (Aq.Own.cellAt (HO.out _ (hc.out.nil (hFx x))) (i * 3) (by omega)).trans y0
        have q1 := fun x => (Aq.Own.cellAt (HO.out _ (hc.out.nil (hFx x))) (i * 3 + 1) (by omega)).trans y1
        have q2 := fun x => (Aq.Own.cellAt (HO.out _ (hc.out.nil (hFx x))) (i * 3 + 2) (by omega)).trans y2
        have HCa := fun x => HCmp.out d[i] (F x)
        have hT := List.take_succ_eq_append_getElem hil
        have hpl := fun (h : ¬ cmpR (d[i]'hil) rr < 0) => place_at (r := rr) (Nat.le_of_lt hil) HM.out (fun _ => h)
        obtain ⟨c, hcc⟩ : ∃ c, cmpR d[i] rr = c := ⟨_, rfl⟩
        rw [hcc] at HCa hpl
        clear y0 y1 y2
        by_cases hc0 : c < 0
        · have t2 : decide (c < 0) = true := by simpa using hc0
          have HG : Hid (∀ x ∈ d.take (i + 1), cmpR x rr < 0) := by
            intro x hx
            rw [hT] at hx
            rcases List.mem_append.1 hx with hx | hx
            · exact HM.out x hx
            · rw [List.mem_singleton.1 hx, hcc]; exact hc0
          clear hT hpl hcc hc0 HM
          generalize d[i] = rp at *
          obtain ⟨tp, np, kp⟩ := rp
          simp only at q0 q1 q2
          unfold rfV at HCa
          simp only at HCa
          have HP := Lib.hid (And.intro hik (And.intro hin (And.intro hi hc.out)))
          clear hik hin hil hc
          go_wp2_with fail
          refine wp_fam F (by kernel_rfl) (by kernel_rfl) x0 hF0 ?_
          repeat (go_big_quiet_step (exact fam_call hFx hX (HCa _)))
          refine wpQuiet_nil ?_
          rintro w' ⟨x1, rfl⟩
          go_wp2_with fail
          go_roundg (gk - 1)
          case measure => have := HP.out; omega
          case rel => exact ⟨i + 1, by go_num, by have := HP.out; omega, by have := HP.out; omega, HG, HP.out.2.2.2.nil (hFx x1)⟩
        · have t2 : decide (c < 0) = false := by simpa using hc0
          have hp := hpl hc0
          have HCF := Lib.hid (fun x => hc.out.nil (hFx x))
          clear hT hpl hcc hc0 HM
          generalize d[i] = rp at *
          obtain ⟨tp, np, kp⟩ := rp
          simp only at q0 q1 q2
          unfold rfV at HCa
          simp only at HCa
          have HPI := Lib.hid (And.intro hp (And.intro hin hi))
          clear hik hin hil hc hp
          go_wp2_with fail
          refine wp_fam F (by kernel_rfl) (by kernel_rfl) x0 hF0 ?_
          repeat (go_big_quiet_step (exact fam_call hFx hX (HCa _)))
          refine wpQuiet_nil ?_
          rintro w' ⟨x1, rfl⟩
          have hc9 := Lib.hid (HCF.out x1)
          clear q0 q1 q2 z0 z1 z2 HCa HCF
          generalize F x1 = w9 at *
          have D9 : Hid (Chg [] w1 w9.drew) := hc9.out.drew
          have hne2 : cap1 ≠ i := by have := HNC.out; omega
          have HSA : Hid (∀ w', Chg [] w1 w' → Sees w' 3 (.slice (some ⟨g, 0, none⟩) i cap1) i (Rfs (d.take i))) := fun w' c => sees_take (HSE.out w' c) HN.out (by have := HPI.out; omega)
          have HSB : Hid (∀ w', Chg [] w1 w' → Sees w' 3 (.slice (some ⟨g, i * 3, none⟩) (n - i) (cap1 - i)) (n - i) (Rfs (d.drop i))) := fun w' c => sees_drop (HSE.out w' c) HN.out (by have := HPI.out; omega)
          have HRS : Hid (∀ w' v', Sees w' 3 v' (i + 1 + (n - i)) (Rfs (d.take i) ++ Rfs [⟨tg, nm, ky⟩] ++ Rfs (d.drop i)) → Chg [] w1 w' → Sees w' 3 v' (setL l rr).length (Rfs (setL l rr)) ∧ Chg [] w w') := fun w' v' => HR0.out i (n - i) w' v' (by have := HPI.out; omega) HPI.out.1
          have HBB : Hid (i ≤ n ∧ n ≤ 1000000) := ⟨by have := HPI.out; omega, HNC.out.2⟩
          have hnc : n ≤ cap1 := HNC.out.1
          have hic : i ≤ cap1 := by have := HBB.out; omega
          have hin2 : i ≤ n := HBB.out.1
          have hicI : (i : Int) ≤ (cap1 : Int) := by omega
          have hinI : (i : Int) ≤ (n : Int) := by omega
          go_upto_region 5 with (fail)
          refine wp_region_E [] (by kernel_rfl) ?_
          have c0 : Chg [] w9.drew w9.drew := Chg.refl _ _
          have HS1 : Hid (∀ w', Chg [] w9.drew w' → Sees w' 3 (.slice (some ⟨g, 0, none⟩) i cap1) i (Rfs (d.take i))) := fun w' c => HSA.out w' (D9.out.nil c)
          have HS2 : Hid (∀ w', Chg [] w9.drew w' → Sees w' 3 (.slice (some ⟨g, i * 3, none⟩) (n - i) (cap1 - i)) (n - i) (Rfs (d.drop i))) := fun w' c => HSB.out w' (D9.out.nil c)
          have HK9 : Hid (∀ w', Chg [] w9.drew w' → w'.cell? ⟨K, 0, none⟩ = some (.bool tg) ∧ w'.cell? ⟨K, 1, none⟩ = some (.string (str nm)) ∧ w'.cell? ⟨K, 2, none⟩ = some (.string (str ky))) := fun w' c => (HBK.out w' (D9.out.nil c))
          have HRES : Hid (∀ w' v', Fresh w9.drew w' 51 3 v' (i + 1 + (n - i)) (Rfs (d.take i) ++ Rfs [⟨tg, nm, ky⟩] ++ Rfs (d.drop i)) → Sees w' 3 v' (setL l rr).length (Rfs (setL l rr)) ∧ Chg [] w w') := fun w' v' h => HRS.out w' v' (by exact h.own.sees) (D9.out.nil h.chg)
          generalize w9.drew = W0 at *
          refine wpAnyE_take 1 (v := (.slice (some ⟨g, 0, none⟩) n cap1)) c0 rfl (by kernel_rfl) (by kernel_rfl) (by kernel_rfl) (fun _ _ _ h => h) (by rfl) (fun w4 c4 => ?_) ?_
          · go_simp
          try simp only [Act.put, List.getElem_toArray, List.getElem_cons_succ, List.getElem_cons_zero, List.setIfInBounds_toArray, List.set_cons_zero, List.set_cons_succ]
          refine wpAnyE_take 2 (v := (.int .i64 (i : Int))) c0 rfl (by kernel_rfl) (by kernel_rfl) (by kernel_rfl) (fun _ _ _ h => h) (by rfl) (fun w4 c4 => ?_) ?_
          · go_simp
          try simp only [Act.put, List.getElem_toArray, List.getElem_cons_succ, List.getElem_cons_zero, List.setIfInBounds_toArray, List.set_cons_zero, List.set_cons_succ]
          refine wpAnyE_take 3 (v := (.slice (some ⟨g, 0, none⟩) i cap1)) c0 rfl (by kernel_rfl) (by kernel_rfl) (by kernel_rfl) (fun _ _ _ h => h) (by rfl) (fun w4 c4 => ?_) ?_
          · go_simp
          try simp only [Act.put, List.getElem_toArray, List.getElem_cons_succ, List.getElem_cons_zero, List.setIfInBounds_toArray, List.set_cons_zero, List.set_cons_succ]
          refine wpAnyE_take 5 (v := (.agg #[.bool tg, .string (str nm), .string (str ky)])) c0 rfl (by kernel_rfl) (by kernel_rfl) (by kernel_rfl) (fun _ _ _ h => h) (by rfl) (fun w4 c4 => ?_) ?_
          · obtain ⟨z0, z1, z2⟩ := HK9.out w4 c4
            go_simp
          try simp only [Act.put, List.getElem_toArray, List.getElem_cons_succ, List.getElem_cons_zero, List.setIfInBounds_toArray, List.set_cons_zero, List.set_cons_succ]
          refine wpAnyE_take 8 (v := (.slice (some ⟨g, 0, none⟩) n cap1)) c0 rfl (by kernel_rfl) (by kernel_rfl) (by kernel_rfl) (fun _ _ _ h => h) (by rfl) (fun w4 c4 => ?_) ?_
          · go_simp
          try simp only [Act.put, List.getElem_toArray, List.getElem_cons_succ, List.getElem_cons_zero, List.setIfInBounds_toArray, List.set_cons_zero, List.set_cons_succ]
          refine wpAnyE_take 9 (v := (.int .i64 (i : Int))) c0 rfl (by kernel_rfl) (by kernel_rfl) (by kernel_rfl) (fun _ _ _ h => h) (by rfl) (fun w4 c4 => ?_) ?_
          · go_simp
          try simp only [Act.put, List.getElem_toArray, List.getElem_cons_succ, List.getElem_cons_zero, List.setIfInBounds_toArray, List.set_cons_zero, List.set_cons_succ]
          refine wpAnyE_take 10 (v := (.slice (some ⟨g, i * 3, none⟩) (n - i) (cap1 - i))) c0 rfl (by kernel_rfl) (by kernel_rfl) (by kernel_rfl) (fun _ _ _ h => h) (by rfl) (fun w4 c4 => ?_) ?_
          · go_simp
          try simp only [Act.put, List.getElem_toArray, List.getElem_cons_succ, List.getElem_cons_zero, List.setIfInBounds_toArray, List.set_cons_zero, List.set_cons_succ]
          have HC0 := Lib.hid c0
          clear c0
          refine wpAnyE_two 0 6 rfl rfl (by kernel_rfl) (by rfl) (by rfl) ?_ ?_
          · have cB1 : Hid (Chg [] W0 (W0.alloc (.cells #[] 51))) := (Chg.refl [] _).alloc _
            have F1 : Hid (Fresh W0 (W0.alloc (.cells #[] 51)) 51 3 (.slice (some ⟨W0.heap.size, 0, none⟩) 0 0) 0 []) := ⟨Aq.Own.made _ _ _, HC0.out.nil cB1.out, fun k hk => by simp [Value.ownBlock] at hk; rw [hk]; exact HC0.out.size⟩
            have C1 := Lib.hid (HC0.out.nil cB1.out)
            go_simp
            refine ⟨C1.out, ?_⟩
            generalize W0.heap.size = KK1 at *
            generalize W0.alloc (.cells #[] 51) = w1 at *
            clear cB1
            try simp only [Act.put, List.getElem_toArray, List.getElem_cons_succ, List.getElem_cons_zero, List.setIfInBounds_toArray, List.set_cons_zero, List.set_cons_succ]
            refine wpAnyE_two 4 6 rfl rfl (by kernel_rfl) (by rfl) (by rfl) ?_ ?_
            · refine wp_app _ _ 32 (by rfl) sl_q (v := (.slice (some ⟨KK1, 0, none⟩) 0 0)) (n := 0) (xs := []) F1.out.own (by rfl) (vx := (.slice (some ⟨g, 0, none⟩) i cap1)) (m := i) (news := Rfs (d.take i)) (HS1.out _ C1.out) (by rfl) (rfs_ones _) (by have := HBB.out; omega) (by have := HBB.out; omega) ?_
              intro v2 w2 o2 e2 n2
              have F2 : Hid (Fresh W0 w2 51 3 v2 i (Rfs (d.take i))) := by have h := F1.out.app o2 e2 n2; first | exact h | (rw [Nat.zero_add] at h; exact h)
              have C2 := Lib.hid F2.out.chg
              obtain ⟨a2, p2, hv2, -⟩ := F2.out.shape
              subst hv2
              clear o2 e2 n2
              refine ⟨C2.out, ?_⟩
              try simp only [Act.put, List.getElem_toArray, List.getElem_cons_succ, List.getElem_cons_zero, List.setIfInBounds_toArray, List.set_cons_zero, List.set_cons_succ]
              refine wpAnyE_only 6 rfl (by kernel_rfl) (by rfl) ?_
              have cB3 : Hid (Chg [] w2 (w2.alloc (.cells #[.bool tg, .string (str nm), .string (str ky)] 51))) := (Chg.refl [] _).alloc _
              have S3 : Hid (Sees (w2.alloc (.cells #[.bool tg, .string (str nm), .string (str ky)] 51)) 3 (.slice (some ⟨w2.heap.size, 0, none⟩) 1 1) 1 (Rfs [⟨tg, nm, ky⟩])) := Sees.rows (Blk.new _ _ _) rfl
              have F3 := Lib.hid (F2.out.to cB3.out)
              have C3 := Lib.hid (C2.out.nil cB3.out)
              go_simp
              refine ⟨C3.out, ?_⟩
              generalize w2.heap.size = KK3 at *
              generalize w2.alloc (.cells #[.bool tg, .string (str nm), .string (str ky)] 51) = w3 at *
              clear cB3
              try simp only [Act.put, List.getElem_toArray, List.getElem_cons_succ, List.getElem_cons_zero, List.setIfInBounds_toArray, List.set_cons_zero, List.set_cons_succ]
              refine wpAnyE_only 7 rfl (by kernel_rfl) (by rfl) ?_
              refine wp_app _ _ 32 (by rfl) sl_q (v := (.slice a2 i p2)) (n := i) (xs := (Rfs (d.take i))) F3.out.own (by rfl) (vx := (.slice (some ⟨KK3, 0, none⟩) 1 1)) (m := 1) (news := Rfs [⟨tg, nm, ky⟩]) S3.out (by rfl) (rfs_ones _) (by have := HBB.out; omega) (by have := HBB.out; omega) ?_
              intro v4 w4 o4 e4 n4
              have F4 : Hid (Fresh W0 w4 51 3 v4 (i + 1) (Rfs (d.take i) ++ Rfs [⟨tg, nm, ky⟩])) := by have h := F3.out.app o4 e4 n4; first | exact h | (rw [Nat.zero_add] at h; exact h)
              have C4 := Lib.hid F4.out.chg
              obtain ⟨a4, p4, hv4, -⟩ := F4.out.shape
              subst hv4
              clear o4 e4 n4
              refine ⟨C4.out, ?_⟩
              try simp only [Act.put, List.getElem_toArray, List.getElem_cons_succ, List.getElem_cons_zero, List.setIfInBounds_toArray, List.set_cons_zero, List.set_cons_succ]
              refine wpAnyE_only 11 rfl (by kernel_rfl) (by rfl) ?_
              refine wp_app _ _ 32 (by rfl) sl_q (v := (.slice a4 (i + 1) p4)) (n := (i + 1)) (xs := (Rfs (d.take i) ++ Rfs [⟨tg, nm, ky⟩])) F4.out.own (by rfl) (vx := (.slice (some ⟨g, i * 3, none⟩) (n - i) (cap1 - i))) (m := (n - i)) (news := Rfs (d.drop i)) (HS2.out _ C4.out) (by rfl) (rfs_ones _) (by have := HBB.out; omega) (by have := HBB.out; omega) ?_
              intro v5 w5 o5 e5 n5
              have F5 : Hid (Fresh W0 w5 51 3 v5 (i + 1 + (n - i)) (Rfs (d.take i) ++ Rfs [⟨tg, nm, ky⟩] ++ Rfs (d.drop i))) := by have h := F4.out.app o5 e5 n5; first | exact h | (rw [Nat.zero_add] at h; exact h)
              have C5 := Lib.hid F5.out.chg
              obtain ⟨a5, p5, hv5, -⟩ := F5.out.shape
              subst hv5
              clear o5 e5 n5
              refine ⟨C5.out, ?_⟩
              try simp only [Act.put, List.getElem_toArray, List.getElem_cons_succ, List.getElem_cons_zero, List.setIfInBounds_toArray, List.set_cons_zero, List.set_cons_succ]
              refine wpAnyE_take 12 (v := (.slice a5 (i + 1 + (n - i)) p5)) C5.out rfl (by kernel_rfl) (by kernel_rfl) (by kernel_rfl) (fun _ _ _ h => h) (by rfl) (fun w4 c4 => ?_) ?_
              · go_simp
              try simp only [Act.put, List.getElem_toArray, List.getElem_cons_succ, List.getElem_cons_zero, List.setIfInBounds_toArray, List.set_cons_zero, List.set_cons_succ]
              refine wpAnyE_done (by kernel_rfl) ?_ _
              have HF := Lib.hid (HRES.out _ _ F5.out)
              go_wp2_with fail
              go_ret
              exact ⟨_, rfl, HF.out.1, HF.out.2⟩
            · have cB6 : Hid (Chg [] w1 (w1.alloc (.cells #[.bool tg, .string (str nm), .string (str ky)] 51))) := (Chg.refl [] _).alloc _
              have S6 : Hid (Sees (w1.alloc (.cells #[.bool tg, .string (str nm), .string (str ky)] 51)) 3 (.slice (some ⟨w1.heap.size, 0, none⟩) 1 1) 1 (Rfs [⟨tg, nm, ky⟩])) := Sees.rows (Blk.new _ _ _) rfl
              have N6 : Hid (KK1 < w1.heap.size) := F1.out.own.lt _ (by simp [Value.ownBlock])
              have F6 := Lib.hid (F1.out.to cB6.out)
              have C6 := Lib.hid (C1.out.nil cB6.out)
              go_simp
              refine ⟨C6.out, ?_⟩
              generalize w1.heap.size = KK6 at *
              generalize w1.alloc (.cells #[.bool tg, .string (str nm), .string (str ky)] 51) = w6 at *
              clear cB6
              try simp only [Act.put, List.getElem_toArray, List.getElem_cons_succ, List.getElem_cons_zero, List.setIfInBounds_toArray, List.set_cons_zero, List.set_cons_succ]
              refine wpAnyE_only 4 rfl (by kernel_rfl) (by rfl) ?_
              refine wp_app _ _ 32 (by rfl) sl_q (v := (.slice (some ⟨KK1, 0, none⟩) 0 0)) (n := 0) (xs := []) F6.out.own (by rfl) (vx := (.slice (some ⟨g, 0, none⟩) i cap1)) (m := i) (news := Rfs (d.take i)) (HS1.out _ C6.out) (by rfl) (rfs_ones _) (by have := HBB.out; omega) (by have := HBB.out; omega) ?_
              intro v7 w7 o7 e7 n7
              have F7 : Hid (Fresh W0 w7 51 3 v7 i (Rfs (d.take i))) := by have h := F6.out.app o7 e7 n7; first | exact h | (rw [Nat.zero_add] at h; exact h)
              have C7 := Lib.hid F7.out.chg
              have S7 := Lib.hid (S6.out.chg e7 (fun k hk hm => by simp [eyes] at hk; simp [Value.ownBlock] at hm; have := N6.out; omega))
              obtain ⟨a7, p7, hv7, -⟩ := F7.out.shape
              subst hv7
              clear o7 e7 n7
              refine ⟨C7.out, ?_⟩
              try simp only [Act.put, List.getElem_toArray, List.getElem_cons_succ, List.getElem_cons_zero, List.setIfInBounds_toArray, List.set_cons_zero, List.set_cons_succ]
              refine wpAnyE_only 7 rfl (by kernel_rfl) (by rfl) ?_
              refine wp_app _ _ 32 (by rfl) sl_q (v := (.slice a7 i p7)) (n := i) (xs := (Rfs (d.take i))) F7.out.own (by rfl) (vx := (.slice (some ⟨KK6, 0, none⟩) 1 1)) (m := 1) (news := Rfs [⟨tg, nm, ky⟩]) S7.out (by rfl) (rfs_ones _) (by have := HBB.out; omega) (by have := HBB.out; omega) ?_
              intro v8 w8 o8 e8 n8
              have F8 : Hid (Fresh W0 w8 51 3 v8 (i + 1) (Rfs (d.take i) ++ Rfs [⟨tg, nm, ky⟩])) := by have h := F7.out.app o8 e8 n8; first | exact h | (rw [Nat.zero_add] at h; exact h)
              have C8 := Lib.hid F8.out.chg
              obtain ⟨a8, p8, hv8, -⟩ := F8.out.shape
              subst hv8
              clear o8 e8 n8
              refine ⟨C8.out, ?_⟩
              try simp only [Act.put, List.getElem_toArray, List.getElem_cons_succ, List.getElem_cons_zero, List.setIfInBounds_toArray, List.set_cons_zero, List.set_cons_succ]
              refine wpAnyE_only 11 rfl (by kernel_rfl) (by rfl) ?_
              refine wp_app _ _ 32 (by rfl) sl_q (v := (.slice a8 (i + 1) p8)) (n := (i + 1)) (xs := (Rfs (d.take i) ++ Rfs [⟨tg, nm, ky⟩])) F8.out.own (by rfl) (vx := (.slice (some ⟨g, i * 3, none⟩) (n - i) (cap1 - i))) (m := (n - i)) (news := Rfs (d.drop i)) (HS2.out _ C8.out) (by rfl) (rfs_ones _) (by have := HBB.out; omega) (by have := HBB.out; omega) ?_
              intro v9 w9 o9 e9 n9
              have F9 : Hid (Fresh W0 w9 51 3 v9 (i + 1 + (n - i)) (Rfs (d.take i) ++ Rfs [⟨tg, nm, ky⟩] ++ Rfs (d.drop i))) := by have h := F8.out.app o9 e9 n9; first | exact h | (rw [Nat.zero_add] at h; exact h)
              have C9 := Lib.hid F9.out.chg
              obtain ⟨a9, p9, hv9, -⟩ := F9.out.shape
              subst hv9
              clear o9 e9 n9
              refine ⟨C9.out, ?_⟩
              try simp only [Act.put, List.getElem_toArray, List.getElem_cons_succ, List.getElem_cons_zero, List.setIfInBounds_toArray, List.set_cons_zero, List.set_cons_succ]
              refine wpAnyE_take 12 (v := (.slice a9 (i + 1 + (n - i)) p9)) C9.out rfl (by kernel_rfl) (by kernel_rfl) (by kernel_rfl) (fun _ _ _ h => h) (by rfl) (fun w4 c4 => ?_) ?_
              · go_simp
              try simp only [Act.put, List.getElem_toArray, List.getElem_cons_succ, List.getElem_cons_zero, List.setIfInBounds_toArray, List.set_cons_zero, List.set_cons_succ]
              refine wpAnyE_done (by kernel_rfl) ?_ _
              have HF := Lib.hid (HRES.out _ _ F9.out)
              go_wp2_with fail
              go_ret
              exact ⟨_, rfl, HF.out.1, HF.out.2⟩
          · have cB10 : Hid (Chg [] W0 (W0.alloc (.cells #[.bool tg, .string (str nm), .string (str ky)] 51))) := (Chg.refl [] _).alloc _
            have S10 : Hid (Sees (W0.alloc (.cells #[.bool tg, .string (str nm), .string (str ky)] 51)) 3 (.slice (some ⟨W0.heap.size, 0, none⟩) 1 1) 1 (Rfs [⟨tg, nm, ky⟩])) := Sees.rows (Blk.new _ _ _) rfl
            have C10 := Lib.hid (HC0.out.nil cB10.out)
            go_simp
            refine ⟨C10.out, ?_⟩
            generalize W0.heap.size = KK10 at *
            generalize W0.alloc (.cells #[.bool tg, .string (str nm), .string (str ky)] 51) = w10 at *
            clear cB10
            try simp only [Act.put, List.getElem_toArray, List.getElem_cons_succ, List.getElem_cons_zero, List.setIfInBounds_toArray, List.set_cons_zero, List.set_cons_succ]
            refine wpAnyE_only 0 rfl (by kernel_rfl) (by rfl) ?_
            have cB11 : Hid (Chg [] w10 (w10.alloc (.cells #[] 51))) := (Chg.refl [] _).alloc _
            have F11 : Hid (Fresh W0 (w10.alloc (.cells #[] 51)) 51 3 (.slice (some ⟨w10.heap.size, 0, none⟩) 0 0) 0 []) := ⟨Aq.Own.made _ _ _, C10.out.nil cB11.out, fun k hk => by simp [Value.ownBlock] at hk; rw [hk]; exact C10.out.size⟩
            have N11 : Hid (KK10 < w10.heap.size) := S10.out.lt (by decide) _ (by simp [eyes])
            have S11 := Lib.hid (S10.out.chg0 cB11.out)
            have C11 := Lib.hid (C10.out.nil cB11.out)
            go_simp
            refine ⟨C11.out, ?_⟩
            generalize w10.heap.size = KK11 at *
            generalize w10.alloc (.cells #[] 51) = w11 at *
            clear cB11
            try simp only [Act.put, List.getElem_toArray, List.getElem_cons_succ, List.getElem_cons_zero, List.setIfInBounds_toArray, List.set_cons_zero, List.set_cons_succ]
            refine wpAnyE_only 4 rfl (by kernel_rfl) (by rfl) ?_
            refine wp_app _ _ 32 (by rfl) sl_q (v := (.slice (some ⟨KK11, 0, none⟩) 0 0)) (n := 0) (xs := []) F11.out.own (by rfl) (vx := (.slice (some ⟨g, 0, none⟩) i cap1)) (m := i) (news := Rfs (d.take i)) (HS1.out _ C11.out) (by rfl) (rfs_ones _) (by have := HBB.out; omega) (by have := HBB.out; omega) ?_
            intro v12 w12 o12 e12 n12
            have F12 : Hid (Fresh W0 w12 51 3 v12 i (Rfs (d.take i))) := by have h := F11.out.app o12 e12 n12; first | exact h | (rw [Nat.zero_add] at h; exact h)
            have C12 := Lib.hid F12.out.chg
            have S12 := Lib.hid (S11.out.chg e12 (fun k hk hm => by simp [eyes] at hk; simp [Value.ownBlock] at hm; have := N11.out; omega))
            obtain ⟨a12, p12, hv12, -⟩ := F12.out.shape
            subst hv12
            clear o12 e12 n12
            refine ⟨C12.out, ?_⟩
            try simp only [Act.put, List.getElem_toArray, List.getElem_cons_succ, List.getElem_cons_zero, List.setIfInBounds_toArray, List.set_cons_zero, List.set_cons_succ]
            refine wpAnyE_only 7 rfl (by kernel_rfl) (by rfl) ?_
            refine wp_app _ _ 32 (by rfl) sl_q (v := (.slice a12 i p12)) (n := i) (xs := (Rfs (d.take i))) F12.out.own (by rfl) (vx := (.slice (some ⟨KK10, 0, none⟩) 1 1)) (m := 1) (news := Rfs [⟨tg, nm, ky⟩]) S12.out (by rfl) (rfs_ones _) (by have := HBB.out; omega) (by have := HBB.out; omega) ?_
            intro v13 w13 o13 e13 n13
            have F13 : Hid (Fresh W0 w13 51 3 v13 (i + 1) (Rfs (d.take i) ++ Rfs [⟨tg, nm, ky⟩])) := by have h := F12.out.app o13 e13 n13; first | exact h | (rw [Nat.zero_add] at h; exact h)
            have C13 := Lib.hid F13.out.chg
            obtain ⟨a13, p13, hv13, -⟩ := F13.out.shape
            subst hv13
            clear o13 e13 n13
            refine ⟨C13.out, ?_⟩
            try simp only [Act.put, List.getElem_toArray, List.getElem_cons_succ, List.getElem_cons_zero, List.setIfInBounds_toArray, List.set_cons_zero, List.set_cons_succ]
            refine wpAnyE_only 11 rfl (by kernel_rfl) (by rfl) ?_
            refine wp_app _ _ 32 (by rfl) sl_q (v := (.slice a13 (i + 1) p13)) (n := (i + 1)) (xs := (Rfs (d.take i) ++ Rfs [⟨tg, nm, ky⟩])) F13.out.own (by rfl) (vx := (.slice (some ⟨g, i * 3, none⟩) (n - i) (cap1 - i))) (m := (n - i)) (news := Rfs (d.drop i)) (HS2.out _ C13.out) (by rfl) (rfs_ones _) (by have := HBB.out; omega) (by have := HBB.out; omega) ?_
            intro v14 w14 o14 e14 n14
            have F14 : Hid (Fresh W0 w14 51 3 v14 (i + 1 + (n - i)) (Rfs (d.take i) ++ Rfs [⟨tg, nm, ky⟩] ++ Rfs (d.drop i))) := by have h := F13.out.app o14 e14 n14; first | exact h | (rw [Nat.zero_add] at h; exact h)
            have C14 := Lib.hid F14.out.chg
            obtain ⟨a14, p14, hv14, -⟩ := F14.out.shape
            subst hv14
            clear o14 e14 n14
            refine ⟨C14.out, ?_⟩
            try simp only [Act.put, List.getElem_toArray, List.getElem_cons_succ, List.getElem_cons_zero, List.setIfInBounds_toArray, List.set_cons_zero, List.set_cons_succ]
            refine wpAnyE_take 12 (v := (.slice a14 (i + 1 + (n - i)) p14)) C14.out rfl (by kernel_rfl) (by kernel_rfl) (by kernel_rfl) (fun _ _ _ h => h) (by rfl) (fun w4 c4 => ?_) ?_
            · go_simp
            try simp only [Act.put, List.getElem_toArray, List.getElem_cons_succ, List.getElem_cons_zero, List.setIfInBounds_toArray, List.set_cons_zero, List.set_cons_succ]
            refine wpAnyE_done (by kernel_rfl) ?_ _
            have HF := Lib.hid (HRES.out _ _ F14.out)
            go_wp2_with fail
            go_ret
            exact ⟨_, rfl, HF.out.1, HF.out.2⟩
      · have t1 : decide ((i : Int) < (n : Int)) = false := by simp; omega
        have t1' : decide (i < n) = false := by simp; omega
        have hil : ¬ i < d.length := by rw [HN.out]; exact hi
        have hp : placeL d rr = i := place_at (by rw [HN.out]; omega) HM.out (fun h => absurd h hil)
        obtain rfl : i = n := by omega
        have HPI := Lib.hid (And.intro hp hin)
        clear hik hin hil hi HM hp
        go_wp2_with fail
        go_quiet (fail)
        have hc9 := Lib.hid (hc.out.drewN nq)
        generalize wr.drewN nq = w9 at *
        have D9 : Hid (Chg [] w1 w9.drew) := hc9.out.drew
        by_cases hce : cap1 = i
        · subst hce
          have HSA : Hid (∀ w', Chg [] w1 w' → Sees w' 3 (.slice (some ⟨g, 0, none⟩) cap1 cap1) cap1 (Rfs (d.take cap1))) := fun w' c => sees_take (HSE.out w' c) HN.out (Nat.le_refl _)
          have HSB : Hid (∀ w', Chg [] w1 w' → Sees w' 3 (.slice (some ⟨g, 0, none⟩) 0 0) 0 (Rfs (d.drop cap1))) := fun w' c => by rw [List.drop_of_length_le (by rw [HN.out]; exact Nat.le_refl _)]; exact ⟨rfl, _, _, rfl, Nat.le_refl _, by simp, fun _ _ j u hu => by simp [Rfs] at hu⟩
          have HRS : Hid (∀ w' v', Sees w' 3 v' (cap1 + 1 + 0) (Rfs (d.take cap1) ++ Rfs [⟨tg, nm, ky⟩] ++ Rfs (d.drop cap1)) → Chg [] w1 w' → Sees w' 3 v' (setL l rr).length (Rfs (setL l rr)) ∧ Chg [] w w') := fun w' v' => HR0.out cap1 0 w' v' rfl HPI.out.1
          have HBB : Hid (cap1 ≤ 1000000) := HNC.out.2
          go_upto_region 5 with (fail)
          refine wp_region_E [] (by kernel_rfl) ?_
          have c0 : Chg [] w9.drew w9.drew := Chg.refl _ _
          have HS1 : Hid (∀ w', Chg [] w9.drew w' → Sees w' 3 (.slice (some ⟨g, 0, none⟩) cap1 cap1) cap1 (Rfs (d.take cap1))) := fun w' c => HSA.out w' (D9.out.nil c)
          have HS2 : Hid (∀ w', Chg [] w9.drew w' → Sees w' 3 (.slice (some ⟨g, 0, none⟩) 0 0) 0 (Rfs (d.drop cap1))) := fun w' c => HSB.out w' (D9.out.nil c)
          have HK9 : Hid (∀ w', Chg [] w9.drew w' → w'.cell? ⟨K, 0, none⟩ = some (.bool tg) ∧ w'.cell? ⟨K, 1, none⟩ = some (.string (str nm)) ∧ w'.cell? ⟨K, 2, none⟩ = some (.string (str ky))) := fun w' c => (HBK.out w' (D9.out.nil c))
          have HRES : Hid (∀ w' v', Fresh w9.drew w' 51 3 v' (cap1 + 1 + 0) (Rfs (d.take cap1) ++ Rfs [⟨tg, nm, ky⟩] ++ Rfs (d.drop cap1)) → Sees w' 3 v' (setL l rr).length (Rfs (setL l rr)) ∧ Chg [] w w') := fun w' v' h => HRS.out w' v' (by exact h.own.sees) (D9.out.nil h.chg)
          generalize w9.drew = W0 at *
          refine wpAnyE_take 1 (v := (.slice (some ⟨g, 0, none⟩) cap1 cap1)) c0 rfl (by kernel_rfl) (by kernel_rfl) (by kernel_rfl) (fun _ _ _ h => h) (by rfl) (fun w4 c4 => ?_) ?_
          · go_simp
          try simp only [Act.put, List.getElem_toArray, List.getElem_cons_succ, List.getElem_cons_zero, List.setIfInBounds_toArray, List.set_cons_zero, List.set_cons_succ]
          refine wpAnyE_take 2 (v := (.int .i64 (cap1 : Int))) c0 rfl (by kernel_rfl) (by kernel_rfl) (by kernel_rfl) (fun _ _ _ h => h) (by rfl) (fun w4 c4 => ?_) ?_
          · go_simp
          try simp only [Act.put, List.getElem_toArray, List.getElem_cons_succ, List.getElem_cons_zero, List.setIfInBounds_toArray, List.set_cons_zero, List.set_cons_succ]
          refine wpAnyE_take 3 (v := (.slice (some ⟨g, 0, none⟩) cap1 cap1)) c0 rfl (by kernel_rfl) (by kernel_rfl) (by kernel_rfl) (fun _ _ _ h => h) (by rfl) (fun w4 c4 => ?_) ?_
          · go_simp
          try simp only [Act.put, List.getElem_toArray, List.getElem_cons_succ, List.getElem_cons_zero, List.setIfInBounds_toArray, List.set_cons_zero, List.set_cons_succ]
          refine wpAnyE_take 5 (v := (.agg #[.bool tg, .string (str nm), .string (str ky)])) c0 rfl (by kernel_rfl) (by kernel_rfl) (by kernel_rfl) (fun _ _ _ h => h) (by rfl) (fun w4 c4 => ?_) ?_
          · obtain ⟨z0, z1, z2⟩ := HK9.out w4 c4
            go_simp
          try simp only [Act.put, List.getElem_toArray, List.getElem_cons_succ, List.getElem_cons_zero, List.setIfInBounds_toArray, List.set_cons_zero, List.set_cons_succ]
          refine wpAnyE_take 8 (v := (.slice (some ⟨g, 0, none⟩) cap1 cap1)) c0 rfl (by kernel_rfl) (by kernel_rfl) (by kernel_rfl) (fun _ _ _ h => h) (by rfl) (fun w4 c4 => ?_) ?_
          · go_simp
          try simp only [Act.put, List.getElem_toArray, List.getElem_cons_succ, List.getElem_cons_zero, List.setIfInBounds_toArray, List.set_cons_zero, List.set_cons_succ]
          refine wpAnyE_take 9 (v := (.int .i64 (cap1 : Int))) c0 rfl (by kernel_rfl) (by kernel_rfl) (by kernel_rfl) (fun _ _ _ h => h) (by rfl) (fun w4 c4 => ?_) ?_
          · go_simp
          try simp only [Act.put, List.getElem_toArray, List.getElem_cons_succ, List.getElem_cons_zero, List.setIfInBounds_toArray, List.set_cons_zero, List.set_cons_succ]
          refine wpAnyE_take 10 (v := (.slice (some ⟨g, 0, none⟩) 0 0)) c0 rfl (by kernel_rfl) (by kernel_rfl) (by kernel_rfl) (fun _ _ _ h => h) (by rfl) (fun w4 c4 => ?_) ?_
          · go_simp
          try simp only [Act.put, List.getElem_toArray, List.getElem_cons_succ, List.getElem_cons_zero, List.setIfInBounds_toArray, List.set_cons_zero, List.set_cons_succ]
          have HC0 := Lib.hid c0
          clear c0
          refine wpAnyE_two 0 6 rfl rfl (by kernel_rfl) (by rfl) (by rfl) ?_ ?_
          · have cB1 : Hid (Chg [] W0 (W0.alloc (.cells #[] 51))) := (Chg.refl [] _).alloc _
            have F1 : Hid (Fresh W0 (W0.alloc (.cells #[] 51)) 51 3 (.slice (some ⟨W0.heap.size, 0, none⟩) 0 0) 0 []) := ⟨Aq.Own.made _ _ _, HC0.out.nil cB1.out, fun k hk => by simp [Value.ownBlock] at hk; rw [hk]; exact HC0.out.size⟩
            have C1 := Lib.hid (HC0.out.nil cB1.out)
            go_simp
            refine ⟨C1.out, ?_⟩
            generalize W0.heap.size = KK1 at *
            generalize W0.alloc (.cells #[] 51) = w1 at *
            clear cB1
            try simp only [Act.put, List.getElem_toArray, List.getElem_cons_succ, List.getElem_cons_zero, List.setIfInBounds_toArray, List.set_cons_zero, List.set_cons_succ]
            refine wpAnyE_two 4 6 rfl rfl (by kernel_rfl) (by rfl) (by rfl) ?_ ?_
            · refine wp_app _ _ 32 (by rfl) sl_q (v := (.slice (some ⟨KK1, 0, none⟩) 0 0)) (n := 0) (xs := []) F1.out.own (by rfl) (vx := (.slice (some ⟨g, 0, none⟩) cap1 cap1)) (m := cap1) (news := Rfs (d.take cap1)) (HS1.out _ C1.out) (by rfl) (rfs_ones _) (by have := HBB.out; omega) (by have := HBB.out; omega) ?_
              intro v2 w2 o2 e2 n2
              have F2 : Hid (Fresh W0 w2 51 3 v2 cap1 (Rfs (d.take cap1))) := by have h := F1.out.app o2 e2 n2; first | exact h | (rw [Nat.zero_add] at h; exact h)
              have C2 := Lib.hid F2.out.chg
              obtain ⟨a2, p2, hv2, -⟩ := F2.out.shape
              subst hv2
              clear o2 e2 n2
              refine ⟨C2.out, ?_⟩
              try simp only [Act.put, List.getElem_toArray, List.getElem_cons_succ, List.getElem_cons_zero, List.setIfInBounds_toArray, List.set_cons_zero, List.set_cons_succ]
              refine wpAnyE_only 6 rfl (by kernel_rfl) (by rfl) ?_
              have cB3 : Hid (Chg [] w2 (w2.alloc (.cells #[.bool tg, .string (str nm), .string (str ky)] 51))) := (Chg.refl [] _).alloc _
              have S3 : Hid (Sees (w2.alloc (.cells #[.bool tg, .string (str nm), .string (str ky)] 51)) 3 (.slice (some ⟨w2.heap.size, 0, none⟩) 1 1) 1 (Rfs [⟨tg, nm, ky⟩])) := Sees.rows (Blk.new _ _ _) rfl
              have F3 := Lib.hid (F2.out.to cB3.out)
              have C3 := Lib.hid (C2.out.nil cB3.out)
              go_simp
              refine ⟨C3.out, ?_⟩
              generalize w2.heap.size = KK3 at *
              generalize w2.alloc (.cells #[.bool tg, .string (str nm), .string (str ky)] 51) = w3 at *
              clear cB3
              try simp only [Act.put, List.getElem_toArray, List.getElem_cons_succ, List.getElem_cons_zero, List.setIfInBounds_toArray, List.set_cons_zero, List.set_cons_succ]
              refine wpAnyE_only 7 rfl (by kernel_rfl) (by rfl) ?_
              refine wp_app _ _ 32 (by rfl) sl_q (v := (.slice a2 cap1 p2)) (n := cap1) (xs := (Rfs (d.take cap1))) F3.out.own (by rfl) (vx := (.slice (some ⟨KK3, 0, none⟩) 1 1)) (m := 1) (news := Rfs [⟨tg, nm, ky⟩]) S3.out (by rfl) (rfs_ones _) (by have := HBB.out; omega) (by have := HBB.out; omega) ?_
              intro v4 w4 o4 e4 n4
              have F4 : Hid (Fresh W0 w4 51 3 v4 (cap1 + 1) (Rfs (d.take cap1) ++ Rfs [⟨tg, nm, ky⟩])) := by have h := F3.out.app o4 e4 n4; first | exact h | (rw [Nat.zero_add] at h; exact h)
              have C4 := Lib.hid F4.out.chg
              obtain ⟨a4, p4, hv4, -⟩ := F4.out.shape
              subst hv4
              clear o4 e4 n4
              refine ⟨C4.out, ?_⟩
              try simp only [Act.put, List.getElem_toArray, List.getElem_cons_succ, List.getElem_cons_zero, List.setIfInBounds_toArray, List.set_cons_zero, List.set_cons_succ]
              refine wpAnyE_only 11 rfl (by kernel_rfl) (by rfl) ?_
              refine wp_app _ _ 32 (by rfl) sl_q (v := (.slice a4 (cap1 + 1) p4)) (n := (cap1 + 1)) (xs := (Rfs (d.take cap1) ++ Rfs [⟨tg, nm, ky⟩])) F4.out.own (by rfl) (vx := (.slice (some ⟨g, 0, none⟩) 0 0)) (m := 0) (news := Rfs (d.drop cap1)) (HS2.out _ C4.out) (by rfl) (rfs_ones _) (by have := HBB.out; omega) (by have := HBB.out; omega) ?_
              intro v5 w5 o5 e5 n5
              have F5 : Hid (Fresh W0 w5 51 3 v5 (cap1 + 1) (Rfs (d.take cap1) ++ Rfs [⟨tg, nm, ky⟩] ++ Rfs (d.drop cap1))) := by have h := F4.out.app o5 e5 n5; first | exact h | (rw [Nat.zero_add] at h; exact h)
              have C5 := Lib.hid F5.out.chg
              obtain ⟨a5, p5, hv5, -⟩ := F5.out.shape
              subst hv5
              clear o5 e5 n5
              refine ⟨C5.out, ?_⟩
              try simp only [Act.put, List.getElem_toArray, List.getElem_cons_succ, List.getElem_cons_zero, List.setIfInBounds_toArray, List.set_cons_zero, List.set_cons_succ]
              refine wpAnyE_take 12 (v := (.slice a5 (cap1 + 1) p5)) C5.out rfl (by kernel_rfl) (by kernel_rfl) (by kernel_rfl) (fun _ _ _ h => h) (by rfl) (fun w4 c4 => ?_) ?_
              · go_simp
              try simp only [Act.put, List.getElem_toArray, List.getElem_cons_succ, List.getElem_cons_zero, List.setIfInBounds_toArray, List.set_cons_zero, List.set_cons_succ]
              refine wpAnyE_done (by kernel_rfl) ?_ _
              have HF := Lib.hid (HRES.out _ _ F5.out)
              go_wp2_with fail
              go_ret
              exact ⟨_, rfl, HF.out.1, HF.out.2⟩
            · have cB6 : Hid (Chg [] w1 (w1.alloc (.cells #[.bool tg, .string (str nm), .string (str ky)] 51))) := (Chg.refl [] _).alloc _
              have S6 : Hid (Sees (w1.alloc (.cells #[.bool tg, .string (str nm), .string (str ky)] 51)) 3 (.slice (some ⟨w1.heap.size, 0, none⟩) 1 1) 1 (Rfs [⟨tg, nm, ky⟩])) := Sees.rows (Blk.new _ _ _) rfl
              have N6 : Hid (KK1 < w1.heap.size) := F1.out.own.lt _ (by simp [Value.ownBlock])
              have F6 := Lib.hid (F1.out.to cB6.out)
              have C6 := Lib.hid (C1.out.nil cB6.out)
              go_simp
              refine ⟨C6.out, ?_⟩
              generalize w1.heap.size = KK6 at *
              generalize w1.alloc (.cells #[.bool tg, .string (str nm), .string (str ky)] 51) = w6 at *
              clear cB6
              try simp only [Act.put, List.getElem_toArray, List.getElem_cons_succ, List.getElem_cons_zero, List.setIfInBounds_toArray, List.set_cons_zero, List.set_cons_succ]
              refine wpAnyE_only 4 rfl (by kernel_rfl) (by rfl) ?_
              refine wp_app _ _ 32 (by rfl) sl_q (v := (.slice (some ⟨KK1, 0, none⟩) 0 0)) (n := 0) (xs := []) F6.out.own (by rfl) (vx := (.slice (some ⟨g, 0, none⟩) cap1 cap1)) (m := cap1) (news := Rfs (d.take cap1)) (HS1.out _ C6.out) (by rfl) (rfs_ones _) (by have := HBB.out; omega) (by have := HBB.out; omega) ?_
              intro v7 w7 o7 e7 n7
              have F7 : Hid (Fresh W0 w7 51 3 v7 cap1 (Rfs (d.take cap1))) := by have h := F6.out.app o7 e7 n7; first | exact h | (rw [Nat.zero_add] at h; exact h)
              have C7 := Lib.hid F7.out.chg
              have S7 := Lib.hid (S6.out.chg e7 (fun k hk hm => by simp [eyes] at hk; simp [Value.ownBlock] at hm; have := N6.out; omega))
              obtain ⟨a7, p7, hv7, -⟩ := F7.out.shape
              subst hv7
              clear o7 e7 n7
              refine ⟨C7.out, ?_⟩
              try simp only [Act.put, List.getElem_toArray, List.getElem_cons_succ, List.getElem_cons_zero, List.setIfInBounds_toArray, List.set_cons_zero, List.set_cons_succ]
              refine wpAnyE_only 7 rfl (by kernel_rfl) (by rfl) ?_
              refine wp_app _ _ 32 (by rfl) sl_q (v := (.slice a7 cap1 p7)) (n := cap1) (xs := (Rfs (d.take cap1))) F7.out.own (by rfl) (vx := (.slice (some ⟨KK6, 0, none⟩) 1 1)) (m := 1) (news := Rfs [⟨tg, nm, ky⟩]) S7.out (by rfl) (rfs_ones _) (by have := HBB.out; omega) (by have := HBB.out; omega) ?_
              intro v8 w8 o8 e8 n8
              have F8 : Hid (Fresh W0 w8 51 3 v8 (cap1 + 1) (Rfs (d.take cap1) ++ Rfs [⟨tg, nm, ky⟩])) := by have h := F7.out.app o8 e8 n8; first | exact h | (rw [Nat.zero_add] at h; exact h)
              have C8 := Lib.hid F8.out.chg
              obtain ⟨a8, p8, hv8, -⟩ := F8.out.shape
              subst hv8
              clear o8 e8 n8
              refine ⟨C8.out, ?_⟩
              try simp only [Act.put, List.getElem_toArray, List.getElem_cons_succ, List.getElem_cons_zero, List.setIfInBounds_toArray, List.set_cons_zero, List.set_cons_succ]
              refine wpAnyE_only 11 rfl (by kernel_rfl) (by rfl) ?_
              refine wp_app _ _ 32 (by rfl) sl_q (v := (.slice a8 (cap1 + 1) p8)) (n := (cap1 + 1)) (xs := (Rfs (d.take cap1) ++ Rfs [⟨tg, nm, ky⟩])) F8.out.own (by rfl) (vx := (.slice (some ⟨g, 0, none⟩) 0 0)) (m := 0) (news := Rfs (d.drop cap1)) (HS2.out _ C8.out) (by rfl) (rfs_ones _) (by have := HBB.out; omega) (by have := HBB.out; omega) ?_
              intro v9 w9 o9 e9 n9
              have F9 : Hid (Fresh W0 w9 51 3 v9 (cap1 + 1) (Rfs (d.take cap1) ++ Rfs [⟨tg, nm, ky⟩] ++ Rfs (d.drop cap1))) := by have h := F8.out.app o9 e9 n9; first | exact h | (rw [Nat.zero_add] at h; exact h)
              have C9 := Lib.hid F9.out.chg
              obtain ⟨a9, p9, hv9, -⟩ := F9.out.shape
              subst hv9
              clear o9 e9 n9
              refine ⟨C9.out, ?_⟩
              try simp only [Act.put, List.getElem_toArray, List.getElem_cons_succ, List.getElem_cons_zero, List.setIfInBounds_toArray, List.set_cons_zero, List.set_cons_succ]
              refine wpAnyE_take 12 (v := (.slice a9 (cap1 + 1) p9)) C9.out rfl (by kernel_rfl) (by kernel_rfl) (by kernel_rfl) (fun _ _ _ h => h) (by rfl) (fun w4 c4 => ?_) ?_
              · go_simp
              try simp only [Act.put, List.getElem_toArray, List.getElem_cons_succ, List.getElem_cons_zero, List.setIfInBounds_toArray, List.set_cons_zero, List.set_cons_succ]
              refine wpAnyE_done (by kernel_rfl) ?_ _
              have HF := Lib.hid (HRES.out _ _ F9.out)
              go_wp2_with fail
              go_ret
              exact ⟨_, rfl, HF.out.1, HF.out.2⟩
          · have cB10 : Hid (Chg [] W0 (W0.alloc (.cells #[.bool tg, .string (str nm), .string (str ky)] 51))) := (Chg.refl [] _).alloc _
            have S10 : Hid (Sees (W0.alloc (.cells #[.bool tg, .string (str nm), .string (str ky)] 51)) 3 (.slice (some ⟨W0.heap.size, 0, none⟩) 1 1) 1 (Rfs [⟨tg, nm, ky⟩])) := Sees.rows (Blk.new _ _ _) rfl
            have C10 := Lib.hid (HC0.out.nil cB10.out)
            go_simp
            refine ⟨C10.out, ?_⟩
            generalize W0.heap.size = KK10 at *
            generalize W0.alloc (.cells #[.bool tg, .string (str nm), .string (str ky)] 51) = w10 at *
            clear cB10
            try simp only [Act.put, List.getElem_toArray, List.getElem_cons_succ, List.getElem_cons_zero, List.setIfInBounds_toArray, List.set_cons_zero, List.set_cons_succ]
            refine wpAnyE_only 0 rfl (by kernel_rfl) (by rfl) ?_
            have cB11 : Hid (Chg [] w10 (w10.alloc (.cells #[] 51))) := (Chg.refl [] _).alloc _
            have F11 : Hid (Fresh W0 (w10.alloc (.cells #[] 51)) 51 3 (.slice (some ⟨w10.heap.size, 0, none⟩) 0 0) 0 []) := ⟨Aq.Own.made _ _ _, C10.out.nil cB11.out, fun k hk => by simp [Value.ownBlock] at hk; rw [hk]; exact C10.out.size⟩
            have N11 : Hid (KK10 < w10.heap.size) := S10.out.lt (by decide) _ (by simp [eyes])
            have S11 := Lib.hid (S10.out.chg0 cB11.out)
            have C11 := Lib.hid (C10.out.nil cB11.out)
            go_simp
            refine ⟨C11.out, ?_⟩
            generalize w10.heap.size = KK11 at *
            generalize w10.alloc (.cells #[] 51) = w11 at *
            clear cB11
            try simp only [Act.put, List.getElem_toArray, List.getElem_cons_succ, List.getElem_cons_zero, List.setIfInBounds_toArray, List.set_cons_zero, List.set_cons_succ]
            refine wpAnyE_only 4 rfl (by kernel_rfl) (by rfl) ?_
            refine wp_app _ _ 32 (by rfl) sl_q (v := (.slice (some ⟨KK11, 0, none⟩) 0 0)) (n := 0) (xs := []) F11.out.own (by rfl) (vx := (.slice (some ⟨g, 0, none⟩) cap1 cap1)) (m := cap1) (news := Rfs (d.take cap1)) (HS1.out _ C11.out) (by rfl) (rfs_ones _) (by have := HBB.out; omega) (by have := HBB.out; omega) ?_
            intro v12 w12 o12 e12 n12
            have F12 : Hid (Fresh W0 w12 51 3 v12 cap1 (Rfs (d.take cap1))) := by have h := F11.out.app o12 e12 n12; first | exact h | (rw [Nat.zero_add] at h; exact h)
            have C12 := Lib.hid F12.out.chg
            have S12 := Lib.hid (S11.out.chg e12 (fun k hk hm => by simp [eyes] at hk; simp [Value.ownBlock] at hm; have := N11.out; omega))
            obtain ⟨a12, p12, hv12, -⟩ := F12.out.shape
            subst hv12
            clear o12 e12 n12
            refine ⟨C12.out, ?_⟩
            try simp only [Act.put, List.getElem_toArray, List.getElem_cons_succ, List.getElem_cons_zero, List.setIfInBounds_toArray, List.set_cons_zero, List.set_cons_succ]
            refine wpAnyE_only 7 rfl (by kernel_rfl) (by rfl) ?_
            refine wp_app _ _ 32 (by rfl) sl_q (v := (.slice a12 cap1 p12)) (n := cap1) (xs := (Rfs (d.take cap1))) F12.out.own (by rfl) (vx := (.slice (some ⟨KK10, 0, none⟩) 1 1)) (m := 1) (news := Rfs [⟨tg, nm, ky⟩]) S12.out (by rfl) (rfs_ones _) (by have := HBB.out; omega) (by have := HBB.out; omega) ?_
            intro v13 w13 o13 e13 n13
            have F13 : Hid (Fresh W0 w13 51 3 v13 (cap1 + 1) (Rfs (d.take cap1) ++ Rfs [⟨tg, nm, ky⟩])) := by have h := F12.out.app o13 e13 n13; first | exact h | (rw [Nat.zero_add] at h; exact h)
            have C13 := Lib.hid F13.out.chg
            obtain ⟨a13, p13, hv13, -⟩ := F13.out.shape
            subst hv13
            clear o13 e13 n13
            refine ⟨C13.out, ?_⟩
            try simp only [Act.put, List.getElem_toArray, List.getElem_cons_succ, List.getElem_cons_zero, List.setIfInBounds_toArray, List.set_cons_zero, List.set_cons_succ]
            refine wpAnyE_only 11 rfl (by kernel_rfl) (by rfl) ?_
            refine wp_app _ _ 32 (by rfl) sl_q (v := (.slice a13 (cap1 + 1) p13)) (n := (cap1 + 1)) (xs := (Rfs (d.take cap1) ++ Rfs [⟨tg, nm, ky⟩])) F13.out.own (by rfl) (vx := (.slice (some ⟨g, 0, none⟩) 0 0)) (m := 0) (news := Rfs (d.drop cap1)) (HS2.out _ C13.out) (by rfl) (rfs_ones _) (by have := HBB.out; omega) (by have := HBB.out; omega) ?_
            intro v14 w14 o14 e14 n14
            have F14 : Hid (Fresh W0 w14 51 3 v14 (cap1 + 1) (Rfs (d.take cap1) ++ Rfs [⟨tg, nm, ky⟩] ++ Rfs (d.drop cap1))) := by have h := F13.out.app o14 e14 n14; first | exact h | (rw [Nat.zero_add] at h; exact h)
            have C14 := Lib.hid F14.out.chg
            obtain ⟨a14, p14, hv14, -⟩ := F14.out.shape
            subst hv14
            clear o14 e14 n14
            refine ⟨C14.out, ?_⟩
            try simp only [Act.put, List.getElem_toArray, List.getElem_cons_succ, List.getElem_cons_zero, List.setIfInBounds_toArray, List.set_cons_zero, List.set_cons_succ]
            refine wpAnyE_take 12 (v := (.slice a14 (cap1 + 1) p14)) C14.out rfl (by kernel_rfl) (by kernel_rfl) (by kernel_rfl) (fun _ _ _ h => h) (by rfl) (fun w4 c4 => ?_) ?_
            · go_simp
            try simp only [Act.put, List.getElem_toArray, List.getElem_cons_succ, List.getElem_cons_zero, List.setIfInBounds_toArray, List.set_cons_zero, List.set_cons_succ]
            refine wpAnyE_done (by kernel_rfl) ?_ _
            have HF := Lib.hid (HRES.out _ _ F14.out)
            go_wp2_with fail
            go_ret
            exact ⟨_, rfl, HF.out.1, HF.out.2⟩
        · have hne2 : cap1 ≠ i := hce
          have HSA : Hid (∀ w', Chg [] w1 w' → Sees w' 3 (.slice (some ⟨g, 0, none⟩) i cap1) i (Rfs (d.take i))) := fun w' c => sees_take (HSE.out w' c) HN.out (Nat.le_refl _)
          have HSB : Hid (∀ w', Chg [] w1 w' → Sees w' 3 (.slice (some ⟨g, i * 3, none⟩) 0 (cap1 - i)) 0 (Rfs (d.drop i))) := fun w' c => by have h := sees_drop (HSE.out w' c) HN.out (Nat.le_refl i); rw [Nat.sub_self] at h; exact h
          have HRS : Hid (∀ w' v', Sees w' 3 v' (i + 1 + 0) (Rfs (d.take i) ++ Rfs [⟨tg, nm, ky⟩] ++ Rfs (d.drop i)) → Chg [] w1 w' → Sees w' 3 v' (setL l rr).length (Rfs (setL l rr)) ∧ Chg [] w w') := fun w' v' => HR0.out i 0 w' v' rfl HPI.out.1
          have HBB : Hid (i ≤ 1000000) := HNC.out.2
          have hnc : i ≤ cap1 := HNC.out.1
          have hicI : (i : Int) ≤ (cap1 : Int) := by omega
          go_upto_region 5 with (fail)
          refine wp_region_E [] (by kernel_rfl) ?_
          have c0 : Chg [] w9.drew w9.drew := Chg.refl _ _
          have HS1 : Hid (∀ w', Chg [] w9.drew w' → Sees w' 3 (.slice (some ⟨g, 0, none⟩) i cap1) i (Rfs (d.take i))) := fun w' c => HSA.out w' (D9.out.nil c)
          have HS2 : Hid (∀ w', Chg [] w9.drew w' → Sees w' 3 (.slice (some ⟨g, i * 3, none⟩) 0 (cap1 - i)) 0 (Rfs (d.drop i))) := fun w' c => HSB.out w' (D9.out.nil c)
          have HK9 : Hid (∀ w', Chg [] w9.drew w' → w'.cell? ⟨K, 0, none⟩ = some (.bool tg) ∧ w'.cell? ⟨K, 1, none⟩ = some (.string (str nm)) ∧ w'.cell? ⟨K, 2, none⟩ = some (.string (str ky))) := fun w' c => (HBK.out w' (D9.out.nil c))
          have HRES : Hid (∀ w' v', Fresh w9.drew w' 51 3 v' (i + 1 + 0) (Rfs (d.take i) ++ Rfs [⟨tg, nm, ky⟩] ++ Rfs (d.drop i)) → Sees w' 3 v' (setL l rr).length (Rfs (setL l rr)) ∧ Chg [] w w') := fun w' v' h => HRS.out w' v' (by exact h.own.sees) (D9.out.nil h.chg)
          generalize w9.drew = W0 at *
          refine wpAnyE_take 1 (v := (.slice (some ⟨g, 0, none⟩) i cap1)) c0 rfl (by kernel_rfl) (by kernel_rfl) (by kernel_rfl) (fun _ _ _ h => h) (by rfl) (fun w4 c4 => ?_) ?_
          · go_simp
          try simp only [Act.put, List.getElem_toArray, List.getElem_cons_succ, List.getElem_cons_zero, List.setIfInBounds_toArray, List.set_cons_zero, List.set_cons_succ]
          refine wpAnyE_take 2 (v := (.int .i64 (i : Int))) c0 rfl (by kernel_rfl) (by kernel_rfl) (by kernel_rfl) (fun _ _ _ h => h) (by rfl) (fun w4 c4 => ?_) ?_
          · go_simp
          try simp only [Act.put, List.getElem_toArray, List.getElem_cons_succ, List.getElem_cons_zero, List.setIfInBounds_toArray, List.set_cons_zero, List.set_cons_succ]
          refine wpAnyE_take 3 (v := (.slice (some ⟨g, 0, none⟩) i cap1)) c0 rfl (by kernel_rfl) (by kernel_rfl) (by kernel_rfl) (fun _ _ _ h => h) (by rfl) (fun w4 c4 => ?_) ?_
          · go_simp
          try simp only [Act.put, List.getElem_toArray, List.getElem_cons_succ, List.getElem_cons_zero, List.setIfInBounds_toArray, List.set_cons_zero, List.set_cons_succ]
          refine wpAnyE_take 5 (v := (.agg #[.bool tg, .string (str nm), .string (str ky)])) c0 rfl (by kernel_rfl) (by kernel_rfl) (by kernel_rfl) (fun _ _ _ h => h) (by rfl) (fun w4 c4 => ?_) ?_
          · obtain ⟨z0, z1, z2⟩ := HK9.out w4 c4
            go_simp
          try simp only [Act.put, List.getElem_toArray, List.getElem_cons_succ, List.getElem_cons_zero, List.setIfInBounds_toArray, List.set_cons_zero, List.set_cons_succ]
          refine wpAnyE_take 8 (v := (.slice (some ⟨g, 0, none⟩) i cap1)) c0 rfl (by kernel_rfl) (by kernel_rfl) (by kernel_rfl) (fun _ _ _ h => h) (by rfl) (fun w4 c4 => ?_) ?_
          · go_simp
          try simp only [Act.put, List.getElem_toArray, List.getElem_cons_succ, List.getElem_cons_zero, List.setIfInBounds_toArray, List.set_cons_zero, List.set_cons_succ]
          refine wpAnyE_take 9 (v := (.int .i64 (i : Int))) c0 rfl (by kernel_rfl) (by kernel_rfl) (by kernel_rfl) (fun _ _ _ h => h) (by rfl) (fun w4 c4 => ?_) ?_
          · go_simp
          try simp only [Act.put, List.getElem_toArray, List.getElem_cons_succ, List.getElem_cons_zero, List.setIfInBounds_toArray, List.set_cons_zero, List.set_cons_succ]
          refine wpAnyE_take 10 (v := (.slice (some ⟨g, i * 3, none⟩) 0 (cap1 - i))) c0 rfl (by kernel_rfl) (by kernel_rfl) (by kernel_rfl) (fun _ _ _ h => h) (by rfl) (fun w4 c4 => ?_) ?_
          · go_simp
          try simp only [Act.put, List.getElem_toArray, List.getElem_cons_succ, List.getElem_cons_zero, List.setIfInBounds_toArray, List.set_cons_zero, List.set_cons_succ]
          have HC0 := Lib.hid c0
          clear c0
          refine wpAnyE_two 0 6 rfl rfl (by kernel_rfl) (by rfl) (by rfl) ?_ ?_
          · have cB1 : Hid (Chg [] W0 (W0.alloc (.cells #[] 51))) := (Chg.refl [] _).alloc _
            have F1 : Hid (Fresh W0 (W0.alloc (.cells #[] 51)) 51 3 (.slice (some ⟨W0.heap.size, 0, none⟩) 0 0) 0 []) := ⟨Aq.Own.made _ _ _, HC0.out.nil cB1.out, fun k hk => by simp [Value.ownBlock] at hk; rw [hk]; exact HC0.out.size⟩
            have C1 := Lib.hid (HC0.out.nil cB1.out)
            go_simp
            refine ⟨C1.out, ?_⟩
            generalize W0.heap.size = KK1 at *
            generalize W0.alloc (.cells #[] 51) = w1 at *
            clear cB1
            try simp only [Act.put, List.getElem_toArray, List.getElem_cons_succ, List.getElem_cons_zero, List.setIfInBounds_toArray, List.set_cons_zero, List.set_cons_succ]
            refine wpAnyE_two 4 6 rfl rfl (by kernel_rfl) (by rfl) (by rfl) ?_ ?_
            · refine wp_app _ _ 32 (by rfl) sl_q (v := (.slice (some ⟨KK1, 0, none⟩) 0 0)) (n := 0) (xs := []) F1.out.own (by rfl) (vx := (.slice (some ⟨g, 0, none⟩) i cap1)) (m := i) (news := Rfs (d.take i)) (HS1.out _ C1.out) (by rfl) (rfs_ones _) (by have := HBB.out; omega) (by have := HBB.out; omega) ?_
              intro v2 w2 o2 e2 n2
              have F2 : Hid (Fresh W0 w2 51 3 v2 i (Rfs (d.take i))) := by have h := F1.out.app o2 e2 n2; first | exact h | (rw [Nat.zero_add] at h; exact h)
              have C2 := Lib.hid F2.out.chg
              obtain ⟨a2, p2, hv2, -⟩ := F2.out.shape
              subst hv2
              clear o2 e2 n2
              refine ⟨C2.out, ?_⟩
              try simp only [Act.put, List.getElem_toArray, List.getElem_cons_succ, List.getElem_cons_zero, List.setIfInBounds_toArray, List.set_cons_zero, List.set_cons_succ]
              refine wpAnyE_only 6 rfl (by kernel_rfl) (by rfl) ?_
              have cB3 : Hid (Chg [] w2 (w2.alloc (.cells #[.bool tg, .string (str nm), .string (str ky)] 51))) := (Chg.refl [] _).alloc _
              have S3 : Hid (Sees (w2.alloc (.cells #[.bool tg, .string (str nm), .string (str ky)] 51)) 3 (.slice (some ⟨w2.heap.size, 0, none⟩) 1 1) 1 (Rfs [⟨tg, nm, ky⟩])) := Sees.rows (Blk.new _ _ _) rfl
              have F3 := Lib.hid (F2.out.to cB3.out)
              have C3 := Lib.hid (C2.out.nil cB3.out)
              go_simp
              refine ⟨C3.out, ?_⟩
              generalize w2.heap.size = KK3 at *
              generalize w2.alloc (.cells #[.bool tg, .string (str nm), .string (str ky)] 51) = w3 at *
              clear cB3
              try simp only [Act.put, List.getElem_toArray, List.getElem_cons_succ, List.getElem_cons_zero, List.setIfInBounds_toArray, List.set_cons_zero, List.set_cons_succ]
              refine wpAnyE_only 7 rfl (by kernel_rfl) (by rfl) ?_
              refine wp_app _ _ 32 (by rfl) sl_q (v := (.slice a2 i p2)) (n := i) (xs := (Rfs (d.take i))) F3.out.own (by rfl) (vx := (.slice (some ⟨KK3, 0, none⟩) 1 1)) (m := 1) (news := Rfs [⟨tg, nm, ky⟩]) S3.out (by rfl) (rfs_ones _) (by have := HBB.out; omega) (by have := HBB.out; omega) ?_
              intro v4 w4 o4 e4 n4
              have F4 : Hid (Fresh W0 w4 51 3 v4 (i + 1) (Rfs (d.take i) ++ Rfs [⟨tg, nm, ky⟩])) := by have h := F3.out.app o4 e4 n4; first | exact h | (rw [Nat.zero_add] at h; exact h)
              have C4 := Lib.hid F4.out.chg
              obtain ⟨a4, p4, hv4, -⟩ := F4.out.shape
              subst hv4
              clear o4 e4 n4
              refine ⟨C4.out, ?_⟩
              try simp only [Act.put, List.getElem_toArray, List.getElem_cons_succ, List.getElem_cons_zero, List.setIfInBounds_toArray, List.set_cons_zero, List.set_cons_succ]
              refine wpAnyE_only 11 rfl (by kernel_rfl) (by rfl) ?_
              refine wp_app _ _ 32 (by rfl) sl_q (v := (.slice a4 (i + 1) p4)) (n := (i + 1)) (xs := (Rfs (d.take i) ++ Rfs [⟨tg, nm, ky⟩])) F4.out.own (by rfl) (vx := (.slice (some ⟨g, i * 3, none⟩) 0 (cap1 - i))) (m := 0) (news := Rfs (d.drop i)) (HS2.out _ C4.out) (by rfl) (rfs_ones _) (by have := HBB.out; omega) (by have := HBB.out; omega) ?_
              intro v5 w5 o5 e5 n5
              have F5 : Hid (Fresh W0 w5 51 3 v5 (i + 1) (Rfs (d.take i) ++ Rfs [⟨tg, nm, ky⟩] ++ Rfs (d.drop i))) := by have h := F4.out.app o5 e5 n5; first | exact h | (rw [Nat.zero_add] at h; exact h)
              have C5 := Lib.hid F5.out.chg
              obtain ⟨a5, p5, hv5, -⟩ := F5.out.shape
              subst hv5
              clear o5 e5 n5
              refine ⟨C5.out, ?_⟩
              try simp only [Act.put, List.getElem_toArray, List.getElem_cons_succ, List.getElem_cons_zero, List.setIfInBounds_toArray, List.set_cons_zero, List.set_cons_succ]
              refine wpAnyE_take 12 (v := (.slice a5 (i + 1) p5)) C5.out rfl (by kernel_rfl) (by kernel_rfl) (by kernel_rfl) (fun _ _ _ h => h) (by rfl) (fun w4 c4 => ?_) ?_
              · go_simp
              try simp only [Act.put, List.getElem_toArray, List.getElem_cons_succ, List.getElem_cons_zero, List.setIfInBounds_toArray, List.set_cons_zero, List.set_cons_succ]
              refine wpAnyE_done (by kernel_rfl) ?_ _
              have HF := Lib.hid (HRES.out _ _ F5.out)
              go_wp2_with fail
              go_ret
              exact ⟨_, rfl, HF.out.1, HF.out.2⟩
            · have cB6 : Hid (Chg [] w1 (w1.alloc (.cells #[.bool tg, .string (str nm), .string (str ky)] 51))) := (Chg.refl [] _).alloc _
              have S6 : Hid (Sees (w1.alloc (.cells #[.bool tg, .string (str nm), .string (str ky)] 51)) 3 (.slice (some ⟨w1.heap.size, 0, none⟩) 1 1) 1 (Rfs [⟨tg, nm, ky⟩])) := Sees.rows (Blk.new _ _ _) rfl
              have N6 : Hid (KK1 < w1.heap.size) := F1.out.own.lt _ (by simp [Value.ownBlock])
              have F6 := Lib.hid (F1.out.to cB6.out)
              have C6 := Lib.hid (C1.out.nil cB6.out)
              go_simp
              refine ⟨C6.out, ?_⟩
              generalize w1.heap.size = KK6 at *
              generalize w1.alloc (.cells #[.bool tg, .string (str nm), .string (str ky)] 51) = w6 at *
              clear cB6
              try simp only [Act.put, List.getElem_toArray, List.getElem_cons_succ, List.getElem_cons_zero, List.setIfInBounds_toArray, List.set_cons_zero, List.set_cons_succ]
              refine wpAnyE_only 4 rfl (by kernel_rfl) (by rfl) ?_
              refine wp_app _ _ 32 (by rfl) sl_q (v := (.slice (some ⟨KK1, 0, none⟩) 0 0)) (n := 0) (xs := []) F6.out.own (by rfl) (vx := (.slice (some ⟨g, 0, none⟩) i cap1)) (m := i) (news := Rfs (d.take i)) (HS1.out _ C6.out) (by rfl) (rfs_ones _) (by have := HBB.out; omega) (by have := HBB.out; omega) ?_
              intro v7 w7 o7 e7 n7
              have F7 : Hid (Fresh W0 w7 51 3 v7 i (Rfs (d.take i))) := by have h := F6.out.app o7 e7 n7; first | exact h | (rw [Nat.zero_add] at h; exact h)
              have C7 := Lib.hid F7.out.chg
              have S7 := Lib.hid (S6.out.chg e7 (fun k hk hm => by simp [eyes] at hk; simp [Value.ownBlock] at hm; have := N6.out; omega))
              obtain ⟨a7, p7, hv7, -⟩ := F7.out.shape
              subst hv7
              clear o7 e7 n7
              refine ⟨C7.out, ?_⟩
              try simp only [Act.put, List.getElem_toArray, List.getElem_cons_succ, List.getElem_cons_zero, List.setIfInBounds_toArray, List.set_cons_zero, List.set_cons_succ]
              refine wpAnyE_only 7 rfl (by kernel_rfl) (by rfl) ?_
              refine wp_app _ _ 32 (by rfl) sl_q (v := (.slice a7 i p7)) (n := i) (xs := (Rfs (d.take i))) F7.out.own (by rfl) (vx := (.slice (some ⟨KK6, 0, none⟩) 1 1)) (m := 1) (news := Rfs [⟨tg, nm, ky⟩]) S7.out (by rfl) (rfs_ones _) (by have := HBB.out; omega) (by have := HBB.out; omega) ?_
              intro v8 w8 o8 e8 n8
              have F8 : Hid (Fresh W0 w8 51 3 v8 (i + 1) (Rfs (d.take i) ++ Rfs [⟨tg, nm, ky⟩])) := by have h := F7.out.app o8 e8 n8; first | exact h | (rw [Nat.zero_add] at h; exact h)
              have C8 := Lib.hid F8.out.chg
              obtain ⟨a8, p8, hv8, -⟩ := F8.out.shape
              subst hv8
              clear o8 e8 n8
              refine ⟨C8.out, ?_⟩
              try simp only [Act.put, List.getElem_toArray, List.getElem_cons_succ, List.getElem_cons_zero, List.setIfInBounds_toArray, List.set_cons_zero, List.set_cons_succ]
              refine wpAnyE_only 11 rfl (by kernel_rfl) (by rfl) ?_
              refine wp_app _ _ 32 (by rfl) sl_q (v := (.slice a8 (i + 1) p8)) (n := (i + 1)) (xs := (Rfs (d.take i) ++ Rfs [⟨tg, nm, ky⟩])) F8.out.own (by rfl) (vx := (.slice (some ⟨g, i * 3, none⟩) 0 (cap1 - i))) (m := 0) (news := Rfs (d.drop i)) (HS2.out _ C8.out) (by rfl) (rfs_ones _) (by have := HBB.out; omega) (by have := HBB.out; omega) ?_
              intro v9 w9 o9 e9 n9
              have F9 : Hid (Fresh W0 w9 51 3 v9 (i + 1) (Rfs (d.take i) ++ Rfs [⟨tg, nm, ky⟩] ++ Rfs (d.drop i))) := by have h := F8.out.app o9 e9 n9; first | exact h | (rw [Nat.zero_add] at h; exact h)
              have C9 := Lib.hid F9.out.chg
              obtain ⟨a9, p9, hv9, -⟩ := F9.out.shape
              subst hv9
              clear o9 e9 n9
              refine ⟨C9.out, ?_⟩
              try simp only [Act.put, List.getElem_toArray, List.getElem_cons_succ, List.getElem_cons_zero, List.setIfInBounds_toArray, List.set_cons_zero, List.set_cons_succ]
              refine wpAnyE_take 12 (v := (.slice a9 (i + 1) p9)) C9.out rfl (by kernel_rfl) (by kernel_rfl) (by kernel_rfl) (fun _ _ _ h => h) (by rfl) (fun w4 c4 => ?_) ?_
              · go_simp
              try simp only [Act.put, List.getElem_toArray, List.getElem_cons_succ, List.getElem_cons_zero, List.setIfInBounds_toArray, List.set_cons_zero, List.set_cons_succ]
              refine wpAnyE_done (by kernel_rfl) ?_ _
              have HF := Lib.hid (HRES.out _ _ F9.out)
              go_wp2_with fail
              go_ret
              exact ⟨_, rfl, HF.out.1, HF.out.2⟩
          · have cB10 : Hid (Chg [] W0 (W0.alloc (.cells #[.bool tg, .string (str nm), .string (str ky)] 51))) := (Chg.refl [] _).alloc _
            have S10 : Hid (Sees (W0.alloc (.cells #[.bool tg, .string (str nm), .string (str ky)] 51)) 3 (.slice (some ⟨W0.heap.size, 0, none⟩) 1 1) 1 (Rfs [⟨tg, nm, ky⟩])) := Sees.rows (Blk.new _ _ _) rfl
            have C10 := Lib.hid (HC0.out.nil cB10.out)
            go_simp
            refine ⟨C10.out, ?_⟩
            generalize W0.heap.size = KK10 at *
            generalize W0.alloc (.cells #[.bool tg, .string (str nm), .string (str ky)] 51) = w10 at *
            clear cB10
            try simp only [Act.put, List.getElem_toArray, List.getElem_cons_succ, List.getElem_cons_zero, List.setIfInBounds_toArray, List.set_cons_zero, List.set_cons_succ]
            refine wpAnyE_only 0 rfl (by kernel_rfl) (by rfl) ?_
            have cB11 : Hid (Chg [] w10 (w10.alloc (.cells #[] 51))) := (Chg.refl [] _).alloc _
            have F11 : Hid (Fresh W0 (w10.alloc (.cells #[] 51)) 51 3 (.slice (some ⟨w10.heap.size, 0, none⟩) 0 0) 0 []) := ⟨Aq.Own.made _ _ _, C10.out.nil cB11.out, fun k hk => by simp [Value.ownBlock] at hk; rw [hk]; exact C10.out.size⟩
            have N11 : Hid (KK10 < w10.heap.size) := S10.out.lt (by decide) _ (by simp [eyes])
            have S11 := Lib.hid (S10.out.chg0 cB11.out)
            have C11 := Lib.hid (C10.out.nil cB11.out)
            go_simp
            refine ⟨C11.out, ?_⟩
            generalize w10.heap.size = KK11 at *
            generalize w10.alloc (.cells #[] 51) = w11 at *
            clear cB11
            try simp only [Act.put, List.getElem_toArray, List.getElem_cons_succ, List.getElem_cons_zero, List.setIfInBounds_toArray, List.set_cons_zero, List.set_cons_succ]
            refine wpAnyE_only 4 rfl (by kernel_rfl) (by rfl) ?_
            refine wp_app _ _ 32 (by rfl) sl_q (v := (.slice (some ⟨KK11, 0, none⟩) 0 0)) (n := 0) (xs := []) F11.out.own (by rfl) (vx := (.slice (some ⟨g, 0, none⟩) i cap1)) (m := i) (news := Rfs (d.take i)) (HS1.out _ C11.out) (by rfl) (rfs_ones _) (by have := HBB.out; omega) (by have := HBB.out; omega) ?_
            intro v12 w12 o12 e12 n12
            have F12 : Hid (Fresh W0 w12 51 3 v12 i (Rfs (d.take i))) := by have h := F11.out.app o12 e12 n12; first | exact h | (rw [Nat.zero_add] at h; exact h)
            have C12 := Lib.hid F12.out.chg
            have S12 := Lib.hid (S11.out.chg e12 (fun k hk hm => by simp [eyes] at hk; simp [Value.ownBlock] at hm; have := N11.out; omega))
            obtain ⟨a12, p12, hv12, -⟩ := F12.out.shape
            subst hv12
            clear o12 e12 n12
            refine ⟨C12.out, ?_⟩
            try simp only [Act.put, List.getElem_toArray, List.getElem_cons_succ, List.getElem_cons_zero, List.setIfInBounds_toArray, List.set_cons_zero, List.set_cons_succ]
            refine wpAnyE_only 7 rfl (by kernel_rfl) (by rfl) ?_
            refine wp_app _ _ 32 (by rfl) sl_q (v := (.slice a12 i p12)) (n := i) (xs := (Rfs (d.take i))) F12.out.own (by rfl) (vx := (.slice (some ⟨KK10, 0, none⟩) 1 1)) (m := 1) (news := Rfs [⟨tg, nm, ky⟩]) S12.out (by rfl) (rfs_ones _) (by have := HBB.out; omega) (by have := HBB.out; omega) ?_
            intro v13 w13 o13 e13 n13
            have F13 : Hid (Fresh W0 w13 51 3 v13 (i + 1) (Rfs (d.take i) ++ Rfs [⟨tg, nm, ky⟩])) := by have h := F12.out.app o13 e13 n13; first | exact h | (rw [Nat.zero_add] at h; exact h)
            have C13 := Lib.hid F13.out.chg
            obtain ⟨a13, p13, hv13, -⟩ := F13.out.shape
            subst hv13
            clear o13 e13 n13
            refine ⟨C13.out, ?_⟩
            try simp only [Act.put, List.getElem_toArray, List.getElem_cons_succ, List.getElem_cons_zero, List.setIfInBounds_toArray, List.set_cons_zero, List.set_cons_succ]
            refine wpAnyE_only 11 rfl (by kernel_rfl) (by rfl) ?_
            refine wp_app _ _ 32 (by rfl) sl_q (v := (.slice a13 (i + 1) p13)) (n := (i + 1)) (xs := (Rfs (d.take i) ++ Rfs [⟨tg, nm, ky⟩])) F13.out.own (by rfl) (vx := (.slice (some ⟨g, i * 3, none⟩) 0 (cap1 - i))) (m := 0) (news := Rfs (d.drop i)) (HS2.out _ C13.out) (by rfl) (rfs_ones _) (by have := HBB.out; omega) (by have := HBB.out; omega) ?_
            intro v14 w14 o14 e14 n14
            have F14 : Hid (Fresh W0 w14 51 3 v14 (i + 1) (Rfs (d.take i) ++ Rfs [⟨tg, nm, ky⟩] ++ Rfs (d.drop i))) := by have h := F13.out.app o14 e14 n14; first | exact h | (rw [Nat.zero_add] at h; exact h)
            have C14 := Lib.hid F14.out.chg
            obtain ⟨a14, p14, hv14, -⟩ := F14.out.shape
            subst hv14
            clear o14 e14 n14
            refine ⟨C14.out, ?_⟩
            try simp only [Act.put, List.getElem_toArray, List.getElem_cons_succ, List.getElem_cons_zero, List.setIfInBounds_toArray, List.set_cons_zero, List.set_cons_succ]
            refine wpAnyE_take 12 (v := (.slice a14 (i + 1) p14)) C14.out rfl (by kernel_rfl) (by kernel_rfl) (by kernel_rfl) (fun _ _ _ h => h) (by rfl) (fun w4 c4 => ?_) ?_
            · go_simp
            try simp only [Act.put, List.getElem_toArray, List.getElem_cons_succ, List.getElem_cons_zero, List.setIfInBounds_toArray, List.set_cons_zero, List.set_cons_succ]
            refine wpAnyE_done (by kernel_rfl) ?_ _
            have HF := Lib.hid (HRES.out _ _ F14.out)
            go_wp2_with fail
            go_ret
            exact ⟨_, rfl, HF.out.1, HF.out.2⟩
end Go.Proofs.YtihoohhngiomdaaGreatDoor
