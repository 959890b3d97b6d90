/- RfG, RfH in one text. No statement of the seat is proved here. -/
import Derived.Test.YtihoohhngiomdaaGreatDoorRfDF
set_option linter.unusedSimpArgs false
set_option linter.unusedVariables false
/- refs.Set: a ref put in its place. No statement of the seat is proved here. -/
namespace Go.Aq
open Go.RowKit Go.Aq.Wd
theorem place_at {d : List RefD} {r : RefD} {i : Nat} (hi : i ≤ d.length) (h : ∀ x ∈ d.take i, cmpR x r < 0) (hh : ∀ h : i < d.length, ¬ cmpR (d[i]'h) r < 0) : placeL d r = i := by
  have e := List.take_append_drop i d
  unfold placeL
  conv => lhs; rw [← e]
  rw [List.takeWhile_append_of_pos (fun x hx => by simpa using h x hx), List.length_append, List.length_take]
  by_cases hd : i < d.length
  · rw [List.drop_eq_getElem_cons hd, List.takeWhile_cons_of_neg (by simpa using hh hd)]
    simp; omega
  · rw [List.drop_of_length_le (by omega)]
    simp; omega
theorem placeL_le (d : List RefD) (r : RefD) : placeL d r ≤ d.length := by unfold placeL; exact (List.takeWhile_sublist _).length_le
theorem dropL_len (l : List RefD) (t : Bool) (n : List UInt8) : (dropL l t n).length ≤ l.length := List.length_filter_le _ _
end Go.Aq
namespace Go.Proofs.YtihoohhngiomdaaGreatDoor
open Go.RowKit Go.Aq Go.Aq.Wd
set_option maxRecDepth 100000 in
set_option maxHeartbeats 8000000 in
theorem set_any (w : World) (v : Value) (l : List RefD) (r : RefD) (hv : Sees w 3 v l.length (Rfs l)) (hl : l.length ≤ 1000000) :
    Calls Tryz.prog 19 #[v, rfV r] w fun e w' => ∃ v', e = .returned v' ∧ Sees w' 3 v' (setL l r).length (Rfs (setL l r)) ∧ Chg [] w w' := by
  obtain ⟨rr, hrr⟩ : ∃ rr, r = rr := ⟨_, rfl⟩
  have HRR := Lib.hid hrr
  obtain ⟨tg, nm, ky⟩ := r
  unfold rfV
  simp only
  obtain ⟨K, hK⟩ : ∃ K, w.heap.size = K := ⟨_, rfl⟩
  have hbx : Blk (w.alloc (.cells #[.bool tg, .string (str nm), .string (str ky)] 24)) K #[.bool tg, .string (str nm), .string (str ky)] 24 := Blk.new_at w _ _ hK
  have hcx : Chg [] w (w.alloc (.cells #[.bool tg, .string (str nm), .string (str ky)] 24)) := (Chg.refl _ _).alloc _
  have hS : Hid (setL l rr = (dropL l tg nm).take (placeL (dropL l tg nm) rr) ++ [rr] ++ (dropL l tg nm).drop (placeL (dropL l tg nm) rr)) := by
    show _ = _
    rw [← hrr]; rfl
  have hcr : Hid (rfCells rr = [.bool tg, .string (str nm), .string (str ky)]) := by
    show _ = _
    rw [← hrr]; rfl
  have HCmp : Hid (∀ (x : RefD) (w' : World), Calls Tryz.prog 23 #[rfV x, .agg #[.bool tg, .string (str nm), .string (str ky)]] w' fun e w'' => e = .returned (.int .i64 (cmpR x rr)) ∧ Chg [] w' w'') := by
    intro x w'
    rw [← hrr]
    exact compare_any x _ w'
  rw [hrr]
  clear hrr HRR
  obtain ⟨ao, cap, rfl, -⟩ := hv.shape
  have hdl := dropL_len l tg nm
  go_enter Tryz.func19, Tryz.ntmps19
  go_upto_region 1 with (fail)
  have hv1 := hv.chg0 hcx
  generalize w.alloc (.cells #[.bool tg, .string (str nm), .string (str ky)] 24) = wa at *
  have hdr := drop_any wa _ l tg nm hv1 hl
  obtain ⟨⟨f0, f1, f2⟩, -⟩ := hbx.c3
  have HA := Lib.hid (And.intro hcx hK)
  clear hv hv1 hcx hK
  go_wp2_with fail
  refine hdr.mono ?_
  rintro e w1 ⟨v1, rfl, hF⟩
  clear hdr f0 f1 f2
  generalize dropL l tg nm = d at *
  have hb1 := hbx.chg0 hF.chg
  have hdn : d.length ≤ 1000000 := by omega
  obtain ⟨n, HN⟩ : ∃ n, Hid (d.length = n) := ⟨_, rfl⟩
  have hins : ∀ i wr, i ≤ d.length → placeL d rr = i → Chg [] w1 wr → Hid ((wr.cell? ⟨K, 0, none⟩ = some (.bool tg) ∧ wr.cell? ⟨K, 1, none⟩ = some (.string (str nm)) ∧ wr.cell? ⟨K, 2, none⟩ = some (.string (str ky))) ∧
      Calls Tryz.prog 40 #[v1, .int .i64 i, .slice (some ⟨wr.heap.size, 0, none⟩) 1 1] (wr.alloc (.cells #[.bool tg, .string (str nm), .string (str ky)] 24)) fun e w' => ∃ v', e = .returned v' ∧ Hid (Sees w' 3 v' (setL l rr).length (Rfs (setL l rr)) ∧ Chg [] w w')) := by
    intro i wr hi hp hc
    have hbr := hb1.chg0 hc
    refine ⟨hbr.c3.1, ?_⟩
    have hFr := (hF.to hc).to ((Chg.refl [] wr).alloc (.cells #[.bool tg, .string (str nm), .string (str ky)] 24))
    have hX : Blk (wr.alloc (.cells #[.bool tg, .string (str nm), .string (str ky)] 24)) wr.heap.size (rfCells rr).toArray 24 := by
      rw [hcr.out]; exact Blk.new wr _ _
    refine (insert_any wa _ v1 d rr wr.heap.size i hFr hX (fun hk => by have := (hF.to hc).own.lt _ hk; omega) hi (by omega)).mono ?_
    rintro e w' ⟨v', h1, h2, h3⟩
    have e1 : setL l rr = d.take i ++ [rr] ++ d.drop i := by rw [hS.out, hp]
    have e2 : (setL l rr).length = d.length + 1 := by rw [e1]; simp; omega
    refine ⟨v', h1, ?_⟩
    show _ ∧ _
    rw [e2, e1]
    exact ⟨h2, HA.out.1.nil h3⟩
  rw [HN.out] at hF
  have hcells : Hid (∀ wr, Chg [] w1 wr → Sees wr 3 v1 n (Rfs d)) := fun wr hc => hF.own.sees.chg0 hc
  obtain ⟨ao1, cap1, rfl, -⟩ := hF.shape
  rw [HN.out] at hdn
  have HB := Lib.hid hb1
  have HV := Lib.hid hins
  clear hF hbx hdl hb1 hins
  go_wp2_with fail
  go_loopg [5] n (fun k v5 wr => ∃ i : Nat, v5 = .int .i64 i ∧ i + k = n ∧ i ≤ n ∧ Hid (∀ x ∈ d.take i, cmpR x rr < 0) ∧ Chg [] w1 wr)
  case atStart => exact ⟨0, rfl, by omega, by omega, fun x hx => by simp at hx, Chg.refl _ _⟩
  case round =>
    obtain ⟨i, rfl, hik, hin, HM, hc⟩ := hrel
    obtain ⟨X, hne, F, x0, hF0, hFx, hX⟩ := fam0 wr
    have hbr := HB.out.chg0 hc
    obtain ⟨⟨f0, f1, f2⟩, -⟩ := hbr.c3
    have z0 := fun x => (hFx x).cell_some f0 (by simp)
    have z1 := fun x => (hFx x).cell_some f1 (by simp)
    have z2 := fun x => (hFx x).cell_some f2 (by simp)
    clear f0 f1 f2 hbr
    have hib : (i : Int) ≤ 1000000 := by omega
    by_cases hi : i < n
    · have t1 : decide ((i : Int) < (n : Int)) = true := by simp; omega
      have t1' : decide (i < n) = true := by simp; omega
      have hil : i < d.length := by rw [HN.out]; exact hi
      have hse := hcells.out wr hc
      obtain ⟨g, off, cap', hs, -, hgl, hcell⟩ := hse.cells (by omega)
      simp only [Value.slice.injEq, true_and] at hs
      obtain ⟨hs1, hs2⟩ := hs
      subst hs1
      obtain ⟨y0, y1, y2⟩ := Rfs_cells HN.out hcell i hil
      have q0 := fun x => (hFx x).cell_some y0 (by simp)
      have q1 := fun x => (hFx x).cell_some y1 (by simp)
      have q2 := fun x => (hFx x).cell_some y2 (by simp)
      have HCa := fun x => HCmp.out d[i] (F x)
      have hT := List.take_succ_eq_append_getElem hil
      have hpl := fun (h : ¬ cmpR (d[i]'hil) rr < 0) => place_at (r := rr) (Nat.le_of_lt hil) HM.out (fun _ => h)
      obtain ⟨c, hcc⟩ : ∃ c, cmpR d[i] rr = c := ⟨_, rfl⟩
      rw [hcc] at HCa hpl
      clear y0 y1 y2 hcell hse hs2
      by_cases hc0 : c < 0
      · have t2 : decide (c < 0) = true := by simpa using hc0
        have HG : Hid (∀ x ∈ d.take (i + 1), cmpR x rr < 0) := by
          intro x hx
          rw [hT] at hx
          rcases List.mem_append.1 hx with hx | hx
          · exact HM.out x hx
          · rw [List.mem_singleton.1 hx, hcc]; exact hc0
        clear hT hpl hcc hc0 HM
        generalize d[i] = rp at *
        obtain ⟨tp, np, kp⟩ := rp
        simp only at q0 q1 q2
        unfold rfV at HCa
        simp only at HCa
        have HP := Lib.hid (And.intro hik (And.intro hin (And.intro hi hc)))
        clear hik hin hil hc
        go_wp2_with fail
        refine wp_fam F (by kernel_rfl) (by kernel_rfl) x0 hF0 ?_
        repeat (go_big_quiet_step (exact fam_call hFx hX (HCa _)))
        refine wpQuiet_nil ?_
        rintro w' ⟨x1, rfl⟩
        go_wp2_with fail
        go_roundg (gk - 1)
        case measure => have := HP.out; omega
        case rel => exact ⟨i + 1, by go_num, by have := HP.out; omega, by have := HP.out; omega, HG, HP.out.2.2.2.nil (hFx x1)⟩
      · have t2 : decide (c < 0) = false := by simpa using hc0
        have hI := fun x => HV.out i (F x) (Nat.le_of_lt hil) (hpl hc0) (hc.nil (hFx x))
        clear hT hpl hcc hc0 HM
        generalize d[i] = rp at *
        obtain ⟨tp, np, kp⟩ := rp
        simp only at q0 q1 q2
        unfold rfV at HCa
        simp only at HCa
        clear hik hin hil hc
        go_wp2_with fail
        refine wp_fam F (by kernel_rfl) (by kernel_rfl) x0 hF0 ?_
        repeat (go_big_quiet_step (exact fam_call hFx hX (HCa _)))
        refine wpQuiet_nil ?_
        rintro w' ⟨x1, rfl⟩
        obtain ⟨⟨a0, a1, a2⟩, a3⟩ := (hI x1).out
        clear q0 q1 q2 z0 z1 z2 HCa hI
        generalize F x1 = w9 at *
        go_wp2_with fail
        refine a3.mono ?_
        rintro e w10 ⟨v10, rfl, HZ⟩
        obtain ⟨nn, HNN⟩ : ∃ nn, Hid ((setL l rr).length = nn) := ⟨_, rfl⟩
        rw [HNN.out] at HZ
        obtain ⟨ao10, cap10, rfl, -⟩ := HZ.out.1.shape
        go_wp2_with fail
        go_ret
        exact ⟨_, rfl, by rw [HNN.out]; exact HZ.out.1, HZ.out.2⟩
    · have t1 : decide ((i : Int) < (n : Int)) = false := by simp; omega
      have t1' : decide (i < n) = false := by simp; omega
      have hil : ¬ i < d.length := by rw [HN.out]; exact hi
      have hI := fun q => HV.out i (wr.drewN q) (by rw [HN.out]; omega) (place_at (by rw [HN.out]; omega) HM.out (fun h => absurd h hil)) (hc.drewN q)
      clear hik hin hi hil hc HM z0 z1 z2 hF0 x0 hFx hX hne F X
      go_wp2_with fail
      go_quiet (fail)
      obtain ⟨⟨a0, a1, a2⟩, a3⟩ := (hI nq).out
      clear hI
      generalize wr.drewN nq = w9 at *
      go_wp2_with fail
      refine a3.mono ?_
      rintro e w10 ⟨v10, rfl, HZ⟩
      obtain ⟨nn, HNN⟩ : ∃ nn, Hid ((setL l rr).length = nn) := ⟨_, rfl⟩
      rw [HNN.out] at HZ
      obtain ⟨ao10, cap10, rfl, -⟩ := HZ.out.1.shape
      go_wp2_with fail
      go_ret
      exact ⟨_, rfl, by rw [HNN.out]; exact HZ.out.1, HZ.out.2⟩
end Go.Proofs.YtihoohhngiomdaaGreatDoor

/- Refs for the document (aqulaw21.Plain), and whether they are alike (Same). No statement of the seat is proved here. -/
namespace Go.Aq
open Go.RowKit Go.Aq.Wd
theorem rfs_ones (l : List RefD) : ∀ u ∈ Rfs l, u.oneCell' = true := by
  intro u hu
  simp only [Rfs, List.mem_flatMap] at hu
  obtain ⟨r, -, hu⟩ := hu
  simp only [rfCells, List.mem_cons, List.not_mem_nil, or_false] at hu
  rcases hu with rfl | rfl | rfl <;> rfl
instance : DecidableEq RefD := fun a b => by
  obtain ⟨a1, a2, a3⟩ := a
  obtain ⟨b1, b2, b3⟩ := b
  exact if h : a1 = b1 ∧ a2 = b2 ∧ a3 = b3 then .isTrue (by obtain ⟨rfl, rfl, rfl⟩ := h; rfl) else .isFalse (fun e => h (by injection e with e1 e2 e3; exact ⟨e1, e2, e3⟩))
end Go.Aq
namespace Go.Proofs.YtihoohhngiomdaaGreatDoor
open Go.RowKit Go.Aq Go.Aq.Wd
theorem sl_q : SliceTy Tryz.prog 32 51 (.agg #[.bool false, .string ⟨#[]⟩, .string ⟨#[]⟩]) 3 40 := ⟨Tryz.underlying32, by kernel_rfl, rfl, by decide⟩
set_option maxRecDepth 100000 in
set_option maxHeartbeats 4000000 in
theorem plainR_any (w : World) (v : Value) (l : List RefD) (hv : Sees w 3 v l.length (Rfs l)) (hl : l.length ≤ 1000000) :
    Calls Tryz.prog 8 #[v] w fun e w' => ∃ v', e = .returned v' ∧ Fresh w w' 51 3 v' l.length (Rfs l) := by
  obtain ⟨n, HN⟩ : ∃ n, Hid (l.length = n) := ⟨_, rfl⟩
  rw [HN.out] at hv hl ⊢
  obtain ⟨ao, cap, rfl, -⟩ := hv.shape
  have HV := Lib.hid hv
  clear hv
  go_enter Tryz.func8, Tryz.ntmps8
  go_wp2_with fail
  go_loopg [3, 4] n (fun gk (v3 v4 : Value) wr => ∃ (i : Nat) (a6 : Option Addr) (c6 : Nat), v3 = .slice a6 i c6 ∧ v4 = .int .i64 (i : Int) ∧ i + gk = n ∧ Hid (Fresh w wr 51 3 (.slice a6 i c6) i (Rfs (l.take i))))
  case atStart => exact ⟨0, none, 0, rfl, rfl, by omega, Fresh.nil _ _ _⟩
  case round =>
    obtain ⟨i, a6, c6, rfl, rfl, hik, HF⟩ := hrel
    by_cases hin : i < n
    · have t1 : decide ((i : Int) < (n : Int)) = true := decide_eq_true (by omega)
      have t1' : decide (i < n) = true := decide_eq_true hin
      have hil : i < l.length := by rw [HN.out]; exact hin
      obtain ⟨g, off, cap', hs, -, hgl, hcell⟩ := HV.out.cells (by omega)
      simp only [Value.slice.injEq, true_and] at hs
      obtain ⟨hs1, hs2⟩ := hs
      subst hs1
      obtain ⟨y0, y1, y2⟩ := Rfs_cells HN.out hcell i hil
      have htk := List.take_succ_eq_append_getElem hil
      have hgn : g ∉ (Value.slice a6 i c6).ownBlock.toList := fun hm => by have := HF.out.new g hm; omega
      have hcs : Hid (∀ W, Chg (Value.slice a6 i c6).ownBlock.toList wr.drew W → W.cell? ⟨g, off + i * 3, none⟩ = some (.bool l[i].tag) ∧ W.cell? ⟨g, off + i * 3 + 1, none⟩ = some (.string (str l[i].name)) ∧ W.cell? ⟨g, off + i * 3 + 2, none⟩ = some (.string (str l[i].key))) := fun W c => by
        have cw : Chg (Value.slice a6 i c6).ownBlock.toList wr W := ((Chg.refl _ wr).drew).tr c
        have f := fun {a : Addr} {u : Value} (h : w.cell? a = some u) (ha : a.block = g) => cw.cell_some (HF.out.chg.cell_some h (by simp)) (by rw [ha]; exact hgn)
        exact ⟨f y0 rfl, f y1 rfl, f y2 rfl⟩
      have w3 : wrap64 ((i : Int) + 1) = ((i + 1 : Nat) : Int) := by unfold wrap64; omega
      have i1 : (0 : Int) ≤ (i : Int) := by omega
      have i2 : (i : Int) < n := by omega
      have hb3 : (i + 1) * 40 ≤ 140737488355328 := by omega
      have hb4 : i + 1 ≤ 9223372036854775807 := by omega
      have HI := Lib.hid (And.intro hik htk)
      clear hik htk y0 y1 y2 hcell hgl hgn hs2 hl
      generalize l[i] = rf at *
      clear hil
      obtain ⟨tr, nm, ky⟩ := rf
      simp only at hcs
      go_upto_region 5 with (fail)
      have HF0 : Hid (Fresh w wr.drew 51 3 (.slice a6 i c6) i (Rfs (l.take i))) := HF.out.to ((Chg.refl [] wr).drew)
      have c0 : Chg (Value.slice a6 i c6).ownBlock.toList wr.drew wr.drew := Chg.refl _ _
      refine wp_region_E (Value.slice a6 i c6).ownBlock.toList (by kernel_rfl) ?_
      generalize wr.drew = W0 at *
      refine wpAnyE_take 0 (v := (.slice a6 i c6)) c0 rfl (by kernel_rfl) (by kernel_rfl) (by kernel_rfl) (fun _ _ _ h => h) (by rfl) (fun w4 c4 => ?_) ?_
      · go_simp
      try simp only [Act.put, List.getElem_toArray, List.getElem_cons_succ, List.getElem_cons_zero, List.setIfInBounds_toArray, List.set_cons_zero, List.set_cons_succ]
      refine wpAnyE_take 1 (v := (.slice (some ⟨g, off, none⟩) n cap)) c0 rfl (by kernel_rfl) (by kernel_rfl) (by kernel_rfl) (fun _ _ _ h => h) (by rfl) (fun w4 c4 => ?_) ?_
      · go_simp
      try simp only [Act.put, List.getElem_toArray, List.getElem_cons_succ, List.getElem_cons_zero, List.setIfInBounds_toArray, List.set_cons_zero, List.set_cons_succ]
      refine wpAnyE_take 2 (v := (.int .i64 (i : Int))) c0 rfl (by kernel_rfl) (by kernel_rfl) (by kernel_rfl) (fun _ _ _ h => h) (by rfl) (fun w4 c4 => ?_) ?_
      · go_simp
      try simp only [Act.put, List.getElem_toArray, List.getElem_cons_succ, List.getElem_cons_zero, List.setIfInBounds_toArray, List.set_cons_zero, List.set_cons_succ]
      refine wpAnyE_take 3 (v := (.pointer (some ⟨g, off + i * 3, none⟩))) c0 rfl (by kernel_rfl) (by kernel_rfl) (by kernel_rfl) (fun _ _ _ h => h) (by rfl) (fun w4 c4 => ?_) ?_
      · obtain ⟨z0, z1, z2⟩ := hcs.out w4 c4
        go_simp
      try simp only [Act.put, List.getElem_toArray, List.getElem_cons_succ, List.getElem_cons_zero, List.setIfInBounds_toArray, List.set_cons_zero, List.set_cons_succ]
      refine wpAnyE_take 4 (v := (.pointer (some ⟨g, off + i * 3, none⟩))) c0 rfl (by kernel_rfl) (by kernel_rfl) (by kernel_rfl) (fun _ _ _ h => h) (by rfl) (fun w4 c4 => ?_) ?_
      · obtain ⟨z0, z1, z2⟩ := hcs.out w4 c4
        go_simp
      try simp only [Act.put, List.getElem_toArray, List.getElem_cons_succ, List.getElem_cons_zero, List.setIfInBounds_toArray, List.set_cons_zero, List.set_cons_succ]
      refine wpAnyE_take 5 (v := (.bool tr)) c0 rfl (by kernel_rfl) (by kernel_rfl) (by kernel_rfl) (fun _ _ _ h => h) (by rfl) (fun w4 c4 => ?_) ?_
      · obtain ⟨z0, z1, z2⟩ := hcs.out w4 c4
        go_simp
      try simp only [Act.put, List.getElem_toArray, List.getElem_cons_succ, List.getElem_cons_zero, List.setIfInBounds_toArray, List.set_cons_zero, List.set_cons_succ]
      refine wpAnyE_take 6 (v := (.slice (some ⟨g, off, none⟩) n cap)) c0 rfl (by kernel_rfl) (by kernel_rfl) (by kernel_rfl) (fun _ _ _ h => h) (by rfl) (fun w4 c4 => ?_) ?_
      · go_simp
      try simp only [Act.put, List.getElem_toArray, List.getElem_cons_succ, List.getElem_cons_zero, List.setIfInBounds_toArray, List.set_cons_zero, List.set_cons_succ]
      refine wpAnyE_take 7 (v := (.int .i64 (i : Int))) c0 rfl (by kernel_rfl) (by kernel_rfl) (by kernel_rfl) (fun _ _ _ h => h) (by rfl) (fun w4 c4 => ?_) ?_
      · go_simp
      try simp only [Act.put, List.getElem_toArray, List.getElem_cons_succ, List.getElem_cons_zero, List.setIfInBounds_toArray, List.set_cons_zero, List.set_cons_succ]
      refine wpAnyE_take 8 (v := (.pointer (some ⟨g, off + i * 3, none⟩))) c0 rfl (by kernel_rfl) (by kernel_rfl) (by kernel_rfl) (fun _ _ _ h => h) (by rfl) (fun w4 c4 => ?_) ?_
      · obtain ⟨z0, z1, z2⟩ := hcs.out w4 c4
        go_simp
      try simp only [Act.put, List.getElem_toArray, List.getElem_cons_succ, List.getElem_cons_zero, List.setIfInBounds_toArray, List.set_cons_zero, List.set_cons_succ]
      refine wpAnyE_take 9 (v := (.pointer (some ⟨g, off + i * 3 + 1, none⟩))) c0 rfl (by kernel_rfl) (by kernel_rfl) (by kernel_rfl) (fun _ _ _ h => h) (by rfl) (fun w4 c4 => ?_) ?_
      · obtain ⟨z0, z1, z2⟩ := hcs.out w4 c4
        go_simp
      try simp only [Act.put, List.getElem_toArray, List.getElem_cons_succ, List.getElem_cons_zero, List.setIfInBounds_toArray, List.set_cons_zero, List.set_cons_succ]
      refine wpAnyE_take 10 (v := (.string (str nm))) c0 rfl (by kernel_rfl) (by kernel_rfl) (by kernel_rfl) (fun _ _ _ h => h) (by rfl) (fun w4 c4 => ?_) ?_
      · obtain ⟨z0, z1, z2⟩ := hcs.out w4 c4
        go_simp
      try simp only [Act.put, List.getElem_toArray, List.getElem_cons_succ, List.getElem_cons_zero, List.setIfInBounds_toArray, List.set_cons_zero, List.set_cons_succ]
      refine wpAnyE_take 11 (v := (.slice (some ⟨g, off, none⟩) n cap)) c0 rfl (by kernel_rfl) (by kernel_rfl) (by kernel_rfl) (fun _ _ _ h => h) (by rfl) (fun w4 c4 => ?_) ?_
      · go_simp
      try simp only [Act.put, List.getElem_toArray, List.getElem_cons_succ, List.getElem_cons_zero, List.setIfInBounds_toArray, List.set_cons_zero, List.set_cons_succ]
      refine wpAnyE_take 12 (v := (.int .i64 (i : Int))) c0 rfl (by kernel_rfl) (by kernel_rfl) (by kernel_rfl) (fun _ _ _ h => h) (by rfl) (fun w4 c4 => ?_) ?_
      · go_simp
      try simp only [Act.put, List.getElem_toArray, List.getElem_cons_succ, List.getElem_cons_zero, List.setIfInBounds_toArray, List.set_cons_zero, List.set_cons_succ]
      refine wpAnyE_take 13 (v := (.pointer (some ⟨g, off + i * 3, none⟩))) c0 rfl (by kernel_rfl) (by kernel_rfl) (by kernel_rfl) (fun _ _ _ h => h) (by rfl) (fun w4 c4 => ?_) ?_
      · obtain ⟨z0, z1, z2⟩ := hcs.out w4 c4
        go_simp
      try simp only [Act.put, List.getElem_toArray, List.getElem_cons_succ, List.getElem_cons_zero, List.setIfInBounds_toArray, List.set_cons_zero, List.set_cons_succ]
      refine wpAnyE_take 14 (v := (.pointer (some ⟨g, off + i * 3 + 2, none⟩))) c0 rfl (by kernel_rfl) (by kernel_rfl) (by kernel_rfl) (fun _ _ _ h => h) (by rfl) (fun w4 c4 => ?_) ?_
      · obtain ⟨z0, z1, z2⟩ := hcs.out w4 c4
        go_simp
      try simp only [Act.put, List.getElem_toArray, List.getElem_cons_succ, List.getElem_cons_zero, List.setIfInBounds_toArray, List.set_cons_zero, List.set_cons_succ]
      refine wpAnyE_take 15 (v := (.string (str ky))) c0 rfl (by kernel_rfl) (by kernel_rfl) (by kernel_rfl) (fun _ _ _ h => h) (by rfl) (fun w4 c4 => ?_) ?_
      · obtain ⟨z0, z1, z2⟩ := hcs.out w4 c4
        go_simp
      try simp only [Act.put, List.getElem_toArray, List.getElem_cons_succ, List.getElem_cons_zero, List.setIfInBounds_toArray, List.set_cons_zero, List.set_cons_succ]
      refine wpAnyE_take 16 (v := (.agg #[.bool tr, .string (str nm), .string (str ky)])) c0 rfl (by kernel_rfl) (by kernel_rfl) (by kernel_rfl) (fun _ _ _ h => h) (by rfl) (fun w4 c4 => ?_) ?_
      · go_simp
      try simp only [Act.put, List.getElem_toArray, List.getElem_cons_succ, List.getElem_cons_zero, List.setIfInBounds_toArray, List.set_cons_zero, List.set_cons_succ]
      refine wpAnyE_only 17 rfl (by kernel_rfl) (by rfl) ?_
      have hb : Blk (W0.alloc (.cells #[.bool tr, .string (str nm), .string (str ky)] 51)) W0.heap.size #[.bool tr, .string (str nm), .string (str ky)] 51 := Blk.new _ _ _
      have cB : Chg [] W0 (W0.alloc (.cells #[.bool tr, .string (str nm), .string (str ky)] 51)) := (Chg.refl [] _).alloc _
      have HC0 := Lib.hid c0
      clear c0
      go_simp
      have c18 := HC0.out.nil cB
      have hO18 := HF0.out.to cB
      refine ⟨c18, ?_⟩
      have hs1 : Sees (W0.alloc (.cells #[.bool tr, .string (str nm), .string (str ky)] 51)) 3 (.slice (some ⟨W0.heap.size, 0, none⟩) 1 1) 1 (Rfs [⟨tr, nm, ky⟩]) := Sees.blk hb
      generalize W0.heap.size = KK at *
      generalize W0.alloc (.cells #[.bool tr, .string (str nm), .string (str ky)] 51) = w18 at *
      clear cB hb
      try simp only [Act.put, List.getElem_toArray, List.getElem_cons_succ, List.getElem_cons_zero, List.setIfInBounds_toArray, List.set_cons_zero, List.set_cons_succ]
      refine wpAnyE_only 18 rfl (by kernel_rfl) (by rfl) ?_
      refine wp_app _ _ 32 (by rfl) sl_q (v := (.slice a6 i c6)) (n := i) (xs := Rfs (l.take i)) hO18.own (by rfl) (vx := (.slice (some ⟨KK, 0, none⟩) 1 1)) (m := 1) (news := Rfs [⟨tr, nm, ky⟩]) hs1 (by rfl) (rfs_ones _) hb3 hb4 ?_
      intro v19 w19 o19 e19 n19
      have c19 : Chg (Value.slice a6 i c6).ownBlock.toList W0 w19 := c18.tr e19
      have hF19 := hO18.app o19 e19 n19
      clear o19 e19 n19
      refine ⟨c19, ?_⟩
      try simp only [Act.put, List.getElem_toArray, List.getElem_cons_succ, List.getElem_cons_zero, List.setIfInBounds_toArray, List.set_cons_zero, List.set_cons_succ]
      refine wpAnyE_take 19 (v := v19) c19 rfl (by kernel_rfl) (by kernel_rfl) (by kernel_rfl) (fun _ _ _ h => h) (by rfl) (fun w4 c4 => ?_) ?_
      · go_simp
      try simp only [Act.put, List.getElem_toArray, List.getElem_cons_succ, List.getElem_cons_zero, List.setIfInBounds_toArray, List.set_cons_zero, List.set_cons_succ]
      refine wpAnyE_done (by kernel_rfl) ?_ _
      obtain ⟨a19, q19, rfl, -⟩ := hF19.shape
      rw [← Rfs_app, ← HI.out.2] at hF19
      have HF19 := Lib.hid hF19
      clear hF19 c19 c18 hO18 hs1
      go_wp2_with fail
      go_roundg (gk - 1)
      case measure => have := HI.out.1; omega
      case rel => exact ⟨i + 1, a19, q19, rfl, by first | rfl | rw [w3], by have := HI.out.1; omega, HF19⟩
    · have t1 : decide ((i : Int) < (n : Int)) = false := decide_eq_false (by omega)
      have t1' : decide (i < n) = false := decide_eq_false hin
      obtain rfl : i = n := by omega
      go_wp2_with fail
      go_ret
      have h := HF.out
      rw [← HN.out, List.take_length] at h
      exact ⟨_, rfl, by rw [← HN.out]; exact h⟩
set_option maxRecDepth 100000 in
set_option maxHeartbeats 4000000 in
theorem sameR_any (w : World) (v1 v2 : Value) (l1 l2 : List RefD) (h1 : Sees w 3 v1 l1.length (Rfs l1)) (h2 : Sees w 3 v2 l2.length (Rfs l2)) (hl1 : l1.length ≤ 1000000) (hl2 : l2.length ≤ 1000000) :
    Calls Tryz.prog 16 #[v1, v2] w fun e w' => e = .returned (.bool (decide (l1 = l2))) ∧ Chg [] w w' := by
  obtain ⟨n, HN⟩ : ∃ n, Hid (l1.length = n) := ⟨_, rfl⟩
  obtain ⟨m, HM⟩ : ∃ n, Hid (l2.length = n) := ⟨_, rfl⟩
  rw [HN.out] at h1 hl1
  rw [HM.out] at h2 hl2
  obtain ⟨ao, cap, rfl, -⟩ := h1.shape
  obtain ⟨bo, cbp, rfl, -⟩ := h2.shape
  have HV := Lib.hid (And.intro h1 h2)
  clear h1 h2
  by_cases hnm : n = m
  · subst hnm
    have e0 : ((n : Int) != (n : Int)) = false := by simp
    go_enter Tryz.func16, Tryz.ntmps16
    go_wp2_with fail
    go_loopg [5] n (fun gk (v5 : Value) wr => ∃ (i : Nat), v5 = .int .i64 (i : Int) ∧ i + gk = n ∧ Hid (l1.take i = l2.take i) ∧ Hid (Chg [] w wr))
    case atStart => exact ⟨0, rfl, by omega, rfl, Chg.refl _ _⟩
    case round =>
      obtain ⟨i, rfl, hik, HT, HC⟩ := hrel
      by_cases hin : i < n
      · have t1 : decide ((i : Int) < (n : Int)) = true := decide_eq_true (by omega)
        have t1' : decide (i < n) = true := decide_eq_true hin
        have hil1 : i < l1.length := by rw [HN.out]; exact hin
        have hil2 : i < l2.length := by rw [HM.out]; exact hin
        obtain ⟨g, off, cap', hs, -, -, hcell⟩ := (HV.out.1.chg0 HC.out).cells (by omega)
        simp only [Value.slice.injEq, true_and] at hs
        obtain ⟨hs1, hs2⟩ := hs
        subst hs1
        obtain ⟨g', off', cap'', hs', -, -, hcell'⟩ := (HV.out.2.chg0 HC.out).cells (by omega)
        simp only [Value.slice.injEq, true_and] at hs'
        obtain ⟨hs1', hs2'⟩ := hs'
        subst hs1'
        obtain ⟨y0, y1, y2⟩ := Rfs_cells HN.out hcell i hil1
        obtain ⟨x0, x1, x2⟩ := Rfs_cells HM.out hcell' i hil2
        have ht1 := List.take_succ_eq_append_getElem hil1
        have ht2 := List.take_succ_eq_append_getElem hil2
        have i1 : (i : Int) ≤ 1000000 := by omega
        have hno : Hid (l1[i] ≠ l2[i] → l1 ≠ l2) := fun h e => h (by subst e; rfl)
        have hyes : Hid (l1[i] = l2[i] → l1.take (i + 1) = l2.take (i + 1)) := fun h => by rw [ht1, ht2, HT.out, h]
        have HI := Lib.hid hik
        clear hik ht1 ht2 hcell hcell' hs2 hs2' hl1 hl2
        generalize l1[i] = ra at *
        generalize l2[i] = rb at *
        clear hil1 hil2
        obtain ⟨ta, na, ka⟩ := ra
        obtain ⟨tb, nb, kb⟩ := rb
        simp only at y0 y1 y2 x0 x1 x2
        have q1 := str_eq na nb
        have q2 := str_eq ka kb
        by_cases h : ta = tb ∧ na = nb ∧ ka = kb
        · obtain ⟨rfl, rfl, rfl⟩ := h
          have HY : Hid (l1.take (i + 1) = l2.take (i + 1)) := hyes.out rfl
          clear hno hyes q1 q2
          go_wp2_with fail
          go_quiet (fail)
          go_wp2_with fail
          go_roundg (gk - 1)
          case measure => have := HI.out; omega
          case rel => exact ⟨i + 1, by go_num, by have := HI.out; omega, HY, HC.out.drewN nq⟩
        · have HE : Hid (decide (l1 = l2) = false) := decide_eq_false (hno.out (fun e => h (by injection e with e1 e2 e3; exact ⟨e1, e2, e3⟩)))
          have hh : (ta == tb) = false ∨ ((ta == tb) = true ∧ decide (na = nb) = false) ∨ ((ta == tb) = true ∧ decide (na = nb) = true ∧ decide (ka = kb) = false) := by
            by_cases e1 : ta = tb
            · by_cases e2 : na = nb
              · right; right; exact ⟨by simpa using e1, by simpa using e2, by simp; exact fun e3 => h ⟨e1, e2, e3⟩⟩
              · right; left; exact ⟨by simpa using e1, by simpa using e2⟩
            · left; simpa using e1
          clear hno hyes h
          rcases hh with g1 | ⟨g1, g2⟩ | ⟨g1, g2, g3⟩
          all_goals
            first | rw [g2] at q1 | skip
            first | rw [g3] at q2 | skip
            go_wp2_with fail
            go_quiet (fail)
            go_wp2_with fail
            go_ret
            exact ⟨by rw [HE.out]; rfl, HC.out.drewN nq⟩
      · have t1 : decide ((i : Int) < (n : Int)) = false := decide_eq_false (by omega)
        have t1' : decide (i < n) = false := decide_eq_false hin
        have HE : Hid (decide (l1 = l2) = true) := by
          refine decide_eq_true ?_
          have h := HT.out
          rw [List.take_of_length_le (by rw [HN.out]; omega), List.take_of_length_le (by rw [HM.out]; omega)] at h
          exact h
        go_wp2_with fail
        go_ret
        exact ⟨by rw [HE.out]; rfl, HC.out⟩
  · have e0 : ((n : Int) != (m : Int)) = true := by simp; omega
    have HE : Hid (decide (l1 = l2) = false) := decide_eq_false (fun e => hnm (by rw [← HN.out, ← HM.out, e]))
    go_enter Tryz.func16, Tryz.ntmps16
    go_wp2_with fail
    go_ret
    exact ⟨by rw [HE.out]; rfl, Chg.refl _ _⟩
end Go.Proofs.YtihoohhngiomdaaGreatDoor

