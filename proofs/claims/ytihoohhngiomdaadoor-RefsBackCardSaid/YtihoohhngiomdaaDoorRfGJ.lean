/- RfG, RfH, RfI, RfJ in one text. No statement of the seat is proved here. -/
import Derived.Test.YtihoohhngiomdaaDoorRfDF
import Derived.Deep.DeepCutAuto
import Derived.Test.YtihoohhngiomdaaDoorOpenRefs
set_option linter.unusedSimpArgs false
set_option linter.unusedVariables false
/- refs.Set: a ref put in its place. No statement of the seat is proved here. -/
namespace Go.Aq
open Go.RowKit Go.Aq.Wd
theorem place_at {d : List RefD} {r : RefD} {i : Nat} (hi : i ≤ d.length) (h : ∀ x ∈ d.take i, cmpR x r < 0) (hh : ∀ h : i < d.length, ¬ cmpR (d[i]'h) r < 0) : placeL d r = i := by
  have e := List.take_append_drop i d
  unfold placeL
  conv => lhs; rw [← e]
  rw [List.takeWhile_append_of_pos (fun x hx => by simpa using h x hx), List.length_append, List.length_take]
  by_cases hd : i < d.length
  · rw [List.drop_eq_getElem_cons hd, List.takeWhile_cons_of_neg (by simpa using hh hd)]
    simp; omega
  · rw [List.drop_of_length_le (by omega)]
    simp; omega
theorem placeL_le (d : List RefD) (r : RefD) : placeL d r ≤ d.length := by unfold placeL; exact (List.takeWhile_sublist _).length_le
theorem dropL_len (l : List RefD) (t : Bool) (n : List UInt8) : (dropL l t n).length ≤ l.length := List.length_filter_le _ _
end Go.Aq
namespace Go.Proofs.YtihoohhngiomdaaDoor
open Go.RowKit Go.Aq Go.Aq.Wd
set_option maxRecDepth 100000 in
set_option maxHeartbeats 8000000 in
theorem set_any (w : World) (v : Value) (l : List RefD) (r : RefD) (hv : Sees w 3 v l.length (Rfs l)) (hl : l.length ≤ 1000000) :
    Calls Tryd.prog 13 #[v, rfV r] w fun e w' => ∃ v', e = .returned v' ∧ Sees w' 3 v' (setL l r).length (Rfs (setL l r)) ∧ Chg [] w w' := by
  obtain ⟨rr, hrr⟩ : ∃ rr, r = rr := ⟨_, rfl⟩
  have HRR := Lib.hid hrr
  obtain ⟨tg, nm, ky⟩ := r
  unfold rfV
  simp only
  obtain ⟨K, hK⟩ : ∃ K, w.heap.size = K := ⟨_, rfl⟩
  have hbx : Blk (w.alloc (.cells #[.bool tg, .string (str nm), .string (str ky)] 24)) K #[.bool tg, .string (str nm), .string (str ky)] 24 := Blk.new_at w _ _ hK
  have hcx : Chg [] w (w.alloc (.cells #[.bool tg, .string (str nm), .string (str ky)] 24)) := (Chg.refl _ _).alloc _
  have hS : Hid (setL l rr = (dropL l tg nm).take (placeL (dropL l tg nm) rr) ++ [rr] ++ (dropL l tg nm).drop (placeL (dropL l tg nm) rr)) := by
    show _ = _
    rw [← hrr]; rfl
  have hcr : Hid (rfCells rr = [.bool tg, .string (str nm), .string (str ky)]) := by
    show _ = _
    rw [← hrr]; rfl
  have HCmp : Hid (∀ (x : RefD) (w' : World), Calls Tryd.prog 7 #[rfV x, .agg #[.bool tg, .string (str nm), .string (str ky)]] w' fun e w'' => e = .returned (.int .i64 (cmpR x rr)) ∧ Chg [] w' w'') := by
    intro x w'
    rw [← hrr]
    exact compare_any x _ w'
  rw [hrr]
  clear hrr HRR
  obtain ⟨ao, cap, rfl, -⟩ := hv.shape
  have hdl := dropL_len l tg nm
  go_enter Tryd.func13, Tryd.ntmps13
  go_upto_region 1 with (fail)
  have hv1 := hv.chg0 hcx
  generalize w.alloc (.cells #[.bool tg, .string (str nm), .string (str ky)] 24) = wa at *
  have hdr := drop_any wa _ l tg nm hv1 hl
  obtain ⟨⟨f0, f1, f2⟩, -⟩ := hbx.c3
  have HA := Lib.hid (And.intro hcx hK)
  clear hv hv1 hcx hK
  go_wp2_with fail
  refine hdr.mono ?_
  rintro e w1 ⟨v1, rfl, hF⟩
  clear hdr f0 f1 f2
  generalize dropL l tg nm = d at *
  have hb1 := hbx.chg0 hF.chg
  have hdn : d.length ≤ 1000000 := by omega
  obtain ⟨n, HN⟩ : ∃ n, Hid (d.length = n) := ⟨_, rfl⟩
  have hins : ∀ i wr, i ≤ d.length → placeL d rr = i → Chg [] w1 wr → Hid ((wr.cell? ⟨K, 0, none⟩ = some (.bool tg) ∧ wr.cell? ⟨K, 1, none⟩ = some (.string (str nm)) ∧ wr.cell? ⟨K, 2, none⟩ = some (.string (str ky))) ∧
      Calls Tryd.prog 27 #[v1, .int .i64 i, .slice (some ⟨wr.heap.size, 0, none⟩) 1 1] (wr.alloc (.cells #[.bool tg, .string (str nm), .string (str ky)] 24)) fun e w' => ∃ v', e = .returned v' ∧ Hid (Sees w' 3 v' (setL l rr).length (Rfs (setL l rr)) ∧ Chg [] w w')) := by
    intro i wr hi hp hc
    have hbr := hb1.chg0 hc
    refine ⟨hbr.c3.1, ?_⟩
    have hFr := (hF.to hc).to ((Chg.refl [] wr).alloc (.cells #[.bool tg, .string (str nm), .string (str ky)] 24))
    have hX : Blk (wr.alloc (.cells #[.bool tg, .string (str nm), .string (str ky)] 24)) wr.heap.size (rfCells rr).toArray 24 := by
      rw [hcr.out]; exact Blk.new wr _ _
    refine (insert_any wa _ v1 d rr wr.heap.size i hFr hX (fun hk => by have := (hF.to hc).own.lt _ hk; omega) hi (by omega)).mono ?_
    rintro e w' ⟨v', h1, h2, h3⟩
    have e1 : setL l rr = d.take i ++ [rr] ++ d.drop i := by rw [hS.out, hp]
    have e2 : (setL l rr).length = d.length + 1 := by rw [e1]; simp; omega
    refine ⟨v', h1, ?_⟩
    show _ ∧ _
    rw [e2, e1]
    exact ⟨h2, HA.out.1.nil h3⟩
  rw [HN.out] at hF
  have hcells : Hid (∀ wr, Chg [] w1 wr → Sees wr 3 v1 n (Rfs d)) := fun wr hc => hF.own.sees.chg0 hc
  obtain ⟨ao1, cap1, rfl, -⟩ := hF.shape
  rw [HN.out] at hdn
  have HB := Lib.hid hb1
  have HV := Lib.hid hins
  clear hF hbx hdl hb1 hins
  go_wp2_with fail
  go_loopg [5] n (fun k v5 wr => ∃ i : Nat, v5 = .int .i64 i ∧ i + k = n ∧ i ≤ n ∧ Hid (∀ x ∈ d.take i, cmpR x rr < 0) ∧ Chg [] w1 wr)
  case atStart => exact ⟨0, rfl, by omega, by omega, fun x hx => by simp at hx, Chg.refl _ _⟩
  case round =>
    obtain ⟨i, rfl, hik, hin, HM, hc⟩ := hrel
    obtain ⟨X, hne, F, x0, hF0, hFx, hX⟩ := fam0 wr
    have hbr := HB.out.chg0 hc
    obtain ⟨⟨f0, f1, f2⟩, -⟩ := hbr.c3
    have z0 := fun x => (hFx x).cell_some f0 (by simp)
    have z1 := fun x => (hFx x).cell_some f1 (by simp)
    have z2 := fun x => (hFx x).cell_some f2 (by simp)
    clear f0 f1 f2 hbr
    have hib : (i : Int) ≤ 1000000 := by omega
    by_cases hi : i < n
    · have t1 : decide ((i : Int) < (n : Int)) = true := by simp; omega
      have t1' : decide (i < n) = true := by simp; omega
      have hil : i < d.length := by rw [HN.out]; exact hi
      have hse := hcells.out wr hc
      obtain ⟨g, off, cap', hs, -, hgl, hcell⟩ := hse.cells (by omega)
      simp only [Value.slice.injEq, true_and] at hs
      obtain ⟨hs1, hs2⟩ := hs
      subst hs1
      obtain ⟨y0, y1, y2⟩ := Rfs_cells HN.out hcell i hil
      have q0 := fun x => (hFx x).cell_some y0 (by simp)
      have q1 := fun x => (hFx x).cell_some y1 (by simp)
      have q2 := fun x => (hFx x).cell_some y2 (by simp)
      have HCa := fun x => HCmp.out d[i] (F x)
      have hT := List.take_succ_eq_append_getElem hil
      have hpl := fun (h : ¬ cmpR (d[i]'hil) rr < 0) => place_at (r := rr) (Nat.le_of_lt hil) HM.out (fun _ => h)
      obtain ⟨c, hcc⟩ : ∃ c, cmpR d[i] rr = c := ⟨_, rfl⟩
      rw [hcc] at HCa hpl
      clear y0 y1 y2 hcell hse hs2
      by_cases hc0 : c < 0
      · have t2 : decide (c < 0) = true := by simpa using hc0
        have HG : Hid (∀ x ∈ d.take (i + 1), cmpR x rr < 0) := by
          intro x hx
          rw [hT] at hx
          rcases List.mem_append.1 hx with hx | hx
          · exact HM.out x hx
          · rw [List.mem_singleton.1 hx, hcc]; exact hc0
        clear hT hpl hcc hc0 HM
        generalize d[i] = rp at *
        obtain ⟨tp, np, kp⟩ := rp
        simp only at q0 q1 q2
        unfold rfV at HCa
        simp only at HCa
        have HP := Lib.hid (And.intro hik (And.intro hin (And.intro hi hc)))
        clear hik hin hil hc
        go_wp2_with fail
        refine wp_fam F (by kernel_rfl) (by kernel_rfl) x0 hF0 ?_
        repeat (go_big_quiet_step (exact fam_call hFx hX (HCa _)))
        refine wpQuiet_nil ?_
        rintro w' ⟨x1, rfl⟩
        go_wp2_with fail
        go_roundg (gk - 1)
        case measure => have := HP.out; omega
        case rel => exact ⟨i + 1, by go_num, by have := HP.out; omega, by have := HP.out; omega, HG, HP.out.2.2.2.nil (hFx x1)⟩
      · have t2 : decide (c < 0) = false := by simpa using hc0
        have hI := fun x => HV.out i (F x) (Nat.le_of_lt hil) (hpl hc0) (hc.nil (hFx x))
        clear hT hpl hcc hc0 HM
        generalize d[i] = rp at *
        obtain ⟨tp, np, kp⟩ := rp
        simp only at q0 q1 q2
        unfold rfV at HCa
        simp only at HCa
        clear hik hin hil hc
        go_wp2_with fail
        refine wp_fam F (by kernel_rfl) (by kernel_rfl) x0 hF0 ?_
        repeat (go_big_quiet_step (exact fam_call hFx hX (HCa _)))
        refine wpQuiet_nil ?_
        rintro w' ⟨x1, rfl⟩
        obtain ⟨⟨a0, a1, a2⟩, a3⟩ := (hI x1).out
        clear q0 q1 q2 z0 z1 z2 HCa hI
        generalize F x1 = w9 at *
        go_wp2_with fail
        refine a3.mono ?_
        rintro e w10 ⟨v10, rfl, HZ⟩
        obtain ⟨nn, HNN⟩ : ∃ nn, Hid ((setL l rr).length = nn) := ⟨_, rfl⟩
        rw [HNN.out] at HZ
        obtain ⟨ao10, cap10, rfl, -⟩ := HZ.out.1.shape
        go_wp2_with fail
        go_ret
        exact ⟨_, rfl, by rw [HNN.out]; exact HZ.out.1, HZ.out.2⟩
    · have t1 : decide ((i : Int) < (n : Int)) = false := by simp; omega
      have t1' : decide (i < n) = false := by simp; omega
      have hil : ¬ i < d.length := by rw [HN.out]; exact hi
      have hI := fun q => HV.out i (wr.drewN q) (by rw [HN.out]; omega) (place_at (by rw [HN.out]; omega) HM.out (fun h => absurd h hil)) (hc.drewN q)
      clear hik hin hi hil hc HM z0 z1 z2 hF0 x0 hFx hX hne F X
      go_wp2_with fail
      go_quiet (fail)
      obtain ⟨⟨a0, a1, a2⟩, a3⟩ := (hI nq).out
      clear hI
      generalize wr.drewN nq = w9 at *
      go_wp2_with fail
      refine a3.mono ?_
      rintro e w10 ⟨v10, rfl, HZ⟩
      obtain ⟨nn, HNN⟩ : ∃ nn, Hid ((setL l rr).length = nn) := ⟨_, rfl⟩
      rw [HNN.out] at HZ
      obtain ⟨ao10, cap10, rfl, -⟩ := HZ.out.1.shape
      go_wp2_with fail
      go_ret
      exact ⟨_, rfl, by rw [HNN.out]; exact HZ.out.1, HZ.out.2⟩
end Go.Proofs.YtihoohhngiomdaaDoor

/- Refs for the document (aqulaw21.Plain), and whether they are alike (Same). No statement of the seat is proved here. -/
namespace Go.Aq
open Go.RowKit Go.Aq.Wd
theorem rfs_ones (l : List RefD) : ∀ u ∈ Rfs l, u.oneCell' = true := by
  intro u hu
  simp only [Rfs, List.mem_flatMap] at hu
  obtain ⟨r, -, hu⟩ := hu
  simp only [rfCells, List.mem_cons, List.not_mem_nil, or_false] at hu
  rcases hu with rfl | rfl | rfl <;> rfl
instance : DecidableEq RefD := fun a b => by
  obtain ⟨a1, a2, a3⟩ := a
  obtain ⟨b1, b2, b3⟩ := b
  exact if h : a1 = b1 ∧ a2 = b2 ∧ a3 = b3 then .isTrue (by obtain ⟨rfl, rfl, rfl⟩ := h; rfl) else .isFalse (fun e => h (by injection e with e1 e2 e3; exact ⟨e1, e2, e3⟩))
end Go.Aq
namespace Go.Proofs.YtihoohhngiomdaaDoor
open Go.RowKit Go.Aq Go.Aq.Wd
theorem sl_q : SliceTy Tryd.prog 36 62 (.agg #[.bool false, .string ⟨#[]⟩, .string ⟨#[]⟩]) 3 40 := ⟨Tryd.underlying36, by kernel_rfl, rfl, by decide⟩
set_option maxRecDepth 100000 in
set_option maxHeartbeats 4000000 in
theorem plainR_any (w : World) (v : Value) (l : List RefD) (hv : Sees w 3 v l.length (Rfs l)) (hl : l.length ≤ 1000000) :
    Calls Tryd.prog 12 #[v] w fun e w' => ∃ v', e = .returned v' ∧ Fresh w w' 62 3 v' l.length (Rfs l) := by
  obtain ⟨n, HN⟩ : ∃ n, Hid (l.length = n) := ⟨_, rfl⟩
  rw [HN.out] at hv hl ⊢
  obtain ⟨ao, cap, rfl, -⟩ := hv.shape
  have HV := Lib.hid hv
  clear hv
  go_enter Tryd.func12, Tryd.ntmps12
  go_wp2_with fail
  go_loopg [3, 4] n (fun gk (v3 v4 : Value) wr => ∃ (i : Nat) (a6 : Option Addr) (c6 : Nat), v3 = .slice a6 i c6 ∧ v4 = .int .i64 (i : Int) ∧ i + gk = n ∧ Hid (Fresh w wr 62 3 (.slice a6 i c6) i (Rfs (l.take i))))
  case atStart => exact ⟨0, none, 0, rfl, rfl, by omega, Fresh.nil _ _ _⟩
  case round =>
    obtain ⟨i, a6, c6, rfl, rfl, hik, HF⟩ := hrel
    by_cases hin : i < n
    · have t1 : decide ((i : Int) < (n : Int)) = true := decide_eq_true (by omega)
      have t1' : decide (i < n) = true := decide_eq_true hin
      have hil : i < l.length := by rw [HN.out]; exact hin
      obtain ⟨g, off, cap', hs, -, hgl, hcell⟩ := HV.out.cells (by omega)
      simp only [Value.slice.injEq, true_and] at hs
      obtain ⟨hs1, hs2⟩ := hs
      subst hs1
      obtain ⟨y0, y1, y2⟩ := Rfs_cells HN.out hcell i hil
      have htk := List.take_succ_eq_append_getElem hil
      have hgn : g ∉ (Value.slice a6 i c6).ownBlock.toList := fun hm => by have := HF.out.new g hm; omega
      have hcs : Hid (∀ W, Chg (Value.slice a6 i c6).ownBlock.toList wr.drew W → W.cell? ⟨g, off + i * 3, none⟩ = some (.bool l[i].tag) ∧ W.cell? ⟨g, off + i * 3 + 1, none⟩ = some (.string (str l[i].name)) ∧ W.cell? ⟨g, off + i * 3 + 2, none⟩ = some (.string (str l[i].key))) := fun W c => by
        have cw : Chg (Value.slice a6 i c6).ownBlock.toList wr W := ((Chg.refl _ wr).drew).tr c
        have f := fun {a : Addr} {u : Value} (h : w.cell? a = some u) (ha : a.block = g) => cw.cell_some (HF.out.chg.cell_some h (by simp)) (by rw [ha]; exact hgn)
        exact ⟨f y0 rfl, f y1 rfl, f y2 rfl⟩
      have w3 : wrap64 ((i : Int) + 1) = ((i + 1 : Nat) : Int) := by unfold wrap64; omega
      have i1 : (0 : Int) ≤ (i : Int) := by omega
      have i2 : (i : Int) < n := by omega
      have hb3 : (i + 1) * 40 ≤ 140737488355328 := by omega
      have hb4 : i + 1 ≤ 9223372036854775807 := by omega
      have HI := Lib.hid (And.intro hik htk)
      clear hik htk y0 y1 y2 hcell hgl hgn hs2 hl
      generalize l[i] = rf at *
      clear hil
      obtain ⟨tr, nm, ky⟩ := rf
      simp only at hcs
      go_upto_region 5 with (fail)
      have HF0 : Hid (Fresh w wr.drew 62 3 (.slice a6 i c6) i (Rfs (l.take i))) := HF.out.to ((Chg.refl [] wr).drew)
      have c0 : Chg (Value.slice a6 i c6).ownBlock.toList wr.drew wr.drew := Chg.refl _ _
      refine wp_region_E (Value.slice a6 i c6).ownBlock.toList (by kernel_rfl) ?_
      generalize wr.drew = W0 at *
      refine wpAnyE_take 0 (v := (.slice a6 i c6)) c0 rfl (by kernel_rfl) (by kernel_rfl) (by kernel_rfl) (fun _ _ _ h => h) (by rfl) (fun w4 c4 => ?_) ?_
      · go_simp
      try simp only [Act.put, List.getElem_toArray, List.getElem_cons_succ, List.getElem_cons_zero, List.setIfInBounds_toArray, List.set_cons_zero, List.set_cons_succ]
      refine wpAnyE_take 1 (v := (.slice (some ⟨g, off, none⟩) n cap)) c0 rfl (by kernel_rfl) (by kernel_rfl) (by kernel_rfl) (fun _ _ _ h => h) (by rfl) (fun w4 c4 => ?_) ?_
      · go_simp
      try simp only [Act.put, List.getElem_toArray, List.getElem_cons_succ, List.getElem_cons_zero, List.setIfInBounds_toArray, List.set_cons_zero, List.set_cons_succ]
      refine wpAnyE_take 2 (v := (.int .i64 (i : Int))) c0 rfl (by kernel_rfl) (by kernel_rfl) (by kernel_rfl) (fun _ _ _ h => h) (by rfl) (fun w4 c4 => ?_) ?_
      · go_simp
      try simp only [Act.put, List.getElem_toArray, List.getElem_cons_succ, List.getElem_cons_zero, List.setIfInBounds_toArray, List.set_cons_zero, List.set_cons_succ]
      refine wpAnyE_take 3 (v := (.pointer (some ⟨g, off + i * 3, none⟩))) c0 rfl (by kernel_rfl) (by kernel_rfl) (by kernel_rfl) (fun _ _ _ h => h) (by rfl) (fun w4 c4 => ?_) ?_
      · obtain ⟨z0, z1, z2⟩ := hcs.out w4 c4
        go_simp
      try simp only [Act.put, List.getElem_toArray, List.getElem_cons_succ, List.getElem_cons_zero, List.setIfInBounds_toArray, List.set_cons_zero, List.set_cons_succ]
      refine wpAnyE_take 4 (v := (.pointer (some ⟨g, off + i * 3, none⟩))) c0 rfl (by kernel_rfl) (by kernel_rfl) (by kernel_rfl) (fun _ _ _ h => h) (by rfl) (fun w4 c4 => ?_) ?_
      · obtain ⟨z0, z1, z2⟩ := hcs.out w4 c4
        go_simp
      try simp only [Act.put, List.getElem_toArray, List.getElem_cons_succ, List.getElem_cons_zero, List.setIfInBounds_toArray, List.set_cons_zero, List.set_cons_succ]
      refine wpAnyE_take 5 (v := (.bool tr)) c0 rfl (by kernel_rfl) (by kernel_rfl) (by kernel_rfl) (fun _ _ _ h => h) (by rfl) (fun w4 c4 => ?_) ?_
      · obtain ⟨z0, z1, z2⟩ := hcs.out w4 c4
        go_simp
      try simp only [Act.put, List.getElem_toArray, List.getElem_cons_succ, List.getElem_cons_zero, List.setIfInBounds_toArray, List.set_cons_zero, List.set_cons_succ]
      refine wpAnyE_take 6 (v := (.slice (some ⟨g, off, none⟩) n cap)) c0 rfl (by kernel_rfl) (by kernel_rfl) (by kernel_rfl) (fun _ _ _ h => h) (by rfl) (fun w4 c4 => ?_) ?_
      · go_simp
      try simp only [Act.put, List.getElem_toArray, List.getElem_cons_succ, List.getElem_cons_zero, List.setIfInBounds_toArray, List.set_cons_zero, List.set_cons_succ]
      refine wpAnyE_take 7 (v := (.int .i64 (i : Int))) c0 rfl (by kernel_rfl) (by kernel_rfl) (by kernel_rfl) (fun _ _ _ h => h) (by rfl) (fun w4 c4 => ?_) ?_
      · go_simp
      try simp only [Act.put, List.getElem_toArray, List.getElem_cons_succ, List.getElem_cons_zero, List.setIfInBounds_toArray, List.set_cons_zero, List.set_cons_succ]
      refine wpAnyE_take 8 (v := (.pointer (some ⟨g, off + i * 3, none⟩))) c0 rfl (by kernel_rfl) (by kernel_rfl) (by kernel_rfl) (fun _ _ _ h => h) (by rfl) (fun w4 c4 => ?_) ?_
      · obtain ⟨z0, z1, z2⟩ := hcs.out w4 c4
        go_simp
      try simp only [Act.put, List.getElem_toArray, List.getElem_cons_succ, List.getElem_cons_zero, List.setIfInBounds_toArray, List.set_cons_zero, List.set_cons_succ]
      refine wpAnyE_take 9 (v := (.pointer (some ⟨g, off + i * 3 + 1, none⟩))) c0 rfl (by kernel_rfl) (by kernel_rfl) (by kernel_rfl) (fun _ _ _ h => h) (by rfl) (fun w4 c4 => ?_) ?_
      · obtain ⟨z0, z1, z2⟩ := hcs.out w4 c4
        go_simp
      try simp only [Act.put, List.getElem_toArray, List.getElem_cons_succ, List.getElem_cons_zero, List.setIfInBounds_toArray, List.set_cons_zero, List.set_cons_succ]
      refine wpAnyE_take 10 (v := (.string (str nm))) c0 rfl (by kernel_rfl) (by kernel_rfl) (by kernel_rfl) (fun _ _ _ h => h) (by rfl) (fun w4 c4 => ?_) ?_
      · obtain ⟨z0, z1, z2⟩ := hcs.out w4 c4
        go_simp
      try simp only [Act.put, List.getElem_toArray, List.getElem_cons_succ, List.getElem_cons_zero, List.setIfInBounds_toArray, List.set_cons_zero, List.set_cons_succ]
      refine wpAnyE_take 11 (v := (.slice (some ⟨g, off, none⟩) n cap)) c0 rfl (by kernel_rfl) (by kernel_rfl) (by kernel_rfl) (fun _ _ _ h => h) (by rfl) (fun w4 c4 => ?_) ?_
      · go_simp
      try simp only [Act.put, List.getElem_toArray, List.getElem_cons_succ, List.getElem_cons_zero, List.setIfInBounds_toArray, List.set_cons_zero, List.set_cons_succ]
      refine wpAnyE_take 12 (v := (.int .i64 (i : Int))) c0 rfl (by kernel_rfl) (by kernel_rfl) (by kernel_rfl) (fun _ _ _ h => h) (by rfl) (fun w4 c4 => ?_) ?_
      · go_simp
      try simp only [Act.put, List.getElem_toArray, List.getElem_cons_succ, List.getElem_cons_zero, List.setIfInBounds_toArray, List.set_cons_zero, List.set_cons_succ]
      refine wpAnyE_take 13 (v := (.pointer (some ⟨g, off + i * 3, none⟩))) c0 rfl (by kernel_rfl) (by kernel_rfl) (by kernel_rfl) (fun _ _ _ h => h) (by rfl) (fun w4 c4 => ?_) ?_
      · obtain ⟨z0, z1, z2⟩ := hcs.out w4 c4
        go_simp
      try simp only [Act.put, List.getElem_toArray, List.getElem_cons_succ, List.getElem_cons_zero, List.setIfInBounds_toArray, List.set_cons_zero, List.set_cons_succ]
      refine wpAnyE_take 14 (v := (.pointer (some ⟨g, off + i * 3 + 2, none⟩))) c0 rfl (by kernel_rfl) (by kernel_rfl) (by kernel_rfl) (fun _ _ _ h => h) (by rfl) (fun w4 c4 => ?_) ?_
      · obtain ⟨z0, z1, z2⟩ := hcs.out w4 c4
        go_simp
      try simp only [Act.put, List.getElem_toArray, List.getElem_cons_succ, List.getElem_cons_zero, List.setIfInBounds_toArray, List.set_cons_zero, List.set_cons_succ]
      refine wpAnyE_take 15 (v := (.string (str ky))) c0 rfl (by kernel_rfl) (by kernel_rfl) (by kernel_rfl) (fun _ _ _ h => h) (by rfl) (fun w4 c4 => ?_) ?_
      · obtain ⟨z0, z1, z2⟩ := hcs.out w4 c4
        go_simp
      try simp only [Act.put, List.getElem_toArray, List.getElem_cons_succ, List.getElem_cons_zero, List.setIfInBounds_toArray, List.set_cons_zero, List.set_cons_succ]
      refine wpAnyE_take 16 (v := (.agg #[.bool tr, .string (str nm), .string (str ky)])) c0 rfl (by kernel_rfl) (by kernel_rfl) (by kernel_rfl) (fun _ _ _ h => h) (by rfl) (fun w4 c4 => ?_) ?_
      · go_simp
      try simp only [Act.put, List.getElem_toArray, List.getElem_cons_succ, List.getElem_cons_zero, List.setIfInBounds_toArray, List.set_cons_zero, List.set_cons_succ]
      refine wpAnyE_only 17 rfl (by kernel_rfl) (by rfl) ?_
      have hb : Blk (W0.alloc (.cells #[.bool tr, .string (str nm), .string (str ky)] 62)) W0.heap.size #[.bool tr, .string (str nm), .string (str ky)] 62 := Blk.new _ _ _
      have cB : Chg [] W0 (W0.alloc (.cells #[.bool tr, .string (str nm), .string (str ky)] 62)) := (Chg.refl [] _).alloc _
      have HC0 := Lib.hid c0
      clear c0
      go_simp
      have c18 := HC0.out.nil cB
      have hO18 := HF0.out.to cB
      refine ⟨c18, ?_⟩
      have hs1 : Sees (W0.alloc (.cells #[.bool tr, .string (str nm), .string (str ky)] 62)) 3 (.slice (some ⟨W0.heap.size, 0, none⟩) 1 1) 1 (Rfs [⟨tr, nm, ky⟩]) := Sees.blk hb
      generalize W0.heap.size = KK at *
      generalize W0.alloc (.cells #[.bool tr, .string (str nm), .string (str ky)] 62) = w18 at *
      clear cB hb
      try simp only [Act.put, List.getElem_toArray, List.getElem_cons_succ, List.getElem_cons_zero, List.setIfInBounds_toArray, List.set_cons_zero, List.set_cons_succ]
      refine wpAnyE_only 18 rfl (by kernel_rfl) (by rfl) ?_
      refine wp_app _ _ 36 (by rfl) sl_q (v := (.slice a6 i c6)) (n := i) (xs := Rfs (l.take i)) hO18.own (by rfl) (vx := (.slice (some ⟨KK, 0, none⟩) 1 1)) (m := 1) (news := Rfs [⟨tr, nm, ky⟩]) hs1 (by rfl) (rfs_ones _) hb3 hb4 ?_
      intro v19 w19 o19 e19 n19
      have c19 : Chg (Value.slice a6 i c6).ownBlock.toList W0 w19 := c18.tr e19
      have hF19 := hO18.app o19 e19 n19
      clear o19 e19 n19
      refine ⟨c19, ?_⟩
      try simp only [Act.put, List.getElem_toArray, List.getElem_cons_succ, List.getElem_cons_zero, List.setIfInBounds_toArray, List.set_cons_zero, List.set_cons_succ]
      refine wpAnyE_take 19 (v := v19) c19 rfl (by kernel_rfl) (by kernel_rfl) (by kernel_rfl) (fun _ _ _ h => h) (by rfl) (fun w4 c4 => ?_) ?_
      · go_simp
      try simp only [Act.put, List.getElem_toArray, List.getElem_cons_succ, List.getElem_cons_zero, List.setIfInBounds_toArray, List.set_cons_zero, List.set_cons_succ]
      refine wpAnyE_done (by kernel_rfl) ?_ _
      obtain ⟨a19, q19, rfl, -⟩ := hF19.shape
      rw [← Rfs_app, ← HI.out.2] at hF19
      have HF19 := Lib.hid hF19
      clear hF19 c19 c18 hO18 hs1
      go_wp2_with fail
      go_roundg (gk - 1)
      case measure => have := HI.out.1; omega
      case rel => exact ⟨i + 1, a19, q19, rfl, by first | rfl | rw [w3], by have := HI.out.1; omega, HF19⟩
    · have t1 : decide ((i : Int) < (n : Int)) = false := decide_eq_false (by omega)
      have t1' : decide (i < n) = false := decide_eq_false hin
      obtain rfl : i = n := by omega
      go_wp2_with fail
      go_ret
      have h := HF.out
      rw [← HN.out, List.take_length] at h
      exact ⟨_, rfl, by rw [← HN.out]; exact h⟩
set_option maxRecDepth 100000 in
set_option maxHeartbeats 4000000 in
theorem sameR_any (w : World) (v1 v2 : Value) (l1 l2 : List RefD) (h1 : Sees w 3 v1 l1.length (Rfs l1)) (h2 : Sees w 3 v2 l2.length (Rfs l2)) (hl1 : l1.length ≤ 1000000) (hl2 : l2.length ≤ 1000000) :
    Calls Tryd.prog 11 #[v1, v2] w fun e w' => e = .returned (.bool (decide (l1 = l2))) ∧ Chg [] w w' := by
  obtain ⟨n, HN⟩ : ∃ n, Hid (l1.length = n) := ⟨_, rfl⟩
  obtain ⟨m, HM⟩ : ∃ n, Hid (l2.length = n) := ⟨_, rfl⟩
  rw [HN.out] at h1 hl1
  rw [HM.out] at h2 hl2
  obtain ⟨ao, cap, rfl, -⟩ := h1.shape
  obtain ⟨bo, cbp, rfl, -⟩ := h2.shape
  have HV := Lib.hid (And.intro h1 h2)
  clear h1 h2
  by_cases hnm : n = m
  · subst hnm
    have e0 : ((n : Int) != (n : Int)) = false := by simp
    go_enter Tryd.func11, Tryd.ntmps11
    go_wp2_with fail
    go_loopg [5] n (fun gk (v5 : Value) wr => ∃ (i : Nat), v5 = .int .i64 (i : Int) ∧ i + gk = n ∧ Hid (l1.take i = l2.take i) ∧ Hid (Chg [] w wr))
    case atStart => exact ⟨0, rfl, by omega, rfl, Chg.refl _ _⟩
    case round =>
      obtain ⟨i, rfl, hik, HT, HC⟩ := hrel
      by_cases hin : i < n
      · have t1 : decide ((i : Int) < (n : Int)) = true := decide_eq_true (by omega)
        have t1' : decide (i < n) = true := decide_eq_true hin
        have hil1 : i < l1.length := by rw [HN.out]; exact hin
        have hil2 : i < l2.length := by rw [HM.out]; exact hin
        obtain ⟨g, off, cap', hs, -, -, hcell⟩ := (HV.out.1.chg0 HC.out).cells (by omega)
        simp only [Value.slice.injEq, true_and] at hs
        obtain ⟨hs1, hs2⟩ := hs
        subst hs1
        obtain ⟨g', off', cap'', hs', -, -, hcell'⟩ := (HV.out.2.chg0 HC.out).cells (by omega)
        simp only [Value.slice.injEq, true_and] at hs'
        obtain ⟨hs1', hs2'⟩ := hs'
        subst hs1'
        obtain ⟨y0, y1, y2⟩ := Rfs_cells HN.out hcell i hil1
        obtain ⟨x0, x1, x2⟩ := Rfs_cells HM.out hcell' i hil2
        have ht1 := List.take_succ_eq_append_getElem hil1
        have ht2 := List.take_succ_eq_append_getElem hil2
        have i1 : (i : Int) ≤ 1000000 := by omega
        have hno : Hid (l1[i] ≠ l2[i] → l1 ≠ l2) := fun h e => h (by subst e; rfl)
        have hyes : Hid (l1[i] = l2[i] → l1.take (i + 1) = l2.take (i + 1)) := fun h => by rw [ht1, ht2, HT.out, h]
        have HI := Lib.hid hik
        clear hik ht1 ht2 hcell hcell' hs2 hs2' hl1 hl2
        generalize l1[i] = ra at *
        generalize l2[i] = rb at *
        clear hil1 hil2
        obtain ⟨ta, na, ka⟩ := ra
        obtain ⟨tb, nb, kb⟩ := rb
        simp only at y0 y1 y2 x0 x1 x2
        have q1 := str_eq na nb
        have q2 := str_eq ka kb
        by_cases h : ta = tb ∧ na = nb ∧ ka = kb
        · obtain ⟨rfl, rfl, rfl⟩ := h
          have HY : Hid (l1.take (i + 1) = l2.take (i + 1)) := hyes.out rfl
          clear hno hyes q1 q2
          go_wp2_with fail
          go_quiet (fail)
          go_wp2_with fail
          go_roundg (gk - 1)
          case measure => have := HI.out; omega
          case rel => exact ⟨i + 1, by go_num, by have := HI.out; omega, HY, HC.out.drewN nq⟩
        · have HE : Hid (decide (l1 = l2) = false) := decide_eq_false (hno.out (fun e => h (by injection e with e1 e2 e3; exact ⟨e1, e2, e3⟩)))
          have hh : (ta == tb) = false ∨ ((ta == tb) = true ∧ decide (na = nb) = false) ∨ ((ta == tb) = true ∧ decide (na = nb) = true ∧ decide (ka = kb) = false) := by
            by_cases e1 : ta = tb
            · by_cases e2 : na = nb
              · right; right; exact ⟨by simpa using e1, by simpa using e2, by simp; exact fun e3 => h ⟨e1, e2, e3⟩⟩
              · right; left; exact ⟨by simpa using e1, by simpa using e2⟩
            · left; simpa using e1
          clear hno hyes h
          rcases hh with g1 | ⟨g1, g2⟩ | ⟨g1, g2, g3⟩
          all_goals
            first | rw [g2] at q1 | skip
            first | rw [g3] at q2 | skip
            go_wp2_with fail
            go_quiet (fail)
            go_wp2_with fail
            go_ret
            exact ⟨by rw [HE.out]; rfl, HC.out.drewN nq⟩
      · have t1 : decide ((i : Int) < (n : Int)) = false := decide_eq_false (by omega)
        have t1' : decide (i < n) = false := decide_eq_false hin
        have HE : Hid (decide (l1 = l2) = true) := by
          refine decide_eq_true ?_
          have h := HT.out
          rw [List.take_of_length_le (by rw [HN.out]; omega), List.take_of_length_le (by rw [HM.out]; omega)] at h
          exact h
        go_wp2_with fail
        go_ret
        exact ⟨by rw [HE.out]; rfl, HC.out⟩
  · have e0 : ((n : Int) != (m : Int)) = true := by simp; omega
    have HE : Hid (decide (l1 = l2) = false) := decide_eq_false (fun e => hnm (by rw [← HN.out, ← HM.out, e]))
    go_enter Tryd.func11, Tryd.ntmps11
    go_wp2_with fail
    go_ret
    exact ⟨by rw [HE.out]; rfl, Chg.refl _ _⟩
end Go.Proofs.YtihoohhngiomdaaDoor

/- The walk of the law RefsBack. No statement of the seat is proved here. -/
namespace Go.Proofs.YtihoohhngiomdaaDoor
open Go.RowKit Go.Aq Go.Aq.Wd
theorem fewN_sum : ∀ (l : List RefD) (n : Nat), fewN n l ≤ 20000 → n + bulkR l ≤ 20000
  | [], n, h => by simpa [fewN, bulkR] using h
  | a :: t, n, h => by
    rw [fewN] at h
    have ih := fewN_sum t _ h
    have e : bulkR (a :: t) = a.name.length + a.key.length + bulkR t := by simp [bulkR]
    omega
theorem lines_sum : ∀ (l : List RefD), (l.flatMap lineR).length ≤ 6 * bulkR l + 11 * l.length
  | [] => by simp [bulkR]
  | a :: t => by
    have ih := lines_sum t
    have e : bulkR (a :: t) = a.name.length + a.key.length + bulkR t := by simp [bulkR]
    have h1 := quoteL_len a.name
    have h2 : (kindL a.tag).length ≤ 6 := by unfold kindL; split <;> simp
    have h3 : (lineR a).length ≤ 6 * a.name.length + a.key.length + 11 := by
      unfold lineR
      simp only [List.length_append, List.length_cons, List.length_nil]
      omega
    rw [List.flatMap_cons, List.length_append, List.length_cons]; omega
theorem few_lines {l : List RefD} (h : fewL l = true) : (l.flatMap lineR).length ≤ 200000 := by
  have h0 := (fewL_parts h).1
  simp only [fewL, Bool.and_eq_true, decide_eq_true_eq] at h
  have h2 := h.2
  rw [List.take_of_length_le h0] at h2
  have := fewN_sum l 0 h2
  have := lines_sum l
  omega
theorem encL_le (rs : List Nat) : (encL rs).length ≤ 4 * rs.length := by
  induction rs with
  | nil => simp [encL]
  | cons a t ih =>
    have h := (enc1_len a).2
    simp only [encL, List.flatMap_cons, List.length_append, List.length_cons] at ih ⊢
    omega
theorem name_len {l : List UInt8} (h : nameL l = true) : l.length ≤ 160 := by
  unfold nameL at h
  cases hs : sigs l with
  | none => rw [hs] at h; cases h
  | some rs =>
    rw [hs] at h
    obtain ⟨he, -⟩ := sigs_enc hs
    simp only [nameR, Bool.and_eq_true, decide_eq_true_eq] at h
    have h1 := encL_le rs
    rw [← he] at h1
    omega
theorem valid_len {k : List UInt8} (h : validB k = true) : k.length ≤ 64 := by
  unfold validB at h
  cases hu : unhexL k with
  | none => rw [hu] at h; cases h
  | some bs =>
    rw [hu] at h
    have h32 : bs.length = 32 := by simpa using h
    have := unhexL_length k bs hu
    omega
theorem may_small {l : List RefD} (h : mayL l = true) : l.length ≤ 1000000 ∧ ∀ r ∈ l, r.name.length ≤ 1000000 ∧ r.key.length ≤ 1000000 := by
  refine ⟨by have := mayL_len h; omega, fun r hr => ?_⟩
  obtain ⟨h1, h2⟩ := may_parts h r hr
  have := name_len h1
  have := valid_len h2
  omega
theorem enc_may {l : List RefD} {b : List UInt8} (h : encodeL l = (b, 0)) : mayL l = true := by
  unfold encodeL at h
  split at h
  · assumption
  · cases h
/-- What the law asks of what is set. -/
theorem set_facts {l : List RefD} (h : mayL l = true) (r : RefD) : findL (setL l r) r.tag r.name = some r.key ∧ dropL (setL l r) r.tag r.name = dropL l r.tag r.name ∧ findL (dropL l r.tag r.name) r.tag r.name = none ∧
    (setL l r).length = (dropL l r.tag r.name).length + 1 ∧ (dropL l r.tag r.name).length ≤ l.length ∧ ∀ j (h1 : j + 1 < (setL l r).length), cmpR ((setL l r)[j]'(Nat.lt_of_succ_lt h1)) ((setL l r)[j + 1]'h1) = -1 := by
  refine ⟨find_set l r, drop_set l r, find_drop _ _ _, set_len l r, dropL_len _ _ _, fun j h1 => ?_⟩
  have hp := set_rises (may_rises h) r
  have h2 := List.pairwise_iff_getElem.1 hp j (j + 1) (by omega) h1 (by omega)
  rcases cmpR_range ((setL l r)[j]'(Nat.lt_of_succ_lt h1)) ((setL l r)[j + 1]'h1) with h3 | h3 | h3 <;> omega
set_option maxRecDepth 100000 in
set_option maxHeartbeats 16000000 in
theorem back_any (w : World) (hT : Tabs w) (v : Value) (l : List RefD) (hv : Sees w 3 v l.length (Rfs l)) (hl : l.length ≤ 9223372036854775807) (hx : ∀ r ∈ l, okRef r) (r : RefD) (hr : okRef r) (vb : Value) (nb : Nat) (b : List UInt8) (hb : Sees w 1 vb nb (Bs b)) :
    Calls Tryd.prog 4 #[v, rfV r, vb] w fun e w' => e = .returned (.bool true) ∧ Chg [] w w' := by
  have hnb : nb = b.length := by have := hb.len; rw [Bs_length] at this; omega
  subst hnb
  obtain ⟨bl, HBL⟩ : ∃ n, Hid (b.length = n) := ⟨_, rfl⟩
  rw [HBL.out] at hb
  have hset := fun h => set_facts (l := l) h r
  have hse := fun w' v' (h : Sees w' 3 v' l.length (Rfs l)) (h2 : l.length ≤ 1000000) => set_any w' v' l r h h2
  obtain ⟨tg, nm, ky⟩ := r
  unfold rfV at hse ⊢
  simp only at hset hse ⊢
  obtain ⟨K, hK⟩ : ∃ K, w.heap.size = K := ⟨_, rfl⟩
  have hbA : Blk (w.alloc (.cells #[.bool tg, .string (str nm), .string (str ky)] 24)) K #[.bool tg, .string (str nm), .string (str ky)] 24 := Blk.new_at w _ _ hK
  have hcA : Chg [] w (w.alloc (.cells #[.bool tg, .string (str nm), .string (str ky)] 24)) := (Chg.refl [] w).alloc _
  have hfi := fun w' (h : Chg [] w w') => first_any w' (hT.chg h)
  have HFI := Lib.hid hfi
  have HSE := Lib.hid hse
  have HSET := Lib.hid hset
  have HT := Lib.hid hT
  have HR := Lib.hid hr
  have HX := Lib.hid hx
  have HB := Lib.hid hb
  obtain ⟨vao, vcap, rfl, -⟩ := hb.shape
  obtain ⟨nl, HL⟩ : ∃ n, Hid (l.length = n) := ⟨_, rfl⟩
  rw [HL.out] at hv hl
  obtain ⟨ao, cap, rfl, -⟩ := hv.shape
  have HV := Lib.hid hv
  have h1 := hfi _ hcA
  clear hse hset hT hr hx hb hv hfi
  go_enter Tryd.func4, Tryd.ntmps4
  go_wp2_with fail
  generalize w.alloc (.cells #[.bool tg, .string (str nm), .string (str ky)] 24) = wa at *
  refine h1.mono ?_
  rintro e w4 ⟨rfl, c4⟩
  clear h1 hK
  have cW : Chg [] w w4 := hcA.nil c4
  have HK : Hid (∀ w', Chg [] w4 w' → w'.cell? ⟨K, 0, none⟩ = some (.bool tg) ∧ w'.cell? ⟨K, 1, none⟩ = some (.string (str nm)) ∧ w'.cell? ⟨K, 2, none⟩ = some (.string (str ky))) := fun w' c => ((hbA.chg0 c4).chg0 c).c3.1
  have hfw := few_any w4 (.slice ao nl cap) l (by rw [HL.out]; exact HV.out.chg0 cW) (by rw [HL.out]; exact hl) HX.out
  clear hbA hcA c4
  have HW4 := Lib.hid cW
  clear cW
  cases hF : fewL l with
  | false =>
    rw [hF] at hfw
    clear hF
    go_wp2_with fail
    refine hfw.mono ?_
    rintro e w5 ⟨rfl, q, rfl⟩
    have cW5 := HW4.out.drewN q
    have h5 := HFI.out _ cW5
    generalize w4.drewN q = w5 at *
    clear hfw
    go_wp2_with fail
    refine h5.mono ?_
    rintro e w6 ⟨rfl, c6⟩
    go_wp2_with fail
    go_ret
    exact ⟨rfl, cW5.nil c6⟩
  | true =>
    rw [hF] at hfw
    have HF := Lib.hid hF
    clear hF
    go_wp2_with fail
    refine hfw.mono ?_
    rintro e w5 ⟨rfl, q, rfl⟩
    have c5 : Chg [] w4 (w4.drewN q) := (Chg.refl [] w4).drewN q
    generalize w4.drewN q = w5 at *
    clear hfw
    obtain ⟨f0, f1, f2⟩ := HK.out w5 c5
    obtain ⟨G, hG⟩ : ∃ G, w5.heap.size = G := ⟨_, rfl⟩
    have hbx : Blk (w5.alloc (.cells #[.bool tg, .string (str nm), .string (str ky)] 24)) G #[.bool tg, .string (str nm), .string (str ky)] 24 := Blk.new_at w5 _ _ hG
    have hsx : Sees (w5.alloc (.cells #[.bool tg, .string (str nm), .string (str ky)] 24)) 3 (.slice (some ⟨G, 0, none⟩) 1 1) 1 (Rfs [⟨tg, nm, ky⟩]) := Sees.rows hbx rfl
    have hcx : Chg [] w5 (w5.alloc (.cells #[.bool tg, .string (str nm), .string (str ky)] 24)) := (Chg.refl [] w5).alloc _
    have hf1 := few_any _ (.slice (some ⟨G, 0, none⟩) 1 1) [⟨tg, nm, ky⟩] hsx (by simp) (by
      intro r hr
      rw [List.mem_singleton.1 hr]
      exact HR.out)
    clear hbx hsx
    have HC5 := Lib.hid c5
    clear c5
    go_wp2_with fail
    generalize w5.alloc (.cells #[.bool tg, .string (str nm), .string (str ky)] 24) = wx at *
    refine hf1.mono ?_
    rintro e w6 ⟨rfl, q6, rfl⟩
    have c6 : Chg [] w4 (wx.drewN q6) := (HC5.out.nil hcx).drewN q6
    have cW6 := HW4.out.nil c6
    have h6 := HFI.out _ cW6
    generalize wx.drewN q6 = w6 at *
    clear hcx hf1 f0 f1 f2 hG
    clear wx
    clear HC5
    clear w5
    cases hF1 : fewL [⟨tg, nm, ky⟩] with
    | false =>
      clear hF1
      go_wp2_with fail
      refine h6.mono ?_
      rintro e w7 ⟨rfl, c7⟩
      go_wp2_with fail
      go_ret
      exact ⟨rfl, cW6.nil c7⟩
    | true =>
      clear hF1
      by_cases hbl : 20000 < bl
      · have t1 : decide ((20000 : Int) < (bl : Int)) = true := by simp; omega
        have t1' : decide (20000 < bl) = true := by simp; omega
        clear hbl
        go_wp2_with fail
        refine h6.mono ?_
        rintro e w7 ⟨rfl, c7⟩
        go_wp2_with fail
        go_ret
        exact ⟨rfl, cW6.nil c7⟩
      · have t1 : decide ((20000 : Int) < (bl : Int)) = false := by simp; omega
        have t1' : decide (20000 < bl) = false := by simp; omega
        have HBB : Hid (b.length ≤ 200000) := by show _ ≤ _; rw [HBL.out]; omega
        have hl2 : nl ≤ 120 := by rw [← HL.out]; exact (fewL_parts HF.out).1
        have HL2 : Hid (l.length ≤ 1000000) := by show _ ≤ _; rw [HL.out]; omega
        have HX2 : Hid (∀ r ∈ l, r.name.length ≤ 1000000 ∧ r.key.length ≤ 1000000) := fun r hr => by have := (fewL_parts HF.out).2 r hr; omega
        have hen := encode_any w6 (HT.out.chg cW6) (.slice ao nl cap) l (by rw [HL.out]; exact HV.out.chg0 cW6) HL2.out HX2.out
        have HC6 := Lib.hid (And.intro c6 cW6)
        have HLN := Lib.hid hl2
        clear hbl hl hl2 h6 c6 cW6
        cases hM : mayL l with
        | false =>
          have hE : encodeL l = ([], 4) := by unfold encodeL; rw [hM]; rfl
          rw [hE] at hen
          simp only [List.length_nil] at hen
          go_wp2_with fail
          clear t1 t1'
          refine hen.mono ?_
          rintro e w7 ⟨v7, rfl, hs7, -, c7⟩
          obtain ⟨ao7, cap7, rfl, -⟩ := hs7.shape
          have hma := may_any w7 (HT.out.chg (HC6.out.2.nil c7)) (.slice ao nl cap) l (by rw [HL.out]; exact HV.out.chg0 (HC6.out.2.nil c7)) HL2.out HX2.out
          rw [hM] at hma
          have HM := Lib.hid hM
          have HC7 := Lib.hid c7
          clear hE hM hen hs7 c7
          go_wp2_with fail
          refine hma.mono ?_
          rintro e wr ⟨rfl, cr⟩
          have cwr := HC6.out.2.nil (HC7.out.nil cr)
          clear hma cr
          have htd := decode_any wr (HT.out.chg cwr) (.slice vao bl vcap) bl b (HB.out.chg0 cwr) HBB.out
          have hdo := fun h => dec_ok (b := b) h
          have hdr := fun h => dec_err (b := b) h
          have HCW := Lib.hid cwr
          clear cwr
          obtain ⟨ML, hML⟩ : ∃ M, (decL b).1 = M := ⟨_, rfl⟩
          by_cases h0 : (decL b).2 = 0
          · rw [h0, hML] at htd
            have hok := hdo h0
            rw [hML] at hok
            obtain ⟨y1, y2⟩ := may_small (enc_may hok)
            obtain ⟨mm, HMM⟩ : ∃ n, Hid (ML.length = n) := ⟨_, rfl⟩
            rw [HMM.out] at htd
            have HOK := Lib.hid (And.intro hok (And.intro y1 y2))
            clear hdo hdr h0 hML hok y1 y2
            go_wp2_with fail
            refine htd.mono ?_
            rintro e wt1 ⟨vt1, rfl, hst1, ct1⟩
            obtain ⟨aot, capt, rfl, -⟩ := hst1.shape
            have hte := encode_any wt1 (HT.out.chg (HCW.out.nil ct1)) (.slice aot mm capt) ML (by rw [HMM.out]; exact hst1) HOK.out.2.1 HOK.out.2.2
            rw [HOK.out.1] at hte
            simp only [HBL.out] at hte
            have HCT1 := Lib.hid (HCW.out.nil ct1)
            clear htd hst1 ct1
            go_wp2_with fail
            refine hte.mono ?_
            rintro e wt2 ⟨vt2, rfl, hst2, -, ct2⟩
            obtain ⟨aou, capu, rfl, -⟩ := hst2.shape
            have htf := HFI.out wt2 (HCT1.out.nil ct2)
            have HST2 := Lib.hid hst2
            have HCT2 := Lib.hid (HCT1.out.nil ct2)
            clear hte hst2 ct2
            go_wp2_with fail
            refine htf.mono ?_
            rintro e wt3 ⟨rfl, ct3⟩
            have htg := same_yes wt3 (.slice aou bl capu) (.slice vao bl vcap) bl bl b b (HST2.out.chg0 ct3) (HB.out.chg0 (HCT2.out.nil ct3)) rfl
            have HCT3 := Lib.hid (HCT2.out.nil ct3)
            clear htf ct3
            go_wp2_with fail
            refine htg.mono ?_
            rintro e wt4 ⟨rfl, rfl⟩
            go_wp2_with fail
            go_ret
            exact ⟨rfl, HCT3.out⟩
          · have herr := hdr h0
            rw [herr] at htd
            simp only [List.length_nil] at htd
            clear hdo hdr h0 hML herr
            go_wp2_with fail
            refine htd.mono ?_
            rintro e wt1 ⟨vt1, rfl, hst1, ct1⟩
            obtain ⟨aot, capt, rfl, -⟩ := hst1.shape
            have htf := HFI.out wt1 (HCW.out.nil ct1)
            have HCT1 := Lib.hid (HCW.out.nil ct1)
            clear htd hst1 ct1
            go_wp2_with fail
            refine htf.mono ?_
            rintro e wt2 ⟨rfl, ct2⟩
            have HCT2 := Lib.hid (HCT1.out.nil ct2)
            clear htf ct2
            go_wp2_with fail
            go_ret
            exact ⟨rfl, HCT2.out⟩
        | true =>
          have hE : encodeL l = (l.flatMap lineR, 0) := by unfold encodeL; rw [hM]; rfl
          rw [hE] at hen
          simp only at hen
          go_wp2_with fail
          clear t1 t1'
          refine hen.mono ?_
          rintro e w7 ⟨v7, rfl, hs7, -, c7⟩
          obtain ⟨ao7, cap7, rfl, -⟩ := hs7.shape
          have hma := may_any w7 (HT.out.chg (HC6.out.2.nil c7)) (.slice ao nl cap) l (by rw [HL.out]; exact HV.out.chg0 (HC6.out.2.nil c7)) HL2.out HX2.out
          rw [hM] at hma
          have HM := Lib.hid hM
          have HS7 := Lib.hid hs7
          have HC7 := Lib.hid c7
          clear hE hM hen hs7 c7
          generalize (l.flatMap lineR).length = xl at *
          go_wp2_with fail
          refine hma.mono ?_
          rintro e w8 ⟨rfl, c8⟩
          have c8' := HC7.out.nil c8
          have hde := decode_any w8 (HT.out.chg (HC6.out.2.nil c8')) (.slice ao7 xl cap7) xl (l.flatMap lineR) (HS7.out.chg0 c8) (few_lines HF.out)
          rw [dec_back HM.out] at hde
          simp only [HL.out] at hde
          have HC8 := Lib.hid c8'
          clear hma c8 c8'
          go_wp2_with fail
          refine hde.mono ?_
          rintro e w9 ⟨v9, rfl, hs9, c9⟩
          obtain ⟨ao9, cap9, rfl, -⟩ := hs9.shape
          have hp9 := plainR_any w9 (.slice ao9 nl cap9) l (by rw [HL.out]; exact hs9) HL2.out
          simp only [HL.out] at hp9
          have HC9 := Lib.hid (HC8.out.nil c9)
          clear hde hs9 c9 HC8 HS7
          go_wp2_with fail
          refine hp9.mono ?_
          rintro e w10 ⟨v10, rfl, hF10⟩
          obtain ⟨ao10, cap10, rfl, -⟩ := hF10.shape
          have hc10 := HC9.out.nil hF10.chg
          have hp10 := plainR_any w10 (.slice ao nl cap) l (by rw [HL.out]; exact HV.out.chg0 (HC6.out.2.nil hc10)) HL2.out
          simp only [HL.out] at hp10
          have HF10 := Lib.hid hF10
          have HC10 := Lib.hid hc10
          clear hp9 hF10 hc10
          go_wp2_with fail
          refine hp10.mono ?_
          rintro e w11 ⟨v11, rfl, hF11⟩
          obtain ⟨ao11, cap11, rfl, -⟩ := hF11.shape
          have hc11 := HC10.out.nil hF11.chg
          have hsm := sameR_any w11 (.slice ao10 nl cap10) (.slice ao11 nl cap11) l l (by rw [HL.out]; exact HF10.out.own.sees.chg0 hF11.chg) (by rw [HL.out]; exact hF11.own.sees) HL2.out HL2.out
          rw [decide_eq_true (rfl : l = l)] at hsm
          have HC11 := Lib.hid hc11
          clear hp10 hF11 hc11 HF10
          go_wp2_with fail
          refine hsm.mono ?_
          rintro e w12 ⟨rfl, c12⟩
          have c12' := HC6.out.1.nil (HC11.out.nil c12)
          obtain ⟨f0, f1, f2⟩ := HK.out w12 c12'
          have hst := HSE.out w12 (.slice ao nl cap) (by rw [HL.out]; exact HV.out.chg0 (HW4.out.nil c12')) HL2.out
          have hfc := HSET.out HM.out
          have HC12 := Lib.hid c12'
          clear hsm c12 c12' HC11 HC10 HC9 HC7
          obtain ⟨D, hD⟩ : ∃ D, dropL l tg nm = D := ⟨_, rfl⟩
          have hdr0 := fun w' v' (h : Sees w' 3 v' l.length (Rfs l)) => drop_any w' v' l tg nm h HL2.out
          rw [hD] at hfc hdr0
          generalize setL l ⟨tg, nm, ky⟩ = S at *
          obtain ⟨fc1, fc2, fc3, fc4, fc5, fc6⟩ := hfc
          obtain ⟨n, HN⟩ : ∃ n, Hid (S.length = n) := ⟨_, rfl⟩
          obtain ⟨m, HMm⟩ : ∃ n, Hid (D.length = n) := ⟨_, rfl⟩
          rw [HN.out] at hst fc4
          rw [HMm.out] at fc4 fc5 hdr0
          have HDR := Lib.hid hdr0
          have HFC6 := Lib.hid fc6
          have hn1 : n ≤ 121 := by have := HLN.out; rw [HL.out] at fc5; omega
          have hm1 : m ≤ 120 := by omega
          have HNM := Lib.hid (And.intro fc4 (And.intro hn1 hm1))
          have HS1 : Hid (S.length ≤ 1000000) := by show _ ≤ _; rw [HN.out]; omega
          have HD1 : Hid (D.length ≤ 1000000) := by show _ ≤ _; rw [HMm.out]; omega
          clear hdr0 fc4 fc5 fc6 hn1 hm1 hD
          have HFC := Lib.hid (And.intro fc1 (And.intro fc2 fc3))
          clear fc1 fc2 fc3
          go_wp2_with fail
          refine hst.mono ?_
          rintro e w13 ⟨v13, rfl, hs13, c13⟩
          obtain ⟨aS, cs, rfl, -⟩ := hs13.shape
          have c13' := HC12.out.nil c13
          have hfd := find_any w13 (.slice aS n cs) S tg nm (by rw [HN.out]; exact hs13) HS1.out
          rw [HFC.out.1] at hfd
          simp only [Option.getD_some, Option.isSome_some] at hfd
          clear f0 f1 f2
          obtain ⟨f0, f1, f2⟩ := HK.out w13 c13'
          have HS13 := Lib.hid hs13
          have HC13 := Lib.hid c13'
          clear hst hs13 c13 c13' HC12
          go_wp2_with fail
          refine hfd.mono ?_
          rintro e w14 ⟨rfl, c14⟩
          have c14' := HC13.out.nil c14
          clear f0 f1 f2
          obtain ⟨f0, f1, f2⟩ := HK.out w14 c14'
          have hdp := drop_any w14 (.slice aS n cs) S tg nm (by rw [HN.out]; exact HS13.out.chg0 c14) HS1.out
          rw [HFC.out.2.1, HMm.out] at hdp
          have HS14 := Lib.hid (HS13.out.chg0 c14)
          have HC14 := Lib.hid c14'
          clear hfd c14 c14' HC13 HS13
          go_wp2_with fail
          refine hdp.mono ?_
          rintro e w15 ⟨v15, rfl, hF15⟩
          obtain ⟨ad, cd, rfl, -⟩ := hF15.shape
          have c15' := HC14.out.nil hF15.chg
          clear f0 f1 f2
          obtain ⟨f0, f1, f2⟩ := HK.out w15 c15'
          have hfe := find_any w15 (.slice ad m cd) D tg nm (by rw [HMm.out]; exact hF15.own.sees) HD1.out
          rw [HFC.out.2.2] at hfe
          simp only [Option.getD_none, Option.isSome_none] at hfe
          have HS15 := Lib.hid (And.intro (HS14.out.chg0 hF15.chg) hF15.own.sees)
          have HC15 := Lib.hid c15'
          clear hdp hF15 c15' HC14 HS14
          go_wp2_with fail
          refine hfe.mono ?_
          rintro e w16 ⟨rfl, c16⟩
          have c16' : Chg [] w4 w16 := HC15.out.nil c16
          have HS16 := Lib.hid (And.intro (HS15.out.1.chg0 c16) (HS15.out.2.chg0 c16))
          have D0 : Hid (Chg [] w16 w16.drew) := (Chg.refl [] w16).drew
          have HC16 := Lib.hid c16'
          have HVR : Hid (Sees w16 3 (.slice ao nl cap) nl (Rfs l)) := HV.out.chg0 (HW4.out.nil c16')
          clear f0 f1 f2 hfe c16 c16' HC15 HS15
          have HK2 : Hid (∀ w', Chg [] w16.drew w' → w'.cell? ⟨K, 0, none⟩ = some (.bool tg) ∧ w'.cell? ⟨K, 1, none⟩ = some (.string (str nm)) ∧ w'.cell? ⟨K, 2, none⟩ = some (.string (str ky))) := fun w' c => HK.out w' (HC16.out.nil (D0.out.nil c))
          have k1 : Hid (∀ w', Chg [] w16.drew w' → Calls Tryd.prog 12 #[.slice ad m cd] w' fun e w'' => ∃ v', e = .returned v' ∧ Fresh w' w'' 62 3 v' m (Rfs D)) := fun w' c => by
            have h := plainR_any w' (.slice ad m cd) D (by rw [HMm.out]; exact HS16.out.2.chg0 (D0.out.nil c)) HD1.out
            rw [HMm.out] at h
            exact h
          have k2 : Hid (∀ w', Chg [] w16.drew w' → Calls Tryd.prog 15 #[.slice ao nl cap, .bool tg, .string (str nm)] w' fun e w'' => ∃ v', e = .returned v' ∧ Fresh w' w'' 24 3 v' m (Rfs D)) := fun w' c => HDR.out w' _ (by rw [HL.out]; exact HVR.out.chg0 (D0.out.nil c))
          have k3 : Hid (∀ w' v', Sees w' 3 v' m (Rfs D) → Calls Tryd.prog 12 #[v'] w' fun e w'' => ∃ v'', e = .returned v'' ∧ Fresh w' w'' 62 3 v'' m (Rfs D)) := fun w' v' s => by
            have h := plainR_any w' v' D (by rw [HMm.out]; exact s) HD1.out
            rw [HMm.out] at h
            exact h
          have k4 : Hid (∀ w' v1 v2, Sees w' 3 v1 m (Rfs D) → Sees w' 3 v2 m (Rfs D) → Calls Tryd.prog 11 #[v1, v2] w' fun e w'' => e = .returned (.bool true) ∧ Chg [] w' w'') := fun w' v1 v2 s1 s2 => by
            have h := sameR_any w' v1 v2 D D (by rw [HMm.out]; exact s1) (by rw [HMm.out]; exact s2) HD1.out HD1.out
            rw [decide_eq_true (rfl : D = D)] at h
            exact h
          clear HDR HFC HSE HSET HVR
          have e3 : (m : Int) + 1 = (n : Int) := by have := HNM.out; omega
          have w3 : wrap64 (n : Int) = (n : Int) := by have := HNM.out; unfold wrap64; omega
          have w4' : IntKind.i64.wrap (n : Int) = (n : Int) := wrapR _ (by have := HNM.out; omega)
          go_upto_region 16 with (fail)
          go_cut [124] from 93 to 124 (fun s wx => s = .bool false ∧ Chg [] w16 wx)
          case first =>
            have c0 : Chg [] w16.drew w16.drew := Chg.refl _ _
            refine wp_region_E [] (by kernel_rfl) ?_
            generalize w16.drew = W0 at *
            refine wpAnyE_take 0 (v := (.bool true)) c0 rfl (by kernel_rfl) (by kernel_rfl) (by kernel_rfl) (fun _ _ _ h => h) (by rfl) (fun w4 c4 => ?_) ?_
            · go_simp
            try simp only [Act.put, List.getElem_toArray, List.getElem_cons_succ, List.getElem_cons_zero, List.setIfInBounds_toArray, List.set_cons_zero, List.set_cons_succ]
            refine wpAnyE_take 1 (v := (.bool false)) c0 rfl (by kernel_rfl) (by kernel_rfl) (by kernel_rfl) (fun _ _ _ h => h) (by rfl) (fun w4 c4 => ?_) ?_
            · go_simp
            try simp only [Act.put, List.getElem_toArray, List.getElem_cons_succ, List.getElem_cons_zero, List.setIfInBounds_toArray, List.set_cons_zero, List.set_cons_succ]
            refine wpAnyE_take 2 (v := (.bool false)) c0 rfl (by kernel_rfl) (by kernel_rfl) (by kernel_rfl) (fun _ _ _ h => h) (by rfl) (fun w4 c4 => ?_) ?_
            · go_simp
            try simp only [Act.put, List.getElem_toArray, List.getElem_cons_succ, List.getElem_cons_zero, List.setIfInBounds_toArray, List.set_cons_zero, List.set_cons_succ]
            refine wpAnyE_take 3 (v := (.string (str ky))) c0 rfl (by kernel_rfl) (by kernel_rfl) (by kernel_rfl) (fun _ _ _ h => h) (by rfl) (fun w4 c4 => ?_) ?_
            · go_simp
            try simp only [Act.put, List.getElem_toArray, List.getElem_cons_succ, List.getElem_cons_zero, List.setIfInBounds_toArray, List.set_cons_zero, List.set_cons_succ]
            refine wpAnyE_take 4 (v := (.pointer (some ⟨K, 2, none⟩))) c0 rfl (by kernel_rfl) (by kernel_rfl) (by kernel_rfl) (fun _ _ _ h => h) (by rfl) (fun w4 c4 => ?_) ?_
            · go_simp
            try simp only [Act.put, List.getElem_toArray, List.getElem_cons_succ, List.getElem_cons_zero, List.setIfInBounds_toArray, List.set_cons_zero, List.set_cons_succ]
            refine wpAnyE_take 5 (v := (.string (str ky))) c0 rfl (by kernel_rfl) (by kernel_rfl) (by kernel_rfl) (fun _ _ _ h => h) (by rfl) (fun w4 c4 => ?_) ?_
            · obtain ⟨z0, z1, z2⟩ := HK2.out w4 c4
              go_simp
            try simp only [Act.put, List.getElem_toArray, List.getElem_cons_succ, List.getElem_cons_zero, List.setIfInBounds_toArray, List.set_cons_zero, List.set_cons_succ]
            refine wpAnyE_take 6 (v := (.bool false)) c0 rfl (by kernel_rfl) (by kernel_rfl) (by kernel_rfl) (fun _ _ _ h => h) (by rfl) (fun w4 c4 => ?_) ?_
            · go_simp
            try simp only [Act.put, List.getElem_toArray, List.getElem_cons_succ, List.getElem_cons_zero, List.setIfInBounds_toArray, List.set_cons_zero, List.set_cons_succ]
            refine wpAnyE_take 7 (v := (.bool false)) c0 rfl (by kernel_rfl) (by kernel_rfl) (by kernel_rfl) (fun _ _ _ h => h) (by rfl) (fun w4 c4 => ?_) ?_
            · go_simp
            try simp only [Act.put, List.getElem_toArray, List.getElem_cons_succ, List.getElem_cons_zero, List.setIfInBounds_toArray, List.set_cons_zero, List.set_cons_succ]
            refine wpAnyE_take 8 (v := (.bool false)) c0 rfl (by kernel_rfl) (by kernel_rfl) (by kernel_rfl) (fun _ _ _ h => h) (by rfl) (fun w4 c4 => ?_) ?_
            · go_simp
            try simp only [Act.put, List.getElem_toArray, List.getElem_cons_succ, List.getElem_cons_zero, List.setIfInBounds_toArray, List.set_cons_zero, List.set_cons_succ]
            refine wpAnyE_take 9 (v := (.bool false)) c0 rfl (by kernel_rfl) (by kernel_rfl) (by kernel_rfl) (fun _ _ _ h => h) (by rfl) (fun w4 c4 => ?_) ?_
            · go_simp
            try simp only [Act.put, List.getElem_toArray, List.getElem_cons_succ, List.getElem_cons_zero, List.setIfInBounds_toArray, List.set_cons_zero, List.set_cons_succ]
            refine wpAnyE_take 10 (v := (.bool false)) c0 rfl (by kernel_rfl) (by kernel_rfl) (by kernel_rfl) (fun _ _ _ h => h) (by rfl) (fun w4 c4 => ?_) ?_
            · go_simp
            try simp only [Act.put, List.getElem_toArray, List.getElem_cons_succ, List.getElem_cons_zero, List.setIfInBounds_toArray, List.set_cons_zero, List.set_cons_succ]
            refine wpAnyE_take 11 (v := (.bool false)) c0 rfl (by kernel_rfl) (by kernel_rfl) (by kernel_rfl) (fun _ _ _ h => h) (by rfl) (fun w4 c4 => ?_) ?_
            · go_simp
            try simp only [Act.put, List.getElem_toArray, List.getElem_cons_succ, List.getElem_cons_zero, List.setIfInBounds_toArray, List.set_cons_zero, List.set_cons_succ]
            refine wpAnyE_take 12 (v := (.slice aS n cs)) c0 rfl (by kernel_rfl) (by kernel_rfl) (by kernel_rfl) (fun _ _ _ h => h) (by rfl) (fun w4 c4 => ?_) ?_
            · go_simp
            try simp only [Act.put, List.getElem_toArray, List.getElem_cons_succ, List.getElem_cons_zero, List.setIfInBounds_toArray, List.set_cons_zero, List.set_cons_succ]
            refine wpAnyE_take 13 (v := (.int .i64 (n : Int))) c0 rfl (by kernel_rfl) (by kernel_rfl) (by kernel_rfl) (fun _ _ _ h => h) (by rfl) (fun w4 c4 => ?_) ?_
            · go_simp
            try simp only [Act.put, List.getElem_toArray, List.getElem_cons_succ, List.getElem_cons_zero, List.setIfInBounds_toArray, List.set_cons_zero, List.set_cons_succ]
            refine wpAnyE_take 14 (v := (.slice ad m cd)) c0 rfl (by kernel_rfl) (by kernel_rfl) (by kernel_rfl) (fun _ _ _ h => h) (by rfl) (fun w4 c4 => ?_) ?_
            · go_simp
            try simp only [Act.put, List.getElem_toArray, List.getElem_cons_succ, List.getElem_cons_zero, List.setIfInBounds_toArray, List.set_cons_zero, List.set_cons_succ]
            refine wpAnyE_take 15 (v := (.int .i64 (m : Int))) c0 rfl (by kernel_rfl) (by kernel_rfl) (by kernel_rfl) (fun _ _ _ h => h) (by rfl) (fun w4 c4 => ?_) ?_
            · go_simp
            try simp only [Act.put, List.getElem_toArray, List.getElem_cons_succ, List.getElem_cons_zero, List.setIfInBounds_toArray, List.set_cons_zero, List.set_cons_succ]
            refine wpAnyE_take 16 (v := (.int .i64 (n : Int))) c0 rfl (by kernel_rfl) (by kernel_rfl) (by kernel_rfl) (fun _ _ _ h => h) (by rfl) (fun w4 c4 => ?_) ?_
            · go_simp
            try simp only [Act.put, List.getElem_toArray, List.getElem_cons_succ, List.getElem_cons_zero, List.setIfInBounds_toArray, List.set_cons_zero, List.set_cons_succ]
            refine wpAnyE_take 17 (v := (.bool false)) c0 rfl (by kernel_rfl) (by kernel_rfl) (by kernel_rfl) (fun _ _ _ h => h) (by rfl) (fun w4 c4 => ?_) ?_
            · go_simp
            try simp only [Act.put, List.getElem_toArray, List.getElem_cons_succ, List.getElem_cons_zero, List.setIfInBounds_toArray, List.set_cons_zero, List.set_cons_succ]
            refine wpAnyE_take 18 (v := (.bool false)) c0 rfl (by kernel_rfl) (by kernel_rfl) (by kernel_rfl) (fun _ _ _ h => h) (by rfl) (fun w4 c4 => ?_) ?_
            · go_simp
            try simp only [Act.put, List.getElem_toArray, List.getElem_cons_succ, List.getElem_cons_zero, List.setIfInBounds_toArray, List.set_cons_zero, List.set_cons_succ]
            refine wpAnyE_take 19 (v := (.bool false)) c0 rfl (by kernel_rfl) (by kernel_rfl) (by kernel_rfl) (fun _ _ _ h => h) (by rfl) (fun w4 c4 => ?_) ?_
            · go_simp
            try simp only [Act.put, List.getElem_toArray, List.getElem_cons_succ, List.getElem_cons_zero, List.setIfInBounds_toArray, List.set_cons_zero, List.set_cons_succ]
            refine wpAnyE_take 20 (v := (.slice ad m cd)) c0 rfl (by kernel_rfl) (by kernel_rfl) (by kernel_rfl) (fun _ _ _ h => h) (by rfl) (fun w4 c4 => ?_) ?_
            · go_simp
            try simp only [Act.put, List.getElem_toArray, List.getElem_cons_succ, List.getElem_cons_zero, List.setIfInBounds_toArray, List.set_cons_zero, List.set_cons_succ]
            refine wpAnyE_take 22 (v := (.slice ao nl cap)) c0 rfl (by kernel_rfl) (by kernel_rfl) (by kernel_rfl) (fun _ _ _ h => h) (by rfl) (fun w4 c4 => ?_) ?_
            · go_simp
            try simp only [Act.put, List.getElem_toArray, List.getElem_cons_succ, List.getElem_cons_zero, List.setIfInBounds_toArray, List.set_cons_zero, List.set_cons_succ]
            refine wpAnyE_take 23 (v := (.pointer (some ⟨K, 0, none⟩))) c0 rfl (by kernel_rfl) (by kernel_rfl) (by kernel_rfl) (fun _ _ _ h => h) (by rfl) (fun w4 c4 => ?_) ?_
            · go_simp
            try simp only [Act.put, List.getElem_toArray, List.getElem_cons_succ, List.getElem_cons_zero, List.setIfInBounds_toArray, List.set_cons_zero, List.set_cons_succ]
            refine wpAnyE_take 24 (v := (.bool tg)) c0 rfl (by kernel_rfl) (by kernel_rfl) (by kernel_rfl) (fun _ _ _ h => h) (by rfl) (fun w4 c4 => ?_) ?_
            · obtain ⟨z0, z1, z2⟩ := HK2.out w4 c4
              go_simp
            try simp only [Act.put, List.getElem_toArray, List.getElem_cons_succ, List.getElem_cons_zero, List.setIfInBounds_toArray, List.set_cons_zero, List.set_cons_succ]
            refine wpAnyE_take 25 (v := (.pointer (some ⟨K, 1, none⟩))) c0 rfl (by kernel_rfl) (by kernel_rfl) (by kernel_rfl) (fun _ _ _ h => h) (by rfl) (fun w4 c4 => ?_) ?_
            · go_simp
            try simp only [Act.put, List.getElem_toArray, List.getElem_cons_succ, List.getElem_cons_zero, List.setIfInBounds_toArray, List.set_cons_zero, List.set_cons_succ]
            refine wpAnyE_take 26 (v := (.string (str nm))) c0 rfl (by kernel_rfl) (by kernel_rfl) (by kernel_rfl) (fun _ _ _ h => h) (by rfl) (fun w4 c4 => ?_) ?_
            · obtain ⟨z0, z1, z2⟩ := HK2.out w4 c4
              go_simp
            try simp only [Act.put, List.getElem_toArray, List.getElem_cons_succ, List.getElem_cons_zero, List.setIfInBounds_toArray, List.set_cons_zero, List.set_cons_succ]
            refine wpAnyE_only 21 rfl (by kernel_rfl) (by rfl) ?_
            have B21 := Lib.hid c0
            clear c0
            go_simp
            refine (k1.out _ B21.out).mono ?_
            rintro e w21 ⟨v21, rfl, hF21⟩
            obtain ⟨a21, p21, rfl, -⟩ := hF21.shape
            have c21 := B21.out.nil hF21.chg
            have s21 := Lib.hid hF21.own.sees
            have d21 := Lib.hid hF21.chg
            clear hF21
            refine ⟨c21, ?_⟩
            try simp only [Act.put, List.getElem_toArray, List.getElem_cons_succ, List.getElem_cons_zero, List.setIfInBounds_toArray, List.set_cons_zero, List.set_cons_succ]
            refine wpAnyE_only 27 rfl (by kernel_rfl) (by rfl) ?_
            have B27 := Lib.hid c21
            clear c21
            go_simp
            refine (k2.out _ B27.out).mono ?_
            rintro e w27 ⟨v27, rfl, hF27⟩
            obtain ⟨a27, p27, rfl, -⟩ := hF27.shape
            have c27 := B27.out.nil hF27.chg
            have s27 := Lib.hid hF27.own.sees
            have d27 := Lib.hid hF27.chg
            clear hF27
            refine ⟨c27, ?_⟩
            try simp only [Act.put, List.getElem_toArray, List.getElem_cons_succ, List.getElem_cons_zero, List.setIfInBounds_toArray, List.set_cons_zero, List.set_cons_succ]
            refine wpAnyE_only 28 rfl (by kernel_rfl) (by rfl) ?_
            have B28 := Lib.hid c27
            clear c27
            go_simp
            refine (k3.out _ _ (s27.out.chg0 (Chg.refl [] _))).mono ?_
            rintro e w28 ⟨v28, rfl, hF28⟩
            obtain ⟨a28, p28, rfl, -⟩ := hF28.shape
            have c28 := B28.out.nil hF28.chg
            have s28 := Lib.hid hF28.own.sees
            have d28 := Lib.hid hF28.chg
            clear hF28
            refine ⟨c28, ?_⟩
            try simp only [Act.put, List.getElem_toArray, List.getElem_cons_succ, List.getElem_cons_zero, List.setIfInBounds_toArray, List.set_cons_zero, List.set_cons_succ]
            refine wpAnyE_only 29 rfl (by kernel_rfl) (by rfl) ?_
            have B29 := Lib.hid c28
            clear c28
            go_simp
            refine (k4.out _ _ _ (s21.out.chg0 (d27.out.nil d28.out)) (s28.out.chg0 (Chg.refl [] _))).mono ?_
            rintro e w29 ⟨rfl, d29⟩
            have c29 := B29.out.nil d29
            clear d29
            refine ⟨c29, ?_⟩
            try simp only [Act.put, List.getElem_toArray, List.getElem_cons_succ, List.getElem_cons_zero, List.setIfInBounds_toArray, List.set_cons_zero, List.set_cons_succ]
            refine wpAnyE_take 30 (v := (.bool false)) c29 rfl (by kernel_rfl) (by kernel_rfl) (by kernel_rfl) (fun _ _ _ h => h) (by rfl) (fun w4 c4 => ?_) ?_
            · go_simp
            try simp only [Act.put, List.getElem_toArray, List.getElem_cons_succ, List.getElem_cons_zero, List.setIfInBounds_toArray, List.set_cons_zero, List.set_cons_succ]
            refine wpAnyE_take 31 (v := (.bool false)) c29 rfl (by kernel_rfl) (by kernel_rfl) (by kernel_rfl) (fun _ _ _ h => h) (by rfl) (fun w4 c4 => ?_) ?_
            · go_simp
            try simp only [Act.put, List.getElem_toArray, List.getElem_cons_succ, List.getElem_cons_zero, List.setIfInBounds_toArray, List.set_cons_zero, List.set_cons_succ]
            refine wpAnyE_done (by kernel_rfl) ?_ _
            have HZ := Lib.hid (D0.out.nil c29)
            clear c29
            go_wp2_with fail
            go_meet
            exact ⟨rfl, HZ.out⟩
          case rest =>
          obtain ⟨rfl, cC⟩ := hcut
          have HSc := Lib.hid (HS16.out.1.chg0 cC)
          have HCc := Lib.hid (HC16.out.nil cC)
          clear cC HS16 HC16 HK2 k1 k2 k3 k4 e3 w3 w4' D0
          go_wp2_with fail
          go_loopg [17] n (fun gk vi w' => ∃ i : Nat, vi = .int .i64 (i : Int) ∧ 1 ≤ i ∧ i + gk = n + 1 ∧ Hid (Chg [] wc w'))
          case atStart => exact ⟨1, rfl, by omega, by omega, Chg.refl _ _⟩
          case round =>
            obtain ⟨i, rfl, hi1, hik, HCR⟩ := hrel
            have hib : (i : Int) ≤ 200 := by have := HNM.out; omega
            have hib0 : i ≤ 200 := by omega
            by_cases hi : i < n
            · have t1 : decide ((i : Int) < (n : Int)) = true := by simp; omega
              have t1' : decide (i < n) = true := by simp; omega
              obtain ⟨j, rfl⟩ : ∃ j, i = j + 1 := ⟨i - 1, by omega⟩
              have hj1 : j < S.length := by rw [HN.out]; omega
              have hj2 : j + 1 < S.length := by rw [HN.out]; omega
              obtain ⟨g, off, cap', hs, -, -, hcell⟩ := (HSc.out.chg0 HCR.out).cells (by omega)
              simp only [Value.slice.injEq, true_and] at hs
              obtain ⟨hs1, hs2⟩ := hs
              subst hs1
              obtain ⟨X2, hne2, F2, x02, hF02, hFc2, hX2⟩ := fam0 wr
              obtain ⟨p0, p1, p2⟩ := Rfs_cells HN.out hcell j hj1
              obtain ⟨q0, q1, q2⟩ := Rfs_cells HN.out hcell (j + 1) hj2
              have zp0 := fun x => (hFc2 x).cell_some p0 (by simp)
              have zp1 := fun x => (hFc2 x).cell_some p1 (by simp)
              have zp2 := fun x => (hFc2 x).cell_some p2 (by simp)
              have zq0 := fun x => (hFc2 x).cell_some q0 (by simp)
              have zq1 := fun x => (hFc2 x).cell_some q1 (by simp)
              have zq2 := fun x => (hFc2 x).cell_some q2 (by simp)
              have hcv : cmpR S[j] S[j + 1] = -1 := HFC6.out j hj2
              have kC := fun w => compare_any S[j] S[j + 1] w
              rw [hcv] at kC
              unfold rfV at kC
              clear hcv p0 p1 p2 q0 q1 q2 hcell hs2
              generalize S[j] = r1 at *
              generalize S[j + 1] = r2 at *
              have HJ := Lib.hid (And.intro hi1 hik)
              have hmb : j ≤ 200 := by omega
              have hmi : (j : Int) ≤ 200 := by omega
              have hjn : j + 1 < n := by omega
              clear hj1 hj2 hi1 hik hib hib0 hi
              go_wp2_with fail
              refine wp_fam F2 (by kernel_rfl) (by kernel_rfl) x02 hF02 ?_
              repeat (go_big_quiet_step (exact fam_call hFc2 hX2 (kC _)))
              refine wpQuiet_nil ?_
              rintro w' ⟨x2, rfl⟩
              have c92 := Lib.hid (HCR.out.nil (hFc2 x2))
              generalize F2 x2 = w12 at *
              go_wp2_with fail
              go_roundg (gk - 1)
              case measure => have := HJ.out; omega
              case rel => exact ⟨j + 1 + 1, by go_num, by omega, by have := HJ.out; omega, c92⟩
            · have t1 : decide ((i : Int) < (n : Int)) = false := by simp; omega
              have t1' : decide (i < n) = false := by simp; omega
              have cwr : Chg [] w wr := HW4.out.nil (HCc.out.nil HCR.out)
              clear hi hi1 hik hib hib0 HCR
              have htd := decode_any wr (HT.out.chg cwr) (.slice vao bl vcap) bl b (HB.out.chg0 cwr) HBB.out
              have hdo := fun h => dec_ok (b := b) h
              have hdr := fun h => dec_err (b := b) h
              have HCW := Lib.hid cwr
              clear cwr
              obtain ⟨ML, hML⟩ : ∃ M, (decL b).1 = M := ⟨_, rfl⟩
              by_cases h0 : (decL b).2 = 0
              · rw [h0, hML] at htd
                have hok := hdo h0
                rw [hML] at hok
                obtain ⟨y1, y2⟩ := may_small (enc_may hok)
                obtain ⟨mm, HMM⟩ : ∃ n, Hid (ML.length = n) := ⟨_, rfl⟩
                rw [HMM.out] at htd
                have HOK := Lib.hid (And.intro hok (And.intro y1 y2))
                clear hdo hdr h0 hML hok y1 y2
                go_wp2_with fail
                refine htd.mono ?_
                rintro e wt1 ⟨vt1, rfl, hst1, ct1⟩
                obtain ⟨aot, capt, rfl, -⟩ := hst1.shape
                have hte := encode_any wt1 (HT.out.chg (HCW.out.nil ct1)) (.slice aot mm capt) ML (by rw [HMM.out]; exact hst1) HOK.out.2.1 HOK.out.2.2
                rw [HOK.out.1] at hte
                simp only [HBL.out] at hte
                have HCT1 := Lib.hid (HCW.out.nil ct1)
                clear htd hst1 ct1
                go_wp2_with fail
                refine hte.mono ?_
                rintro e wt2 ⟨vt2, rfl, hst2, -, ct2⟩
                obtain ⟨aou, capu, rfl, -⟩ := hst2.shape
                have htf := HFI.out wt2 (HCT1.out.nil ct2)
                have HST2 := Lib.hid hst2
                have HCT2 := Lib.hid (HCT1.out.nil ct2)
                clear hte hst2 ct2
                go_wp2_with fail
                refine htf.mono ?_
                rintro e wt3 ⟨rfl, ct3⟩
                have htg := same_yes wt3 (.slice aou bl capu) (.slice vao bl vcap) bl bl b b (HST2.out.chg0 ct3) (HB.out.chg0 (HCT2.out.nil ct3)) rfl
                have HCT3 := Lib.hid (HCT2.out.nil ct3)
                clear htf ct3
                go_wp2_with fail
                refine htg.mono ?_
                rintro e wt4 ⟨rfl, rfl⟩
                go_wp2_with fail
                go_ret
                exact ⟨rfl, HCT3.out⟩
              · have herr := hdr h0
                rw [herr] at htd
                simp only [List.length_nil] at htd
                clear hdo hdr h0 hML herr
                go_wp2_with fail
                refine htd.mono ?_
                rintro e wt1 ⟨vt1, rfl, hst1, ct1⟩
                obtain ⟨aot, capt, rfl, -⟩ := hst1.shape
                have htf := HFI.out wt1 (HCW.out.nil ct1)
                have HCT1 := Lib.hid (HCW.out.nil ct1)
                clear htd hst1 ct1
                go_wp2_with fail
                refine htf.mono ?_
                rintro e wt2 ⟨rfl, ct2⟩
                have HCT2 := Lib.hid (HCT1.out.nil ct2)
                clear htf ct2
                go_wp2_with fail
                go_ret
                exact ⟨rfl, HCT2.out⟩
end Go.Proofs.YtihoohhngiomdaaDoor

/- The law RefsBack at its opened arguments. No statement of the seat is proved here. -/
namespace Go.Proofs.YtihoohhngiomdaaDoor
open Go.RowKit Go.Aq Go.Aq.Wd
theorem back_walk (v : Value) (l : List RefD) {w : World} (s : Sees w 3 v l.length (Rfs l) ∧ l.length ≤ 9223372036854775807 ∧ ∀ x ∈ l, okRef x) (r : RefD) (hr : okRef r) (vb : Value) (nb : Nat) (b : List UInt8) (hb : Sees w 1 vb nb (Bs b) ∧ nb ≤ 9223372036854775807) (hT : Tabs w) :
    Calls Tryd.prog 4 #[v, rfV r, vb] w fun e w' => e = .returned (.bool true) ∧ Chg [] w w' :=
  back_any w hT v l s.1 s.2.1 s.2.2 r hr vb nb b hb.1
end Go.Proofs.YtihoohhngiomdaaDoor

