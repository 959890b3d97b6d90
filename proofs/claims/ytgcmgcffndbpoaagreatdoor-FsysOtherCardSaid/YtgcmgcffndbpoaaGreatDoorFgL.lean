/- The law FsysOther. No statement of the seat is proved here. -/
import Derived.Test.YtgcmgcffndbpoaaGreatDoorFgK
set_option linter.unusedVariables false
set_option linter.unusedSimpArgs false
namespace Go.Proofs.YtgcmgcffndbpoaaGreatDoor
open Go.RowKit Go.Aq Go.Aq.Fy Go.Maps
theorem ShotR.rows {w : World} {S : List Nat} {a b : Value} {V : View} (h : ShotR w S (.agg #[a, b]) V) : RowsV w S b (V.map (·.2)) := by
  obtain ⟨nv, bv, e, -, -, h3⟩ := h
  simp only [Value.agg.injEq, Array.mk.injEq, List.cons.injEq, and_true] at e
  obtain ⟨rfl, rfl⟩ := e
  exact h3
/-- The lists of blocks of all files. -/
def allB (F : FsD) : List (List Nat) := F.files.map fun p => p.2.blocks
theorem allB_at (F : FsD) (i : Nat) : (allB F)[i]? = (F.files[i]?).map fun p => p.2.blocks := by unfold allB; rw [List.getElem?_map]
/-- How the loop stands that tells all files' blocks. -/
def TellB (w5 wr : World) (F : FsD) (i : Nat) (bv : Value) (ys : List Value) : Prop := OwnN w5 wr 40 1 bv i ys ∧ RowsI wr w5.heap.size ys ((allB F).take i) ∧ (∀ y ∈ ys, Disj (eyes y) bv.ownBlock.toList) ∧ Chg [] w5 wr
set_option maxRecDepth 100000 in
set_option maxHeartbeats 8000000 in
theorem other_walk0 (w : World) (n r m : Int) (v : Value) (css : List (List ChangeD)) (hv : ListsC w v css) (nm : Nm) (vd : Value) (dt : Sec) (ND : Nat) (hd : Sees w 1 vd ND (Bs dt)) (hdl : dt.length = ND) :
    Calls Tryz.prog 4 #[.int .i64 n, .int .i64 r, .int .i64 m, v, .string (str nm), vd] w fun e w' => e = .returned (.bool true) ∧ Chg [] w w' := by
  obtain ⟨ao, cap, rfl, -⟩ := hv.choose_spec.1.shape
  obtain ⟨LN, hLN⟩ : ∃ LN, css.length = LN := ⟨_, rfl⟩
  rw [hLN] at hv ⊢
  obtain ⟨ad, cd, rfl, -⟩ := hd.shape
  obtain ⟨LM, hLM⟩ : ∃ LM, nm.length = LM := ⟨_, rfl⟩
  have hlm : (str nm).size = LM := by rw [← hLM]; exact str_size nm
  have hfi := first_ok16 w
  have hmd := fun w' (c : Chg [] w w') => made_ok w' n r m _ css (hv.chg0 c)
  have HL := Lib.hid (And.intro hd (And.intro hdl hLM))
  clear hv hLN hd hdl hLM
  go_enter Tryz.func4, Tryz.ntmps4
  go_wp2_with fail
  refine hfi.mono ?_
  rintro e w1 ⟨rfl, c1⟩
  have hm1 := hmd w1 c1
  clear hfi hmd
  go_wp2_with fail
  refine hm1.mono ?_
  rintro e w2 ⟨c2, rfl | ⟨f, d, l, bf, Sd, F, N1, R1, M1, rfl, rfl, rfl, rfl, h4, h300, hfm, hM, hF, hnw⟩⟩
  · have hf2 := first_ok16 w2
    have C2 := Lib.hid (c1.nil c2)
    clear hm1 c1 c2
    go_wp2_with fail
    refine hf2.mono ?_
    rintro e w3 ⟨rfl, c3⟩
    clear hf2
    go_wp2_with fail
    go_ret
    exact ⟨rfl, C2.out.nil c3⟩
  clear h4 h300 hfm
  by_cases hl1 : 400 < LM
  · have t1 : decide ((400 : Int) < (LM : Int)) = true := by simp; omega
    have t1' : decide (400 < LM) = true := by simp; omega
    clear hM hF hnw hl1
    have hf2 := first_ok16 w2
    have C2 := Lib.hid (c1.nil c2)
    clear hm1 c1 c2
    go_wp2_with fail
    refine hf2.mono ?_
    rintro e w3 ⟨rfl, c3⟩
    clear hf2
    go_wp2_with fail
    go_ret
    exact ⟨rfl, C2.out.nil c3⟩
  have t1 : decide ((400 : Int) < (LM : Int)) = false := by simp; omega
  have t1' : decide (400 < LM) = false := by simp; omega
  by_cases hl2 : 5000 < ND
  · have t2 : decide ((5000 : Int) < (ND : Int)) = true := by simp; omega
    have t2' : decide (5000 < ND) = true := by simp; omega
    clear hM hF hnw hl1 hl2
    have hf2 := first_ok16 w2
    have C2 := Lib.hid (c1.nil c2)
    clear hm1 c1 c2
    go_wp2_with fail
    refine hf2.mono ?_
    rintro e w3 ⟨rfl, c3⟩
    clear hf2
    go_wp2_with fail
    go_ret
    exact ⟨rfl, C2.out.nil c3⟩
  have t2 : decide ((5000 : Int) < (ND : Int)) = false := by simp; omega
  have t2' : decide (5000 < ND) = false := by simp; omega
  have hI := hM.inv
  have hlaw := other_law hI (by decide) hM.falls nm dt
  have htk := taken_ok w2 Sd f d l bf F hF hI
  obtain ⟨NF, hNF⟩ : ∃ NF, F.files.length = NF := ⟨_, rfl⟩
  have hnf : NF ≤ 400 := by rw [← hNF]; exact hI.files.few
  have hVN : (viewF F).length = NF := by rw [viewF_len]; exact hNF
  have HH := Lib.hid (And.intro hI (And.intro hF (And.intro (fun (k : Nat) (hk : k ∈ f :: l :: bf :: Sd) => Nat.le_trans c1.size (hnw k hk)) (And.intro (c1.nil c2) (And.intro hNF (And.intro hVN (And.intro hlaw (And.intro (Nat.le_of_not_lt hl1) (Nat.le_of_not_lt hl2)))))))))
  clear hm1 c1 c2 hM hF hnw hI hlaw hNF hVN hl1 hl2
  go_wp2_with fail
  refine htk.mono ?_
  rintro e w4 ⟨v4, rfl, hsh, c4⟩
  have hsh4 := hsh (f :: l :: bf :: Sd) HH.out.2.1.lt
  obtain ⟨an, cn, ab, cb, rfl⟩ := hsh4.cells HH.out.2.2.2.2.2.1
  have H4 := Lib.hid (And.intro hsh4 c4)
  clear htk hsh hsh4 c4
  go_upto_region 7 with (fail)
  obtain ⟨w5, hw5⟩ : ∃ w5, w4.alloc (.cells #[.slice an NF cn, .slice ab NF cb] 33) = w5 := ⟨_, rfl⟩
  obtain ⟨K, hK⟩ : ∃ K, w4.heap.size = K := ⟨_, rfl⟩
  have h5 := shot_cell hw5 hK
  rw [hw5, hK]
  have hKl : ∀ k ∈ f :: l :: bf :: Sd, k < K := fun k hk => by rw [← hK]; exact Nat.lt_of_lt_of_le (HH.out.2.1.lt k hk) H4.out.2.size
  have H5 := Lib.hid (And.intro h5.1 (And.intro (H4.out.2.nil h5.2) (And.intro (H4.out.1.chg h5.2 (by simp)) (And.intro hKl (HH.out.2.1.chg0 (H4.out.2.nil h5.2))))))
  clear hw5 hK h5 hKl
  go_wp2_with fail
  go_loopg [16, 17] NF (fun k (v16 v17 : Value) wr => ∃ (i : Nat) (bv : Value) (ys : List Value), v17 = .int .i64 i ∧ v16 = bv ∧ Hid (i + k = NF ∧ TellB w5 wr F i bv ys))
  case atStart =>
    exact ⟨0, _, [], rfl, rfl, Nat.zero_add _, OwnN.nil _ _ _ _, ⟨rfl, fun i b h => by simp at h⟩, fun y hy => by simp at hy, Chg.refl _ _⟩
  case round =>
    obtain ⟨i, bv, ys, rfl, rfl, HJ⟩ := hrel
    obtain ⟨hb5, c25, hsh5, hKl, hF5⟩ := H5.out
    obtain ⟨hik, hO, hR, hD, cw5⟩ := HJ.out
    obtain ⟨al, cL, rfl, -⟩ := hO.shape
    obtain ⟨⟨x0, x1⟩, -⟩ := (hb5.chg0 cw5).c2
    by_cases hi : i < NF
    · have t0 : decide ((i : Int) < (NF : Int)) = true := by simp; omega
      have t0' : decide (i < NF) = true := by simp; omega
      have hil : i < F.files.length := by rw [HH.out.2.2.2.2.1]; exact hi
      obtain ⟨sx, hsx⟩ : ∃ sx, F.files[i]'hil = sx := ⟨_, rfl⟩
      obtain ⟨s, x⟩ := sx
      have hmem : (s, x) ∈ F.files := by rw [← hsx]; exact List.getElem_mem hil
      obtain ⟨q1, q2, q3, q4, q5, q6, q7⟩ := HH.out.1.at hmem
      have hbk := blocks_ok wr Sd [] f d l bf F (hF5.chg0 cw5) s q1 (by rw [q2]; simp only [Option.getD_some]; omega)
      rw [q2] at hbk
      simp only [Option.getD_some] at hbk
      have hnS := ((hsh5.chg cw5 (by simp)).names HH.out.2.2.2.2.2.1).1
      rw [viewF_names] at hnS
      obtain ⟨gn, on, cn', e, -, hca⟩ := hnS.at1 (by omega)
      cases e
      have a0 := hca i hi
      have b0 : (names (F.files.map (·.1)))[i]? = some (.string (str s)) := by unfold names; rw [List.map_map, List.getElem?_map, List.getElem?_eq_getElem hil, hsx]; rfl
      rw [b0] at a0
      have hbt : (allB F).take (i + 1) = (allB F).take i ++ [x.blocks] := by
        have hl : i < (allB F).length := by unfold allB; rw [List.length_map]; exact hil
        have e1 := allB_at F i
        rw [List.getElem?_eq_getElem hl, List.getElem?_eq_getElem hil, hsx] at e1
        rw [List.take_succ_eq_append_getElem hl, Option.some.inj e1]
      obtain ⟨m, hm⟩ : ∃ m, x.blocks.length = m := ⟨_, rfl⟩
      rw [hm] at hbk
      have E2 : Hid (wrap64 ((i : Int) + 1) = ((i + 1 : Nat) : Int)) := wr_i1 hi (by omega)
      have HQ := Lib.hid (And.intro (lg1 hik hi) (And.intro hO (And.intro hR (And.intro hD (And.intro cw5 (And.intro hbt (And.intro hm (show i < 400 by omega))))))))
      clear hb5 c25 hsh5 hKl hF5 hik hO hR hD cw5 HJ hil hsx hmem q1 q2 q3 q4 q5 q6 q7 hnS hca b0 hbt hm x1
      go_wp2_with fail
      refine hbk.mono ?_
      rintro e w6 ⟨v6, rfl, hF6⟩
      obtain ⟨a6, p6, rfl, -⟩ := hF6.shape
      have hown := (HQ.out.2.1.to hF6.chg).own
      have HF6 := Lib.hid hF6
      clear hbk hF6 x0 a0
      go_wp2_with (first
        | (at_builtin; refine wpList_push rfl _ _ 39 rfl sl_irows hown rfl rfl rfl (by have := HQ.out.2.2.2.2.2.2.2; omega) (by have := HQ.out.2.2.2.2.2.2.2; omega) ?_; intro g6 cp6 w7 ho7 c7 hg7 hcp7 hgl7)
        | fail)
      have H7 := Lib.hid (And.intro ho7 (And.intro c7 hg7))
      clear ho7 c7 hg7 hcp7 hgl7 hown hi
      have e2 := E2.out
      have e2w := wIq e2
      go_wp2_with fail
      go_roundg (gk - 1)
      case measure => exact HQ.out.1.2
      case rel =>
        obtain ⟨hik, hO, hR, hD, cw5, hbt, hm, hi4⟩ := HQ.out
        obtain ⟨ho7, c7, hg7⟩ := H7.out
        have hF6 := HF6.out
        have h56 := cw5.size
        have h67 := hF6.chg.size
        have hn6 : ∀ t ∈ eyes (Value.slice a6 m p6), wr.heap.size ≤ t := fun t ht => hF6.new t (eyes_own _ t ht)
        have hlt6 : ∀ t ∈ eyes (Value.slice a6 m p6), t < w6.heap.size := fun t ht => hF6.own.sees.lt (by decide) t ht
        have hOw : ∀ t ∈ (Value.slice al i cL).ownBlock.toList, t < wr.heap.size ∧ w5.heap.size ≤ t := fun t ht => ⟨hO.own.lt t ht, hO.new t ht⟩
        have hrows : RowsI w6 w5.heap.size (ys ++ [.slice a6 m p6]) ((allB F).take (i + 1)) := by
          rw [hbt]
          exact (hR.chg hF6.chg (fun _ _ _ _ => by simp)).push (by rw [hm]; exact hF6.own.sees) (fun t ht => by have := hn6 t ht; omega)
        have hdis : ∀ y ∈ ys ++ [Value.slice a6 m p6], Disj (eyes y) (Value.slice al i cL).ownBlock.toList := fun y hy => by
          rcases List.mem_append.1 hy with h | h
          · exact hD y h
          · rw [List.mem_singleton.1 h]
            intro t ht ht'
            have h1 := hn6 t ht
            have h2 := (hOw t ht').1
            omega
        refine ⟨i + 1, _, ys ++ [.slice a6 m p6], by simp, rfl, hik.1, ⟨ho7, fun t ht => ?_⟩, hrows.chg c7 (fun y hy => hdis y hy), ?_, (cw5.nil hF6.chg).trans c7 (fun t ht => .inr (hOw t ht).2)⟩
        · simp [Value.ownBlock] at ht
          subst ht
          rcases hg7 with h | h
          · exact (hOw _ h).2
          · omega
        · intro y hy t ht ht'
          simp [Value.ownBlock] at ht'
          subst ht'
          rcases hg7 with h | h
          · exact hdis y hy t ht h
          · have := (hrows.mem hy t ht).2; omega
    · have t0 : decide ((i : Int) < (NF : Int)) = false := by simp; omega
      have t0' : decide (i < NF) = false := by simp; omega
      obtain rfl : NF = i := (lg2 hik hi).symm
      rw [List.take_of_length_le (by unfold allB; rw [List.length_map, HH.out.2.2.2.2.1]; exact Nat.le_refl _)] at hR
      have hltS : ∀ t ∈ f :: l :: bf :: Sd, t < w5.heap.size := fun t ht => by have h1 := hKl t ht; have h2 := hb5.lt; omega
      have hVB : RowsVI wr (f :: l :: bf :: Sd) (.slice al NF cL) (allB F) := by
        refine ⟨ys, ?_, fun j b hb => ?_, fun t ht ht' => ?_⟩
        · have e : (allB F).length = NF := by unfold allB; rw [List.length_map]; exact HH.out.2.2.2.2.1
          rw [e]; exact hO.own.sees
        · obtain ⟨y, e, h1, h2⟩ := hR.2 j b hb
          exact ⟨y, e, h1, fun t ht ht' => by have h3 := (h2 t ht).1; have h4 := hltS t ht'; omega⟩
        · have h1 := hO.new t (eyes_own _ t ht); have h2 := hltS t ht'; omega
      have HE := Lib.hid (And.intro hVB (And.intro cw5 (And.intro (hF5.chg0 cw5) (And.intro (hsh5.chg cw5 (by simp)) (And.intro (hb5.chg0 cw5) (c25.nil cw5))))))
      clear hb5 c25 hsh5 hKl hF5 hik hO hR hD cw5 hltS hVB HJ hi x1
      go_upto_region 12 with (fail)
      clear x0
      go_wp2_with fail
      obtain ⟨w6, hw6⟩ : ∃ w6, wr.alloc (.cells #[.int .i64 2, .string (str nm), .string ⟨#[]⟩, .slice ad ND cd] 43) = w6 := ⟨_, rfl⟩
      have hS6 : Sees w6 4 (.slice (some ⟨wr.heap.size, 0, none⟩) 1 1) 1 [.int .i64 2, .string (str nm), .string ⟨#[]⟩, .slice ad ND cd] := by
        rw [← hw6]; exact sees_lit wr _ _ 1 4 rfl
      have k6 : Chg [] wr w6 := by rw [← hw6]; exact (Chg.refl [] wr).alloc _
      have c2r : Chg [] w wr := HH.out.2.2.2.1.nil HE.out.2.2.2.2.2
      have hC6 : CellsC w6 [putC nm dt] [.int .i64 2, .string (str nm), .string ⟨#[]⟩, .slice ad ND cd] := .cons (c := putC nm dt) (by show Sees w6 1 _ dt.length _; rw [HL.out.2.1]; exact HL.out.1.chg0 (c2r.nil k6)) .nil
      have hdo := do_ok (q := 40) w6 Sd f d l bf F (HE.out.2.2.1.chg0 k6) HH.out.1 (by decide) [putC nm dt] (fun x hx => by
        rw [List.mem_singleton.1 hx]
        have h1 := HH.out.2.2.2.2.2.2.2.1
        have h2 := HH.out.2.2.2.2.2.2.2.2
        have h3 := HL.out.2.1
        have h4 := HL.out.2.2
        show nm.length ≤ _ ∧ (0 : Nat) ≤ _ ∧ dt.length ≤ _
        omega) (by simp) _ _ hS6 hC6
      rw [hw6]
      have hlaw := HH.out.2.2.2.2.2.2.1
      obtain ⟨R, hR⟩ : ∃ R, doF F [putC nm dt] = R := ⟨_, rfl⟩
      rw [hR] at hdo hlaw
      obtain ⟨F1, e1⟩ := R
      have H6 := Lib.hid (And.intro k6 (And.intro c2r hlaw))
      clear hw6 hS6 k6 hC6 c2r hlaw hR
      refine hdo.mono ?_
      rintro e w7 ⟨rfl, Sd1, bf1, hF7, hU7⟩
      simp only at hF7
      have htk := taken_ok w7 Sd1 f d l bf1 F1 hF7 H6.out.2.2.inv
      have c67 : ∀ t ∈ f :: l :: bf :: Sd, w.heap.size ≤ t := HH.out.2.2.1
      have hKs : K ∉ f :: l :: bf :: Sd := fun hh => by have := H5.out.2.2.2.1 K hh; omega
      have H7 := Lib.hid (And.intro hF7 (And.intro ((HE.out.2.2.2.2.1.chg0 H6.out.1).chg hU7.chg hKs) (And.intro ((HE.out.2.2.2.1.chg H6.out.1 (by simp)).chg hU7.chg (fun k hk => .inl hk)) (And.intro ((HE.out.1.chg H6.out.1 (by simp)).chg hU7.chg (fun k hk => .inl hk)) ((H6.out.2.1.nil H6.out.1).trans hU7.chg (fun t ht => .inr (HH.out.2.2.1 t ht)))))))
      clear hdo hF7 hU7 c67 hKs
      go_wp2_with fail
      refine htk.mono ?_
      rintro e w8 ⟨v8, rfl, hsh, c8⟩
      have hsh8 := hsh [] (fun _ h => absurd h (by simp))
      obtain ⟨an8, cn8, ab8, cb8, rfl⟩ := hsh8.cells (viewF_len F1)
      obtain ⟨NG, hNG⟩ : ∃ NG, F1.files.length = NG := ⟨_, rfl⟩
      rw [hNG] at hsh8 ⊢
      have H8 := Lib.hid (And.intro hsh8 (And.intro c8 hNG))
      clear htk hsh hsh8 c8 hNG
      go_upto_region 14 with (fail)
      obtain ⟨w9, hw9⟩ : ∃ w9, w8.alloc (.cells #[.slice an8 NG cn8, .slice ab8 NG cb8] 33) = w9 := ⟨_, rfl⟩
      obtain ⟨K9, hK9⟩ : ∃ K9, w8.heap.size = K9 := ⟨_, rfl⟩
      have h9 := shot_cell hw9 hK9
      rw [hw9, hK9]
      have c79 : Chg [] w7 w9 := H8.out.2.1.nil h9.2
      have hnm := name_ok w9 nm (by have h1 := HH.out.2.2.2.2.2.2.2.1; have h4 := HL.out.2.2; omega)
      obtain ⟨⟨x0, x1⟩, -⟩ := (H7.out.2.1.chg0 c79).c2
      have n6 : ((e1 : Int) == 6) = false := by have := H6.out.2.2.n6; simp only at this; simp; omega
      have n7 : ((e1 : Int) == 7) = false := by have := H6.out.2.2.n7; simp only at this; simp; omega
      have n16 : ((e1 : Int) == 16) = !nameOk nm := by
        have h1 := H6.out.2.2.e16
        simp only at h1
        cases hb : nameOk nm with
        | true => rw [hb] at h1; simp at h1; simp; omega
        | false => rw [hb] at h1; simp at h1; simp [h1]
      have tne : ((NF : Int) != (NF : Int)) = false := by simp
      have H9 := Lib.hid (And.intro h9.1 (And.intro c79 h9.2))
      obtain ⟨b16, hb16⟩ : ∃ b16, ((e1 : Int) == 16) = b16 := ⟨_, rfl⟩
      obtain ⟨bnm, hbnm⟩ : ∃ bnm, nameOk nm = bnm := ⟨_, rfl⟩
      rw [hb16, hbnm] at n16
      rw [hbnm] at hnm
      clear hw9 hK9 h9 c79 hbnm
      go_wp2_with fail
      refine hnm.mono ?_
      rintro e w10 ⟨rfl, c10⟩
      have H10 := Lib.hid (And.intro (H9.out.2.1.nil c10) c10)
      clear hnm c10 n6 n7 hb16
      subst n16
      clear x1
      have nn : (!bnm != !bnm) = false := by simp
      go_wp2_with fail
      clear nn
      go_loopg [21, 22, 23] NF (fun k (v21 v22 v23 : Value) wy => ∃ (j : Nat), v21 = .int .i64 j ∧ Hid (j + k = NF ∧ Chg [] w10 wy))
      case atStart => exact ⟨0, rfl, Nat.zero_add _, Chg.refl _ _⟩
      case round =>
        obtain ⟨j, rfl, HK⟩ := hrel
        obtain ⟨hF7, hK7, hSh7, hVB7, c07⟩ := H7.out
        have c7r : Chg [] w7 wr := H10.out.1.nil HK.out.2
        obtain ⟨⟨x0, x1⟩, -⟩ := (hK7.chg0 c7r).c2
        by_cases hj : j < NF
        · have t0 : decide ((j : Int) < (NF : Int)) = true := by simp; omega
          have t0' : decide (j < NF) = true := by simp; omega
          have hil : j < F.files.length := by rw [HH.out.2.2.2.2.1]; exact hj
          obtain ⟨sx, hsx⟩ : ∃ sx, F.files[j]'hil = sx := ⟨_, rfl⟩
          obtain ⟨s, x⟩ := sx
          have hmem : (s, x) ∈ F.files := by rw [← hsx]; exact List.getElem_mem hil
          have hlook := look_of_mem HH.out.1.files.asc hmem
          have hkeep := H6.out.2.2.keep s x hlook
          simp only at hkeep
          have hnS := ((hSh7.chg c7r (by simp)).names HH.out.2.2.2.2.2.1).1
          rw [viewF_names] at hnS
          obtain ⟨gn, on, cn', e, -, hca⟩ := hnS.at1 (by omega)
          cases e
          have a0 := hca j hj
          have b0 : (names (F.files.map (·.1)))[j]? = some (.string (str s)) := by unfold names; rw [List.map_map, List.getElem?_map, List.getElem?_eq_getElem hil, hsx]; rfl
          rw [b0] at a0
          have e2 : Hid (wrap64 ((j : Int) + 1) = ((j + 1 : Nat) : Int)) := wr_i1 hj (by omega)
          have HP := Lib.hid (And.intro (lg1 HK.out.1 hj) (And.intro HK.out.2 (And.intro c7r (And.intro (show F.files[j]? = some (s, x) by rw [List.getElem?_eq_getElem hil, hsx]) (And.intro hmem hkeep)))))
          clear hF7 hK7 hSh7 hVB7 c07 c7r hil hsx hmem hlook hkeep hnS hca b0 HK
          by_cases hs : s = nm
          · by_cases he : e1 = 0
            · have e3 : ((str s).toList == (str nm).toList) = true := by rw [hs]; exact str_same nm
              have e4 : ((e1 : Int) == 0) = true := by simp [he]
              have e2 := e2.out
              have e2w := wIq e2
              clear hs he x1
              go_wp2_with fail
              go_roundg (gk - 1)
              case measure => exact HP.out.1.2
              case rel => exact ⟨j + 1, by simp, HP.out.1.1, HP.out.2.1⟩
            · have e3 : ((str s).toList == (str nm).toList) = true := by rw [hs]; exact str_same nm
              have e4 : ((e1 : Int) == 0) = false := by simp; omega
              have hkp := HP.out.2.2.2.2.2 (fun _ => he)
              clear hs he
              have hI1 := H6.out.2.2.inv
              simp only at hI1
              obtain ⟨hlook, hbeq⟩ := hkp
              obtain ⟨q1, -, q3, q4, q5, q6, q7⟩ := hI1.at (look_mem hlook)
              obtain ⟨-, c10r, c7r, hsx, hmem, -⟩ := HP.out
              have hF7 := H7.out.1
              have hrd := fread_ok wr Sd1 [] f d l bf1 F1 (hF7.chg0 c7r) hI1.rest.up s q1 x hlook q3 q4 q5 (fun k _ => hI1.rest.len k)
              rw [hbeq] at hrd
              have hbk0 := fun w' (c : Chg [] wr w') => blocks_ok w' Sd1 [] f d l bf1 F1 (hF7.chg0 (c7r.nil c)) s q1 (by rw [hlook]; simp only [Option.getD_some]; omega)
              rw [hlook] at hbk0
              simp only [Option.getD_some] at hbk0
              obtain ⟨bb, hbb⟩ : ∃ bb, bytesB F x = bb := ⟨_, rfl⟩
              rw [hbb] at hrd
              obtain ⟨mr, hmr⟩ : ∃ mr, bb.length = mr := ⟨_, rfl⟩
              obtain ⟨mz, hmz⟩ : ∃ mz, x.blocks.length = mz := ⟨_, rfl⟩
              rw [hmz] at hbk0
              have hrw := (H7.out.2.2.1.chg c7r (by simp)).rows
              obtain ⟨wys, hws, hwr, -⟩ := hrw
              have hvl : ((viewF F).map (·.2)).length = NF := by rw [List.length_map]; exact HH.out.2.2.2.2.2.1
              rw [hvl] at hws
              obtain ⟨gw, ow, cw', e, -, hcw⟩ := hws.at1 (by omega)
              cases e
              obtain ⟨yw, hyw, hywS, -⟩ := hwr j bb (by rw [List.getElem?_map, viewF_at, hsx, ← hbb]; rfl)
              rw [hmr] at hywS
              obtain ⟨ay, cy, rfl, -⟩ := hywS.shape
              have a1 := hcw j hj
              rw [hyw] at a1
              obtain ⟨zys, hzs, hzr, -⟩ := H7.out.2.2.2.1.chg c7r (by simp)
              have hzl : (allB F).length = NF := by unfold allB; rw [List.length_map]; exact HH.out.2.2.2.2.1
              rw [hzl] at hzs
              obtain ⟨gl, ol, cl', e, -, hcl⟩ := hzs.at1 (by omega)
              cases e
              obtain ⟨yz, hyz, hzS0, -⟩ := hzr j x.blocks (by rw [allB_at, hsx]; rfl)
              rw [hmz] at hzS0
              obtain ⟨az, cz, rfl, -⟩ := hzS0.shape
              have a2 := hcl j hj
              rw [hyz] at a2
              have hmz4 : mz ≤ 4096 := by rw [← hmz]; exact q4
              have HW := Lib.hid (And.intro hmr (And.intro hywS (And.intro hzS0 (And.intro hbk0 hmz4))))
              clear hI1 hlook hbeq q1 q3 q4 q5 q6 q7 c10r c7r hsx hmem hF7 hbk0 hbb hmr hws hwr hvl hcw hyw hywS hzs hzr hzl hcl hyz hzS0 hmz4
              go_wp2_with fail
              refine hrd.mono ?_
              rintro e w14 ⟨v14, rfl, hv14, -, c14⟩
              rw [HW.out.1] at hv14
              obtain ⟨ar, cr, rfl, -⟩ := hv14.shape
              have hsm := fun w' (c : Chg [] w14 w') => same_yes w' _ _ mr mr bb bb (hv14.chg0 c) (HW.out.2.1.chg0 (c14.nil c)) rfl
              have hbk := fun w' (c : Chg [] w14 w') => HW.out.2.2.2.1 w' (c14.nil c)
              have hzS := HW.out.2.2.1.chg0 c14
              replace x0 := c14.cell_some x0 (by simp)
              replace x1 := c14.cell_some x1 (by simp)
              replace a0 := c14.cell_some a0 (by simp)
              replace a1 := c14.cell_some a1 (by simp)
              replace a2 := c14.cell_some a2 (by simp)
              have C14 := Lib.hid c14
              have hmz4 := HW.out.2.2.2.2
              clear hrd hv14 c14 e3
              go_upto_region 21 with (fail)
              obtain ⟨W0, hW0⟩ : ∃ W0, w14.drew = W0 := ⟨_, rfl⟩
              have cd : Chg [] w14 W0 := by rw [← hW0]; exact (Chg.refl _ _).drew
              refine wp_region_U [] (fun _ => false) (by kernel_rfl) ?_
              rw [hW0]
              clear hW0
              have C0 : Chg [] W0 W0 := Chg.refl _ _
              refine wpAnyU_take 0 (v := (.int .i64 0)) C0 rfl (by kernel_rfl) (by kernel_rfl) (by kernel_rfl) (by kernel_rfl) (fun _ _ _ h => h) (by rfl) (fun w4 c4 => ?_) ?_
              · go_simp
              try simp only [Act.put, List.getElem_toArray, List.getElem_cons_succ, List.getElem_cons_zero, List.setIfInBounds_toArray, List.set_cons_zero, List.set_cons_succ]
              refine wpAnyU_take 1 (v := (.bool false)) C0 rfl (by kernel_rfl) (by kernel_rfl) (by kernel_rfl) (by kernel_rfl) (fun _ _ _ h => h) (by rfl) (fun w4 c4 => ?_) ?_
              · go_simp
              try simp only [Act.put, List.getElem_toArray, List.getElem_cons_succ, List.getElem_cons_zero, List.setIfInBounds_toArray, List.set_cons_zero, List.set_cons_succ]
              refine wpAnyU_take 2 (v := (.bool false)) C0 rfl (by kernel_rfl) (by kernel_rfl) (by kernel_rfl) (by kernel_rfl) (fun _ _ _ h => h) (by rfl) (fun w4 c4 => ?_) ?_
              · go_simp
              try simp only [Act.put, List.getElem_toArray, List.getElem_cons_succ, List.getElem_cons_zero, List.setIfInBounds_toArray, List.set_cons_zero, List.set_cons_succ]
              refine wpAnyU_take 3 (v := (.slice ar mr cr)) C0 rfl (by kernel_rfl) (by kernel_rfl) (by kernel_rfl) (by kernel_rfl) (fun _ _ _ h => h) (by rfl) (fun w4 c4 => ?_) ?_
              · go_simp
              try simp only [Act.put, List.getElem_toArray, List.getElem_cons_succ, List.getElem_cons_zero, List.setIfInBounds_toArray, List.set_cons_zero, List.set_cons_succ]
              refine wpAnyU_take 4 (v := (.pointer (some ⟨K, 1, none⟩))) C0 rfl (by kernel_rfl) (by kernel_rfl) (by kernel_rfl) (by kernel_rfl) (fun _ _ _ h => h) (by rfl) (fun w4 c4 => ?_) ?_
              · go_simp
              try simp only [Act.put, List.getElem_toArray, List.getElem_cons_succ, List.getElem_cons_zero, List.setIfInBounds_toArray, List.set_cons_zero, List.set_cons_succ]
              refine wpAnyU_take 5 (v := (.slice (some ⟨gw, ow, none⟩) NF cb)) C0 rfl (by kernel_rfl) (by kernel_rfl) (by kernel_rfl) (by kernel_rfl) (fun _ _ _ h => h) (by rfl) (fun w4 c4 => ?_) ?_
              · have q1 := (cd.nil c4).cell_some x1 (by simp)
                go_simp
              try simp only [Act.put, List.getElem_toArray, List.getElem_cons_succ, List.getElem_cons_zero, List.setIfInBounds_toArray, List.set_cons_zero, List.set_cons_succ]
              refine wpAnyU_take 6 (v := (.int .i64 (j : Int))) C0 rfl (by kernel_rfl) (by kernel_rfl) (by kernel_rfl) (by kernel_rfl) (fun _ _ _ h => h) (by rfl) (fun w4 c4 => ?_) ?_
              · go_simp
              try simp only [Act.put, List.getElem_toArray, List.getElem_cons_succ, List.getElem_cons_zero, List.setIfInBounds_toArray, List.set_cons_zero, List.set_cons_succ]
              refine wpAnyU_take 7 (v := (.pointer (some ⟨gw, ow + j, none⟩))) C0 rfl (by kernel_rfl) (by kernel_rfl) (by kernel_rfl) (by kernel_rfl) (fun _ _ _ h => h) (by rfl) (fun w4 c4 => ?_) ?_
              · go_simp
              try simp only [Act.put, List.getElem_toArray, List.getElem_cons_succ, List.getElem_cons_zero, List.setIfInBounds_toArray, List.set_cons_zero, List.set_cons_succ]
              refine wpAnyU_take 8 (v := (.slice ay mr cy)) C0 rfl (by kernel_rfl) (by kernel_rfl) (by kernel_rfl) (by kernel_rfl) (fun _ _ _ h => h) (by rfl) (fun w4 c4 => ?_) ?_
              · have q1 := (cd.nil c4).cell_some a1 (by simp)
                go_simp
              try simp only [Act.put, List.getElem_toArray, List.getElem_cons_succ, List.getElem_cons_zero, List.setIfInBounds_toArray, List.set_cons_zero, List.set_cons_succ]
              refine wpAnyU_only 9 rfl (by kernel_rfl) (by rfl) (by rfl) ?_
              go_simp
              refine (hsm W0 cd).mono ?_
              rintro e w15 ⟨rfl, h15⟩
              subst h15
              refine ⟨C0, ?_⟩
              try simp only [Act.put, List.getElem_toArray, List.getElem_cons_succ, List.getElem_cons_zero, List.setIfInBounds_toArray, List.set_cons_zero, List.set_cons_succ]
              refine wpAnyU_take 10 (v := (.bool false)) C0 rfl (by kernel_rfl) (by kernel_rfl) (by kernel_rfl) (by kernel_rfl) (fun _ _ _ h => h) (by rfl) (fun w4 c4 => ?_) ?_
              · go_simp
              try simp only [Act.put, List.getElem_toArray, List.getElem_cons_succ, List.getElem_cons_zero, List.setIfInBounds_toArray, List.set_cons_zero, List.set_cons_succ]
              refine wpAnyU_take 11 (v := (.bool false)) C0 rfl (by kernel_rfl) (by kernel_rfl) (by kernel_rfl) (by kernel_rfl) (fun _ _ _ h => h) (by rfl) (fun w4 c4 => ?_) ?_
              · go_simp
              try simp only [Act.put, List.getElem_toArray, List.getElem_cons_succ, List.getElem_cons_zero, List.setIfInBounds_toArray, List.set_cons_zero, List.set_cons_succ]
              refine wpAnyU_take 12 (v := (.bool false)) C0 rfl (by kernel_rfl) (by kernel_rfl) (by kernel_rfl) (by kernel_rfl) (fun _ _ _ h => h) (by rfl) (fun w4 c4 => ?_) ?_
              · go_simp
              try simp only [Act.put, List.getElem_toArray, List.getElem_cons_succ, List.getElem_cons_zero, List.setIfInBounds_toArray, List.set_cons_zero, List.set_cons_succ]
              refine wpAnyU_take 13 (v := (.pointer (some ⟨f, 0, none⟩))) C0 rfl (by kernel_rfl) (by kernel_rfl) (by kernel_rfl) (by kernel_rfl) (fun _ _ _ h => h) (by rfl) (fun w4 c4 => ?_) ?_
              · go_simp
              try simp only [Act.put, List.getElem_toArray, List.getElem_cons_succ, List.getElem_cons_zero, List.setIfInBounds_toArray, List.set_cons_zero, List.set_cons_succ]
              refine wpAnyU_take 14 (v := (.pointer (some ⟨K, 0, none⟩))) C0 rfl (by kernel_rfl) (by kernel_rfl) (by kernel_rfl) (by kernel_rfl) (fun _ _ _ h => h) (by rfl) (fun w4 c4 => ?_) ?_
              · go_simp
              try simp only [Act.put, List.getElem_toArray, List.getElem_cons_succ, List.getElem_cons_zero, List.setIfInBounds_toArray, List.set_cons_zero, List.set_cons_succ]
              refine wpAnyU_take 15 (v := (.slice (some ⟨gn, on, none⟩) NF cn)) C0 rfl (by kernel_rfl) (by kernel_rfl) (by kernel_rfl) (by kernel_rfl) (fun _ _ _ h => h) (by rfl) (fun w4 c4 => ?_) ?_
              · have q1 := (cd.nil c4).cell_some x0 (by simp)
                go_simp
              try simp only [Act.put, List.getElem_toArray, List.getElem_cons_succ, List.getElem_cons_zero, List.setIfInBounds_toArray, List.set_cons_zero, List.set_cons_succ]
              refine wpAnyU_take 16 (v := (.int .i64 (j : Int))) C0 rfl (by kernel_rfl) (by kernel_rfl) (by kernel_rfl) (by kernel_rfl) (fun _ _ _ h => h) (by rfl) (fun w4 c4 => ?_) ?_
              · go_simp
              try simp only [Act.put, List.getElem_toArray, List.getElem_cons_succ, List.getElem_cons_zero, List.setIfInBounds_toArray, List.set_cons_zero, List.set_cons_succ]
              refine wpAnyU_take 17 (v := (.pointer (some ⟨gn, on + j, none⟩))) C0 rfl (by kernel_rfl) (by kernel_rfl) (by kernel_rfl) (by kernel_rfl) (fun _ _ _ h => h) (by rfl) (fun w4 c4 => ?_) ?_
              · go_simp
              try simp only [Act.put, List.getElem_toArray, List.getElem_cons_succ, List.getElem_cons_zero, List.setIfInBounds_toArray, List.set_cons_zero, List.set_cons_succ]
              refine wpAnyU_take 18 (v := (.string (str s))) C0 rfl (by kernel_rfl) (by kernel_rfl) (by kernel_rfl) (by kernel_rfl) (fun _ _ _ h => h) (by rfl) (fun w4 c4 => ?_) ?_
              · have q1 := (cd.nil c4).cell_some a0 (by simp)
                go_simp
              try simp only [Act.put, List.getElem_toArray, List.getElem_cons_succ, List.getElem_cons_zero, List.setIfInBounds_toArray, List.set_cons_zero, List.set_cons_succ]
              refine wpAnyU_take 20 (v := (.slice (some ⟨gl, ol, none⟩) NF cL)) C0 rfl (by kernel_rfl) (by kernel_rfl) (by kernel_rfl) (by kernel_rfl) (fun _ _ _ h => h) (by rfl) (fun w4 c4 => ?_) ?_
              · go_simp
              try simp only [Act.put, List.getElem_toArray, List.getElem_cons_succ, List.getElem_cons_zero, List.setIfInBounds_toArray, List.set_cons_zero, List.set_cons_succ]
              refine wpAnyU_take 21 (v := (.int .i64 (j : Int))) C0 rfl (by kernel_rfl) (by kernel_rfl) (by kernel_rfl) (by kernel_rfl) (fun _ _ _ h => h) (by rfl) (fun w4 c4 => ?_) ?_
              · go_simp
              try simp only [Act.put, List.getElem_toArray, List.getElem_cons_succ, List.getElem_cons_zero, List.setIfInBounds_toArray, List.set_cons_zero, List.set_cons_succ]
              refine wpAnyU_take 22 (v := (.pointer (some ⟨gl, ol + j, none⟩))) C0 rfl (by kernel_rfl) (by kernel_rfl) (by kernel_rfl) (by kernel_rfl) (fun _ _ _ h => h) (by rfl) (fun w4 c4 => ?_) ?_
              · go_simp
              try simp only [Act.put, List.getElem_toArray, List.getElem_cons_succ, List.getElem_cons_zero, List.setIfInBounds_toArray, List.set_cons_zero, List.set_cons_succ]
              refine wpAnyU_take 23 (v := (.slice az mz cz)) C0 rfl (by kernel_rfl) (by kernel_rfl) (by kernel_rfl) (by kernel_rfl) (fun _ _ _ h => h) (by rfl) (fun w4 c4 => ?_) ?_
              · have q1 := (cd.nil c4).cell_some a2 (by simp)
                go_simp
              try simp only [Act.put, List.getElem_toArray, List.getElem_cons_succ, List.getElem_cons_zero, List.setIfInBounds_toArray, List.set_cons_zero, List.set_cons_succ]
              refine wpAnyU_only 19 rfl (by kernel_rfl) (by rfl) (by rfl) ?_
              go_simp
              refine (hbk W0 cd).mono ?_
              rintro e w16 ⟨vk, rfl, hVk⟩
              obtain ⟨ak, ck, rfl, -⟩ := hVk.shape
              have C19 : Chg [] W0 w16 := hVk.chg
              refine ⟨C19, ?_⟩
              try simp only [Act.put, List.getElem_toArray, List.getElem_cons_succ, List.getElem_cons_zero, List.setIfInBounds_toArray, List.set_cons_zero, List.set_cons_succ]
              have hin := ints_any w16 _ _ x.blocks x.blocks mz mz hmz hmz hVk.own.sees (hzS.chg0 (cd.nil C19)) (by omega)
              rw [show decide (x.blocks = x.blocks) = true from decide_eq_true rfl] at hin
              refine wpAnyU_only 24 rfl (by kernel_rfl) (by rfl) (by rfl) ?_
              go_simp
              refine hin.mono ?_
              rintro e w17 ⟨rfl, c17⟩
              have C24 : Chg [] W0 w17 := C19.nil c17
              refine ⟨C24, ?_⟩
              try simp only [Act.put, List.getElem_toArray, List.getElem_cons_succ, List.getElem_cons_zero, List.setIfInBounds_toArray, List.set_cons_zero, List.set_cons_succ]
              refine wpAnyU_take 25 (v := (.bool false)) C24 rfl (by kernel_rfl) (by kernel_rfl) (by kernel_rfl) (by kernel_rfl) (fun _ _ _ h => h) (by rfl) (fun w4 c4 => ?_) ?_
              · go_simp
              try simp only [Act.put, List.getElem_toArray, List.getElem_cons_succ, List.getElem_cons_zero, List.setIfInBounds_toArray, List.set_cons_zero, List.set_cons_succ]
              refine wpAnyU_take 26 (v := (.bool false)) C24 rfl (by kernel_rfl) (by kernel_rfl) (by kernel_rfl) (by kernel_rfl) (fun _ _ _ h => h) (by rfl) (fun w4 c4 => ?_) ?_
              · go_simp
              try simp only [Act.put, List.getElem_toArray, List.getElem_cons_succ, List.getElem_cons_zero, List.setIfInBounds_toArray, List.set_cons_zero, List.set_cons_succ]
              refine wpAnyU_done (by kernel_rfl) ?_ _
              have CE : Chg [] wr w17 := C14.out.nil (cd.nil C24)
              clear C0 C19 C24 c17 cd hin hVk hsm hbk hzS x0 x1 a0 a1 a2 hj hmz4 hmz
              have e2 := e2.out
              have e2w := wIq e2
              go_wp2_with fail
              go_roundg (gk - 1)
              case measure => exact HP.out.1.2
              case rel => exact ⟨j + 1, by simp, HP.out.1.1, HP.out.2.1.nil CE⟩
          · have e3 : ((str s).toList == (str nm).toList) = false := str_ne s nm hs
            have hkp := HP.out.2.2.2.2.2 (fun h => absurd h hs)
            clear hs
            have hI1 := H6.out.2.2.inv
            simp only at hI1
            obtain ⟨hlook, hbeq⟩ := hkp
            obtain ⟨q1, -, q3, q4, q5, q6, q7⟩ := hI1.at (look_mem hlook)
            obtain ⟨-, c10r, c7r, hsx, hmem, -⟩ := HP.out
            have hF7 := H7.out.1
            have hrd := fread_ok wr Sd1 [] f d l bf1 F1 (hF7.chg0 c7r) hI1.rest.up s q1 x hlook q3 q4 q5 (fun k _ => hI1.rest.len k)
            rw [hbeq] at hrd
            have hbk0 := fun w' (c : Chg [] wr w') => blocks_ok w' Sd1 [] f d l bf1 F1 (hF7.chg0 (c7r.nil c)) s q1 (by rw [hlook]; simp only [Option.getD_some]; omega)
            rw [hlook] at hbk0
            simp only [Option.getD_some] at hbk0
            obtain ⟨bb, hbb⟩ : ∃ bb, bytesB F x = bb := ⟨_, rfl⟩
            rw [hbb] at hrd
            obtain ⟨mr, hmr⟩ : ∃ mr, bb.length = mr := ⟨_, rfl⟩
            obtain ⟨mz, hmz⟩ : ∃ mz, x.blocks.length = mz := ⟨_, rfl⟩
            rw [hmz] at hbk0
            have hrw := (H7.out.2.2.1.chg c7r (by simp)).rows
            obtain ⟨wys, hws, hwr, -⟩ := hrw
            have hvl : ((viewF F).map (·.2)).length = NF := by rw [List.length_map]; exact HH.out.2.2.2.2.2.1
            rw [hvl] at hws
            obtain ⟨gw, ow, cw', e, -, hcw⟩ := hws.at1 (by omega)
            cases e
            obtain ⟨yw, hyw, hywS, -⟩ := hwr j bb (by rw [List.getElem?_map, viewF_at, hsx, ← hbb]; rfl)
            rw [hmr] at hywS
            obtain ⟨ay, cy, rfl, -⟩ := hywS.shape
            have a1 := hcw j hj
            rw [hyw] at a1
            obtain ⟨zys, hzs, hzr, -⟩ := H7.out.2.2.2.1.chg c7r (by simp)
            have hzl : (allB F).length = NF := by unfold allB; rw [List.length_map]; exact HH.out.2.2.2.2.1
            rw [hzl] at hzs
            obtain ⟨gl, ol, cl', e, -, hcl⟩ := hzs.at1 (by omega)
            cases e
            obtain ⟨yz, hyz, hzS0, -⟩ := hzr j x.blocks (by rw [allB_at, hsx]; rfl)
            rw [hmz] at hzS0
            obtain ⟨az, cz, rfl, -⟩ := hzS0.shape
            have a2 := hcl j hj
            rw [hyz] at a2
            have hmz4 : mz ≤ 4096 := by rw [← hmz]; exact q4
            have HW := Lib.hid (And.intro hmr (And.intro hywS (And.intro hzS0 (And.intro hbk0 hmz4))))
            clear hI1 hlook hbeq q1 q3 q4 q5 q6 q7 c10r c7r hsx hmem hF7 hbk0 hbb hmr hws hwr hvl hcw hyw hywS hzs hzr hzl hcl hyz hzS0 hmz4
            go_wp2_with fail
            refine hrd.mono ?_
            rintro e w14 ⟨v14, rfl, hv14, -, c14⟩
            rw [HW.out.1] at hv14
            obtain ⟨ar, cr, rfl, -⟩ := hv14.shape
            have hsm := fun w' (c : Chg [] w14 w') => same_yes w' _ _ mr mr bb bb (hv14.chg0 c) (HW.out.2.1.chg0 (c14.nil c)) rfl
            have hbk := fun w' (c : Chg [] w14 w') => HW.out.2.2.2.1 w' (c14.nil c)
            have hzS := HW.out.2.2.1.chg0 c14
            replace x0 := c14.cell_some x0 (by simp)
            replace x1 := c14.cell_some x1 (by simp)
            replace a0 := c14.cell_some a0 (by simp)
            replace a1 := c14.cell_some a1 (by simp)
            replace a2 := c14.cell_some a2 (by simp)
            have C14 := Lib.hid c14
            have hmz4 := HW.out.2.2.2.2
            clear hrd hv14 c14 e3
            go_upto_region 21 with (fail)
            obtain ⟨W0, hW0⟩ : ∃ W0, w14.drew = W0 := ⟨_, rfl⟩
            have cd : Chg [] w14 W0 := by rw [← hW0]; exact (Chg.refl _ _).drew
            refine wp_region_U [] (fun _ => false) (by kernel_rfl) ?_
            rw [hW0]
            clear hW0
            have C0 : Chg [] W0 W0 := Chg.refl _ _
            refine wpAnyU_take 0 (v := (.int .i64 0)) C0 rfl (by kernel_rfl) (by kernel_rfl) (by kernel_rfl) (by kernel_rfl) (fun _ _ _ h => h) (by rfl) (fun w4 c4 => ?_) ?_
            · go_simp
            try simp only [Act.put, List.getElem_toArray, List.getElem_cons_succ, List.getElem_cons_zero, List.setIfInBounds_toArray, List.set_cons_zero, List.set_cons_succ]
            refine wpAnyU_take 1 (v := (.bool false)) C0 rfl (by kernel_rfl) (by kernel_rfl) (by kernel_rfl) (by kernel_rfl) (fun _ _ _ h => h) (by rfl) (fun w4 c4 => ?_) ?_
            · go_simp
            try simp only [Act.put, List.getElem_toArray, List.getElem_cons_succ, List.getElem_cons_zero, List.setIfInBounds_toArray, List.set_cons_zero, List.set_cons_succ]
            refine wpAnyU_take 2 (v := (.bool false)) C0 rfl (by kernel_rfl) (by kernel_rfl) (by kernel_rfl) (by kernel_rfl) (fun _ _ _ h => h) (by rfl) (fun w4 c4 => ?_) ?_
            · go_simp
            try simp only [Act.put, List.getElem_toArray, List.getElem_cons_succ, List.getElem_cons_zero, List.setIfInBounds_toArray, List.set_cons_zero, List.set_cons_succ]
            refine wpAnyU_take 3 (v := (.slice ar mr cr)) C0 rfl (by kernel_rfl) (by kernel_rfl) (by kernel_rfl) (by kernel_rfl) (fun _ _ _ h => h) (by rfl) (fun w4 c4 => ?_) ?_
            · go_simp
            try simp only [Act.put, List.getElem_toArray, List.getElem_cons_succ, List.getElem_cons_zero, List.setIfInBounds_toArray, List.set_cons_zero, List.set_cons_succ]
            refine wpAnyU_take 4 (v := (.pointer (some ⟨K, 1, none⟩))) C0 rfl (by kernel_rfl) (by kernel_rfl) (by kernel_rfl) (by kernel_rfl) (fun _ _ _ h => h) (by rfl) (fun w4 c4 => ?_) ?_
            · go_simp
            try simp only [Act.put, List.getElem_toArray, List.getElem_cons_succ, List.getElem_cons_zero, List.setIfInBounds_toArray, List.set_cons_zero, List.set_cons_succ]
            refine wpAnyU_take 5 (v := (.slice (some ⟨gw, ow, none⟩) NF cb)) C0 rfl (by kernel_rfl) (by kernel_rfl) (by kernel_rfl) (by kernel_rfl) (fun _ _ _ h => h) (by rfl) (fun w4 c4 => ?_) ?_
            · have q1 := (cd.nil c4).cell_some x1 (by simp)
              go_simp
            try simp only [Act.put, List.getElem_toArray, List.getElem_cons_succ, List.getElem_cons_zero, List.setIfInBounds_toArray, List.set_cons_zero, List.set_cons_succ]
            refine wpAnyU_take 6 (v := (.int .i64 (j : Int))) C0 rfl (by kernel_rfl) (by kernel_rfl) (by kernel_rfl) (by kernel_rfl) (fun _ _ _ h => h) (by rfl) (fun w4 c4 => ?_) ?_
            · go_simp
            try simp only [Act.put, List.getElem_toArray, List.getElem_cons_succ, List.getElem_cons_zero, List.setIfInBounds_toArray, List.set_cons_zero, List.set_cons_succ]
            refine wpAnyU_take 7 (v := (.pointer (some ⟨gw, ow + j, none⟩))) C0 rfl (by kernel_rfl) (by kernel_rfl) (by kernel_rfl) (by kernel_rfl) (fun _ _ _ h => h) (by rfl) (fun w4 c4 => ?_) ?_
            · go_simp
            try simp only [Act.put, List.getElem_toArray, List.getElem_cons_succ, List.getElem_cons_zero, List.setIfInBounds_toArray, List.set_cons_zero, List.set_cons_succ]
            refine wpAnyU_take 8 (v := (.slice ay mr cy)) C0 rfl (by kernel_rfl) (by kernel_rfl) (by kernel_rfl) (by kernel_rfl) (fun _ _ _ h => h) (by rfl) (fun w4 c4 => ?_) ?_
            · have q1 := (cd.nil c4).cell_some a1 (by simp)
              go_simp
            try simp only [Act.put, List.getElem_toArray, List.getElem_cons_succ, List.getElem_cons_zero, List.setIfInBounds_toArray, List.set_cons_zero, List.set_cons_succ]
            refine wpAnyU_only 9 rfl (by kernel_rfl) (by rfl) (by rfl) ?_
            go_simp
            refine (hsm W0 cd).mono ?_
            rintro e w15 ⟨rfl, h15⟩
            subst h15
            refine ⟨C0, ?_⟩
            try simp only [Act.put, List.getElem_toArray, List.getElem_cons_succ, List.getElem_cons_zero, List.setIfInBounds_toArray, List.set_cons_zero, List.set_cons_succ]
            refine wpAnyU_take 10 (v := (.bool false)) C0 rfl (by kernel_rfl) (by kernel_rfl) (by kernel_rfl) (by kernel_rfl) (fun _ _ _ h => h) (by rfl) (fun w4 c4 => ?_) ?_
            · go_simp
            try simp only [Act.put, List.getElem_toArray, List.getElem_cons_succ, List.getElem_cons_zero, List.setIfInBounds_toArray, List.set_cons_zero, List.set_cons_succ]
            refine wpAnyU_take 11 (v := (.bool false)) C0 rfl (by kernel_rfl) (by kernel_rfl) (by kernel_rfl) (by kernel_rfl) (fun _ _ _ h => h) (by rfl) (fun w4 c4 => ?_) ?_
            · go_simp
            try simp only [Act.put, List.getElem_toArray, List.getElem_cons_succ, List.getElem_cons_zero, List.setIfInBounds_toArray, List.set_cons_zero, List.set_cons_succ]
            refine wpAnyU_take 12 (v := (.bool false)) C0 rfl (by kernel_rfl) (by kernel_rfl) (by kernel_rfl) (by kernel_rfl) (fun _ _ _ h => h) (by rfl) (fun w4 c4 => ?_) ?_
            · go_simp
            try simp only [Act.put, List.getElem_toArray, List.getElem_cons_succ, List.getElem_cons_zero, List.setIfInBounds_toArray, List.set_cons_zero, List.set_cons_succ]
            refine wpAnyU_take 13 (v := (.pointer (some ⟨f, 0, none⟩))) C0 rfl (by kernel_rfl) (by kernel_rfl) (by kernel_rfl) (by kernel_rfl) (fun _ _ _ h => h) (by rfl) (fun w4 c4 => ?_) ?_
            · go_simp
            try simp only [Act.put, List.getElem_toArray, List.getElem_cons_succ, List.getElem_cons_zero, List.setIfInBounds_toArray, List.set_cons_zero, List.set_cons_succ]
            refine wpAnyU_take 14 (v := (.pointer (some ⟨K, 0, none⟩))) C0 rfl (by kernel_rfl) (by kernel_rfl) (by kernel_rfl) (by kernel_rfl) (fun _ _ _ h => h) (by rfl) (fun w4 c4 => ?_) ?_
            · go_simp
            try simp only [Act.put, List.getElem_toArray, List.getElem_cons_succ, List.getElem_cons_zero, List.setIfInBounds_toArray, List.set_cons_zero, List.set_cons_succ]
            refine wpAnyU_take 15 (v := (.slice (some ⟨gn, on, none⟩) NF cn)) C0 rfl (by kernel_rfl) (by kernel_rfl) (by kernel_rfl) (by kernel_rfl) (fun _ _ _ h => h) (by rfl) (fun w4 c4 => ?_) ?_
            · have q1 := (cd.nil c4).cell_some x0 (by simp)
              go_simp
            try simp only [Act.put, List.getElem_toArray, List.getElem_cons_succ, List.getElem_cons_zero, List.setIfInBounds_toArray, List.set_cons_zero, List.set_cons_succ]
            refine wpAnyU_take 16 (v := (.int .i64 (j : Int))) C0 rfl (by kernel_rfl) (by kernel_rfl) (by kernel_rfl) (by kernel_rfl) (fun _ _ _ h => h) (by rfl) (fun w4 c4 => ?_) ?_
            · go_simp
            try simp only [Act.put, List.getElem_toArray, List.getElem_cons_succ, List.getElem_cons_zero, List.setIfInBounds_toArray, List.set_cons_zero, List.set_cons_succ]
            refine wpAnyU_take 17 (v := (.pointer (some ⟨gn, on + j, none⟩))) C0 rfl (by kernel_rfl) (by kernel_rfl) (by kernel_rfl) (by kernel_rfl) (fun _ _ _ h => h) (by rfl) (fun w4 c4 => ?_) ?_
            · go_simp
            try simp only [Act.put, List.getElem_toArray, List.getElem_cons_succ, List.getElem_cons_zero, List.setIfInBounds_toArray, List.set_cons_zero, List.set_cons_succ]
            refine wpAnyU_take 18 (v := (.string (str s))) C0 rfl (by kernel_rfl) (by kernel_rfl) (by kernel_rfl) (by kernel_rfl) (fun _ _ _ h => h) (by rfl) (fun w4 c4 => ?_) ?_
            · have q1 := (cd.nil c4).cell_some a0 (by simp)
              go_simp
            try simp only [Act.put, List.getElem_toArray, List.getElem_cons_succ, List.getElem_cons_zero, List.setIfInBounds_toArray, List.set_cons_zero, List.set_cons_succ]
            refine wpAnyU_take 20 (v := (.slice (some ⟨gl, ol, none⟩) NF cL)) C0 rfl (by kernel_rfl) (by kernel_rfl) (by kernel_rfl) (by kernel_rfl) (fun _ _ _ h => h) (by rfl) (fun w4 c4 => ?_) ?_
            · go_simp
            try simp only [Act.put, List.getElem_toArray, List.getElem_cons_succ, List.getElem_cons_zero, List.setIfInBounds_toArray, List.set_cons_zero, List.set_cons_succ]
            refine wpAnyU_take 21 (v := (.int .i64 (j : Int))) C0 rfl (by kernel_rfl) (by kernel_rfl) (by kernel_rfl) (by kernel_rfl) (fun _ _ _ h => h) (by rfl) (fun w4 c4 => ?_) ?_
            · go_simp
            try simp only [Act.put, List.getElem_toArray, List.getElem_cons_succ, List.getElem_cons_zero, List.setIfInBounds_toArray, List.set_cons_zero, List.set_cons_succ]
            refine wpAnyU_take 22 (v := (.pointer (some ⟨gl, ol + j, none⟩))) C0 rfl (by kernel_rfl) (by kernel_rfl) (by kernel_rfl) (by kernel_rfl) (fun _ _ _ h => h) (by rfl) (fun w4 c4 => ?_) ?_
            · go_simp
            try simp only [Act.put, List.getElem_toArray, List.getElem_cons_succ, List.getElem_cons_zero, List.setIfInBounds_toArray, List.set_cons_zero, List.set_cons_succ]
            refine wpAnyU_take 23 (v := (.slice az mz cz)) C0 rfl (by kernel_rfl) (by kernel_rfl) (by kernel_rfl) (by kernel_rfl) (fun _ _ _ h => h) (by rfl) (fun w4 c4 => ?_) ?_
            · have q1 := (cd.nil c4).cell_some a2 (by simp)
              go_simp
            try simp only [Act.put, List.getElem_toArray, List.getElem_cons_succ, List.getElem_cons_zero, List.setIfInBounds_toArray, List.set_cons_zero, List.set_cons_succ]
            refine wpAnyU_only 19 rfl (by kernel_rfl) (by rfl) (by rfl) ?_
            go_simp
            refine (hbk W0 cd).mono ?_
            rintro e w16 ⟨vk, rfl, hVk⟩
            obtain ⟨ak, ck, rfl, -⟩ := hVk.shape
            have C19 : Chg [] W0 w16 := hVk.chg
            refine ⟨C19, ?_⟩
            try simp only [Act.put, List.getElem_toArray, List.getElem_cons_succ, List.getElem_cons_zero, List.setIfInBounds_toArray, List.set_cons_zero, List.set_cons_succ]
            have hin := ints_any w16 _ _ x.blocks x.blocks mz mz hmz hmz hVk.own.sees (hzS.chg0 (cd.nil C19)) (by omega)
            rw [show decide (x.blocks = x.blocks) = true from decide_eq_true rfl] at hin
            refine wpAnyU_only 24 rfl (by kernel_rfl) (by rfl) (by rfl) ?_
            go_simp
            refine hin.mono ?_
            rintro e w17 ⟨rfl, c17⟩
            have C24 : Chg [] W0 w17 := C19.nil c17
            refine ⟨C24, ?_⟩
            try simp only [Act.put, List.getElem_toArray, List.getElem_cons_succ, List.getElem_cons_zero, List.setIfInBounds_toArray, List.set_cons_zero, List.set_cons_succ]
            refine wpAnyU_take 25 (v := (.bool false)) C24 rfl (by kernel_rfl) (by kernel_rfl) (by kernel_rfl) (by kernel_rfl) (fun _ _ _ h => h) (by rfl) (fun w4 c4 => ?_) ?_
            · go_simp
            try simp only [Act.put, List.getElem_toArray, List.getElem_cons_succ, List.getElem_cons_zero, List.setIfInBounds_toArray, List.set_cons_zero, List.set_cons_succ]
            refine wpAnyU_take 26 (v := (.bool false)) C24 rfl (by kernel_rfl) (by kernel_rfl) (by kernel_rfl) (by kernel_rfl) (fun _ _ _ h => h) (by rfl) (fun w4 c4 => ?_) ?_
            · go_simp
            try simp only [Act.put, List.getElem_toArray, List.getElem_cons_succ, List.getElem_cons_zero, List.setIfInBounds_toArray, List.set_cons_zero, List.set_cons_succ]
            refine wpAnyU_done (by kernel_rfl) ?_ _
            have CE : Chg [] wr w17 := C14.out.nil (cd.nil C24)
            clear C0 C19 C24 c17 cd hin hVk hsm hbk hzS x0 x1 a0 a1 a2 hj hmz4 hmz
            have e2 := e2.out
            have e2w := wIq e2
            go_wp2_with fail
            go_roundg (gk - 1)
            case measure => exact HP.out.1.2
            case rel => exact ⟨j + 1, by simp, HP.out.1.1, HP.out.2.1.nil CE⟩
        · have t0 : decide ((j : Int) < (NF : Int)) = false := by simp; omega
          have t0' : decide (j < NF) = false := by simp; omega
          have HE2 := Lib.hid (And.intro c7r (And.intro c07 HK.out.2))
          have hI1 := H6.out.2.2.inv
          simp only at hI1
          by_cases he : e1 = 0
          · subst he
            obtain ⟨x, hx, hbx⟩ := H6.out.2.2.put rfl
            simp only at hx hbx
            obtain ⟨q1, -, q3, q4, q5, q6, q7⟩ := hI1.at (look_mem hx)
            have hrd := fread_ok wr Sd1 [] f d l bf1 F1 (hF7.chg0 c7r) hI1.rest.up nm q1 x hx q3 q4 q5 (fun k _ => hI1.rest.len k)
            rw [hbx] at hrd
            clear hF7 hK7 hSh7 hVB7 c07 c7r hI1 hx hbx q1 q3 q4 q5 q6 q7 hj HK x1
            go_wp2_with fail
            refine hrd.mono ?_
            rintro e w14 ⟨v14, rfl, hv14, -, c14⟩
            rw [HL.out.2.1] at hv14
            obtain ⟨ar, cr, rfl, -⟩ := hv14.shape
            have hf14 := first_ok16 w14
            have H14 := Lib.hid (And.intro hv14 c14)
            clear hrd hv14 c14 x0
            go_wp2_with fail
            refine hf14.mono ?_
            rintro e w15 ⟨rfl, c15⟩
            have cw15 : Chg [] w w15 := ((HE2.out.2.1.nil HE2.out.1).nil H14.out.2).nil c15
            have hsm := same_yes w15 _ _ ND ND dt dt (H14.out.1.chg0 c15) (HL.out.1.chg0 cw15) rfl
            have HC := Lib.hid cw15
            clear hf14 c15 cw15
            go_wp2_with fail
            refine hsm.mono ?_
            rintro e w16 ⟨rfl, hw16⟩
            rw [← hw16]
            clear hsm hw16
            go_wp2_with fail
            go_ret
            exact ⟨rfl, HC.out⟩
          · have e4 : (((e1 : Nat) : Int) != 0) = true := by simp; omega
            have e4' : (e1 != 0) = true := by simp; omega
            have hFF := H6.out.2.2.err he
            simp only at hFF
            have hrd : ∃ er : Nat, Calls Tryz.prog 16 #[.pointer (some ⟨f, 0, none⟩), .string (str nm)] wr fun e w' => ∃ v, e = .returned (.tuple #[v, .int .i64 er]) ∧ Chg [] wr w' := by
              cases hx : lookK nm F1.files with
              | none => exact ⟨6, (fread_none wr Sd1 [] f d l bf1 F1 (hF7.chg0 c7r) nm (by have h1 := HH.out.2.2.2.2.2.2.2.1; have h4 := HL.out.2.2; omega) hx).mono fun e w' ⟨h1, h2⟩ => ⟨_, h1, h2⟩⟩
              | some x =>
                obtain ⟨q1, -, q3, q4, q5, q6, q7⟩ := hI1.at (look_mem hx)
                exact ⟨0, (fread_ok wr Sd1 [] f d l bf1 F1 (hF7.chg0 c7r) hI1.rest.up nm q1 x hx q3 q4 q5 (fun k _ => hI1.rest.len k)).mono fun e w' ⟨v, h1, _, _, h2⟩ => ⟨v, h1, h2⟩⟩
            obtain ⟨er, hrd⟩ := hrd
            have HV := Lib.hid (And.intro hFF hI1)
            clear hF7 hK7 hSh7 hVB7 c07 c7r hI1 hFF hj HK he x1
            go_wp2_with fail
            refine hrd.mono ?_
            rintro e w14 ⟨v14, rfl, c14⟩
            have hf14 := first_ok16 w14
            have C14 := Lib.hid c14
            clear hrd c14 x0
            go_wp2_with fail
            refine hf14.mono ?_
            rintro e w15 ⟨rfl, c15⟩
            have c715 : Chg [] w7 w15 := (HE2.out.1.nil C14.out).nil c15
            have c915 : Chg [] w9 w15 := ((H10.out.2.nil HE2.out.2.2).nil C14.out).nil c15
            have hal := alike_any w15 _ _ (viewF F1) (viewF F) (H8.out.1.chg (H9.out.2.2.nil c915) (by simp)) ((H7.out.2.2.1.chg c715 (by simp)).wide (T := []) (by simp)) (by rw [viewF_len]; have := HV.out.2.files.few; omega) (by rw [viewF_len]; have := HH.out.1.files.few; omega)
            rw [decide_eq_true (show viewF F1 = viewF F by rw [HV.out.1])] at hal
            obtain ⟨⟨x0, x1⟩, -⟩ := (H7.out.2.1.chg0 c715).c2
            obtain ⟨⟨y0, y1⟩, -⟩ := (H9.out.1.chg0 c915).c2
            have C15 := Lib.hid (HE2.out.2.1.nil c715)
            clear hf14 c15 c715 c915
            go_wp2_with fail
            refine hal.mono ?_
            rintro e w16 ⟨rfl, c16⟩
            clear hal x0 x1 y0 y1
            go_wp2_with fail
            go_ret
            exact ⟨rfl, C15.out.nil c16⟩
end Go.Proofs.YtgcmgcffndbpoaaGreatDoor
