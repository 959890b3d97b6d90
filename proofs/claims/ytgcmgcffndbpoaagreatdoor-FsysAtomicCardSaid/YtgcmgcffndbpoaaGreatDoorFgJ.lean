/- The law FsysDoes. No statement of the seat is proved here. -/
import Derived.Test.YtgcmgcffndbpoaaGreatDoorFgI
import Derived.Test.YtgcmgcffndbpoaaGreatDoorFgH
import Derived.Test.YtgcmgcffndbpoaaGreatDoorFsOpen
set_option linter.unusedVariables false
set_option linter.unusedSimpArgs false
namespace Go.Proofs.YtgcmgcffndbpoaaGreatDoor
open Go.RowKit Go.Aq Go.Aq.Fy Go.Maps
theorem FInv.le {q q' : Nat} {F : FsD} (h : FInv q F) (hq : q ≤ q') : FInv q' F := ⟨h.geo, h.rest, Nat.le_trans h.seq hq, h.lies, h.un, h.tlen, h.files⟩
theorem q47 {i : Nat} (h : i < 100) : 40 + i < 2 ^ 47 := by
  have : (2 : Nat) ^ 47 = 140737488355328 := by decide
  omega
/-- What was taken stands in a cell of its own. -/
theorem shot_cell {w w1 : World} {a b : Value} {p : Nat} (hw : w.alloc (.cells #[a, b] 33) = w1) (hp : w.heap.size = p) : Blk w1 p #[a, b] 33 ∧ Chg [] w w1 := by
  subst hw hp
  exact ⟨Blk.new _ _ _, (Chg.refl [] w).alloc _⟩
set_option maxRecDepth 100000 in
set_option maxHeartbeats 8000000 in
theorem does_law (w : World) (n r m : Int) (v : Value) (css : List (List ChangeD)) (hv : ListsC w v css) (vl : Value) (cs : List ChangeD) (hl : SeesC w vl cs) :
    Calls Tryz.prog 3 #[.int .i64 n, .int .i64 r, .int .i64 m, v, vl] w fun e w' => e = .returned (.bool true) ∧ Chg [] w w' := by
  obtain ⟨ao, cap, rfl, -⟩ := hv.choose_spec.1.shape
  obtain ⟨LN, hLN⟩ : ∃ LN, css.length = LN := ⟨_, rfl⟩
  rw [hLN] at hv ⊢
  obtain ⟨xs, hxs, hxc⟩ := hl
  obtain ⟨al, cl, rfl, -⟩ := hxs.shape
  obtain ⟨LC, hLC⟩ : ∃ LC, cs.length = LC := ⟨_, rfl⟩
  rw [hLC] at hxs ⊢
  have hfi := first_ok16 w
  have hmd := fun w' (c : Chg [] w w') X hX => made_okX w' X hX n r m _ css (hv.chg0 c)
  have HL := Lib.hid (And.intro hxs (And.intro hxc hLC))
  clear hv hLN hxs hxc hLC
  go_enter Tryz.func3, Tryz.ntmps3
  go_wp2_with fail
  refine hfi.mono ?_
  rintro e w1 ⟨rfl, c1⟩
  have hm1 := hmd w1 c1 [] (fun _ h => absurd h (by simp))
  clear hfi
  go_wp2_with fail
  refine hm1.mono ?_
  rintro e w2 ⟨c2, rfl | ⟨f, d, l, bf, Sd, F, N1, R1, M1, rfl, rfl, rfl, rfl, h4, h300, hfm, hM, hF, hnw⟩⟩
  · have hm2 := hmd w2 (c1.nil c2) [] (fun _ h => absurd h (by simp))
    clear hm1 hmd
    go_wp2_with fail
    refine hm2.mono ?_
    rintro e w3 ⟨c3, rfl | ⟨g, d2, l2, bg, Sg, G, N2, R2, M2, rfl, rfl, rfl, rfl, -, -, -, -, -, -⟩⟩
    · have hf2 := first_ok16 w3
      have C2 := Lib.hid ((c1.nil c2).nil c3)
      clear hm2 c1 c2 c3
      go_wp2_with fail
      refine hf2.mono ?_
      rintro e w13 ⟨rfl, c13⟩
      clear hf2
      go_wp2_with fail
      go_ret
      exact ⟨rfl, C2.out.nil c13⟩
    · have hf2 := first_ok16 w3
      have C2 := Lib.hid ((c1.nil c2).nil c3)
      clear hm2 c1 c2 c3
      go_wp2_with fail
      refine hf2.mono ?_
      rintro e w13 ⟨rfl, c13⟩
      clear hf2
      go_wp2_with fail
      go_ret
      exact ⟨rfl, C2.out.nil c13⟩
  have hm2 := hmd w2 (c1.nil c2) (f :: l :: bf :: Sd) hF.lt
  have HF := Lib.hid (And.intro hM (And.intro hF (And.intro (fun (k : Nat) (hk : k ∈ f :: l :: bf :: Sd) => Nat.le_trans c1.size (hnw k hk)) (c1.nil c2))))
  clear hm1 hmd h4 h300 hfm hM hF hnw c1 c2
  go_wp2_with fail
  refine hm2.mono ?_
  rintro e w3 ⟨c3, rfl | ⟨g, d2, l2, bg, Sg, G, N2, R2, M2, rfl, hN2, hR2, hM2, -, -, -, hMG, hG, hnw2⟩⟩
  · have C0 := HF.out.2.2.2
    have hf2 := first_ok16 w3
    have C2 := Lib.hid (C0.nil c3)
    clear hm2 C0 c3
    go_wp2_with fail
    refine hf2.mono ?_
    rintro e w13 ⟨rfl, c13⟩
    clear hf2
    go_wp2_with fail
    go_ret
    exact ⟨rfl, C2.out.nil c13⟩
  obtain rfl : N1 = N2 := Int.ofNat_inj.1 hN2
  obtain rfl : R1 = R2 := Int.ofNat_inj.1 hR2
  obtain rfl : M1 = M2 := Int.ofNat_inj.1 hM2
  have c03 := HF.out.2.2.2.nil c3
  have hfew := few_ok w3 cs (.slice al LC cl) xs (by rw [HL.out.2.2]; exact HL.out.1.chg0 c03) (HL.out.2.1.chg0 c03)
  have HG := Lib.hid (And.intro hMG (And.intro hG (And.intro hnw2 c3)))
  clear hm2 hN2 hR2 hM2 hMG hG hnw2 c3 c03
  go_wp2_with fail
  refine hfew.mono ?_
  rintro e w4 ⟨b, rfl, hb, c4⟩
  clear hfew
  cases b with
  | false =>
    have hf2 := first_ok16 w4
    have C2 := Lib.hid ((HF.out.2.2.2.nil HG.out.2.2.2).nil c4)
    clear hb c4
    go_wp2_with fail
    refine hf2.mono ?_
    rintro e w13 ⟨rfl, c13⟩
    clear hf2
    go_wp2_with fail
    go_ret
    exact ⟨rfl, C2.out.nil c13⟩
  | true =>
  have hFew := hb rfl
  have c04 := (HF.out.2.2.2.nil HG.out.2.2.2).nil c4
  have hF4 : FsR w4 Sd (g :: l2 :: bg :: Sg) f d l bf F := (HF.out.2.1.wideX (fun k hk => .inr (HG.out.2.2.1 k hk))).chg0 (HG.out.2.2.2.nil c4)
  have hG4 : FsR w4 Sg (f :: l :: bf :: Sd) g d2 l2 bg G := HG.out.2.1.chg0 c4
  have hdo := do_okX (q := 40) w4 Sd (g :: l2 :: bg :: Sg) f d l bf F hF4 hG4.lt HF.out.1.inv (by decide) cs hFew.facts.1 hFew.facts.2 (.slice al LC cl) xs (by rw [HL.out.2.2]; exact HL.out.1.chg0 c04) (HL.out.2.1.chg0 c04)
  obtain ⟨R, hR⟩ : ∃ R, doF F cs = R := ⟨_, rfl⟩
  rw [hR] at hdo
  obtain ⟨F5, e5⟩ := R
  have H4 := Lib.hid (And.intro hFew (And.intro c04 (And.intro hF4 (And.intro hG4 hR))))
  clear hb hFew c4 c04 hF4 hG4 hR
  go_wp2_with fail
  refine hdo.mono ?_
  rintro e w5 ⟨rfl, Sd5, bf5, hF5, hU5⟩
  simp only at hF5
  have hG5 := H4.out.2.2.2.1.farU hU5 (H4.out.2.2.1.noU8 HF.out.1.inv.rest.pend)
  have c05 : Chg [] w w5 := H4.out.2.1.trans hU5.chg (fun t ht => .inr (HF.out.2.2.1 t ht))
  have hnG : ∀ k ∈ g :: l2 :: bg :: Sg, w.heap.size ≤ k := fun k hk => Nat.le_trans HF.out.2.2.2.size (HG.out.2.2.1 k hk)
  have hst : StepF 40 (viewF F) cs 0 G := ⟨HG.out.1.inv, HG.out.1.falls, by rw [(HG.out.1.twin.trans HF.out.1.twin.symm).view]; rfl, rfl⟩
  have H5 := Lib.hid (And.intro hF5 (And.intro hG5.nilX (And.intro c05 (And.intro hnG hst))))
  clear hdo hF5 hU5 hG5 c05 hnG hst
  go_wp2_with fail
  go_loopg [14] LC (fun k (v14 : Value) wr => ∃ (i : Nat) (Sg' : List Nat) (bg' : Nat) (G' : FsD), v14 = .int .i64 i ∧ Hid (i + k = LC ∧ Chg [] w wr ∧ FsR wr Sd5 (g :: l2 :: bg' :: Sg') f d l bf5 F5 ∧ FsR wr Sg' [] g d2 l2 bg' G' ∧ (∀ k ∈ g :: l2 :: bg' :: Sg', w.heap.size ≤ k) ∧ StepF (40 + i) (viewF F) cs i G'))
  case atStart =>
    obtain ⟨hF5, hG5, c05, hnG, hst⟩ := H5.out
    exact ⟨0, Sg, bg, G, rfl, Nat.zero_add _, c05, hF5, hG5, hnG, hst⟩
  case round =>
    obtain ⟨i, Sg', bg', G', rfl, HJ⟩ := hrel
    by_cases hi : i < LC
    · have t0 : decide ((i : Int) < (LC : Int)) = true := by simp; omega
      have t0' : decide (i < LC) = true := by simp; omega
      obtain ⟨hik, cw, hF, hG, hnG, hst⟩ := HJ.out
      have hil : i < cs.length := by rw [HL.out.2.2]; exact hi
      obtain ⟨c, hc⟩ : ∃ c, cs[i]? = some c := ⟨_, List.getElem?_eq_getElem hil⟩
      obtain ⟨ga, oa, ys, rfl, hcl, hs1, hc1⟩ := sees_one HL.out.2.2 (HL.out.1.chg0 cw) (HL.out.2.1.chg0 cw) hi hc
      have hcm : c ∈ cs := List.mem_of_getElem? hc
      have hi40 : i < 100 := by have h1 := H4.out.1.1; have h2 := HL.out.2.2; omega
      have hdo := do_ok (q := 40 + i) wr Sg' g d2 l2 bg' G' hG hst.inv (q47 hi40) [c] (fun x hx => by rw [List.mem_singleton.1 hx]; exact H4.out.1.facts.1 c hcm) (by simp) _ ys hs1 hc1
      obtain ⟨R, hR⟩ : ∃ R, doF G' [c] = R := ⟨_, rfl⟩
      rw [hR] at hdo
      obtain ⟨G6, e6⟩ := R
      have HQ := Lib.hid (And.intro (lg1 hik hi) (And.intro cw (And.intro hF (And.intro hG (And.intro hnG (And.intro hst (And.intro hc (And.intro hR hi40))))))))
      have n1 : ¬ cl = i := by omega
      have n2 : i ≤ cl := by omega
      have n3 : i + 1 ≤ cl := by omega
      have n4 : ((i : Int) + 1) ≤ (cl : Int) := by omega
      have e1 : wrap64 ((i : Int) + 1) = ((i + 1 : Nat) : Int) := wr_i1 hi40 (by omega)
      have e1w := wIq e1
      clear hik cw hF hG hnG hst hil hc hs1 hc1 hcm hR hcl hi40
      go_wp2_with fail
      refine hdo.mono ?_
      rintro e w6 ⟨rfl, Sg6, bg6, hG6, hU6⟩
      simp only at hG6
      have H6 := Lib.hid (And.intro hG6 hU6)
      clear hdo hG6 hU6 n1 n2 n3 n4
      by_cases he : e6 = 0
      · subst he
        go_wp2_with fail
        go_roundg (gk - 1)
        case measure => exact HQ.out.1.2
        case rel =>
          obtain ⟨hG6, hU6⟩ := H6.out
          obtain ⟨hik, cw, hF, hG, hnG, hst, hc, hR, hi40⟩ := HQ.out
          have hF6 := hF.farU hU6 (hG.noU8 hst.inv.rest.pend)
          refine ⟨i + 1, Sg6, bg6, G6, by simp, hik.1, cw.trans hU6.chg (fun t ht => .inr (hnG t ht)), hF6, hG6, fun k hk => ?_, ?_⟩
          · rcases hU6.new k hk with h1 | h1
            · exact hnG k h1
            · have := cw.size; omega
          · have h1 := hst.next (q47 hi40) hc (by rw [hR])
            rw [hR] at h1
            exact h1
      · have t5 : (((e6 : Nat) : Int) != 0) = true := by simp; omega
        have t5' : (e6 != 0) = true := by simp; omega
        have C2 : Hid (Chg [] w w6) := HQ.out.2.1.trans H6.out.2.chg (fun t ht => .inr (HQ.out.2.2.2.2.1 t ht))
        have hf2 := first_ok16 w6
        clear he e1 e1w hi
        go_wp2_with fail
        refine hf2.mono ?_
        rintro e w13 ⟨rfl, c13⟩
        clear hf2
        go_wp2_with fail
        go_ret
        exact ⟨rfl, C2.out.nil c13⟩
    · have t0 : decide ((i : Int) < (LC : Int)) = false := by simp; omega
      have t0' : decide (i < LC) = false := by simp; omega
      obtain ⟨hik, cw, hF, hG, hnG, hst⟩ := HJ.out
      have hfin := does_end (q := 40) (q' := 40 + i) HF.out.1.inv (by decide) HF.out.1.falls hst (by rw [HL.out.2.2]; omega)
      have hI5 := (do_law HF.out.1.inv (by decide) HF.out.1.falls cs).1
      rw [H4.out.2.2.2.2] at hfin hI5
      simp only at hfin hI5
      have htf := taken_ok wr Sd5 f d l bf5 F5 hF.nilX hI5
      have HE := Lib.hid (And.intro cw (And.intro hG (And.intro hst (And.intro hI5 hfin))))
      clear hik cw hF hG hnG hst hfin hI5 hi
      go_wp2_with fail
      refine htf.mono ?_
      rintro e w7 ⟨v7, rfl, hsh, c7⟩
      have hsh7 := hsh [] (fun _ h => absurd h (by simp))
      obtain ⟨an, cn, ab, cb, rfl⟩ := hsh7.cells (viewF_len F5)
      obtain ⟨NF, hNF⟩ : ∃ NF, F5.files.length = NF := ⟨_, rfl⟩
      rw [hNF] at hsh7 ⊢
      have H7 := Lib.hid (And.intro hsh7 (And.intro c7 hNF))
      clear htf hsh hsh7 c7 hNF
      go_upto_region 13 with (fail)
      obtain ⟨w8, hw8⟩ : ∃ w8, w7.alloc (.cells #[.slice an NF cn, .slice ab NF cb] 33) = w8 := ⟨_, rfl⟩
      obtain ⟨K8, hK8⟩ : ∃ K8, w7.heap.size = K8 := ⟨_, rfl⟩
      have h8 := shot_cell hw8 hK8
      rw [hw8, hK8]
      have H8 := Lib.hid h8
      have htg := taken_ok w8 Sg' g d2 l2 bg' G' (HE.out.2.1.chg0 (H7.out.2.1.nil h8.2)) HE.out.2.2.1.inv
      clear hw8 hK8 h8
      go_wp2_with fail
      refine htg.mono ?_
      rintro e w9 ⟨v9, rfl, hsh, c9⟩
      have hsh9 := hsh [] (fun _ h => absurd h (by simp))
      obtain ⟨an9, cn9, ab9, cb9, rfl⟩ := hsh9.cells (viewF_len G')
      obtain ⟨NG, hNG⟩ : ∃ NG, G'.files.length = NG := ⟨_, rfl⟩
      rw [hNG] at hsh9 ⊢
      have H9 := Lib.hid (And.intro hsh9 (And.intro c9 hNG))
      clear htg hsh hsh9 c9 hNG
      go_upto_region 16 with (fail)
      obtain ⟨w10, hw10⟩ : ∃ w10, w9.alloc (.cells #[.slice an9 NG cn9, .slice ab9 NG cb9] 33) = w10 := ⟨_, rfl⟩
      obtain ⟨K10, hK10⟩ : ∃ K10, w9.heap.size = K10 := ⟨_, rfl⟩
      have h10 := shot_cell hw10 hK10
      rw [hw10, hK10]
      clear hw10 hK10
      have hf10 := first_ok16 w10
      have c710 : Chg [] w7 w10 := (H8.out.2.nil H9.out.2.1).nil h10.2
      have H10 := Lib.hid (And.intro h10 (And.intro c710 ((HE.out.1.nil H7.out.2.1).nil c710)))
      clear h10 c710
      go_wp2_with fail
      refine hf10.mono ?_
      rintro e w11 ⟨rfl, c11⟩
      clear hf10
      have hal := alike_any w11 _ _ (viewF F5) (viewF G') (H7.out.1.chg (H10.out.2.1.nil c11) (by simp)) (H9.out.1.chg (H10.out.1.2.nil c11) (by simp)) (by rw [viewF_len]; have := HE.out.2.2.2.1.files.few; omega) (by rw [viewF_len]; have := HE.out.2.2.1.inv.files.few; omega)
      obtain ⟨⟨x0, x1⟩, -⟩ := ((H8.out.1.chg0 ((H9.out.2.1.nil H10.out.1.2).nil c11))).c2
      obtain ⟨⟨y0, y1⟩, -⟩ := (H10.out.1.1.chg0 c11).c2
      have C11 := Lib.hid (H10.out.2.2.nil c11)
      rcases HE.out.2.2.2.2 with ⟨h0, hvw⟩ | h8 | h9
      · subst h0
        rw [decide_eq_true hvw] at hal
        clear c11 hvw
        go_wp2_with fail
        refine hal.mono ?_
        rintro e w12 ⟨rfl, c12⟩
        clear hal
        go_wp2_with fail
        go_ret
        exact ⟨rfl, C11.out.nil c12⟩
      · subst h8
        clear hal x0 x1 y0 y1 c11
        go_wp2_with fail
        go_ret
        exact ⟨rfl, C11.out⟩
      · subst h9
        clear hal x0 x1 y0 y1 c11
        go_wp2_with fail
        go_ret
        exact ⟨rfl, C11.out⟩
end Go.Proofs.YtgcmgcffndbpoaaGreatDoor
