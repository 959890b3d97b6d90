/- The law FsysBlocks. No statement of the seat is proved here. -/
import Derived.Test.YtgcmgcffndbpoaaGreatDoorFgAF
set_option linter.unusedVariables false
set_option linter.unusedSimpArgs false
namespace Go.Aq.Fy
open Go.Aq Go.RowKit
theorem look_nil_name {q : Nat} {F : FsD} (h : FInv q F) : lookK [] F.files = none := by
  cases hx : lookK [] F.files with
  | none => rfl
  | some x =>
    have := h.files.name _ (look_mem hx)
    simp [nameOk] at this
theorem MadeF.all {q n r m : Nat} {css : List (List ChangeD)} {F : FsD} (h : MadeF q n r m css F) : firstF F + allF F = n ∧ firstF F = r + m + 3 ∧ n ≤ 4096 ∧ r + m + 3 < n := by
  have h1 := firstF_le h.inv
  have h2 := h.inv.geo.first
  have h3 := h.inv.geo.n
  have h4 := h.secs
  have h5 := h.ring
  have h6 := h.mt
  have h7 : firstF F = 2 + F.log.ring + 1 + F.mt := rfl
  have h8 : homeL F.log = 2 + F.log.ring := rfl
  omega
theorem fb_num {a u al n r m : Nat} (h1 : a + u = al) (h2 : r + m + 3 + al = n) (h3 : n ≤ 4096) : wrap64 ((a : Int) + (u : Int)) = (al : Int) ∧ wrap64 ((n : Int) - (r : Int)) = ((n - r : Nat) : Int) ∧ wrap64 (((n - r : Nat) : Int) - 3) = ((n - r - 3 : Nat) : Int) ∧ wrap64 (((n - r - 3 : Nat) : Int) - (m : Int)) = (al : Int) := by
  unfold wrap64; omega
theorem fb_cnt (z : Nat) (h : z ≤ 65535) : wrap64 ((z : Int) + 256) = ((z + 256 : Nat) : Int) ∧ wrap64 (((z + 256 : Nat) : Int) - 1) = ((z + 255 : Nat) : Int) ∧ Int.tdiv ((z + 255 : Nat) : Int) 256 = ((cnt z : Nat) : Int) ∧ wrap64 ((cnt z : Nat) : Int) = ((cnt z : Nat) : Int) := by
  unfold cnt
  have h1 : Int.tdiv ((z + 255 : Nat) : Int) 256 = (((z + 255) / 256 : Nat) : Int) := by
    rw [Int.tdiv_eq_ediv_of_nonneg (by omega)]; omega
  refine ⟨?_, ?_, h1, ?_⟩ <;> unfold wrap64 <;> omega
theorem e_sub1 {i i1 : Nat} (h : i = i1 + 1) (h1 : i ≤ 1000000) : wrap64 ((i : Int) - 1) = (i1 : Int) := by unfold wrap64; omega
end Go.Aq.Fy
namespace Go.Proofs.YtgcmgcffndbpoaaGreatDoor
open Go.RowKit Go.Aq Go.Aq.Fy Go.Maps
set_option maxRecDepth 100000 in
set_option maxHeartbeats 8000000 in
theorem blocks_law (w : World) (n r m : Int) (v : Value) (css : List (List ChangeD)) (hv : ListsC w v css) :
    Calls Tryz.prog 6 #[.int .i64 n, .int .i64 r, .int .i64 m, v] w fun e w' => e = .returned (.bool true) ∧ Chg [] w w' := by
  obtain ⟨ao, cap, rfl, -⟩ := hv.choose_spec.1.shape
  obtain ⟨LN, hLN⟩ : ∃ LN, css.length = LN := ⟨_, rfl⟩
  rw [hLN] at hv ⊢
  have hfi := first_ok16 w
  have hmd := fun w' (c : Chg [] w w') => made_ok w' n r m _ css (hv.chg0 c)
  clear hv hLN
  go_enter Tryz.func6, Tryz.ntmps6
  go_wp2_with fail
  refine hfi.mono ?_
  rintro e w1 ⟨rfl, c1⟩
  have hm1 := hmd w1 c1
  clear hfi hmd
  go_wp2_with fail
  refine hm1.mono ?_
  rintro e w2 ⟨c2, rfl | ⟨f, d, l, bf, Sd, F, N1, R1, M1, rfl, rfl, rfl, rfl, h4, h300, hfm, hM, hF, hnw⟩⟩
  · have hf2 := first_ok16 w2
    have C2 := Lib.hid (c1.nil c2)
    clear hm1 c1 c2
    go_wp2_with fail
    refine hf2.mono ?_
    rintro e w3 ⟨rfl, c3⟩
    clear hf2
    go_wp2_with fail
    go_ret
    exact ⟨rfl, C2.out.nil c3⟩
  · obtain ⟨g1, g2, g3, g4⟩ := hM.all
    have hI := hM.inv
    have htot := hI.files.total
    have hfr := free_ok w2 Sd [] f d l bf F hF hI.files
    have hus := fun w' (c : Chg [] w2 w') => used_ok w' Sd [] f d l bf F (hF.chg0 c) _ hI.files (by omega)
    obtain ⟨fr, hfre⟩ : ∃ fr, allF F - (blks F.files).length = fr := ⟨_, rfl⟩
    obtain ⟨us, huse⟩ : ∃ us, (blks F.files).length = us := ⟨_, rfl⟩
    obtain ⟨al, hale⟩ : ∃ al, allF F = al := ⟨_, rfl⟩
    obtain ⟨e1, e2, e3, e4⟩ := fb_num (a := fr) (u := us) (al := al) (n := N1) (r := R1) (m := M1) (by omega) (by omega) g3
    rw [hfre] at hfr
    rw [huse] at hus
    obtain ⟨y1, hy1⟩ : ∃ y1, N1 - R1 = y1 := ⟨_, rfl⟩
    obtain ⟨y2, hy2⟩ : ∃ y2, y1 - 3 = y2 := ⟨_, rfl⟩
    rw [hy1] at e2 e3 e4
    rw [hy2] at e3 e4
    have e1w := wIq e1
    have e2w := wIq e2
    have e3w := wIq e3
    have e4w := wIq e4
    have tne : ((al : Int) != (al : Int)) = false := by simp
    have HH := Lib.hid (And.intro hI (And.intro hF (And.intro hnw (And.intro (c1.nil c2) (And.intro hale (And.intro huse (And.intro g3 (show al ≤ N1 by omega))))))))
    have hus2 := Lib.hid hus
    clear hm1 c1 c2 h4 h300 hfm hM hF hnw g1 g2 g3 g4 hI htot hfre huse hale hy1 hy2
    go_wp2_with fail
    refine hfr.mono ?_
    rintro e w3 ⟨rfl, c3⟩
    have hu3 := hus w3 c3
    clear hfr hus
    go_wp2_with fail
    refine hu3.mono ?_
    rintro e w4 ⟨rfl, c4⟩
    have C4 := Lib.hid (c3.nil c4)
    clear hu3 c3 c4
    have hn4 := HH.out.2.2.2.2.2.2.1
    go_wp2_with (first
      | (at_make; refine wpList_mk rfl _ _ 58 rfl sl_bool rfl .i64 .i64 N1 rfl rfl rfl rfl (by omega) (by omega) ?_; intro w5 ho5 c5 hsz5)
      | fail)
    obtain ⟨hI, hF, hnw, c02, hale, huse, -, haln⟩ := HH.out
    obtain ⟨G, hG⟩ : ∃ G, w4.heap.size = G := ⟨_, rfl⟩
    obtain ⟨NF, hNF⟩ : ∃ NF, F.files.length = NF := ⟨_, rfl⟩
    have c25 : Chg [] w2 w5 := C4.out.nil c5
    have hF5 := hF.chg0 c25
    have hli := list_ok w5 Sd [] f d l bf F hF5 (by have := hI.files.few; omega)
    rw [hNF] at hli
    have HG5 := Lib.hid (show w2.heap.size ≤ G by rw [← hG]; exact C4.out.size)
    rw [hG] at ho5 hsz5 ⊢
    have ho0 : Go.Aq.Own w5 4 1 (.slice (some ⟨G, 0, none⟩) N1 N1) N1 (boolsU N1 (fun k => decide (k ∈ blks (F.files.take 0)))) := by
      have h2 : boolsU N1 (fun k => decide (k ∈ blks (F.files.take 0))) = List.replicate N1 (.bool false) := by
        refine List.ext_getElem (by simp [boolsU]) fun i h1 h2 => by simp [boolsU, blks]
      rw [h2]; exact ho5
    have H5 := Lib.hid (And.intro c25 (And.intro hF5 (And.intro hNF (And.intro ho0 hsz5))))
    clear hI hF hnw c02 hale huse haln c5 ho5 hsz5 hG hNF c25 hF5 ho0 e1 e2 e3 e4 e1w e2w e3w e4w
    refine hli.mono ?_
    rintro e w6 ⟨v6, rfl, hF6⟩
    have hnf : NF ≤ 400 := by rw [← H5.out.2.2.1]; exact HH.out.1.files.few
    obtain ⟨an, cn, rfl, hcn⟩ := hF6.shape
    have H6 := Lib.hid hF6
    clear hli hF6
    go_wp2_with fail
    go_loopg [12, 14, 15, 16] NF (fun k (v12 v14 v15 v16 : Value) wr => ∃ (i used : Nat), v14 = .int .i64 i ∧ v12 = .int .i64 used ∧ Go.Aq.Own wr 4 1 (.slice (some ⟨G, 0, none⟩) N1 N1) N1 (boolsU N1 (fun k => decide (k ∈ blks (F.files.take i)))) ∧ Hid (i + k = NF ∧ used = (blks (F.files.take i)).length ∧ Chg [] w2 wr ∧ Chg [G] w6 wr))
    case atStart =>
      exact ⟨0, 0, rfl, rfl, H5.out.2.2.2.1.chg H6.out.chg (fun _ _ => by simp), Nat.zero_add _, rfl, H5.out.1.nil H6.out.chg, Chg.refl _ _⟩
    case round =>
      obtain ⟨i, used, rfl, rfl, hO, HJ⟩ := hrel
      by_cases hi : i < NF
      · have t0 : decide ((i : Int) < (NF : Int)) = true := by simp; omega
        have t0' : decide (i < NF) = true := by simp; omega
        obtain ⟨hik, hus, cw2, cG⟩ := HJ.out
        obtain ⟨hI, hF, hnw, c02, hale, huse, -, haln⟩ := HH.out
        have hil : i < F.files.length := by rw [H5.out.2.2.1]; exact hi
        obtain ⟨sx, hsx⟩ : ∃ sx, F.files[i]'hil = sx := ⟨_, rfl⟩
        obtain ⟨s, x⟩ := sx
        have hmem : (s, x) ∈ F.files := by rw [← hsx]; exact List.getElem_mem hil
        obtain ⟨q1, q2, q3, q4, q5, q6, q7⟩ := hI.at hmem
        have hbl := blocks_ok wr Sd [] f d l bf F (hF.chg0 cw2) s q1 (by rw [q2]; simp only [Option.getD_some]; omega)
        rw [q2] at hbl
        simp only [Option.getD_some] at hbl
        have hnS : Sees wr 1 (.slice an NF cn) NF (names (F.files.map (·.1))) := H6.out.own.sees.chg cG (fun t ht ht' => by
          simp at ht'; subst ht'
          have h1 := H6.out.new t (eyes_own _ t ht)
          have h2 := H5.out.2.2.2.2
          omega)
        obtain ⟨gn, on, cn', e, -, hca⟩ := hnS.at1 (by omega)
        cases e
        have a0 := hca i hi
        have b0 : (names (F.files.map (·.1)))[i]? = some (.string (str s)) := by unfold names; rw [List.map_map, List.getElem?_map, List.getElem?_eq_getElem hil, hsx]; rfl
        rw [b0] at a0
        obtain ⟨m, hm⟩ : ∃ m, x.blocks.length = m := ⟨_, rfl⟩
        rw [hm] at hbl q4
        have hszs := fun w' (c : Chg [] wr w') => size_ok w' Sd [] f d l bf F (hF.chg0 (cw2.nil c)) s q1
        rw [q2] at hszs
        simp only at hszs
        have hnms := fun w' => name_ok w' s (Nat.le_trans (nameOk_len (hI.files.name _ hmem)) (by decide))
        rw [hI.files.name _ hmem] at hnms
        obtain ⟨z, hz⟩ : ∃ z, x.size = z := ⟨_, rfl⟩
        rw [hz] at hszs q7
        obtain ⟨f1, f2, f3, f4⟩ := fb_cnt z q7
        have hmz : cnt z = m := by rw [← hm, ← hz]; exact (hI.files.size _ hmem).2.symm
        rw [hmz] at f3 f4
        obtain ⟨z1, hz1⟩ : ∃ z1, z + 256 = z1 := ⟨_, rfl⟩
        obtain ⟨z2, hz2⟩ : ∃ z2, z + 255 = z2 := ⟨_, rfl⟩
        rw [hz1] at f1 f2
        rw [hz2] at f2 f3
        have HQ := Lib.hid (And.intro (lg1 hik hi) (And.intro hus (And.intro cw2 (And.intro cG (And.intro hmem (And.intro (show F.files[i]? = some (s, x) by rw [List.getElem?_eq_getElem hil, hsx]) (And.intro q4 (And.intro q5 hm))))))))
        have hnames : ∀ i1, i = i1 + 1 → ∃ s1 : Nm, wr.cell? ⟨gn, on + i1, none⟩ = some (.string (str s1)) ∧ decide (s ≤ s1) = false := fun i1 h1 => by
          have hi1 : i1 < F.files.length := by omega
          have a1 := hca i1 (by omega)
          refine ⟨(F.files[i1]'hi1).1, ?_, ?_⟩
          · rw [a1]; unfold names; rw [List.map_map, List.getElem?_map, List.getElem?_eq_getElem hi1]; rfl
          · have h2 := List.pairwise_iff_getElem.1 hI.files.asc i1 i hi1 hil (by omega)
            rw [hsx] at h2
            simpa using h2
        clear hik hus cw2 cG hI hF hnw c02 hale huse haln hil hsx hmem q1 q2 q3 q5 q6 q7 hnS hca b0 hz hmz hz1 hz2 hm
        have HFN := Lib.hid (And.intro f1 (And.intro f2 (And.intro f3 f4)))
        clear f1 f2 f3 f4
        go_wp2_with fail
        refine hbl.mono ?_
        rintro e w8 ⟨vb, rfl, hFb⟩
        obtain ⟨ab, cb, rfl, hcb⟩ := hFb.shape
        have a0 := hFb.chg.cell_some a0 (by simp)
        have hO8 := hO.chg hFb.chg (fun _ _ => by simp)
        have hsz := fun w' (c : Chg [] w8 w') => hszs w' (hFb.chg.nil c)
        have hnm := fun w' => hnms w'
        have H8 := Lib.hid (And.intro hFb (hO.lt G (by simp [Value.ownBlock])))
        have hnames8 : ∀ i1, i = i1 + 1 → ∃ s1 : Nm, w8.cell? ⟨gn, on + i1, none⟩ = some (.string (str s1)) ∧ decide (s ≤ s1) = false := fun i1 h1 => by
          obtain ⟨s1, h2, h3⟩ := hnames i1 h1
          exact ⟨s1, hFb.chg.cell_some h2 (by simp), h3⟩
        clear hbl hFb hO hszs hnms hnames
        go_upto_region 16 with (fail)
        by_cases hi0 : i = 0
        · have g0 : decide ((0 : Int) < (i : Int)) = false := by simp; omega
          have g0' : decide (0 < i) = false := by simp; omega
          clear hi0 hnames8
          obtain ⟨f1, f2, f3, f4⟩ := HFN.out
          have f1w := wIq f1
          have f2w := wIq f2
          have f4w := wIq f4
          obtain ⟨W0, hW0⟩ : ∃ W0, w8.drew = W0 := ⟨_, rfl⟩
          have cd : Chg [] w8 W0 := by rw [← hW0]; exact (Chg.refl _ _).drew
          refine wp_region_U [] (fun _ => false) (by kernel_rfl) ?_
          rw [hW0]
          clear hW0
          have C0 : Chg [] W0 W0 := Chg.refl _ _
          refine wpAnyU_take 0 (v := (.slice ab m cb)) C0 rfl (by kernel_rfl) (by kernel_rfl) (by kernel_rfl) (by kernel_rfl) (fun _ _ _ h => h) (by rfl) (fun w4 c4 => ?_) ?_
          · go_simp
          try simp only [Act.put, List.getElem_toArray, List.getElem_cons_succ, List.getElem_cons_zero, List.setIfInBounds_toArray, List.set_cons_zero, List.set_cons_succ]
          refine wpAnyU_take 1 (v := (.int .i64 (m : Int))) C0 rfl (by kernel_rfl) (by kernel_rfl) (by kernel_rfl) (by kernel_rfl) (fun _ _ _ h => h) (by rfl) (fun w4 c4 => ?_) ?_
          · go_simp
          try simp only [Act.put, List.getElem_toArray, List.getElem_cons_succ, List.getElem_cons_zero, List.setIfInBounds_toArray, List.set_cons_zero, List.set_cons_succ]
          refine wpAnyU_take 2 (v := (.pointer (some ⟨f, 0, none⟩))) C0 rfl (by kernel_rfl) (by kernel_rfl) (by kernel_rfl) (by kernel_rfl) (fun _ _ _ h => h) (by rfl) (fun w4 c4 => ?_) ?_
          · go_simp
          try simp only [Act.put, List.getElem_toArray, List.getElem_cons_succ, List.getElem_cons_zero, List.setIfInBounds_toArray, List.set_cons_zero, List.set_cons_succ]
          refine wpAnyU_take 3 (v := (.slice (some ⟨gn, on, none⟩) NF cn)) C0 rfl (by kernel_rfl) (by kernel_rfl) (by kernel_rfl) (by kernel_rfl) (fun _ _ _ h => h) (by rfl) (fun w4 c4 => ?_) ?_
          · go_simp
          try simp only [Act.put, List.getElem_toArray, List.getElem_cons_succ, List.getElem_cons_zero, List.setIfInBounds_toArray, List.set_cons_zero, List.set_cons_succ]
          refine wpAnyU_take 4 (v := (.int .i64 (i : Int))) C0 rfl (by kernel_rfl) (by kernel_rfl) (by kernel_rfl) (by kernel_rfl) (fun _ _ _ h => h) (by rfl) (fun w4 c4 => ?_) ?_
          · go_simp
          try simp only [Act.put, List.getElem_toArray, List.getElem_cons_succ, List.getElem_cons_zero, List.setIfInBounds_toArray, List.set_cons_zero, List.set_cons_succ]
          refine wpAnyU_take 5 (v := (.pointer (some ⟨gn, on + i, none⟩))) C0 rfl (by kernel_rfl) (by kernel_rfl) (by kernel_rfl) (by kernel_rfl) (fun _ _ _ h => h) (by rfl) (fun w4 c4 => ?_) ?_
          · go_simp
          try simp only [Act.put, List.getElem_toArray, List.getElem_cons_succ, List.getElem_cons_zero, List.setIfInBounds_toArray, List.set_cons_zero, List.set_cons_succ]
          refine wpAnyU_take 6 (v := (.string (str s))) C0 rfl (by kernel_rfl) (by kernel_rfl) (by kernel_rfl) (by kernel_rfl) (fun _ _ _ h => h) (by rfl) (fun w4 c4 => ?_) ?_
          · have q1 := (cd.nil c4).cell_some a0 (by simp)
            go_simp
          try simp only [Act.put, List.getElem_toArray, List.getElem_cons_succ, List.getElem_cons_zero, List.setIfInBounds_toArray, List.set_cons_zero, List.set_cons_succ]
          refine wpAnyU_only 7 rfl (by kernel_rfl) (by rfl) (by rfl) ?_
          go_simp
          refine (hsz W0 cd).mono ?_
          rintro e w9 ⟨rfl, C7⟩
          refine ⟨C7, ?_⟩
          try simp only [Act.put, List.getElem_toArray, List.getElem_cons_succ, List.getElem_cons_zero, List.setIfInBounds_toArray, List.set_cons_zero, List.set_cons_succ]
          refine wpAnyU_take 8 (v := (.int .i64 (z1 : Int))) C7 rfl (by kernel_rfl) (by kernel_rfl) (by kernel_rfl) (by kernel_rfl) (fun _ _ _ h => h) (by rfl) (fun w4 c4 => ?_) ?_
          · go_simp
          try simp only [Act.put, List.getElem_toArray, List.getElem_cons_succ, List.getElem_cons_zero, List.setIfInBounds_toArray, List.set_cons_zero, List.set_cons_succ]
          refine wpAnyU_take 9 (v := (.int .i64 (z2 : Int))) C7 rfl (by kernel_rfl) (by kernel_rfl) (by kernel_rfl) (by kernel_rfl) (fun _ _ _ h => h) (by rfl) (fun w4 c4 => ?_) ?_
          · go_simp
          try simp only [Act.put, List.getElem_toArray, List.getElem_cons_succ, List.getElem_cons_zero, List.setIfInBounds_toArray, List.set_cons_zero, List.set_cons_succ]
          refine wpAnyU_take 10 (v := (.int .i64 (m : Int))) C7 rfl (by kernel_rfl) (by kernel_rfl) (by kernel_rfl) (by kernel_rfl) (fun _ _ _ h => h) (by rfl) (fun w4 c4 => ?_) ?_
          · go_simp
          try simp only [Act.put, List.getElem_toArray, List.getElem_cons_succ, List.getElem_cons_zero, List.setIfInBounds_toArray, List.set_cons_zero, List.set_cons_succ]
          refine wpAnyU_take 11 (v := (.bool false)) C7 rfl (by kernel_rfl) (by kernel_rfl) (by kernel_rfl) (by kernel_rfl) (fun _ _ _ h => h) (by rfl) (fun w4 c4 => ?_) ?_
          · go_simp
          try simp only [Act.put, List.getElem_toArray, List.getElem_cons_succ, List.getElem_cons_zero, List.setIfInBounds_toArray, List.set_cons_zero, List.set_cons_succ]
          refine wpAnyU_take 12 (v := (.bool false)) C7 rfl (by kernel_rfl) (by kernel_rfl) (by kernel_rfl) (by kernel_rfl) (fun _ _ _ h => h) (by rfl) (fun w4 c4 => ?_) ?_
          · go_simp
          try simp only [Act.put, List.getElem_toArray, List.getElem_cons_succ, List.getElem_cons_zero, List.setIfInBounds_toArray, List.set_cons_zero, List.set_cons_succ]
          refine wpAnyU_take 13 (v := (.int .i64 (i : Int))) C7 rfl (by kernel_rfl) (by kernel_rfl) (by kernel_rfl) (by kernel_rfl) (fun _ _ _ h => h) (by rfl) (fun w4 c4 => ?_) ?_
          · go_simp
          try simp only [Act.put, List.getElem_toArray, List.getElem_cons_succ, List.getElem_cons_zero, List.setIfInBounds_toArray, List.set_cons_zero, List.set_cons_succ]
          refine wpAnyU_take 14 (v := (.bool false)) C7 rfl (by kernel_rfl) (by kernel_rfl) (by kernel_rfl) (by kernel_rfl) (fun _ _ _ h => h) (by rfl) (fun w4 c4 => ?_) ?_
          · go_simp
          try simp only [Act.put, List.getElem_toArray, List.getElem_cons_succ, List.getElem_cons_zero, List.setIfInBounds_toArray, List.set_cons_zero, List.set_cons_succ]
          refine wpAnyU_take 15 (v := (.bool false)) C7 rfl (by kernel_rfl) (by kernel_rfl) (by kernel_rfl) (by kernel_rfl) (fun _ _ _ h => h) (by rfl) (fun w4 c4 => ?_) ?_
          · go_simp
          try simp only [Act.put, List.getElem_toArray, List.getElem_cons_succ, List.getElem_cons_zero, List.setIfInBounds_toArray, List.set_cons_zero, List.set_cons_succ]
          refine wpAnyU_skip 16 C7 rfl (by kernel_rfl) (by kernel_rfl) (by kernel_rfl) (by kernel_rfl) (fun _ _ _ h => h) (by rfl) ?_
          try simp only [Act.put, List.getElem_toArray, List.getElem_cons_succ, List.getElem_cons_zero, List.setIfInBounds_toArray, List.set_cons_zero, List.set_cons_succ]
          refine wpAnyU_skip 17 C7 rfl (by kernel_rfl) (by kernel_rfl) (by kernel_rfl) (by kernel_rfl) (fun _ _ _ h => h) (by rfl) ?_
          try simp only [Act.put, List.getElem_toArray, List.getElem_cons_succ, List.getElem_cons_zero, List.setIfInBounds_toArray, List.set_cons_zero, List.set_cons_succ]
          refine wpAnyU_skip 18 C7 rfl (by kernel_rfl) (by kernel_rfl) (by kernel_rfl) (by kernel_rfl) (fun _ _ _ h => h) (by rfl) ?_
          try simp only [Act.put, List.getElem_toArray, List.getElem_cons_succ, List.getElem_cons_zero, List.setIfInBounds_toArray, List.set_cons_zero, List.set_cons_succ]
          refine wpAnyU_skip 19 C7 rfl (by kernel_rfl) (by kernel_rfl) (by kernel_rfl) (by kernel_rfl) (fun _ _ _ h => h) (by rfl) ?_
          try simp only [Act.put, List.getElem_toArray, List.getElem_cons_succ, List.getElem_cons_zero, List.setIfInBounds_toArray, List.set_cons_zero, List.set_cons_succ]
          refine wpAnyU_skip 20 C7 rfl (by kernel_rfl) (by kernel_rfl) (by kernel_rfl) (by kernel_rfl) (fun _ _ _ h => h) (by rfl) ?_
          try simp only [Act.put, List.getElem_toArray, List.getElem_cons_succ, List.getElem_cons_zero, List.setIfInBounds_toArray, List.set_cons_zero, List.set_cons_succ]
          refine wpAnyU_skip 21 C7 rfl (by kernel_rfl) (by kernel_rfl) (by kernel_rfl) (by kernel_rfl) (fun _ _ _ h => h) (by rfl) ?_
          try simp only [Act.put, List.getElem_toArray, List.getElem_cons_succ, List.getElem_cons_zero, List.setIfInBounds_toArray, List.set_cons_zero, List.set_cons_succ]
          refine wpAnyU_skip 22 C7 rfl (by kernel_rfl) (by kernel_rfl) (by kernel_rfl) (by kernel_rfl) (fun _ _ _ h => h) (by rfl) ?_
          try simp only [Act.put, List.getElem_toArray, List.getElem_cons_succ, List.getElem_cons_zero, List.setIfInBounds_toArray, List.set_cons_zero, List.set_cons_succ]
          refine wpAnyU_skip 23 C7 rfl (by kernel_rfl) (by kernel_rfl) (by kernel_rfl) (by kernel_rfl) (fun _ _ _ h => h) (by rfl) ?_
          try simp only [Act.put, List.getElem_toArray, List.getElem_cons_succ, List.getElem_cons_zero, List.setIfInBounds_toArray, List.set_cons_zero, List.set_cons_succ]
          refine wpAnyU_skip 24 C7 rfl (by kernel_rfl) (by kernel_rfl) (by kernel_rfl) (by kernel_rfl) (fun _ _ _ h => h) (by rfl) ?_
          try simp only [Act.put, List.getElem_toArray, List.getElem_cons_succ, List.getElem_cons_zero, List.setIfInBounds_toArray, List.set_cons_zero, List.set_cons_succ]
          refine wpAnyU_skip 25 C7 rfl (by kernel_rfl) (by kernel_rfl) (by kernel_rfl) (by kernel_rfl) (fun _ _ _ h => h) (by rfl) ?_
          try simp only [Act.put, List.getElem_toArray, List.getElem_cons_succ, List.getElem_cons_zero, List.setIfInBounds_toArray, List.set_cons_zero, List.set_cons_succ]
          refine wpAnyU_take 26 (v := (.bool false)) C7 rfl (by kernel_rfl) (by kernel_rfl) (by kernel_rfl) (by kernel_rfl) (fun _ _ _ h => h) (by rfl) (fun w4 c4 => ?_) ?_
          · go_simp
          try simp only [Act.put, List.getElem_toArray, List.getElem_cons_succ, List.getElem_cons_zero, List.setIfInBounds_toArray, List.set_cons_zero, List.set_cons_succ]
          refine wpAnyU_take 27 (v := (.bool false)) C7 rfl (by kernel_rfl) (by kernel_rfl) (by kernel_rfl) (by kernel_rfl) (fun _ _ _ h => h) (by rfl) (fun w4 c4 => ?_) ?_
          · go_simp
          try simp only [Act.put, List.getElem_toArray, List.getElem_cons_succ, List.getElem_cons_zero, List.setIfInBounds_toArray, List.set_cons_zero, List.set_cons_succ]
          refine wpAnyU_take 28 (v := (.bool false)) C7 rfl (by kernel_rfl) (by kernel_rfl) (by kernel_rfl) (by kernel_rfl) (fun _ _ _ h => h) (by rfl) (fun w4 c4 => ?_) ?_
          · go_simp
          try simp only [Act.put, List.getElem_toArray, List.getElem_cons_succ, List.getElem_cons_zero, List.setIfInBounds_toArray, List.set_cons_zero, List.set_cons_succ]
          refine wpAnyU_take 29 (v := (.slice (some ⟨gn, on, none⟩) NF cn)) C7 rfl (by kernel_rfl) (by kernel_rfl) (by kernel_rfl) (by kernel_rfl) (fun _ _ _ h => h) (by rfl) (fun w4 c4 => ?_) ?_
          · go_simp
          try simp only [Act.put, List.getElem_toArray, List.getElem_cons_succ, List.getElem_cons_zero, List.setIfInBounds_toArray, List.set_cons_zero, List.set_cons_succ]
          refine wpAnyU_take 30 (v := (.int .i64 (i : Int))) C7 rfl (by kernel_rfl) (by kernel_rfl) (by kernel_rfl) (by kernel_rfl) (fun _ _ _ h => h) (by rfl) (fun w4 c4 => ?_) ?_
          · go_simp
          try simp only [Act.put, List.getElem_toArray, List.getElem_cons_succ, List.getElem_cons_zero, List.setIfInBounds_toArray, List.set_cons_zero, List.set_cons_succ]
          refine wpAnyU_take 31 (v := (.pointer (some ⟨gn, on + i, none⟩))) C7 rfl (by kernel_rfl) (by kernel_rfl) (by kernel_rfl) (by kernel_rfl) (fun _ _ _ h => h) (by rfl) (fun w4 c4 => ?_) ?_
          · go_simp
          try simp only [Act.put, List.getElem_toArray, List.getElem_cons_succ, List.getElem_cons_zero, List.setIfInBounds_toArray, List.set_cons_zero, List.set_cons_succ]
          refine wpAnyU_take 32 (v := (.string (str s))) C7 rfl (by kernel_rfl) (by kernel_rfl) (by kernel_rfl) (by kernel_rfl) (fun _ _ _ h => h) (by rfl) (fun w4 c4 => ?_) ?_
          · have q1 := (cd.nil c4).cell_some a0 (by simp)
            go_simp
          try simp only [Act.put, List.getElem_toArray, List.getElem_cons_succ, List.getElem_cons_zero, List.setIfInBounds_toArray, List.set_cons_zero, List.set_cons_succ]
          refine wpAnyU_only 33 rfl (by kernel_rfl) (by rfl) (by rfl) ?_
          go_simp
          refine (hnm w9).mono ?_
          rintro e w10 ⟨rfl, c10⟩
          have C10 : Chg [] W0 w10 := C7.nil c10
          refine ⟨C10, ?_⟩
          try simp only [Act.put, List.getElem_toArray, List.getElem_cons_succ, List.getElem_cons_zero, List.setIfInBounds_toArray, List.set_cons_zero, List.set_cons_succ]
          refine wpAnyU_take 34 (v := (.bool false)) C10 rfl (by kernel_rfl) (by kernel_rfl) (by kernel_rfl) (by kernel_rfl) (fun _ _ _ h => h) (by rfl) (fun w4 c4 => ?_) ?_
          · go_simp
          try simp only [Act.put, List.getElem_toArray, List.getElem_cons_succ, List.getElem_cons_zero, List.setIfInBounds_toArray, List.set_cons_zero, List.set_cons_succ]
          refine wpAnyU_take 35 (v := (.bool false)) C10 rfl (by kernel_rfl) (by kernel_rfl) (by kernel_rfl) (by kernel_rfl) (fun _ _ _ h => h) (by rfl) (fun w4 c4 => ?_) ?_
          · go_simp
          try simp only [Act.put, List.getElem_toArray, List.getElem_cons_succ, List.getElem_cons_zero, List.setIfInBounds_toArray, List.set_cons_zero, List.set_cons_succ]
          refine wpAnyU_done (by kernel_rfl) ?_ _
          have C8 : Chg [] w8 w10 := cd.nil C10
          clear f1 f2 f3 f4 f1w f2w f4w
          (try clear d1 d1w)
          have hFb10 := H8.out.1.to C8
          have hO10 := hO8.chg C8 (fun _ _ => by simp)
          have h8G : G < wr.heap.size := H8.out.2
          obtain ⟨hq, hus, cw2, cG, hmem, hsx, q4, q5, hm⟩ := HQ.out
          have hil : i < F.files.length := (List.getElem?_eq_some_iff.1 hsx).1
          have hsx' : F.files[i]'hil = (s, x) := (List.getElem?_eq_some_iff.1 hsx).2
          have hsp := blks_split HH.out.1.files hil
          have hbt := blks_take hil
          rw [hsx'] at hsp hbt
          simp only at hsp hbt
          have hus4 : used + m ≤ 4096 := by
            have h1 := HH.out.1.files.total
            have h2 : (blks (F.files.take (i + 1))).length ≤ (blks F.files).length := by
              have e : blks F.files = blks (F.files.take (i + 1)) ++ blks (F.files.drop (i + 1)) := by
                unfold blks
                rw [← List.flatMap_append, List.take_append_drop]
              rw [e, List.length_append]
              exact Nat.le_add_right _ _
            rw [hbt, List.length_append, hm, ← hus] at h2
            have h3 := HH.out.2.2.2.2.2.2.1
            have h4 := HH.out.2.2.2.2.2.2.2
            have h5 := HH.out.2.2.2.2.1
            omega
          have HI := Lib.hid (And.intro hFb10 (And.intro h8G (And.intro hsp (And.intro hbt (And.intro hus4 C8)))))
          have hO10' : Go.Aq.Own w10 4 1 (.slice (some ⟨G, 0, none⟩) N1 N1) N1 (boolsU N1 (fun k => decide (k ∈ blks (F.files.take i)) || decide (k ∈ x.blocks.take 0))) := by
            have e : (fun k => decide (k ∈ blks (F.files.take i)) || decide (k ∈ x.blocks.take 0)) = fun k => decide (k ∈ blks (F.files.take i)) := by funext k; simp
            rw [e]; exact hO10
          clear C0 C7 C10 c10 cd hsz hnm a0 hO8 hO10 C8 hFb10 h8G hq hus cw2 cG hmem hsx q5 hm hil hsx' hsp hbt hus4 g0 g0'
          go_wp2_with fail
          obtain ⟨gk0, hgk0⟩ : ∃ g, g = gk := ⟨_, rfl⟩
          obtain ⟨wr0, hwr0⟩ : ∃ g, g = wr := ⟨_, rfl⟩
          subst hgk0 hwr0
          go_loopg [12, 16] m (fun k (v12 v16 : Value) wy => ∃ j : Nat, v16 = .int .i64 j ∧ v12 = .int .i64 ((used + j : Nat) : Int) ∧ Go.Aq.Own wy 4 1 (.slice (some ⟨G, 0, none⟩) N1 N1) N1 (boolsU N1 (fun k => decide (k ∈ blks (F.files.take i)) || decide (k ∈ x.blocks.take j))) ∧ Hid (j + k = m ∧ Chg [G] w10 wy))
          case atStart => exact ⟨0, rfl, rfl, hO10', Nat.zero_add _, Chg.refl _ _⟩
          case round =>
            clear hO10'
            obtain ⟨j, rfl, rfl, hu, HK⟩ := hrel
            by_cases hj : j < m
            · have t0 : decide ((j : Int) < (m : Int)) = true := by simp; omega
              have t0' : decide (j < m) = true := by simp; omega
              obtain ⟨hFb10, h8G, hsp, hbt, hus4, C8⟩ := HI.out
              have hm := HQ.out.2.2.2.2.2.2.2.2
              have hjl : j < x.blocks.length := by rw [hm]; exact hj
              obtain ⟨kb, hkb⟩ : ∃ kb, x.blocks[j]'hjl = kb := ⟨_, rfl⟩
              have hkm : kb ∈ x.blocks := by rw [← hkb]; exact List.getElem_mem hjl
              have hka := HQ.out.2.2.2.2.2.2.2.1 kb hkm
              rw [HH.out.2.2.2.2.1] at hka
              have hkN : kb < N1 := Nat.lt_of_lt_of_le hka HH.out.2.2.2.2.2.2.2
              have hbS : Sees wr 1 (.slice ab m cb) m (ints x.blocks) := hFb10.own.sees.chg HK.out.2 (fun t ht ht' => by simp at ht'; subst ht'; have := hFb10.new t (eyes_own _ t ht); omega)
              obtain ⟨gb, ob, cb', e, -, hcb2⟩ := hbS.at1 (by omega)
              cases e
              have z0 := hcb2 j hj
              have z0' : (ints x.blocks)[j]? = some (.int .i64 (kb : Int)) := by simp [ints, hjl, hkb]
              rw [z0'] at z0
              have z1 := Go.Aq.Own.cellAt hu kb (by omega)
              have huk : (decide (kb ∈ blks (F.files.take i)) || decide (kb ∈ x.blocks.take j)) = false := by
                simp only [Bool.or_eq_false_iff, decide_eq_false_iff_not]
                refine ⟨hsp.2 kb hkm, fun hh => ?_⟩
                obtain ⟨j', hj', e'⟩ := List.getElem_of_mem hh
                simp only [List.length_take] at hj'
                rw [List.getElem_take] at e'
                have := nodup_get hsp.1 (by omega) hjl (e'.trans hkb.symm)
                omega
              rw [boolsU_get hkN, huk] at z1
              have z2 := Go.Aq.Own.frozenAt hu kb
              have s1 : decide ((kb : Int) < 0) = false := decide_eq_false (by omega)
              have s2 : decide ((al : Int) ≤ (kb : Int)) = false := by simp; omega
              have s2' : decide (al ≤ kb) = false := by simp; omega
              obtain ⟨uj, huj⟩ : ∃ uj, used + j = uj := ⟨_, rfl⟩
              have htk : x.blocks.take (j + 1) = x.blocks.take j ++ [kb] := by rw [List.take_succ_eq_append_getElem hjl, hkb]
              have HP := Lib.hid (And.intro (lg1 HK.out.1 hj) (And.intro htk (And.intro huj (And.intro (show j ≤ 4096 by omega) hkN))))
              have b1 : j + 1 ≤ 4096 := by omega
              have b2 : uj + 1 ≤ 4096 := by omega
              rw [huj]
              have d1 : wrap64 ((j : Int) + 1) = ((j + 1 : Nat) : Int) := us_num (n := j) (m := 1) (q := 4096) b1 (Nat.le_refl _)
              have d2 : wrap64 ((uj : Int) + 1) = ((uj + 1 : Nat) : Int) := us_num (n := uj) (m := 1) (q := 4096) b2 (Nat.le_refl _)
              have d1w := wIq d1
              have d2w := wIq d2
              clear hFb10 h8G hsp hbt hus4 C8 hm hjl hkb hkm hka hbS hcb2 z0' huk huj htk b1 b2
              have HU := Lib.hid hu
              clear hu
              go_wp2_with fail
              go_roundg (gk - 1)
              case measure => exact HP.out.1.2
              case rel =>
                obtain ⟨hq2, htk, huj, -, hkN⟩ := HP.out
                have hs := Go.Aq.Own.set HU.out kb (.bool true)
                rw [boolsU_set] at hs
                have hcG : Chg [G] wr (wr.setCell ⟨G, kb, none⟩ (.bool true)) := (Chg.refl _ _).setCell (by simp) _
                refine ⟨j + 1, by simp, by rw [← huj]; simp [Int.add_assoc], ?_, hq2.1, HK.out.2.tr hcG⟩
                have e : (fun k => decide (k ∈ blks (F.files.take i)) || decide (k ∈ x.blocks.take (j + 1))) = fun k => (decide (k ∈ blks (F.files.take i)) || decide (k ∈ x.blocks.take j)) || decide (k = kb) := by
                  funext k
                  rw [htk, Bool.eq_iff_iff]
                  simp only [Bool.or_eq_true, decide_eq_true_eq, List.mem_append, List.mem_singleton, or_assoc]
                rw [e]
                exact hs
            · have t0 : decide ((j : Int) < (m : Int)) = false := by simp; omega
              have t0' : decide (j < m) = false := by simp; omega
              have hjm : j = m := lg2 HK.out.1 hj
              have HU := Lib.hid (And.intro hu hjm)
              have e2 : wrap64 ((i : Int) + 1) = ((i + 1 : Nat) : Int) := us_num (n := i) (m := 1) (q := 4096) (by omega) (Nat.le_refl _)
              have e2w := wIq e2
              clear hu hj hjm
              go_wp2_with fail
              go_roundg (gk0 - 1)
              case measure => exact HQ.out.1.2
              case rel =>
                clear e2 e2w
                obtain ⟨hq, hus, cw2, cG, hmem, hsx, q4, q5, hm⟩ := HQ.out
                obtain ⟨hFb10, h8G, hsp, hbt, hus4, C8⟩ := HI.out
                obtain ⟨hu, hjm⟩ := HU.out
                have hcw : Chg [] wr0 w10 := H8.out.1.chg.nil C8
                refine ⟨i + 1, used + j, by simp, rfl, ?_, hq.1, ?_, ?_, ?_⟩
                · rw [hbt]
                  have e : (fun k => decide (k ∈ blks (F.files.take i) ++ x.blocks)) = fun k => decide (k ∈ blks (F.files.take i)) || decide (k ∈ x.blocks.take j) := by
                    funext k
                    rw [List.take_of_length_le (l := x.blocks) (by omega), Bool.eq_iff_iff]
                    simp only [Bool.or_eq_true, decide_eq_true_eq, List.mem_append]
                  rw [e]
                  exact hu
                · rw [hbt, List.length_append, hm, hus, hjm]
                · exact (cw2.nil hcw).trans HK.out.2 (fun t ht => .inr (by
                    simp at ht; subst ht
                    have h2 := H5.out.2.2.2.2
                    have h3 := HG5.out
                    omega))
                · exact (cG.nil hcw).tr HK.out.2
        · have g0 : decide ((0 : Int) < (i : Int)) = true := by simp; omega
          have g0' : decide (0 < i) = true := by simp; omega
          obtain ⟨i1, hi1⟩ : ∃ i1, i = i1 + 1 := ⟨i - 1, by omega⟩
          obtain ⟨s1, a1, hle⟩ := hnames8 i1 hi1
          have hi1N : i1 < NF := by omega
          have hi1L : i ≤ 1000000 := by omega
          have hlq := fun w => leq_str s s1 9 w
          rw [hle] at hlq
          have d1 : wrap64 ((i : Int) - 1) = (i1 : Int) := e_sub1 hi1 hi1L
          have d1w := wIq d1
          clear hi0 hnames8 hi1 hle hi1L
          obtain ⟨f1, f2, f3, f4⟩ := HFN.out
          have f1w := wIq f1
          have f2w := wIq f2
          have f4w := wIq f4
          obtain ⟨W0, hW0⟩ : ∃ W0, w8.drew = W0 := ⟨_, rfl⟩
          have cd : Chg [] w8 W0 := by rw [← hW0]; exact (Chg.refl _ _).drew
          refine wp_region_U [] (fun _ => false) (by kernel_rfl) ?_
          rw [hW0]
          clear hW0
          have C0 : Chg [] W0 W0 := Chg.refl _ _
          refine wpAnyU_take 0 (v := (.slice ab m cb)) C0 rfl (by kernel_rfl) (by kernel_rfl) (by kernel_rfl) (by kernel_rfl) (fun _ _ _ h => h) (by rfl) (fun w4 c4 => ?_) ?_
          · go_simp
          try simp only [Act.put, List.getElem_toArray, List.getElem_cons_succ, List.getElem_cons_zero, List.setIfInBounds_toArray, List.set_cons_zero, List.set_cons_succ]
          refine wpAnyU_take 1 (v := (.int .i64 (m : Int))) C0 rfl (by kernel_rfl) (by kernel_rfl) (by kernel_rfl) (by kernel_rfl) (fun _ _ _ h => h) (by rfl) (fun w4 c4 => ?_) ?_
          · go_simp
          try simp only [Act.put, List.getElem_toArray, List.getElem_cons_succ, List.getElem_cons_zero, List.setIfInBounds_toArray, List.set_cons_zero, List.set_cons_succ]
          refine wpAnyU_take 2 (v := (.pointer (some ⟨f, 0, none⟩))) C0 rfl (by kernel_rfl) (by kernel_rfl) (by kernel_rfl) (by kernel_rfl) (fun _ _ _ h => h) (by rfl) (fun w4 c4 => ?_) ?_
          · go_simp
          try simp only [Act.put, List.getElem_toArray, List.getElem_cons_succ, List.getElem_cons_zero, List.setIfInBounds_toArray, List.set_cons_zero, List.set_cons_succ]
          refine wpAnyU_take 3 (v := (.slice (some ⟨gn, on, none⟩) NF cn)) C0 rfl (by kernel_rfl) (by kernel_rfl) (by kernel_rfl) (by kernel_rfl) (fun _ _ _ h => h) (by rfl) (fun w4 c4 => ?_) ?_
          · go_simp
          try simp only [Act.put, List.getElem_toArray, List.getElem_cons_succ, List.getElem_cons_zero, List.setIfInBounds_toArray, List.set_cons_zero, List.set_cons_succ]
          refine wpAnyU_take 4 (v := (.int .i64 (i : Int))) C0 rfl (by kernel_rfl) (by kernel_rfl) (by kernel_rfl) (by kernel_rfl) (fun _ _ _ h => h) (by rfl) (fun w4 c4 => ?_) ?_
          · go_simp
          try simp only [Act.put, List.getElem_toArray, List.getElem_cons_succ, List.getElem_cons_zero, List.setIfInBounds_toArray, List.set_cons_zero, List.set_cons_succ]
          refine wpAnyU_take 5 (v := (.pointer (some ⟨gn, on + i, none⟩))) C0 rfl (by kernel_rfl) (by kernel_rfl) (by kernel_rfl) (by kernel_rfl) (fun _ _ _ h => h) (by rfl) (fun w4 c4 => ?_) ?_
          · go_simp
          try simp only [Act.put, List.getElem_toArray, List.getElem_cons_succ, List.getElem_cons_zero, List.setIfInBounds_toArray, List.set_cons_zero, List.set_cons_succ]
          refine wpAnyU_take 6 (v := (.string (str s))) C0 rfl (by kernel_rfl) (by kernel_rfl) (by kernel_rfl) (by kernel_rfl) (fun _ _ _ h => h) (by rfl) (fun w4 c4 => ?_) ?_
          · have q1 := (cd.nil c4).cell_some a0 (by simp)
            go_simp
          try simp only [Act.put, List.getElem_toArray, List.getElem_cons_succ, List.getElem_cons_zero, List.setIfInBounds_toArray, List.set_cons_zero, List.set_cons_succ]
          refine wpAnyU_only 7 rfl (by kernel_rfl) (by rfl) (by rfl) ?_
          go_simp
          refine (hsz W0 cd).mono ?_
          rintro e w9 ⟨rfl, C7⟩
          refine ⟨C7, ?_⟩
          try simp only [Act.put, List.getElem_toArray, List.getElem_cons_succ, List.getElem_cons_zero, List.setIfInBounds_toArray, List.set_cons_zero, List.set_cons_succ]
          refine wpAnyU_take 8 (v := (.int .i64 (z1 : Int))) C7 rfl (by kernel_rfl) (by kernel_rfl) (by kernel_rfl) (by kernel_rfl) (fun _ _ _ h => h) (by rfl) (fun w4 c4 => ?_) ?_
          · go_simp
          try simp only [Act.put, List.getElem_toArray, List.getElem_cons_succ, List.getElem_cons_zero, List.setIfInBounds_toArray, List.set_cons_zero, List.set_cons_succ]
          refine wpAnyU_take 9 (v := (.int .i64 (z2 : Int))) C7 rfl (by kernel_rfl) (by kernel_rfl) (by kernel_rfl) (by kernel_rfl) (fun _ _ _ h => h) (by rfl) (fun w4 c4 => ?_) ?_
          · go_simp
          try simp only [Act.put, List.getElem_toArray, List.getElem_cons_succ, List.getElem_cons_zero, List.setIfInBounds_toArray, List.set_cons_zero, List.set_cons_succ]
          refine wpAnyU_take 10 (v := (.int .i64 (m : Int))) C7 rfl (by kernel_rfl) (by kernel_rfl) (by kernel_rfl) (by kernel_rfl) (fun _ _ _ h => h) (by rfl) (fun w4 c4 => ?_) ?_
          · go_simp
          try simp only [Act.put, List.getElem_toArray, List.getElem_cons_succ, List.getElem_cons_zero, List.setIfInBounds_toArray, List.set_cons_zero, List.set_cons_succ]
          refine wpAnyU_take 11 (v := (.bool false)) C7 rfl (by kernel_rfl) (by kernel_rfl) (by kernel_rfl) (by kernel_rfl) (fun _ _ _ h => h) (by rfl) (fun w4 c4 => ?_) ?_
          · go_simp
          try simp only [Act.put, List.getElem_toArray, List.getElem_cons_succ, List.getElem_cons_zero, List.setIfInBounds_toArray, List.set_cons_zero, List.set_cons_succ]
          refine wpAnyU_take 12 (v := (.bool false)) C7 rfl (by kernel_rfl) (by kernel_rfl) (by kernel_rfl) (by kernel_rfl) (fun _ _ _ h => h) (by rfl) (fun w4 c4 => ?_) ?_
          · go_simp
          try simp only [Act.put, List.getElem_toArray, List.getElem_cons_succ, List.getElem_cons_zero, List.setIfInBounds_toArray, List.set_cons_zero, List.set_cons_succ]
          refine wpAnyU_take 13 (v := (.int .i64 (i : Int))) C7 rfl (by kernel_rfl) (by kernel_rfl) (by kernel_rfl) (by kernel_rfl) (fun _ _ _ h => h) (by rfl) (fun w4 c4 => ?_) ?_
          · go_simp
          try simp only [Act.put, List.getElem_toArray, List.getElem_cons_succ, List.getElem_cons_zero, List.setIfInBounds_toArray, List.set_cons_zero, List.set_cons_succ]
          refine wpAnyU_take 14 (v := (.bool true)) C7 rfl (by kernel_rfl) (by kernel_rfl) (by kernel_rfl) (by kernel_rfl) (fun _ _ _ h => h) (by rfl) (fun w4 c4 => ?_) ?_
          · go_simp
          try simp only [Act.put, List.getElem_toArray, List.getElem_cons_succ, List.getElem_cons_zero, List.setIfInBounds_toArray, List.set_cons_zero, List.set_cons_succ]
          refine wpAnyU_take 15 (v := (.bool true)) C7 rfl (by kernel_rfl) (by kernel_rfl) (by kernel_rfl) (by kernel_rfl) (fun _ _ _ h => h) (by rfl) (fun w4 c4 => ?_) ?_
          · go_simp
          try simp only [Act.put, List.getElem_toArray, List.getElem_cons_succ, List.getElem_cons_zero, List.setIfInBounds_toArray, List.set_cons_zero, List.set_cons_succ]
          refine wpAnyU_take 16 (v := (.slice (some ⟨gn, on, none⟩) NF cn)) C7 rfl (by kernel_rfl) (by kernel_rfl) (by kernel_rfl) (by kernel_rfl) (fun _ _ _ h => h) (by rfl) (fun w4 c4 => ?_) ?_
          · go_simp
          try simp only [Act.put, List.getElem_toArray, List.getElem_cons_succ, List.getElem_cons_zero, List.setIfInBounds_toArray, List.set_cons_zero, List.set_cons_succ]
          refine wpAnyU_take 17 (v := (.int .i64 (i : Int))) C7 rfl (by kernel_rfl) (by kernel_rfl) (by kernel_rfl) (by kernel_rfl) (fun _ _ _ h => h) (by rfl) (fun w4 c4 => ?_) ?_
          · go_simp
          try simp only [Act.put, List.getElem_toArray, List.getElem_cons_succ, List.getElem_cons_zero, List.setIfInBounds_toArray, List.set_cons_zero, List.set_cons_succ]
          refine wpAnyU_take 18 (v := (.pointer (some ⟨gn, on + i, none⟩))) C7 rfl (by kernel_rfl) (by kernel_rfl) (by kernel_rfl) (by kernel_rfl) (fun _ _ _ h => h) (by rfl) (fun w4 c4 => ?_) ?_
          · go_simp
          try simp only [Act.put, List.getElem_toArray, List.getElem_cons_succ, List.getElem_cons_zero, List.setIfInBounds_toArray, List.set_cons_zero, List.set_cons_succ]
          refine wpAnyU_take 19 (v := (.string (str s))) C7 rfl (by kernel_rfl) (by kernel_rfl) (by kernel_rfl) (by kernel_rfl) (fun _ _ _ h => h) (by rfl) (fun w4 c4 => ?_) ?_
          · have q1 := (cd.nil c4).cell_some a0 (by simp)
            go_simp
          try simp only [Act.put, List.getElem_toArray, List.getElem_cons_succ, List.getElem_cons_zero, List.setIfInBounds_toArray, List.set_cons_zero, List.set_cons_succ]
          refine wpAnyU_take 20 (v := (.slice (some ⟨gn, on, none⟩) NF cn)) C7 rfl (by kernel_rfl) (by kernel_rfl) (by kernel_rfl) (by kernel_rfl) (fun _ _ _ h => h) (by rfl) (fun w4 c4 => ?_) ?_
          · go_simp
          try simp only [Act.put, List.getElem_toArray, List.getElem_cons_succ, List.getElem_cons_zero, List.setIfInBounds_toArray, List.set_cons_zero, List.set_cons_succ]
          refine wpAnyU_take 21 (v := (.int .i64 (i : Int))) C7 rfl (by kernel_rfl) (by kernel_rfl) (by kernel_rfl) (by kernel_rfl) (fun _ _ _ h => h) (by rfl) (fun w4 c4 => ?_) ?_
          · go_simp
          try simp only [Act.put, List.getElem_toArray, List.getElem_cons_succ, List.getElem_cons_zero, List.setIfInBounds_toArray, List.set_cons_zero, List.set_cons_succ]
          refine wpAnyU_take 22 (v := (.int .i64 (i1 : Int))) C7 rfl (by kernel_rfl) (by kernel_rfl) (by kernel_rfl) (by kernel_rfl) (fun _ _ _ h => h) (by rfl) (fun w4 c4 => ?_) ?_
          · go_simp
          try simp only [Act.put, List.getElem_toArray, List.getElem_cons_succ, List.getElem_cons_zero, List.setIfInBounds_toArray, List.set_cons_zero, List.set_cons_succ]
          refine wpAnyU_take 23 (v := (.pointer (some ⟨gn, on + i1, none⟩))) C7 rfl (by kernel_rfl) (by kernel_rfl) (by kernel_rfl) (by kernel_rfl) (fun _ _ _ h => h) (by rfl) (fun w4 c4 => ?_) ?_
          · go_simp
          try simp only [Act.put, List.getElem_toArray, List.getElem_cons_succ, List.getElem_cons_zero, List.setIfInBounds_toArray, List.set_cons_zero, List.set_cons_succ]
          refine wpAnyU_take 24 (v := (.string (str s1))) C7 rfl (by kernel_rfl) (by kernel_rfl) (by kernel_rfl) (by kernel_rfl) (fun _ _ _ h => h) (by rfl) (fun w4 c4 => ?_) ?_
          · have q1 := (cd.nil c4).cell_some a1 (by simp)
            go_simp
          try simp only [Act.put, List.getElem_toArray, List.getElem_cons_succ, List.getElem_cons_zero, List.setIfInBounds_toArray, List.set_cons_zero, List.set_cons_succ]
          refine wpAnyU_take 25 (v := (.bool false)) C7 rfl (by kernel_rfl) (by kernel_rfl) (by kernel_rfl) (by kernel_rfl) (fun _ _ _ h => h) (by rfl) (fun w4 c4 => ?_) ?_
          · go_simp
          try simp only [Act.put, List.getElem_toArray, List.getElem_cons_succ, List.getElem_cons_zero, List.setIfInBounds_toArray, List.set_cons_zero, List.set_cons_succ]
          refine wpAnyU_take 26 (v := (.bool false)) C7 rfl (by kernel_rfl) (by kernel_rfl) (by kernel_rfl) (by kernel_rfl) (fun _ _ _ h => h) (by rfl) (fun w4 c4 => ?_) ?_
          · go_simp
          try simp only [Act.put, List.getElem_toArray, List.getElem_cons_succ, List.getElem_cons_zero, List.setIfInBounds_toArray, List.set_cons_zero, List.set_cons_succ]
          refine wpAnyU_take 27 (v := (.bool false)) C7 rfl (by kernel_rfl) (by kernel_rfl) (by kernel_rfl) (by kernel_rfl) (fun _ _ _ h => h) (by rfl) (fun w4 c4 => ?_) ?_
          · go_simp
          try simp only [Act.put, List.getElem_toArray, List.getElem_cons_succ, List.getElem_cons_zero, List.setIfInBounds_toArray, List.set_cons_zero, List.set_cons_succ]
          refine wpAnyU_take 28 (v := (.bool false)) C7 rfl (by kernel_rfl) (by kernel_rfl) (by kernel_rfl) (by kernel_rfl) (fun _ _ _ h => h) (by rfl) (fun w4 c4 => ?_) ?_
          · go_simp
          try simp only [Act.put, List.getElem_toArray, List.getElem_cons_succ, List.getElem_cons_zero, List.setIfInBounds_toArray, List.set_cons_zero, List.set_cons_succ]
          refine wpAnyU_take 29 (v := (.slice (some ⟨gn, on, none⟩) NF cn)) C7 rfl (by kernel_rfl) (by kernel_rfl) (by kernel_rfl) (by kernel_rfl) (fun _ _ _ h => h) (by rfl) (fun w4 c4 => ?_) ?_
          · go_simp
          try simp only [Act.put, List.getElem_toArray, List.getElem_cons_succ, List.getElem_cons_zero, List.setIfInBounds_toArray, List.set_cons_zero, List.set_cons_succ]
          refine wpAnyU_take 30 (v := (.int .i64 (i : Int))) C7 rfl (by kernel_rfl) (by kernel_rfl) (by kernel_rfl) (by kernel_rfl) (fun _ _ _ h => h) (by rfl) (fun w4 c4 => ?_) ?_
          · go_simp
          try simp only [Act.put, List.getElem_toArray, List.getElem_cons_succ, List.getElem_cons_zero, List.setIfInBounds_toArray, List.set_cons_zero, List.set_cons_succ]
          refine wpAnyU_take 31 (v := (.pointer (some ⟨gn, on + i, none⟩))) C7 rfl (by kernel_rfl) (by kernel_rfl) (by kernel_rfl) (by kernel_rfl) (fun _ _ _ h => h) (by rfl) (fun w4 c4 => ?_) ?_
          · go_simp
          try simp only [Act.put, List.getElem_toArray, List.getElem_cons_succ, List.getElem_cons_zero, List.setIfInBounds_toArray, List.set_cons_zero, List.set_cons_succ]
          refine wpAnyU_take 32 (v := (.string (str s))) C7 rfl (by kernel_rfl) (by kernel_rfl) (by kernel_rfl) (by kernel_rfl) (fun _ _ _ h => h) (by rfl) (fun w4 c4 => ?_) ?_
          · have q1 := (cd.nil c4).cell_some a0 (by simp)
            go_simp
          try simp only [Act.put, List.getElem_toArray, List.getElem_cons_succ, List.getElem_cons_zero, List.setIfInBounds_toArray, List.set_cons_zero, List.set_cons_succ]
          refine wpAnyU_only 33 rfl (by kernel_rfl) (by rfl) (by rfl) ?_
          go_simp
          refine (hnm w9).mono ?_
          rintro e w10 ⟨rfl, c10⟩
          have C10 : Chg [] W0 w10 := C7.nil c10
          refine ⟨C10, ?_⟩
          try simp only [Act.put, List.getElem_toArray, List.getElem_cons_succ, List.getElem_cons_zero, List.setIfInBounds_toArray, List.set_cons_zero, List.set_cons_succ]
          refine wpAnyU_take 34 (v := (.bool false)) C10 rfl (by kernel_rfl) (by kernel_rfl) (by kernel_rfl) (by kernel_rfl) (fun _ _ _ h => h) (by rfl) (fun w4 c4 => ?_) ?_
          · go_simp
          try simp only [Act.put, List.getElem_toArray, List.getElem_cons_succ, List.getElem_cons_zero, List.setIfInBounds_toArray, List.set_cons_zero, List.set_cons_succ]
          refine wpAnyU_take 35 (v := (.bool false)) C10 rfl (by kernel_rfl) (by kernel_rfl) (by kernel_rfl) (by kernel_rfl) (fun _ _ _ h => h) (by rfl) (fun w4 c4 => ?_) ?_
          · go_simp
          try simp only [Act.put, List.getElem_toArray, List.getElem_cons_succ, List.getElem_cons_zero, List.setIfInBounds_toArray, List.set_cons_zero, List.set_cons_succ]
          refine wpAnyU_done (by kernel_rfl) ?_ _
          have C8 : Chg [] w8 w10 := cd.nil C10
          clear f1 f2 f3 f4 f1w f2w f4w
          (try clear d1 d1w)
          have hFb10 := H8.out.1.to C8
          have hO10 := hO8.chg C8 (fun _ _ => by simp)
          have h8G : G < wr.heap.size := H8.out.2
          obtain ⟨hq, hus, cw2, cG, hmem, hsx, q4, q5, hm⟩ := HQ.out
          have hil : i < F.files.length := (List.getElem?_eq_some_iff.1 hsx).1
          have hsx' : F.files[i]'hil = (s, x) := (List.getElem?_eq_some_iff.1 hsx).2
          have hsp := blks_split HH.out.1.files hil
          have hbt := blks_take hil
          rw [hsx'] at hsp hbt
          simp only at hsp hbt
          have hus4 : used + m ≤ 4096 := by
            have h1 := HH.out.1.files.total
            have h2 : (blks (F.files.take (i + 1))).length ≤ (blks F.files).length := by
              have e : blks F.files = blks (F.files.take (i + 1)) ++ blks (F.files.drop (i + 1)) := by
                unfold blks
                rw [← List.flatMap_append, List.take_append_drop]
              rw [e, List.length_append]
              exact Nat.le_add_right _ _
            rw [hbt, List.length_append, hm, ← hus] at h2
            have h3 := HH.out.2.2.2.2.2.2.1
            have h4 := HH.out.2.2.2.2.2.2.2
            have h5 := HH.out.2.2.2.2.1
            omega
          have HI := Lib.hid (And.intro hFb10 (And.intro h8G (And.intro hsp (And.intro hbt (And.intro hus4 C8)))))
          have hO10' : Go.Aq.Own w10 4 1 (.slice (some ⟨G, 0, none⟩) N1 N1) N1 (boolsU N1 (fun k => decide (k ∈ blks (F.files.take i)) || decide (k ∈ x.blocks.take 0))) := by
            have e : (fun k => decide (k ∈ blks (F.files.take i)) || decide (k ∈ x.blocks.take 0)) = fun k => decide (k ∈ blks (F.files.take i)) := by funext k; simp
            rw [e]; exact hO10
          clear C0 C7 C10 c10 cd hsz hnm a0 hO8 hO10 C8 hFb10 h8G hq hus cw2 cG hmem hsx q5 hm hil hsx' hsp hbt hus4 g0 g0'
          go_wp2_with fail
          obtain ⟨gk0, hgk0⟩ : ∃ g, g = gk := ⟨_, rfl⟩
          obtain ⟨wr0, hwr0⟩ : ∃ g, g = wr := ⟨_, rfl⟩
          subst hgk0 hwr0
          go_loopg [12, 16] m (fun k (v12 v16 : Value) wy => ∃ j : Nat, v16 = .int .i64 j ∧ v12 = .int .i64 ((used + j : Nat) : Int) ∧ Go.Aq.Own wy 4 1 (.slice (some ⟨G, 0, none⟩) N1 N1) N1 (boolsU N1 (fun k => decide (k ∈ blks (F.files.take i)) || decide (k ∈ x.blocks.take j))) ∧ Hid (j + k = m ∧ Chg [G] w10 wy))
          case atStart => exact ⟨0, rfl, rfl, hO10', Nat.zero_add _, Chg.refl _ _⟩
          case round =>
            clear hO10'
            obtain ⟨j, rfl, rfl, hu, HK⟩ := hrel
            by_cases hj : j < m
            · have t0 : decide ((j : Int) < (m : Int)) = true := by simp; omega
              have t0' : decide (j < m) = true := by simp; omega
              obtain ⟨hFb10, h8G, hsp, hbt, hus4, C8⟩ := HI.out
              have hm := HQ.out.2.2.2.2.2.2.2.2
              have hjl : j < x.blocks.length := by rw [hm]; exact hj
              obtain ⟨kb, hkb⟩ : ∃ kb, x.blocks[j]'hjl = kb := ⟨_, rfl⟩
              have hkm : kb ∈ x.blocks := by rw [← hkb]; exact List.getElem_mem hjl
              have hka := HQ.out.2.2.2.2.2.2.2.1 kb hkm
              rw [HH.out.2.2.2.2.1] at hka
              have hkN : kb < N1 := Nat.lt_of_lt_of_le hka HH.out.2.2.2.2.2.2.2
              have hbS : Sees wr 1 (.slice ab m cb) m (ints x.blocks) := hFb10.own.sees.chg HK.out.2 (fun t ht ht' => by simp at ht'; subst ht'; have := hFb10.new t (eyes_own _ t ht); omega)
              obtain ⟨gb, ob, cb', e, -, hcb2⟩ := hbS.at1 (by omega)
              cases e
              have z0 := hcb2 j hj
              have z0' : (ints x.blocks)[j]? = some (.int .i64 (kb : Int)) := by simp [ints, hjl, hkb]
              rw [z0'] at z0
              have z1 := Go.Aq.Own.cellAt hu kb (by omega)
              have huk : (decide (kb ∈ blks (F.files.take i)) || decide (kb ∈ x.blocks.take j)) = false := by
                simp only [Bool.or_eq_false_iff, decide_eq_false_iff_not]
                refine ⟨hsp.2 kb hkm, fun hh => ?_⟩
                obtain ⟨j', hj', e'⟩ := List.getElem_of_mem hh
                simp only [List.length_take] at hj'
                rw [List.getElem_take] at e'
                have := nodup_get hsp.1 (by omega) hjl (e'.trans hkb.symm)
                omega
              rw [boolsU_get hkN, huk] at z1
              have z2 := Go.Aq.Own.frozenAt hu kb
              have s1 : decide ((kb : Int) < 0) = false := decide_eq_false (by omega)
              have s2 : decide ((al : Int) ≤ (kb : Int)) = false := by simp; omega
              have s2' : decide (al ≤ kb) = false := by simp; omega
              obtain ⟨uj, huj⟩ : ∃ uj, used + j = uj := ⟨_, rfl⟩
              have htk : x.blocks.take (j + 1) = x.blocks.take j ++ [kb] := by rw [List.take_succ_eq_append_getElem hjl, hkb]
              have HP := Lib.hid (And.intro (lg1 HK.out.1 hj) (And.intro htk (And.intro huj (And.intro (show j ≤ 4096 by omega) hkN))))
              have b1 : j + 1 ≤ 4096 := by omega
              have b2 : uj + 1 ≤ 4096 := by omega
              rw [huj]
              have d1 : wrap64 ((j : Int) + 1) = ((j + 1 : Nat) : Int) := us_num (n := j) (m := 1) (q := 4096) b1 (Nat.le_refl _)
              have d2 : wrap64 ((uj : Int) + 1) = ((uj + 1 : Nat) : Int) := us_num (n := uj) (m := 1) (q := 4096) b2 (Nat.le_refl _)
              have d1w := wIq d1
              have d2w := wIq d2
              clear hFb10 h8G hsp hbt hus4 C8 hm hjl hkb hkm hka hbS hcb2 z0' huk huj htk b1 b2
              have HU := Lib.hid hu
              clear hu
              go_wp2_with fail
              go_roundg (gk - 1)
              case measure => exact HP.out.1.2
              case rel =>
                obtain ⟨hq2, htk, huj, -, hkN⟩ := HP.out
                have hs := Go.Aq.Own.set HU.out kb (.bool true)
                rw [boolsU_set] at hs
                have hcG : Chg [G] wr (wr.setCell ⟨G, kb, none⟩ (.bool true)) := (Chg.refl _ _).setCell (by simp) _
                refine ⟨j + 1, by simp, by rw [← huj]; simp [Int.add_assoc], ?_, hq2.1, HK.out.2.tr hcG⟩
                have e : (fun k => decide (k ∈ blks (F.files.take i)) || decide (k ∈ x.blocks.take (j + 1))) = fun k => (decide (k ∈ blks (F.files.take i)) || decide (k ∈ x.blocks.take j)) || decide (k = kb) := by
                  funext k
                  rw [htk, Bool.eq_iff_iff]
                  simp only [Bool.or_eq_true, decide_eq_true_eq, List.mem_append, List.mem_singleton, or_assoc]
                rw [e]
                exact hs
            · have t0 : decide ((j : Int) < (m : Int)) = false := by simp; omega
              have t0' : decide (j < m) = false := by simp; omega
              have hjm : j = m := lg2 HK.out.1 hj
              have HU := Lib.hid (And.intro hu hjm)
              have e2 : wrap64 ((i : Int) + 1) = ((i + 1 : Nat) : Int) := us_num (n := i) (m := 1) (q := 4096) (by omega) (Nat.le_refl _)
              have e2w := wIq e2
              clear hu hj hjm
              go_wp2_with fail
              go_roundg (gk0 - 1)
              case measure => exact HQ.out.1.2
              case rel =>
                clear e2 e2w
                obtain ⟨hq, hus, cw2, cG, hmem, hsx, q4, q5, hm⟩ := HQ.out
                obtain ⟨hFb10, h8G, hsp, hbt, hus4, C8⟩ := HI.out
                obtain ⟨hu, hjm⟩ := HU.out
                have hcw : Chg [] wr0 w10 := H8.out.1.chg.nil C8
                refine ⟨i + 1, used + j, by simp, rfl, ?_, hq.1, ?_, ?_, ?_⟩
                · rw [hbt]
                  have e : (fun k => decide (k ∈ blks (F.files.take i) ++ x.blocks)) = fun k => decide (k ∈ blks (F.files.take i)) || decide (k ∈ x.blocks.take j) := by
                    funext k
                    rw [List.take_of_length_le (l := x.blocks) (by omega), Bool.eq_iff_iff]
                    simp only [Bool.or_eq_true, decide_eq_true_eq, List.mem_append]
                  rw [e]
                  exact hu
                · rw [hbt, List.length_append, hm, hus, hjm]
                · exact (cw2.nil hcw).trans HK.out.2 (fun t ht => .inr (by
                    simp at ht; subst ht
                    have h2 := H5.out.2.2.2.2
                    have h3 := HG5.out
                    omega))
                · exact (cG.nil hcw).tr HK.out.2
      · have t0 : decide ((i : Int) < (NF : Int)) = false := by simp; omega
        have t0' : decide (i < NF) = false := by simp; omega
        obtain ⟨hik, hus1, cw2, cG⟩ := HJ.out
        have hiN : i = NF := lg2 hik hi
        obtain ⟨hI, hF, hnw, c02, hale, huse, hn4, haln⟩ := HH.out
        have hused : used = us := by rw [hus1, List.take_of_length_le (by rw [H5.out.2.2.1]; omega)]; exact huse
        have hFr := hF.chg0 cw2
        have hu3 := fun w' (c : Chg [] wr w') => used_ok w' Sd [] f d l bf F (hFr.chg0 c) _ hI.files (by omega)
        rw [huse] at hu3
        have hs3 : ∀ w', Chg [] wr w' → Calls Tryz.prog 28 #[.pointer (some ⟨f, 0, none⟩), .string ⟨#[]⟩] w' fun e w'' => e = .returned (.int .i64 (-1)) ∧ Chg [] w' w'' := fun w' c => by
          have h1 := size_ok w' Sd [] f d l bf F (hFr.chg0 c) [] (by simp)
          rw [look_nil_name hI] at h1
          exact h1
        have hf3 := fun w' => first_ok16 w'
        have HE := Lib.hid (c02.nil cw2)
        rw [hused]
        clear hik hus1 cw2 cG hiN hI hF hnw c02 hale huse hn4 haln hused hFr hi HJ hO
        go_wp2_with fail
        refine (hf3 wr).mono ?_
        rintro e w8 ⟨rfl, c8⟩
        have hu4 := hu3 w8 c8
        clear hf3 hu3
        go_wp2_with fail
        refine hu4.mono ?_
        rintro e w9 ⟨rfl, c9⟩
        have hs4 := hs3 w9 (c8.nil c9)
        clear hu4 hs3
        go_wp2_with fail
        refine hs4.mono ?_
        rintro e w10 ⟨rfl, c10⟩
        clear hs4
        go_wp2_with fail
        go_ret
        exact ⟨rfl, ((HE.out.nil c8).nil c9).nil c10⟩
end Go.Proofs.YtgcmgcffndbpoaaGreatDoor
