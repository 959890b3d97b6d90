/- The law FsysAgain. No statement of the seat is proved here. -/
import Derived.Test.YtgcmgcffndbpoaaGreatDoorFgAF
set_option linter.unusedVariables false
set_option linter.unusedSimpArgs false
namespace Go.Proofs.YtgcmgcffndbpoaaGreatDoor
open Go.RowKit Go.Aq Go.Aq.Fy Go.Maps
/-- The cells of a shot. -/
theorem ShotR.cells {w : World} {S : List Nat} {v : Value} {V : View} (h : ShotR w S v V) {N : Nat} (hN : V.length = N) : ∃ an cn ab cb, v = .agg #[.slice an N cn, .slice ab N cb] := by
  obtain ⟨nv, bv, rfl, h1, -, ⟨xs, h3, -⟩⟩ := h
  obtain ⟨an, cn, rfl, -⟩ := h1.shape
  obtain ⟨ab, cb, rfl, -⟩ := h3.shape
  exact ⟨an, cn, ab, cb, by rw [List.length_map, hN]⟩
theorem ShotR.names {w : World} {S : List Nat} {a b : Value} {V : View} (h : ShotR w S (.agg #[a, b]) V) {N : Nat} (hN : V.length = N) : Sees w 1 a N (names (V.map (·.1))) ∧ Disj (eyes a) S := by
  obtain ⟨nv, bv, e, h1, h2, -⟩ := h
  simp only [Value.agg.injEq, Array.mk.injEq, List.cons.injEq, and_true] at e
  obtain ⟨rfl, rfl⟩ := e
  rw [hN] at h1
  exact ⟨h1, h2⟩
theorem wr_i1 {i n : Nat} (h : i < n) (hn : n ≤ 100000) : wrap64 ((i : Int) + 1) = ((i + 1 : Nat) : Int) := by unfold wrap64; omega
set_option maxRecDepth 100000 in
set_option maxHeartbeats 8000000 in
theorem again_law (w : World) (n r m t : Int) (v : Value) (css : List (List ChangeD)) (hv : ListsC w v css) :
    Calls Tryz.prog 7 #[.int .i64 n, .int .i64 r, .int .i64 m, v, .int .i64 t] w fun e w' => e = .returned (.bool true) ∧ Chg [] w w' := by
  obtain ⟨ao, cap, rfl, -⟩ := hv.choose_spec.1.shape
  obtain ⟨LN, hLN⟩ : ∃ LN, css.length = LN := ⟨_, rfl⟩
  rw [hLN] at hv ⊢
  have hfi := first_ok16 w
  have hmd := fun w' (c : Chg [] w w') => made_ok w' n r m _ css (hv.chg0 c)
  clear hv hLN
  go_enter Tryz.func7, Tryz.ntmps7
  go_wp2_with fail
  refine hfi.mono ?_
  rintro e w1 ⟨rfl, c1⟩
  have hm1 := hmd w1 c1
  clear hfi hmd
  go_wp2_with fail
  refine hm1.mono ?_
  rintro e w2 ⟨c2, rfl | ⟨f, d, l, bf, Sd, F, N1, R1, M1, rfl, rfl, rfl, rfl, h4, h300, hfm, hM, hF, hnw⟩⟩
  · have hf2 := first_ok16 w2
    have C2 := Lib.hid (c1.nil c2)
    clear hm1 c1 c2
    go_wp2_with fail
    refine hf2.mono ?_
    rintro e w3 ⟨rfl, c3⟩
    clear hf2
    go_wp2_with fail
    go_ret
    exact ⟨rfl, C2.out.nil c3⟩
  clear h4 h300 hfm
  by_cases ht1 : t < 1
  · have t1 : decide (t < 1) = true := decide_eq_true ht1
    clear hM hF hnw ht1
    have hf2 := first_ok16 w2
    have C2 := Lib.hid (c1.nil c2)
    clear hm1 c1 c2
    go_wp2_with fail
    refine hf2.mono ?_
    rintro e w3 ⟨rfl, c3⟩
    clear hf2
    go_wp2_with fail
    go_ret
    exact ⟨rfl, C2.out.nil c3⟩
  by_cases ht5 : 5 < t
  · have t1 : decide (t < 1) = false := decide_eq_false ht1
    have t2 : decide (5 < t) = true := decide_eq_true ht5
    clear hM hF hnw ht1 ht5
    have hf2 := first_ok16 w2
    have C2 := Lib.hid (c1.nil c2)
    clear hm1 c1 c2
    go_wp2_with fail
    refine hf2.mono ?_
    rintro e w3 ⟨rfl, c3⟩
    clear hf2
    go_wp2_with fail
    go_ret
    exact ⟨rfl, C2.out.nil c3⟩
  obtain ⟨T, rfl⟩ : ∃ T : Nat, t = T := ⟨t.toNat, by omega⟩
  have s1 : decide ((T : Int) < 1) = false := decide_eq_false ht1
  have s1' : decide (T < 1) = false := decide_eq_false (by omega)
  have s2 : decide ((5 : Int) < (T : Int)) = false := decide_eq_false ht5
  have s2' : decide (5 < T) = false := decide_eq_false (by omega)
  have hI := hM.inv
  have hdk := disk_ok w2 Sd [] f d l bf F hF
  have htk := taken_ok w2 Sd f d l bf F hF hI
  obtain ⟨NF, hNF⟩ : ∃ NF, F.files.length = NF := ⟨_, rfl⟩
  have hnf : NF ≤ 400 := by rw [← hNF]; exact hI.files.few
  have HH := Lib.hid (And.intro hI (And.intro hF (And.intro (fun (k : Nat) (hk : k ∈ f :: l :: bf :: Sd) => Nat.le_trans c1.size (hnw k hk)) (And.intro (c1.nil c2) (And.intro hNF (show T ≤ 5 by omega))))))
  have hVN : (viewF F).length = NF := by rw [viewF_len]; exact hNF
  have HVN := Lib.hid hVN
  clear hm1 c1 c2 hM hF hnw hI ht1 ht5 hNF hVN
  go_wp2_with fail
  refine hdk.mono ?_
  rintro e w3 ⟨rfl, hw3⟩
  rw [hw3]
  clear hdk hw3
  go_wp2_with fail
  refine htk.mono ?_
  rintro e w4 ⟨v4, rfl, hsh, c4⟩
  have hsh4 := hsh (f :: l :: bf :: Sd) HH.out.2.1.lt
  obtain ⟨an, cn, ab, cb, rfl⟩ := hsh4.cells HVN.out
  have H4 := Lib.hid (And.intro hsh4 c4)
  clear htk hsh hsh4 c4
  go_upto_region 7 with (fail)
  obtain ⟨w5, hw5⟩ : ∃ w5, w4.alloc (.cells #[.slice an NF cn, .slice ab NF cb] 33) = w5 := ⟨_, rfl⟩
  obtain ⟨K, hK⟩ : ∃ K, w4.heap.size = K := ⟨_, rfl⟩
  have hb5 : Blk w5 K #[.slice an NF cn, .slice ab NF cb] 33 := by rw [← hw5, ← hK]; exact Blk.new _ _ _
  have k5 : Chg [] w4 w5 := by rw [← hw5]; exact (Chg.refl [] w4).alloc _
  rw [hw5, hK]
  have H5 := Lib.hid (And.intro hb5 (And.intro (H4.out.2.nil k5) (And.intro (H4.out.1.chg k5 (by simp)) (show ∀ k ∈ f :: l :: bf :: Sd, k < K by
    intro k hk; rw [← hK]; exact Nat.lt_of_lt_of_le (HH.out.2.1.lt k hk) H4.out.2.size))))
  clear hw5 hK hb5 k5
  go_wp2_with fail
  go_loopg [14, 15, 16, 17, 18, 19] T (fun k (v14 v15 v16 v17 v18 v19 : Value) wr => ∃ (i : Nat) (Sd' : List Nat), v14 = .int .i64 i ∧ Hid (i + k = T ∧ Chg [] w wr ∧ FsR wr Sd' [] f d l bf F ∧ (∀ k ∈ f :: l :: bf :: Sd', w.heap.size ≤ k) ∧ Blk wr K #[.slice an NF cn, .slice ab NF cb] 33 ∧ K ∉ Sd' ∧ ShotR wr Sd' (.agg #[.slice an NF cn, .slice ab NF cb]) (viewF F)))
  case atStart =>
    obtain ⟨hb5, c25, hsh5, hKl⟩ := H5.out
    obtain ⟨hI, hF, hnw, c02, hNF, hT⟩ := HH.out
    exact ⟨0, Sd, rfl, Nat.zero_add _, c02.nil c25, hF.chg0 c25, hnw, hb5, fun hh => by have := hKl K (by simp [hh]); omega, hsh5.wide fun k hk => .inl (by simp [hk])⟩
  case round =>
    obtain ⟨i, Sd', rfl, HJ⟩ := hrel
    by_cases hi : i < T
    · have t0 : decide ((i : Int) < (T : Int)) = true := by simp; omega
      have t0' : decide (i < T) = true := by simp; omega
      obtain ⟨hik, cw, hF, hnw, hbK, hKS, hsh⟩ := HJ.out
      have hdk := disk_ok wr Sd' [] f d l bf F hF
      have hop := reopen_ok wr Sd' d F hF.disk HH.out.1 (by decide)
      have HQ := Lib.hid (And.intro (lg1 hik hi) (And.intro (show i < 100000 by have := HH.out.2.2.2.2.2; omega) HJ.out))
      clear hik cw hF hnw hbK hKS hsh HJ hi
      go_wp2_with fail
      refine hdk.mono ?_
      rintro e w6 ⟨rfl, hw6⟩
      rw [hw6]
      clear hdk hw6
      go_wp2_with fail
      refine hop.mono ?_
      rintro e w7 ⟨g, lg, bg, S7, rfl, hG, hU⟩
      obtain ⟨-, -, -, cw, hF, hnw, hbK, hKS, hsh⟩ := HQ.out
      have hF7 : FsR w7 S7 [] f d l bf F := FsR.turn (X := [g, lg, bg]) hF hU hG.disk rfl
      have htk := taken_ok w7 S7 g d lg bg F hG HH.out.1
      have hbK7 := hbK.chg hU.chg hKS
      have hsh7 : ShotR w7 S7 (.agg #[.slice an NF cn, .slice ab NF cb]) (viewF F) := (hsh.wide (T := Sd' ++ S7) (fun k hk => by
        rcases List.mem_append.1 hk with h | h
        · exact .inl h
        · exact hU.new k (by simp [h]))).chg hU.chg (fun k hk => .inl (List.mem_append_left _ hk)) |>.wide (fun k hk => .inl (List.mem_append_right _ hk))
      have hKl : K < wr.heap.size := hbK.lt
      have hKS7 : K ∉ S7 := fun hh => by
        rcases hU.new K (by simp [hh]) with h | h
        · exact hKS h
        · omega
      have cw7 : Chg [] w w7 := cw.trans hU.chg (fun t ht => .inr (hnw t (by simp [ht])))
      have hnw7 : ∀ k ∈ f :: l :: bf :: S7, w.heap.size ≤ k := fun k hk => by
        have h0 := cw.size
        simp only [List.mem_cons] at hk
        rcases hk with h | h | h | h
        · exact hnw k (by simp [h])
        · exact hnw k (by simp [h])
        · exact hnw k (by simp [h])
        · rcases hU.new k (by simp [h]) with h1 | h1
          · exact hnw k (by simp [h1])
          · omega
      have H7 := Lib.hid (And.intro hF7 (And.intro hG (And.intro hbK7 (And.intro hsh7 (And.intro hKS7 (And.intro cw7 hnw7))))))
      clear hop cw hF hnw hbK hKS hsh hU hG hF7 hbK7 hsh7 hKl hKS7 cw7 hnw7
      go_wp2_with fail
      refine htk.mono ?_
      rintro e w8 ⟨v8, rfl, hsh, c8⟩
      have hsh8 := hsh [] (fun _ h => absurd h (by simp))
      obtain ⟨an8, cn8, ab8, cb8, rfl⟩ := hsh8.cells HVN.out
      have H8 := Lib.hid (And.intro hsh8 c8)
      clear htk hsh hsh8 c8
      go_upto_region 14 with (fail)
      obtain ⟨w9, hw9⟩ : ∃ w9, w8.alloc (.cells #[.slice an8 NF cn8, .slice ab8 NF cb8] 33) = w9 := ⟨_, rfl⟩
      obtain ⟨K9, hK9⟩ : ∃ K9, w8.heap.size = K9 := ⟨_, rfl⟩
      have hb9 : Blk w9 K9 #[.slice an8 NF cn8, .slice ab8 NF cb8] 33 := by rw [← hw9, ← hK9]; exact Blk.new _ _ _
      have k9 : Chg [] w8 w9 := by rw [← hw9]; exact (Chg.refl [] w8).alloc _
      rw [hw9, hK9]
      clear hw9 hK9
      have c79 : Chg [] w7 w9 := H8.out.2.nil k9
      have hal := alike_any w9 _ _ (viewF F) (viewF F) (H8.out.1.chg k9 (by simp)) ((H7.out.2.2.2.1.chg c79 (by simp)).wide (T := []) (by simp)) (by rw [HVN.out]; omega) (by rw [HVN.out]; omega)
      rw [show decide (viewF F = viewF F) = true from decide_eq_true rfl] at hal
      have hfg := fun w' (c : Chg [] w9 w') => free_ok w' S7 [] g d lg bg F (H7.out.2.1.chg0 (c79.nil c)) HH.out.1.files
      have hff := fun w' (c : Chg [] w9 w') => free_ok w' S7 [] f d l bf F (H7.out.1.chg0 (c79.nil c)) HH.out.1.files
      obtain ⟨fr, hfr⟩ : ∃ fr, allF F - (blks F.files).length = fr := ⟨_, rfl⟩
      rw [hfr] at hfg hff
      obtain ⟨⟨x0, x1⟩, -⟩ := (H7.out.2.2.1.chg0 c79).c2
      obtain ⟨⟨y0, y1⟩, -⟩ := hb9.c2
      have H9 := Lib.hid c79
      have tne : ((fr : Int) != (fr : Int)) = false := by simp
      clear c79 k9 hb9 hfr
      go_wp2_with fail
      refine hal.mono ?_
      rintro e w10 ⟨rfl, c10⟩
      have hfg1 := hfg w10 c10
      clear hal hfg x0 x1 y0 y1
      go_wp2_with fail
      refine hfg1.mono ?_
      rintro e w11 ⟨rfl, c11⟩
      have hff1 := hff w11 (c10.nil c11)
      clear hfg1 hff
      go_wp2_with fail
      refine hff1.mono ?_
      rintro e w12 ⟨rfl, c12⟩
      have C12 : Chg [] w7 w12 := H9.out.nil ((c10.nil c11).nil c12)
      have H12 := Lib.hid (And.intro C12 (And.intro (H7.out.2.2.1.chg0 C12) (((H7.out.2.2.2.1.chg C12 (by simp)).names HVN.out))))
      clear hff1 c10 c11 c12 C12
      go_wp2_with fail
      obtain ⟨gk0, hgk0⟩ : ∃ g, g = gk := ⟨_, rfl⟩
      obtain ⟨wr0, hwr0⟩ : ∃ g, g = wr := ⟨_, rfl⟩
      subst hgk0 hwr0
      go_loopg [19] NF (fun k (v19 : Value) wy => ∃ (j : Nat), v19 = .int .i64 j ∧ Hid (j + k = NF ∧ Chg [] w12 wy))
      case atStart => exact ⟨0, rfl, Nat.zero_add _, Chg.refl _ _⟩
      case round =>
        obtain ⟨j, rfl, HK⟩ := hrel
        obtain ⟨C12, hb12, hnm, hnd⟩ := H12.out
        have hbr := hb12.chg0 HK.out.2
        obtain ⟨⟨x0, x1⟩, -⟩ := hbr.c2
        by_cases hj : j < NF
        · have t0 : decide ((j : Int) < (NF : Int)) = true := by simp; omega
          have t0' : decide (j < NF) = true := by simp; omega
          have hil : j < F.files.length := by rw [HH.out.2.2.2.2.1]; exact hj
          obtain ⟨sx, hsx⟩ : ∃ sx, F.files[j]'hil = sx := ⟨_, rfl⟩
          obtain ⟨s, x⟩ := sx
          have hmem : (s, x) ∈ F.files := by rw [← hsx]; exact List.getElem_mem hil
          obtain ⟨q1, q2, q3, q4, q5, q6, q7⟩ := HH.out.1.at hmem
          have C0r : Chg [] w7 wr := C12.nil HK.out.2
          have hbg := fun w' (c : Chg [] wr w') => blocks_ok w' S7 [] g d lg bg F (H7.out.2.1.chg0 (C0r.nil c)) s q1 (by rw [q2]; simp only [Option.getD_some]; omega)
          have hbf := fun w' (c : Chg [] wr w') => blocks_ok w' S7 [] f d l bf F (H7.out.1.chg0 (C0r.nil c)) s q1 (by rw [q2]; simp only [Option.getD_some]; omega)
          rw [q2] at hbg hbf
          simp only [Option.getD_some] at hbg hbf
          have hnS := hnm.chg0 HK.out.2
          rw [viewF_names] at hnS
          obtain ⟨gn, on, cn', e, -, hca⟩ := hnS.at1 (by omega)
          cases e
          have a0 := hca j hj
          have b0 : (names (F.files.map (·.1)))[j]? = some (.string (str s)) := by unfold names; rw [List.map_map, List.getElem?_map, List.getElem?_eq_getElem hil, hsx]; rfl
          rw [b0] at a0
          obtain ⟨m, hm⟩ : ∃ m, x.blocks.length = m := ⟨_, rfl⟩
          rw [hm] at hbg hbf q4
          have HP := Lib.hid (And.intro (lg1 HK.out.1 hj) (And.intro HK.out.2 (show j < 100000 by omega)))
          have e2 : Hid (wrap64 ((j : Int) + 1) = ((j + 1 : Nat) : Int)) := wr_i1 (n := 1000) (by omega) (by omega)
          clear C12 hb12 hnm hnd hbr hil hsx hmem q1 q2 q3 q5 q6 q7 C0r hnS hca b0 x1 HK
          go_upto_region 19 with (fail)
          obtain ⟨W0, hW0⟩ : ∃ W0, wr.drew = W0 := ⟨_, rfl⟩
          have cd : Chg [] wr W0 := by rw [← hW0]; exact (Chg.refl _ _).drew
          refine wp_region_U [] (fun _ => false) (by kernel_rfl) ?_
          rw [hW0]
          clear hW0
          have C0 : Chg [] W0 W0 := Chg.refl _ _
          refine wpAnyU_take 0 (v := (.pointer (some ⟨g, 0, none⟩))) C0 rfl (by kernel_rfl) (by kernel_rfl) (by kernel_rfl) (by kernel_rfl) (fun _ _ _ h => h) (by rfl) (fun w4 c4 => ?_) ?_
          · go_simp
          try simp only [Act.put, List.getElem_toArray, List.getElem_cons_succ, List.getElem_cons_zero, List.setIfInBounds_toArray, List.set_cons_zero, List.set_cons_succ]
          refine wpAnyU_take 1 (v := (.pointer (some ⟨K, 0, none⟩))) C0 rfl (by kernel_rfl) (by kernel_rfl) (by kernel_rfl) (by kernel_rfl) (fun _ _ _ h => h) (by rfl) (fun w4 c4 => ?_) ?_
          · go_simp
          try simp only [Act.put, List.getElem_toArray, List.getElem_cons_succ, List.getElem_cons_zero, List.setIfInBounds_toArray, List.set_cons_zero, List.set_cons_succ]
          refine wpAnyU_take 2 (v := (.slice (some ⟨gn, on, none⟩) NF cn)) C0 rfl (by kernel_rfl) (by kernel_rfl) (by kernel_rfl) (by kernel_rfl) (fun _ _ _ h => h) (by rfl) (fun w4 c4 => ?_) ?_
          · have q1 := (cd.nil c4).cell_some x0 (by simp)
            go_simp
          try simp only [Act.put, List.getElem_toArray, List.getElem_cons_succ, List.getElem_cons_zero, List.setIfInBounds_toArray, List.set_cons_zero, List.set_cons_succ]
          refine wpAnyU_take 3 (v := (.int .i64 (j : Int))) C0 rfl (by kernel_rfl) (by kernel_rfl) (by kernel_rfl) (by kernel_rfl) (fun _ _ _ h => h) (by rfl) (fun w4 c4 => ?_) ?_
          · go_simp
          try simp only [Act.put, List.getElem_toArray, List.getElem_cons_succ, List.getElem_cons_zero, List.setIfInBounds_toArray, List.set_cons_zero, List.set_cons_succ]
          refine wpAnyU_take 4 (v := (.pointer (some ⟨gn, on + j, none⟩))) C0 rfl (by kernel_rfl) (by kernel_rfl) (by kernel_rfl) (by kernel_rfl) (fun _ _ _ h => h) (by rfl) (fun w4 c4 => ?_) ?_
          · go_simp
          try simp only [Act.put, List.getElem_toArray, List.getElem_cons_succ, List.getElem_cons_zero, List.setIfInBounds_toArray, List.set_cons_zero, List.set_cons_succ]
          refine wpAnyU_take 5 (v := (.string (str s))) C0 rfl (by kernel_rfl) (by kernel_rfl) (by kernel_rfl) (by kernel_rfl) (fun _ _ _ h => h) (by rfl) (fun w4 c4 => ?_) ?_
          · have q1 := (cd.nil c4).cell_some a0 (by simp)
            go_simp
          try simp only [Act.put, List.getElem_toArray, List.getElem_cons_succ, List.getElem_cons_zero, List.setIfInBounds_toArray, List.set_cons_zero, List.set_cons_succ]
          refine wpAnyU_take 7 (v := (.pointer (some ⟨f, 0, none⟩))) C0 rfl (by kernel_rfl) (by kernel_rfl) (by kernel_rfl) (by kernel_rfl) (fun _ _ _ h => h) (by rfl) (fun w4 c4 => ?_) ?_
          · go_simp
          try simp only [Act.put, List.getElem_toArray, List.getElem_cons_succ, List.getElem_cons_zero, List.setIfInBounds_toArray, List.set_cons_zero, List.set_cons_succ]
          refine wpAnyU_take 8 (v := (.pointer (some ⟨K, 0, none⟩))) C0 rfl (by kernel_rfl) (by kernel_rfl) (by kernel_rfl) (by kernel_rfl) (fun _ _ _ h => h) (by rfl) (fun w4 c4 => ?_) ?_
          · go_simp
          try simp only [Act.put, List.getElem_toArray, List.getElem_cons_succ, List.getElem_cons_zero, List.setIfInBounds_toArray, List.set_cons_zero, List.set_cons_succ]
          refine wpAnyU_take 9 (v := (.slice (some ⟨gn, on, none⟩) NF cn)) C0 rfl (by kernel_rfl) (by kernel_rfl) (by kernel_rfl) (by kernel_rfl) (fun _ _ _ h => h) (by rfl) (fun w4 c4 => ?_) ?_
          · have q1 := (cd.nil c4).cell_some x0 (by simp)
            go_simp
          try simp only [Act.put, List.getElem_toArray, List.getElem_cons_succ, List.getElem_cons_zero, List.setIfInBounds_toArray, List.set_cons_zero, List.set_cons_succ]
          refine wpAnyU_take 10 (v := (.int .i64 (j : Int))) C0 rfl (by kernel_rfl) (by kernel_rfl) (by kernel_rfl) (by kernel_rfl) (fun _ _ _ h => h) (by rfl) (fun w4 c4 => ?_) ?_
          · go_simp
          try simp only [Act.put, List.getElem_toArray, List.getElem_cons_succ, List.getElem_cons_zero, List.setIfInBounds_toArray, List.set_cons_zero, List.set_cons_succ]
          refine wpAnyU_take 11 (v := (.pointer (some ⟨gn, on + j, none⟩))) C0 rfl (by kernel_rfl) (by kernel_rfl) (by kernel_rfl) (by kernel_rfl) (fun _ _ _ h => h) (by rfl) (fun w4 c4 => ?_) ?_
          · go_simp
          try simp only [Act.put, List.getElem_toArray, List.getElem_cons_succ, List.getElem_cons_zero, List.setIfInBounds_toArray, List.set_cons_zero, List.set_cons_succ]
          refine wpAnyU_take 12 (v := (.string (str s))) C0 rfl (by kernel_rfl) (by kernel_rfl) (by kernel_rfl) (by kernel_rfl) (fun _ _ _ h => h) (by rfl) (fun w4 c4 => ?_) ?_
          · have q1 := (cd.nil c4).cell_some a0 (by simp)
            go_simp
          try simp only [Act.put, List.getElem_toArray, List.getElem_cons_succ, List.getElem_cons_zero, List.setIfInBounds_toArray, List.set_cons_zero, List.set_cons_succ]
          refine wpAnyU_only 6 rfl (by kernel_rfl) (by rfl) (by rfl) ?_
          go_simp
          refine (hbg W0 cd).mono ?_
          rintro e w13 ⟨vg, rfl, hVg⟩
          obtain ⟨ag, cg, rfl, -⟩ := hVg.shape
          have C6 : Chg [] W0 w13 := hVg.chg
          refine ⟨C6, ?_⟩
          try simp only [Act.put, List.getElem_toArray, List.getElem_cons_succ, List.getElem_cons_zero, List.setIfInBounds_toArray, List.set_cons_zero, List.set_cons_succ]
          refine wpAnyU_only 13 rfl (by kernel_rfl) (by rfl) (by rfl) ?_
          go_simp
          refine (hbf w13 (cd.nil C6)).mono ?_
          rintro e w14 ⟨vf, rfl, hVf⟩
          obtain ⟨af, cf, rfl, -⟩ := hVf.shape
          have C13 : Chg [] W0 w14 := C6.nil hVf.chg
          refine ⟨C13, ?_⟩
          try simp only [Act.put, List.getElem_toArray, List.getElem_cons_succ, List.getElem_cons_zero, List.setIfInBounds_toArray, List.set_cons_zero, List.set_cons_succ]
          have hin := ints_any w14 _ _ x.blocks x.blocks m m hm hm (hVg.own.sees.chg0 hVf.chg) hVf.own.sees (by omega)
          rw [show decide (x.blocks = x.blocks) = true from decide_eq_true rfl] at hin
          refine wpAnyU_only 14 rfl (by kernel_rfl) (by rfl) (by rfl) ?_
          go_simp
          refine hin.mono ?_
          rintro e w15 ⟨rfl, c15⟩
          have C14 : Chg [] W0 w15 := C13.nil c15
          refine ⟨C14, ?_⟩
          try simp only [Act.put, List.getElem_toArray, List.getElem_cons_succ, List.getElem_cons_zero, List.setIfInBounds_toArray, List.set_cons_zero, List.set_cons_succ]
          refine wpAnyU_take 15 (v := (.bool false)) C14 rfl (by kernel_rfl) (by kernel_rfl) (by kernel_rfl) (by kernel_rfl) (fun _ _ _ h => h) (by rfl) (fun w4 c4 => ?_) ?_
          · go_simp
          try simp only [Act.put, List.getElem_toArray, List.getElem_cons_succ, List.getElem_cons_zero, List.setIfInBounds_toArray, List.set_cons_zero, List.set_cons_succ]
          refine wpAnyU_done (by kernel_rfl) ?_ _
          have CE : Chg [] wr w15 := cd.nil C14
          clear C0 C6 C13 C14 c15 cd hin hVg hVf hbg hbf x0 a0 hj
          have e2 := e2.out
          have e2w := wIq e2
          go_wp2_with fail
          go_roundg (gk - 1)
          case measure => exact HP.out.1.2
          case rel => exact ⟨j + 1, by simp, HP.out.1.1, HP.out.2.1.nil CE⟩
        · have t0 : decide ((j : Int) < (NF : Int)) = false := by simp; omega
          have t0' : decide (j < NF) = false := by simp; omega
          have HE := Lib.hid (C12.nil HK.out.2)
          have e2 : wrap64 ((i : Int) + 1) = ((i + 1 : Nat) : Int) := wr_i1 HQ.out.2.1 (by omega)
          have e2w := wIq e2
          clear C12 hb12 hnm hnd hbr x1 HK hj
          go_wp2_with fail
          go_roundg (gk0 - 1)
          case measure => exact HQ.out.1.2
          case rel =>
            obtain ⟨hF7, hG, hbK7, hsh7, hKS7, cw7, hnw7⟩ := H7.out
            exact ⟨i + 1, S7, by simp, HQ.out.1.1, cw7.nil HE.out, hF7.chg0 HE.out, hnw7, hbK7.chg0 HE.out, hKS7, hsh7.chg HE.out (by simp)⟩
    · have t0 : decide ((i : Int) < (T : Int)) = false := by simp; omega
      have t0' : decide (i < T) = false := by simp; omega
      have HE := Lib.hid HJ.out.2.1
      have hf3 := first_ok16 wr
      clear hi HJ
      go_wp2_with fail
      refine hf3.mono ?_
      rintro e w3 ⟨rfl, c3⟩
      clear hf3
      go_wp2_with fail
      go_ret
      exact ⟨rfl, HE.out.nil c3⟩
end Go.Proofs.YtgcmgcffndbpoaaGreatDoor
