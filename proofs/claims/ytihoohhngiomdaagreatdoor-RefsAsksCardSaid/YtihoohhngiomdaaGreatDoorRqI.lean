/- The walk of the law RefsAsks. No statement of the seat is proved here. -/
import Derived.Test.YtihoohhngiomdaaGreatDoorRqH
import Derived.Test.YtihoohhngiomdaaGreatDoorTakeAll
import Derived.Deep.DeepCutAuto
set_option linter.unusedVariables false
set_option linter.unusedSimpArgs false
namespace Go.Proofs.YtihoohhngiomdaaGreatDoor
open Go.RowKit Go.Aq Go.Aq.Wd
section
variable {n k xl : Nat} {l : List RefD} {x : List UInt8} (hn : l.length = n) (he : encodeL l = (x, k)) (hxl : x.length = xl)
include hn he hxl
theorem encX (hb : n ≤ 1000000) (hx : ∀ r ∈ l, r.name.length ≤ 1000000 ∧ r.key.length ≤ 1000000) (w : World) (hT : Tabs w) (v : Value) (hv : Sees w 3 v n (Rfs l)) :
    Calls Tryz.prog 6 #[v] w fun e w' => ∃ v', e = .returned (.tuple #[v', .int .i64 k]) ∧ Sees w' 1 v' xl (Bs x) ∧ Chg [] w w' := by
  have h := encN hn hb hx w hT v hv
  rw [he] at h
  subst hxl
  exact h
theorem rencX (hb : n ≤ 1000000) (hx : ∀ r ∈ l, r.name.length ≤ 1000000 ∧ r.key.length ≤ 1000000) (w : World) (v : Value) (hv : Sees w 3 v n (Rfs l)) :
    Calls Tryz.prog 7 #[v] w fun e w' => ∃ v', e = .returned (.tuple #[v', .int .i64 k]) ∧ Sees w' 1 v' xl (Bs x) ∧ Chg [] w w' := by
  have h := rencN hn hb hx w v hv
  rw [he] at h
  subst hxl
  exact h
end
theorem saveX {n xl : Nat} {l : List RefD} {x : List UInt8} (hn : l.length = n) (he : encodeL l = (x, 0)) (hxl : x.length = xl) (hM : mayL l = true) (hb : n ≤ 1000000) (hx : ∀ r ∈ l, r.name.length ≤ 1000000 ∧ r.key.length ≤ 1000000) (w : World) (hT : Tabs w) (v : Value) (hv : Sees w 3 v n (Rfs l)) :
    Calls Tryz.prog 13 #[v] w fun e w' => ∃ v', e = .returned (.tuple #[.agg #[.int .i64 2, .string ⟨#[114, 101, 102, 115]⟩, .string ⟨#[]⟩, v'], .int .i64 0]) ∧ Sees w' 1 v' xl (Bs x) ∧ Chg [] w w' := by
  have h := saveOkN hn hb hx hM w hT v hv
  have e : l.flatMap lineR = x := by
    unfold encodeL at he
    rw [if_pos hM] at he
    injection he
  rw [e, hxl] at h
  exact h
theorem chg_eq {w w' : World} (h : w = w') : Chg [] w w' := by rw [h]; exact Chg.refl _ _
theorem okRef_few {l : List RefD} (h : fewL l = true) : l.length ≤ 1000000 ∧ ∀ r ∈ l, r.name.length ≤ 1000000 ∧ r.key.length ≤ 1000000 := by
  obtain ⟨h1, h2⟩ := fewL_parts h
  exact ⟨by omega, fun r hr => by have := h2 r hr; omega⟩
set_option maxRecDepth 100000 in
set_option maxHeartbeats 40000000 in
theorem asks_any (w : World) (hT : Tabs w) (v : Value) (l : List RefD) (hv : Sees w 3 v l.length (Rfs l)) (hl : l.length ≤ 9223372036854775807) (hx : ∀ r ∈ l, okRef r) (r : RefD) (hr : okRef r) (s : RefD) (hs : okRef s) (vb : Value) (nb : Nat) (b : List UInt8) (hb : Sees w 1 vb nb (Bs b)) :
    Calls Tryz.prog 3 #[v, rfV r, rfV s, vb] w fun e w' => e = .returned (.bool true) ∧ Chg [] w w' := by
  have hnb : nb = b.length := by have := hb.len; rw [Bs_length] at this; omega
  subst hnb
  obtain ⟨bl, HBL⟩ : ∃ n, Hid (b.length = n) := ⟨_, rfl⟩
  rw [HBL.out] at hb
  obtain ⟨tg, nm, ky⟩ := r
  obtain ⟨sg, sn, sk⟩ := s
  unfold rfV
  simp only
  obtain ⟨K, hK⟩ : ∃ K, w.heap.size = K := ⟨_, rfl⟩
  have hbA : Blk (w.alloc (.cells #[.bool tg, .string (str nm), .string (str ky)] 24)) K #[.bool tg, .string (str nm), .string (str ky)] 24 := Blk.new_at w _ _ hK
  have hcA : Chg [] w (w.alloc (.cells #[.bool tg, .string (str nm), .string (str ky)] 24)) := (Chg.refl [] w).alloc _
  have hsA : (w.alloc (.cells #[.bool tg, .string (str nm), .string (str ky)] 24)).heap.size = K + 1 := by simp [hK]
  generalize ew1 : w.alloc (.cells #[.bool tg, .string (str nm), .string (str ky)] 24) = wa at *
  have hbB : Blk (wa.alloc (.cells #[.bool sg, .string (str sn), .string (str sk)] 24)) (K + 1) #[.bool sg, .string (str sn), .string (str sk)] 24 := Blk.new_at wa _ _ hsA
  have hbA2 := hbA.alloc (.cells #[.bool sg, .string (str sn), .string (str sk)] 24)
  have hcB := hcA.alloc (.cells #[.bool sg, .string (str sn), .string (str sk)] 24)
  subst ew1
  have hfi := fun w' (h : Chg [] w w') => first_any w' (hT.chg h)
  have h1 := hfi _ hcB
  have HFI := Lib.hid hfi
  have HT := Lib.hid hT
  have HR := Lib.hid (And.intro hr hs)
  have HX := Lib.hid hx
  have HBV := Lib.hid hb
  obtain ⟨vao, vcap, rfl, -⟩ := hb.shape
  obtain ⟨nl, HL⟩ : ∃ n, Hid (l.length = n) := ⟨_, rfl⟩
  rw [HL.out] at hv hl
  obtain ⟨ao, cap, rfl, -⟩ := hv.shape
  have HV := Lib.hid hv
  clear hT hr hs hx hb hv hfi hbA hcA hsA
  go_enter Tryz.func3, Tryz.ntmps3
  go_wp2_with fail
  generalize (w.alloc (.cells #[.bool tg, .string (str nm), .string (str ky)] 24)).alloc (.cells #[.bool sg, .string (str sn), .string (str sk)] 24) = wb at *
  refine h1.mono ?_
  rintro e w4 ⟨rfl, c4⟩
  clear h1 hK
  have H1 := Lib.hid (fun w' (h : Chg [] w4 w') => And.intro (And.intro (And.intro (hcB.nil (c4.nil h)) (And.intro ((hbA2.chg0 c4).chg0 h).c3.1 ((hbB.chg0 c4).chg0 h).c3.1)) (HV.out.chg0 (hcB.nil (c4.nil h)))) (HBV.out.chg0 (hcB.nil (c4.nil h))))
  clear hbA2 hbB hcB c4
  have hfw := few_any w4 (.slice ao nl cap) l (by rw [HL.out]; exact (H1.out w4 (Chg.refl [] _)).1.2) (by rw [HL.out]; exact hl) HX.out
  clear hl
  cases hF : fewL l with
  | false =>
    rw [hF] at hfw
    clear hF
    go_wp2_with fail
    refine hfw.mono ?_
    rintro e w5 ⟨rfl, q, rfl⟩
    have c5 : Chg [] w (w4.drewN q) := (H1.out w4 (Chg.refl [] _)).1.1.1.drewN q
    generalize w4.drewN q = w5 at *
    clear hfw
    go_wp2_with fail
    refine (HFI.out _ c5).mono ?_
    rintro e w8 ⟨rfl, c8⟩
    go_wp2_with fail
    go_ret
    exact ⟨rfl, c5.nil c8⟩
  | true =>
    rw [hF] at hfw
    have HF := Lib.hid hF
    clear hF
    go_wp2_with fail
    refine hfw.mono ?_
    rintro e w5 ⟨rfl, q, rfl⟩
    have c5 : Chg [] w4 (w4.drewN q) := (Chg.refl [] w4).drewN q
    generalize w4.drewN q = w5 at *
    clear hfw
    have H2 := Lib.hid (fun w' (h : Chg [] w5 w') => H1.out w' (c5.nil h))
    clear H1
    clear c5
    obtain ⟨⟨f0, f1, f2⟩, f3, f4, f5⟩ := (H2.out w5 (Chg.refl [] _)).1.1.2
    obtain ⟨G, hG⟩ : ∃ G, w5.heap.size = G := ⟨_, rfl⟩
    have hsx : Sees (w5.alloc (.cells #[.bool tg, .string (str nm), .string (str ky), .bool sg, .string (str sn), .string (str sk)] 24)) 3 (.slice (some ⟨G, 0, none⟩) 2 2) 2 (Rfs [⟨tg, nm, ky⟩, ⟨sg, sn, sk⟩]) := Sees.rows (Blk.new_at w5 _ _ hG) rfl
    have hcx : Chg [] w5 (w5.alloc (.cells #[.bool tg, .string (str nm), .string (str ky), .bool sg, .string (str sn), .string (str sk)] 24)) := (Chg.refl [] w5).alloc _
    have hf1 := few_any _ (.slice (some ⟨G, 0, none⟩) 2 2) [⟨tg, nm, ky⟩, ⟨sg, sn, sk⟩] hsx (by simp) (by
      intro r hr
      simp only [List.mem_cons, List.not_mem_nil, or_false] at hr
      rcases hr with rfl | rfl
      · exact HR.out.1
      · exact HR.out.2)
    clear hsx
    go_wp2_with fail
    generalize w5.alloc (.cells #[.bool tg, .string (str nm), .string (str ky), .bool sg, .string (str sn), .string (str sk)] 24) = wx at *
    refine hf1.mono ?_
    rintro e w6 ⟨rfl, q6, rfl⟩
    have c6 : Chg [] w5 (wx.drewN q6) := hcx.drewN q6
    generalize wx.drewN q6 = w6 at *
    clear hcx hf1 hG
    clear f0 f1 f2 f3 f4 f5
    clear wx
    have H3 := Lib.hid (fun w' (h : Chg [] w6 w') => H2.out w' (c6.nil h))
    clear H2
    clear c6
    cases hF1 : fewL [⟨tg, nm, ky⟩, ⟨sg, sn, sk⟩] with
    | false =>
      clear hF1
      have c7 : Chg [] w w6 := (H3.out w6 (Chg.refl [] _)).1.1.1
      go_wp2_with fail
      refine (HFI.out _ c7).mono ?_
      rintro e w8 ⟨rfl, c8⟩
      go_wp2_with fail
      go_ret
      exact ⟨rfl, c7.nil c8⟩
    | true =>
      clear hF1
      by_cases hbl : 20000 < bl
      · have t1 : decide ((20000 : Int) < (bl : Int)) = true := by simp; omega
        have t1' : decide (20000 < bl) = true := by simp; omega
        clear hbl
        have c7 : Chg [] w w6 := (H3.out w6 (Chg.refl [] _)).1.1.1
        go_wp2_with fail
        refine (HFI.out _ c7).mono ?_
        rintro e w8 ⟨rfl, c8⟩
        go_wp2_with fail
        go_ret
        exact ⟨rfl, c7.nil c8⟩
      · have t1 : decide ((20000 : Int) < (bl : Int)) = false := by simp; omega
        have t1' : decide (20000 < bl) = false := by simp; omega
        have HBB : Hid (b.length ≤ 200000) := by show _ ≤ _; rw [HBL.out]; omega
        have HNB : Hid (nl ≤ 1000000) := by show _ ≤ _; rw [← HL.out]; exact (okRef_few HF.out).1
        have HX2 := Lib.hid (okRef_few HF.out).2
        obtain ⟨D, hD⟩ : ∃ D, dropL l tg nm = D := ⟨_, rfl⟩
        obtain ⟨S, hS⟩ : ∃ S, setL l ⟨tg, nm, ky⟩ = S := ⟨_, rfl⟩
        obtain ⟨dn, HDN⟩ : ∃ k, Hid (D.length = k) := ⟨_, rfl⟩
        obtain ⟨zn, HSN⟩ : ∃ k, Hid (S.length = k) := ⟨_, rfl⟩
        have HDB : Hid (dn ≤ 1000000) := by show _ ≤ _; have h1 := dropL_len l tg nm; have h2 := HNB.out; rw [← HDN.out, ← hD]; have := HL.out; omega
        have HSB : Hid (zn ≤ 1000000) := by show _ ≤ _; have h1 := dropL_len l tg nm; have h3 := set_len l ⟨tg, nm, ky⟩; rw [← HSN.out, ← hS]; simp only at h3; have := HL.out; have h4 := (fewL_parts HF.out).1; omega
        have HD := Lib.hid hD
        have HS := Lib.hid hS
        obtain ⟨pl, g, hpd⟩ : ∃ pl g, decL b = (pl, g) := ⟨_, _, rfl⟩
        obtain ⟨pn, HPN⟩ : ∃ k, Hid (pl.length = k) := ⟨_, rfl⟩
        have HPB : Hid (pn ≤ 1000000) := by show _ ≤ _; rw [← HPN.out, show pl = (decL b).1 by rw [hpd]]; exact dec_len b HBB.out
        have HPD := Lib.hid hpd
        obtain ⟨kv, hkv⟩ : ∃ kv, (findL l tg nm).getD [] = kv := ⟨_, rfl⟩
        obtain ⟨okv, hokv⟩ : ∃ okv, (findL l tg nm).isSome = okv := ⟨_, rfl⟩
        have HFN : Hid (∀ w' v', Sees w' 3 v' nl (Rfs l) → Calls Tryz.prog 11 #[v', .bool tg, .string (str nm)] w' fun e w'' => e = .returned (.tuple #[.string (str kv), .bool okv]) ∧ Chg [] w' w'') := fun w' v' h => by have h := findN HL.out HNB.out tg nm w' v' h; rw [hkv, hokv] at h; exact h
        have HRF : Hid (∀ w' v', Sees w' 3 v' nl (Rfs l) → Calls Tryz.prog 12 #[v', .bool tg, .string (str nm)] w' fun e w'' => e = .returned (.tuple #[.string (str kv), .bool okv]) ∧ Chg [] w' w'') := fun w' v' h => by have h := rfindN HL.out HNB.out tg nm w' v' h; rw [hkv, hokv] at h; exact h
        clear hbl hD hS hpd hkv hokv
        have hvw := (H3.out w6 (Chg.refl [] _)).1.2
        have hb9 := HNB.out
        have hF0 : Fresh w6 (w6.alloc (.cells #[] 24)) 24 3 (.slice (some ⟨w6.heap.size, 0, none⟩) 0 0) 0 [] := ⟨Aq.Own.made _ _ _, (Chg.refl [] _).alloc _, fun k hk => by simp [Value.ownBlock] at hk; omega⟩
        go_wp2_with (at_builtin; refine wpList_appF (w0 := w6) rfl _ _ 22 rfl sl_ref (by exact hF0) rfl (hvw.chg0 ((Chg.refl [] w6).alloc (.cells #[] 24))) rfl (rfs_ones _) (by omega) (by omega) ?_; intro v9 w101 hF9 c9; rw [Nat.zero_add, List.nil_append] at hF9; obtain ⟨ai, ci, rfl, -⟩ := hF9.shape; clear c9 hF0 hvw hb9)
        clear t1 t1'
        have H4 := Lib.hid (fun w' (h : Chg [] w101 w') => And.intro (H3.out w' (hF9.chg.nil h)) (hF9.own.sees.chg0 h))
        clear H3
        clear hF9
        cases hM : mayL l with
        | false =>
          obtain ⟨x, hxe⟩ : ∃ x, encodeL l = (x, 4) := ⟨_, by unfold encodeL; rw [hM]; rfl⟩
          have HE := Lib.hid hxe
          have HM := Lib.hid hM
          obtain ⟨xl, HXL⟩ : ∃ k, Hid (x.length = k) := ⟨_, rfl⟩
          clear hxe hM
          skip
          refine (encX HL.out HE.out HXL.out HNB.out HX2.out _ (HT.out.chg (H4.out _ (Chg.refl [] _)).1.1.1.1) _ (H4.out _ (Chg.refl [] _)).2).mono ?_
          rintro e w102 ⟨v0, rfl, hs, c⟩
          obtain ⟨ax, cx, rfl, -⟩ := hs.shape
          have H5 := Lib.hid (fun w' (h : Chg [] w102 w') => And.intro (H4.out w' (c.nil h)) (hs.chg0 h))
          clear H4
          clear hs c
          go_wp2_with fail
          refine (plainN HL.out HNB.out _ _ (H5.out _ (Chg.refl [] _)).1.1.1.2).mono ?_
          rintro e w103 ⟨v0, rfl, hF⟩
          obtain ⟨a7, c7, rfl, -⟩ := hF.shape
          have H6 := Lib.hid (fun w' (h : Chg [] w103 w') => And.intro (H5.out w' (hF.chg.nil h)) (hF.own.sees.chg0 h))
          clear H5
          clear hF
          go_wp2_with fail
          refine (rencX HL.out HE.out HXL.out HNB.out HX2.out _ _ (H6.out _ (Chg.refl [] _)).2).mono ?_
          rintro e w104 ⟨v0, rfl, hs, c⟩
          obtain ⟨ay, cy, rfl, -⟩ := hs.shape
          have H7 := Lib.hid (fun w' (h : Chg [] w104 w') => And.intro (H6.out w' (c.nil h)) (hs.chg0 h))
          clear H6
          clear hs c
          go_wp2_with fail
          refine (decN HPD.out HPN.out HBB.out _ (HT.out.chg (H7.out _ (Chg.refl [] _)).1.1.1.1.1.1.1) _ (H7.out _ (Chg.refl [] _)).1.1.1.1.2).mono ?_
          rintro e w105 ⟨v0, rfl, hs, c⟩
          obtain ⟨ap, cp, rfl, -⟩ := hs.shape
          have H8 := Lib.hid (fun w' (h : Chg [] w105 w') => And.intro (H7.out w' (c.nil h)) (hs.chg0 h))
          clear H7
          clear hs c
          go_wp2_with fail
          refine (rdecN HPD.out HPN.out HBB.out _ _ (H8.out _ (Chg.refl [] _)).1.1.1.1.1.2).mono ?_
          rintro e w106 ⟨v0, rfl, hs, c⟩
          obtain ⟨aq, cq, rfl, -⟩ := hs.shape
          have H9 := Lib.hid (fun w' (h : Chg [] w106 w') => And.intro (H8.out w' (c.nil h)) (hs.chg0 h))
          clear H8
          clear hs c
          obtain ⟨⟨f0, f1, f2⟩, f3, f4, f5⟩ := (H9.out w106 (Chg.refl [] _)).1.1.1.1.1.1.1.1.2
          go_wp2_with fail
          refine (HFN.out _ _ (H9.out _ (Chg.refl [] _)).1.1.1.1.1.2).mono ?_
          rintro e w107 ⟨rfl, c⟩
          have H10 := Lib.hid (fun w' (h : Chg [] w107 w') => H9.out w' (c.nil h))
          clear H9
          clear c
          clear f0 f1 f2 f3 f4 f5
          obtain ⟨⟨f0, f1, f2⟩, f3, f4, f5⟩ := (H10.out w107 (Chg.refl [] _)).1.1.1.1.1.1.1.1.2
          go_upto_region 11 with (fail)
          have c0 : Chg [] w107 w107.drew := (Chg.refl [] _).drew
          refine wp_region_E [] (by kernel_rfl) ?_
          generalize hW0 : w107.drew = W0 at *
          clear hW0
          have H11 := Lib.hid (fun w' (h : Chg [] W0 w') => H10.out w' (c0.nil h))
          clear H10
          clear c0
          have C0 : Hid (Chg [] W0 W0) := Chg.refl _ _
          have HK0 := Lib.hid (fun w' h => (H11.out w' h).1.1.1.1.1.1.1.1.2)
          clear f0 f1 f2 f3 f4 f5
          refine wpAnyE_take 0 (v := (.slice ao nl cap)) C0.out rfl (by kernel_rfl) (by kernel_rfl) (by kernel_rfl) (fun _ _ _ h => h) (by rfl) (fun w4 c4 => ?_) ?_
          · go_simp
          try simp only [Act.put, List.getElem_toArray, List.getElem_cons_succ, List.getElem_cons_zero, List.setIfInBounds_toArray, List.set_cons_zero, List.set_cons_succ]
          refine wpAnyE_take 2 (v := (.pointer (some ⟨K, 0, none⟩))) C0.out rfl (by kernel_rfl) (by kernel_rfl) (by kernel_rfl) (fun _ _ _ h => h) (by rfl) (fun w4 c4 => ?_) ?_
          · go_simp
          try simp only [Act.put, List.getElem_toArray, List.getElem_cons_succ, List.getElem_cons_zero, List.setIfInBounds_toArray, List.set_cons_zero, List.set_cons_succ]
          refine wpAnyE_take 3 (v := (.bool tg)) C0.out rfl (by kernel_rfl) (by kernel_rfl) (by kernel_rfl) (fun _ _ _ h => h) (by rfl) (fun w4 c4 => ?_) ?_
          · obtain ⟨⟨f0, f1, f2⟩, f3, f4, f5⟩ := HK0.out w4 c4
            go_simp
          try simp only [Act.put, List.getElem_toArray, List.getElem_cons_succ, List.getElem_cons_zero, List.setIfInBounds_toArray, List.set_cons_zero, List.set_cons_succ]
          refine wpAnyE_take 4 (v := (.pointer (some ⟨K, 1, none⟩))) C0.out rfl (by kernel_rfl) (by kernel_rfl) (by kernel_rfl) (fun _ _ _ h => h) (by rfl) (fun w4 c4 => ?_) ?_
          · go_simp
          try simp only [Act.put, List.getElem_toArray, List.getElem_cons_succ, List.getElem_cons_zero, List.setIfInBounds_toArray, List.set_cons_zero, List.set_cons_succ]
          refine wpAnyE_take 5 (v := (.string (str nm))) C0.out rfl (by kernel_rfl) (by kernel_rfl) (by kernel_rfl) (fun _ _ _ h => h) (by rfl) (fun w4 c4 => ?_) ?_
          · obtain ⟨⟨f0, f1, f2⟩, f3, f4, f5⟩ := HK0.out w4 c4
            go_simp
          try simp only [Act.put, List.getElem_toArray, List.getElem_cons_succ, List.getElem_cons_zero, List.setIfInBounds_toArray, List.set_cons_zero, List.set_cons_succ]
          refine wpAnyE_only 1 rfl (by kernel_rfl) (by rfl) ?_
          go_simp
          refine (plainN HL.out HNB.out _ _ (H11.out _ (Chg.refl [] _)).1.1.1.1.1.1.1.2).mono ?_
          rintro e w108 ⟨v0, rfl, hF⟩
          obtain ⟨a11, c11, rfl, -⟩ := hF.shape
          have C108 := Lib.hid (C0.out.nil hF.chg)
          clear C0
          have H12 := Lib.hid (fun w' (h : Chg [] w108 w') => And.intro (H11.out w' (hF.chg.nil h)) (hF.own.sees.chg0 h))
          clear H11
          clear hF
          refine ⟨C108.out, ?_⟩
          try simp only [Act.put, List.getElem_toArray, List.getElem_cons_succ, List.getElem_cons_zero, List.setIfInBounds_toArray, List.set_cons_zero, List.set_cons_succ]
          refine wpAnyE_only 6 rfl (by kernel_rfl) (by rfl) ?_
          go_simp
          refine (HRF.out _ _ (H12.out _ (Chg.refl [] _)).2).mono ?_
          rintro e w109 ⟨rfl, c⟩
          have C109 := Lib.hid (C108.out.nil c)
          clear C108
          have H13 := Lib.hid (fun w' (h : Chg [] w109 w') => H12.out w' (c.nil h))
          clear H12
          clear c
          refine ⟨C109.out, ?_⟩
          try simp only [Act.put, List.getElem_toArray, List.getElem_cons_succ, List.getElem_cons_zero, List.setIfInBounds_toArray, List.set_cons_zero, List.set_cons_succ]
          refine wpAnyE_take 7 (v := (.tuple #[.string (str kv), .bool okv])) C109.out rfl (by kernel_rfl) (by kernel_rfl) (by kernel_rfl) (fun _ _ _ h => h) (by rfl) (fun w4 c4 => ?_) ?_
          · go_simp
          try simp only [Act.put, List.getElem_toArray, List.getElem_cons_succ, List.getElem_cons_zero, List.setIfInBounds_toArray, List.set_cons_zero, List.set_cons_succ]
          refine wpAnyE_take 8 (v := (.string (str kv))) C109.out rfl (by kernel_rfl) (by kernel_rfl) (by kernel_rfl) (fun _ _ _ h => h) (by rfl) (fun w4 c4 => ?_) ?_
          · go_simp
          try simp only [Act.put, List.getElem_toArray, List.getElem_cons_succ, List.getElem_cons_zero, List.setIfInBounds_toArray, List.set_cons_zero, List.set_cons_succ]
          refine wpAnyE_take 9 (v := (.bool okv)) C109.out rfl (by kernel_rfl) (by kernel_rfl) (by kernel_rfl) (fun _ _ _ h => h) (by rfl) (fun w4 c4 => ?_) ?_
          · go_simp
          try simp only [Act.put, List.getElem_toArray, List.getElem_cons_succ, List.getElem_cons_zero, List.setIfInBounds_toArray, List.set_cons_zero, List.set_cons_succ]
          refine wpAnyE_take 10 (v := (.string (str kv))) C109.out rfl (by kernel_rfl) (by kernel_rfl) (by kernel_rfl) (fun _ _ _ h => h) (by rfl) (fun w4 c4 => ?_) ?_
          · go_simp
          try simp only [Act.put, List.getElem_toArray, List.getElem_cons_succ, List.getElem_cons_zero, List.setIfInBounds_toArray, List.set_cons_zero, List.set_cons_succ]
          refine wpAnyE_take 11 (v := (.bool okv)) C109.out rfl (by kernel_rfl) (by kernel_rfl) (by kernel_rfl) (fun _ _ _ h => h) (by rfl) (fun w4 c4 => ?_) ?_
          · go_simp
          try simp only [Act.put, List.getElem_toArray, List.getElem_cons_succ, List.getElem_cons_zero, List.setIfInBounds_toArray, List.set_cons_zero, List.set_cons_succ]
          refine wpAnyE_done (by kernel_rfl) ?_ _
          clear HK0
          go_wp2_with fail
          refine (saveBadN HL.out HNB.out HX2.out HM.out _ (HT.out.chg (H13.out _ (Chg.refl [] _)).1.1.1.1.1.1.1.1.1.1) _ (H13.out _ (Chg.refl [] _)).1.1.1.1.1.1.2).mono ?_
          rintro e w110 ⟨rfl, c⟩
          have H14 := Lib.hid (fun w' (h : Chg [] w110 w') => H13.out w' (c.nil h))
          clear H13
          clear c
          obtain ⟨M, hM⟩ : ∃ M, w110.heap.size = M := ⟨_, rfl⟩
          have hbM : Blk (w110.alloc (.cells #[.int .i64 0, .string ⟨#[]⟩, .string ⟨#[]⟩, .slice none 0 0] 42)) M #[.int .i64 0, .string ⟨#[]⟩, .string ⟨#[]⟩, .slice none 0 0] 42 := Blk.new_at _ _ _ hM
          have hone : ∀ u ∈ (#[.int .i64 0, .string ⟨#[]⟩, .string ⟨#[]⟩, .slice none 0 0] : Array Value).toList, u.oneCell' = true := by intro u hu; simp at hu; rcases hu with rfl | rfl | rfl | rfl <;> rfl
          have hz := zero_ch
          go_upto_region 13 with (refine wpList_stA (cs := #[.int .i64 0, .string ⟨#[]⟩, .string ⟨#[]⟩, .slice none 0 0]) rfl 42 _ _ rfl hbM ch_ty rfl hone rfl rfl ?_; intro w111 hb13 hc13 hs13; obtain ⟨⟨z0, z1, z2, z3⟩, -⟩ := Blk.c4 hb13; have hc13' : Chg [] w110 w111 := ((Chg.refl [] w110).alloc (.cells #[.int .i64 0, .string ⟨#[]⟩, .string ⟨#[]⟩, .slice none 0 0] 42)).trans hc13 (fun k hk => .inr (by rw [List.mem_singleton.1 hk]; omega)); clear hbM hone hz hs13 hc13 hb13 hM)
          have H15 := Lib.hid (fun w' (h : Chg [] w111 w') => H14.out w' (hc13'.nil h))
          clear H14
          clear hc13'
          clear z0 z1 z2 z3
          obtain ⟨⟨f0, f1, f2⟩, f3, f4, f5⟩ := (H15.out w111 (Chg.refl [] _)).1.1.1.1.1.1.1.1.1.2
          go_wp2_with fail
          refine (dropN HL.out HDN.out HNB.out tg nm HD.out _ _ (H15.out _ (Chg.refl [] _)).1.1.1.1.1.1.2).mono ?_
          rintro e w112 ⟨v0, rfl, hF⟩
          obtain ⟨ad, cd, rfl, -⟩ := hF.shape
          have H16 := Lib.hid (fun w' (h : Chg [] w112 w') => And.intro (H15.out w' (hF.chg.nil h)) (hF.own.sees.chg0 h))
          clear H15
          clear hF
          clear f0 f1 f2 f3 f4 f5
          obtain ⟨⟨f0, f1, f2⟩, f3, f4, f5⟩ := (H16.out w112 (Chg.refl [] _)).1.1.1.1.1.1.1.1.1.1.2
          go_upto_region 16 with (fail)
          have c0 : Chg [] w112 w112.drew := (Chg.refl [] _).drew
          refine wp_region_E [] (by kernel_rfl) ?_
          generalize hW0 : w112.drew = W0 at *
          clear hW0
          have H17 := Lib.hid (fun w' (h : Chg [] W0 w') => H16.out w' (c0.nil h))
          clear H16
          clear c0
          have C0 : Hid (Chg [] W0 W0) := Chg.refl _ _
          have HK0 := Lib.hid (fun w' h => (H17.out w' h).1.1.1.1.1.1.1.1.1.1.2)
          clear f0 f1 f2 f3 f4 f5
          refine wpAnyE_take 0 (v := (.slice ad dn cd)) C0.out rfl (by kernel_rfl) (by kernel_rfl) (by kernel_rfl) (fun _ _ _ h => h) (by rfl) (fun w4 c4 => ?_) ?_
          · go_simp
          try simp only [Act.put, List.getElem_toArray, List.getElem_cons_succ, List.getElem_cons_zero, List.setIfInBounds_toArray, List.set_cons_zero, List.set_cons_succ]
          refine wpAnyE_take 2 (v := (.slice ao nl cap)) C0.out rfl (by kernel_rfl) (by kernel_rfl) (by kernel_rfl) (fun _ _ _ h => h) (by rfl) (fun w4 c4 => ?_) ?_
          · go_simp
          try simp only [Act.put, List.getElem_toArray, List.getElem_cons_succ, List.getElem_cons_zero, List.setIfInBounds_toArray, List.set_cons_zero, List.set_cons_succ]
          refine wpAnyE_take 4 (v := (.pointer (some ⟨K, 0, none⟩))) C0.out rfl (by kernel_rfl) (by kernel_rfl) (by kernel_rfl) (fun _ _ _ h => h) (by rfl) (fun w4 c4 => ?_) ?_
          · go_simp
          try simp only [Act.put, List.getElem_toArray, List.getElem_cons_succ, List.getElem_cons_zero, List.setIfInBounds_toArray, List.set_cons_zero, List.set_cons_succ]
          refine wpAnyE_take 5 (v := (.bool tg)) C0.out rfl (by kernel_rfl) (by kernel_rfl) (by kernel_rfl) (fun _ _ _ h => h) (by rfl) (fun w4 c4 => ?_) ?_
          · obtain ⟨⟨f0, f1, f2⟩, f3, f4, f5⟩ := HK0.out w4 c4
            go_simp
          try simp only [Act.put, List.getElem_toArray, List.getElem_cons_succ, List.getElem_cons_zero, List.setIfInBounds_toArray, List.set_cons_zero, List.set_cons_succ]
          refine wpAnyE_take 6 (v := (.pointer (some ⟨K, 1, none⟩))) C0.out rfl (by kernel_rfl) (by kernel_rfl) (by kernel_rfl) (fun _ _ _ h => h) (by rfl) (fun w4 c4 => ?_) ?_
          · go_simp
          try simp only [Act.put, List.getElem_toArray, List.getElem_cons_succ, List.getElem_cons_zero, List.setIfInBounds_toArray, List.set_cons_zero, List.set_cons_succ]
          refine wpAnyE_take 7 (v := (.string (str nm))) C0.out rfl (by kernel_rfl) (by kernel_rfl) (by kernel_rfl) (fun _ _ _ h => h) (by rfl) (fun w4 c4 => ?_) ?_
          · obtain ⟨⟨f0, f1, f2⟩, f3, f4, f5⟩ := HK0.out w4 c4
            go_simp
          try simp only [Act.put, List.getElem_toArray, List.getElem_cons_succ, List.getElem_cons_zero, List.setIfInBounds_toArray, List.set_cons_zero, List.set_cons_succ]
          refine wpAnyE_only 1 rfl (by kernel_rfl) (by rfl) ?_
          go_simp
          refine (plainN HDN.out HDB.out _ _ (H17.out _ (Chg.refl [] _)).2).mono ?_
          rintro e w113 ⟨v0, rfl, hF⟩
          obtain ⟨b1, e1, rfl, -⟩ := hF.shape
          have C113 := Lib.hid (C0.out.nil hF.chg)
          clear C0
          have H18 := Lib.hid (fun w' (h : Chg [] w113 w') => And.intro (H17.out w' (hF.chg.nil h)) (hF.own.sees.chg0 h))
          clear H17
          clear hF
          refine ⟨C113.out, ?_⟩
          try simp only [Act.put, List.getElem_toArray, List.getElem_cons_succ, List.getElem_cons_zero, List.setIfInBounds_toArray, List.set_cons_zero, List.set_cons_succ]
          refine wpAnyE_only 3 rfl (by kernel_rfl) (by rfl) ?_
          go_simp
          refine (plainN HL.out HNB.out _ _ (H18.out _ (Chg.refl [] _)).1.1.1.1.1.1.1.1.1.1.2).mono ?_
          rintro e w114 ⟨v0, rfl, hF⟩
          obtain ⟨b2, e2, rfl, -⟩ := hF.shape
          have C114 := Lib.hid (C113.out.nil hF.chg)
          clear C113
          have H19 := Lib.hid (fun w' (h : Chg [] w114 w') => And.intro (H18.out w' (hF.chg.nil h)) (hF.own.sees.chg0 h))
          clear H18
          clear hF
          refine ⟨C114.out, ?_⟩
          try simp only [Act.put, List.getElem_toArray, List.getElem_cons_succ, List.getElem_cons_zero, List.setIfInBounds_toArray, List.set_cons_zero, List.set_cons_succ]
          refine wpAnyE_only 8 rfl (by kernel_rfl) (by rfl) ?_
          go_simp
          refine (rdropN HL.out HDN.out HNB.out tg nm HD.out _ _ (H19.out _ (Chg.refl [] _)).2).mono ?_
          rintro e w115 ⟨v0, rfl, hF⟩
          obtain ⟨b3, e3, rfl, -⟩ := hF.shape
          have C115 := Lib.hid (C114.out.nil hF.chg)
          clear C114
          have H20 := Lib.hid (fun w' (h : Chg [] w115 w') => And.intro (H19.out w' (hF.chg.nil h)) (hF.own.sees.chg0 h))
          clear H19
          clear hF
          refine ⟨C115.out, ?_⟩
          try simp only [Act.put, List.getElem_toArray, List.getElem_cons_succ, List.getElem_cons_zero, List.setIfInBounds_toArray, List.set_cons_zero, List.set_cons_succ]
          refine wpAnyE_only 9 rfl (by kernel_rfl) (by rfl) ?_
          go_simp
          refine (sameN HDN.out HDB.out _ _ _ (H20.out _ (Chg.refl [] _)).1.1.2 (H20.out _ (Chg.refl [] _)).2).mono ?_
          rintro e w116 ⟨rfl, c⟩
          have C116 := Lib.hid (C115.out.nil c)
          clear C115
          have H21 := Lib.hid (fun w' (h : Chg [] w116 w') => H20.out w' (c.nil h))
          clear H20
          clear c
          refine ⟨C116.out, ?_⟩
          try simp only [Act.put, List.getElem_toArray, List.getElem_cons_succ, List.getElem_cons_zero, List.setIfInBounds_toArray, List.set_cons_zero, List.set_cons_succ]
          refine wpAnyE_take 10 (v := (.bool true)) C116.out rfl (by kernel_rfl) (by kernel_rfl) (by kernel_rfl) (fun _ _ _ h => h) (by rfl) (fun w4 c4 => ?_) ?_
          · go_simp
          try simp only [Act.put, List.getElem_toArray, List.getElem_cons_succ, List.getElem_cons_zero, List.setIfInBounds_toArray, List.set_cons_zero, List.set_cons_succ]
          refine wpAnyE_done (by kernel_rfl) ?_ _
          clear HK0
          have hma := mayN HL.out HNB.out HX2.out w116 (HT.out.chg (H21.out _ (Chg.refl [] _)).1.1.1.1.1.1.1.1.1.1.1.1.1.1) (.slice ai nl ci) (H21.out _ (Chg.refl [] _)).1.1.1.1.1.1.1.1.1.1.2
          rw [HM.out] at hma
          go_wp2_with fail
          refine (hma).mono ?_
          rintro e w118 ⟨rfl, c⟩
          have H22 := Lib.hid (fun w' (h : Chg [] w118 w') => H21.out w' (c.nil h))
          clear H21
          clear c hma
          obtain ⟨⟨f0, f1, f2⟩, f3, f4, f5⟩ := (H22.out w118 (Chg.refl [] _)).1.1.1.1.1.1.1.1.1.1.1.1.1.2
          go_upto_region 19 with (fail)
          have c0 : Chg [] w118 w118.drew := (Chg.refl [] _).drew
          refine wp_region_E [] (by kernel_rfl) ?_
          generalize hW0 : w118.drew = W0 at *
          clear hW0
          have H23 := Lib.hid (fun w' (h : Chg [] W0 w') => H22.out w' (c0.nil h))
          clear H22
          clear c0
          have C0 : Hid (Chg [] W0 W0) := Chg.refl _ _
          have HK0 := Lib.hid (fun w' h => (H23.out w' h).1.1.1.1.1.1.1.1.1.1.1.1.1.2)
          clear f0 f1 f2 f3 f4 f5
          refine wpAnyE_only 0 rfl (by kernel_rfl) (by rfl) ?_
          go_simp
          refine (HFI.out _ (H23.out _ (Chg.refl [] _)).1.1.1.1.1.1.1.1.1.1.1.1.1.1).mono ?_
          rintro e w119 ⟨rfl, c⟩
          have C119 := Lib.hid (C0.out.nil c)
          clear C0
          have H24 := Lib.hid (fun w' (h : Chg [] w119 w') => H23.out w' (c.nil h))
          clear H23
          clear c
          refine ⟨C119.out, ?_⟩
          try simp only [Act.put, List.getElem_toArray, List.getElem_cons_succ, List.getElem_cons_zero, List.setIfInBounds_toArray, List.set_cons_zero, List.set_cons_succ]
          refine wpAnyE_take 1 (v := (.bool true)) C119.out rfl (by kernel_rfl) (by kernel_rfl) (by kernel_rfl) (fun _ _ _ h => h) (by rfl) (fun w4 c4 => ?_) ?_
          · go_simp
          try simp only [Act.put, List.getElem_toArray, List.getElem_cons_succ, List.getElem_cons_zero, List.setIfInBounds_toArray, List.set_cons_zero, List.set_cons_succ]
          refine wpAnyE_take 2 (v := (.bool true)) C119.out rfl (by kernel_rfl) (by kernel_rfl) (by kernel_rfl) (fun _ _ _ h => h) (by rfl) (fun w4 c4 => ?_) ?_
          · go_simp
          try simp only [Act.put, List.getElem_toArray, List.getElem_cons_succ, List.getElem_cons_zero, List.setIfInBounds_toArray, List.set_cons_zero, List.set_cons_succ]
          refine wpAnyE_take 3 (v := (.bool true)) C119.out rfl (by kernel_rfl) (by kernel_rfl) (by kernel_rfl) (fun _ _ _ h => h) (by rfl) (fun w4 c4 => ?_) ?_
          · go_simp
          try simp only [Act.put, List.getElem_toArray, List.getElem_cons_succ, List.getElem_cons_zero, List.setIfInBounds_toArray, List.set_cons_zero, List.set_cons_succ]
          refine wpAnyE_take 4 (v := (.bool true)) C119.out rfl (by kernel_rfl) (by kernel_rfl) (by kernel_rfl) (fun _ _ _ h => h) (by rfl) (fun w4 c4 => ?_) ?_
          · go_simp
          try simp only [Act.put, List.getElem_toArray, List.getElem_cons_succ, List.getElem_cons_zero, List.setIfInBounds_toArray, List.set_cons_zero, List.set_cons_succ]
          refine wpAnyE_take 5 (v := (.slice ax xl cx)) C119.out rfl (by kernel_rfl) (by kernel_rfl) (by kernel_rfl) (fun _ _ _ h => h) (by rfl) (fun w4 c4 => ?_) ?_
          · go_simp
          try simp only [Act.put, List.getElem_toArray, List.getElem_cons_succ, List.getElem_cons_zero, List.setIfInBounds_toArray, List.set_cons_zero, List.set_cons_succ]
          refine wpAnyE_take 6 (v := (.slice ay xl cy)) C119.out rfl (by kernel_rfl) (by kernel_rfl) (by kernel_rfl) (fun _ _ _ h => h) (by rfl) (fun w4 c4 => ?_) ?_
          · go_simp
          try simp only [Act.put, List.getElem_toArray, List.getElem_cons_succ, List.getElem_cons_zero, List.setIfInBounds_toArray, List.set_cons_zero, List.set_cons_succ]
          refine wpAnyE_only 7 rfl (by kernel_rfl) (by rfl) ?_
          go_simp
          refine (same_yes _ _ _ xl xl x x (H24.out _ (Chg.refl [] _)).1.1.1.1.1.1.1.1.1.2 (H24.out _ (Chg.refl [] _)).1.1.1.1.1.1.1.2 rfl).mono ?_
          rintro e w120 ⟨rfl, hw⟩
          have C120 := Lib.hid (C119.out.nil (chg_eq hw))
          clear C119
          have H25 := Lib.hid (fun w' (h : Chg [] w120 w') => H24.out w' ((chg_eq hw).nil h))
          clear H24
          clear hw
          refine ⟨C120.out, ?_⟩
          try simp only [Act.put, List.getElem_toArray, List.getElem_cons_succ, List.getElem_cons_zero, List.setIfInBounds_toArray, List.set_cons_zero, List.set_cons_succ]
          refine wpAnyE_take 8 (v := (.bool true)) C120.out rfl (by kernel_rfl) (by kernel_rfl) (by kernel_rfl) (fun _ _ _ h => h) (by rfl) (fun w4 c4 => ?_) ?_
          · go_simp
          try simp only [Act.put, List.getElem_toArray, List.getElem_cons_succ, List.getElem_cons_zero, List.setIfInBounds_toArray, List.set_cons_zero, List.set_cons_succ]
          refine wpAnyE_take 9 (v := (.bool true)) C120.out rfl (by kernel_rfl) (by kernel_rfl) (by kernel_rfl) (fun _ _ _ h => h) (by rfl) (fun w4 c4 => ?_) ?_
          · go_simp
          try simp only [Act.put, List.getElem_toArray, List.getElem_cons_succ, List.getElem_cons_zero, List.setIfInBounds_toArray, List.set_cons_zero, List.set_cons_succ]
          refine wpAnyE_take 10 (v := (.int .i64 4)) C120.out rfl (by kernel_rfl) (by kernel_rfl) (by kernel_rfl) (fun _ _ _ h => h) (by rfl) (fun w4 c4 => ?_) ?_
          · go_simp
          try simp only [Act.put, List.getElem_toArray, List.getElem_cons_succ, List.getElem_cons_zero, List.setIfInBounds_toArray, List.set_cons_zero, List.set_cons_succ]
          refine wpAnyE_take 11 (v := (.int .i64 4)) C120.out rfl (by kernel_rfl) (by kernel_rfl) (by kernel_rfl) (fun _ _ _ h => h) (by rfl) (fun w4 c4 => ?_) ?_
          · go_simp
          try simp only [Act.put, List.getElem_toArray, List.getElem_cons_succ, List.getElem_cons_zero, List.setIfInBounds_toArray, List.set_cons_zero, List.set_cons_succ]
          refine wpAnyE_take 12 (v := (.bool true)) C120.out rfl (by kernel_rfl) (by kernel_rfl) (by kernel_rfl) (fun _ _ _ h => h) (by rfl) (fun w4 c4 => ?_) ?_
          · go_simp
          try simp only [Act.put, List.getElem_toArray, List.getElem_cons_succ, List.getElem_cons_zero, List.setIfInBounds_toArray, List.set_cons_zero, List.set_cons_succ]
          refine wpAnyE_take 13 (v := (.bool true)) C120.out rfl (by kernel_rfl) (by kernel_rfl) (by kernel_rfl) (fun _ _ _ h => h) (by rfl) (fun w4 c4 => ?_) ?_
          · go_simp
          try simp only [Act.put, List.getElem_toArray, List.getElem_cons_succ, List.getElem_cons_zero, List.setIfInBounds_toArray, List.set_cons_zero, List.set_cons_succ]
          refine wpAnyE_take 14 (v := (.bool true)) C120.out rfl (by kernel_rfl) (by kernel_rfl) (by kernel_rfl) (fun _ _ _ h => h) (by rfl) (fun w4 c4 => ?_) ?_
          · go_simp
          try simp only [Act.put, List.getElem_toArray, List.getElem_cons_succ, List.getElem_cons_zero, List.setIfInBounds_toArray, List.set_cons_zero, List.set_cons_succ]
          refine wpAnyE_take 15 (v := (.slice ap pn cp)) C120.out rfl (by kernel_rfl) (by kernel_rfl) (by kernel_rfl) (fun _ _ _ h => h) (by rfl) (fun w4 c4 => ?_) ?_
          · go_simp
          try simp only [Act.put, List.getElem_toArray, List.getElem_cons_succ, List.getElem_cons_zero, List.setIfInBounds_toArray, List.set_cons_zero, List.set_cons_succ]
          refine wpAnyE_take 17 (v := (.slice aq pn cq)) C120.out rfl (by kernel_rfl) (by kernel_rfl) (by kernel_rfl) (fun _ _ _ h => h) (by rfl) (fun w4 c4 => ?_) ?_
          · go_simp
          try simp only [Act.put, List.getElem_toArray, List.getElem_cons_succ, List.getElem_cons_zero, List.setIfInBounds_toArray, List.set_cons_zero, List.set_cons_succ]
          refine wpAnyE_only 16 rfl (by kernel_rfl) (by rfl) ?_
          go_simp
          refine (plainN HPN.out HPB.out _ _ (H25.out _ (Chg.refl [] _)).1.1.1.1.1.1.2).mono ?_
          rintro e w121 ⟨v0, rfl, hF⟩
          obtain ⟨m1, o1, rfl, -⟩ := hF.shape
          have C121 := Lib.hid (C120.out.nil hF.chg)
          clear C120
          have H26 := Lib.hid (fun w' (h : Chg [] w121 w') => And.intro (H25.out w' (hF.chg.nil h)) (hF.own.sees.chg0 h))
          clear H25
          clear hF
          refine ⟨C121.out, ?_⟩
          try simp only [Act.put, List.getElem_toArray, List.getElem_cons_succ, List.getElem_cons_zero, List.setIfInBounds_toArray, List.set_cons_zero, List.set_cons_succ]
          refine wpAnyE_only 18 rfl (by kernel_rfl) (by rfl) ?_
          go_simp
          refine (sameN HPN.out HPB.out _ _ _ (H26.out _ (Chg.refl [] _)).2 (H26.out _ (Chg.refl [] _)).1.1.1.1.1.1.2).mono ?_
          rintro e w122 ⟨rfl, c⟩
          have C122 := Lib.hid (C121.out.nil c)
          clear C121
          have H27 := Lib.hid (fun w' (h : Chg [] w122 w') => H26.out w' (c.nil h))
          clear H26
          clear c
          refine ⟨C122.out, ?_⟩
          try simp only [Act.put, List.getElem_toArray, List.getElem_cons_succ, List.getElem_cons_zero, List.setIfInBounds_toArray, List.set_cons_zero, List.set_cons_succ]
          have ek : ((str kv).toList == (str kv).toList) = true := by simp
          have eo : (okv == okv) = true := by simp
          have eg : ((g : Int) == (g : Int)) = true := by simp
          refine wpAnyE_take 19 (v := (.bool true)) C122.out rfl (by kernel_rfl) (by kernel_rfl) (by kernel_rfl) (fun _ _ _ h => h) (by rfl) (fun w4 c4 => ?_) ?_
          · go_simp
          try simp only [Act.put, List.getElem_toArray, List.getElem_cons_succ, List.getElem_cons_zero, List.setIfInBounds_toArray, List.set_cons_zero, List.set_cons_succ]
          refine wpAnyE_take 20 (v := (.bool true)) C122.out rfl (by kernel_rfl) (by kernel_rfl) (by kernel_rfl) (fun _ _ _ h => h) (by rfl) (fun w4 c4 => ?_) ?_
          · go_simp
          try simp only [Act.put, List.getElem_toArray, List.getElem_cons_succ, List.getElem_cons_zero, List.setIfInBounds_toArray, List.set_cons_zero, List.set_cons_succ]
          refine wpAnyE_take 21 (v := (.int .i64 (g : Int))) C122.out rfl (by kernel_rfl) (by kernel_rfl) (by kernel_rfl) (fun _ _ _ h => h) (by rfl) (fun w4 c4 => ?_) ?_
          · go_simp
          try simp only [Act.put, List.getElem_toArray, List.getElem_cons_succ, List.getElem_cons_zero, List.setIfInBounds_toArray, List.set_cons_zero, List.set_cons_succ]
          refine wpAnyE_take 22 (v := (.int .i64 (g : Int))) C122.out rfl (by kernel_rfl) (by kernel_rfl) (by kernel_rfl) (fun _ _ _ h => h) (by rfl) (fun w4 c4 => ?_) ?_
          · go_simp
          try simp only [Act.put, List.getElem_toArray, List.getElem_cons_succ, List.getElem_cons_zero, List.setIfInBounds_toArray, List.set_cons_zero, List.set_cons_succ]
          refine wpAnyE_take 23 (v := (.bool true)) C122.out rfl (by kernel_rfl) (by kernel_rfl) (by kernel_rfl) (fun _ _ _ h => h) (by rfl) (fun w4 c4 => ?_) ?_
          · go_simp
          try simp only [Act.put, List.getElem_toArray, List.getElem_cons_succ, List.getElem_cons_zero, List.setIfInBounds_toArray, List.set_cons_zero, List.set_cons_succ]
          refine wpAnyE_take 24 (v := (.bool true)) C122.out rfl (by kernel_rfl) (by kernel_rfl) (by kernel_rfl) (fun _ _ _ h => h) (by rfl) (fun w4 c4 => ?_) ?_
          · go_simp
          try simp only [Act.put, List.getElem_toArray, List.getElem_cons_succ, List.getElem_cons_zero, List.setIfInBounds_toArray, List.set_cons_zero, List.set_cons_succ]
          refine wpAnyE_take 25 (v := (.bool true)) C122.out rfl (by kernel_rfl) (by kernel_rfl) (by kernel_rfl) (fun _ _ _ h => h) (by rfl) (fun w4 c4 => ?_) ?_
          · go_simp
          try simp only [Act.put, List.getElem_toArray, List.getElem_cons_succ, List.getElem_cons_zero, List.setIfInBounds_toArray, List.set_cons_zero, List.set_cons_succ]
          refine wpAnyE_take 26 (v := (.string (str kv))) C122.out rfl (by kernel_rfl) (by kernel_rfl) (by kernel_rfl) (fun _ _ _ h => h) (by rfl) (fun w4 c4 => ?_) ?_
          · go_simp
          try simp only [Act.put, List.getElem_toArray, List.getElem_cons_succ, List.getElem_cons_zero, List.setIfInBounds_toArray, List.set_cons_zero, List.set_cons_succ]
          refine wpAnyE_take 27 (v := (.string (str kv))) C122.out rfl (by kernel_rfl) (by kernel_rfl) (by kernel_rfl) (fun _ _ _ h => h) (by rfl) (fun w4 c4 => ?_) ?_
          · go_simp
          try simp only [Act.put, List.getElem_toArray, List.getElem_cons_succ, List.getElem_cons_zero, List.setIfInBounds_toArray, List.set_cons_zero, List.set_cons_succ]
          refine wpAnyE_take 28 (v := (.bool true)) C122.out rfl (by kernel_rfl) (by kernel_rfl) (by kernel_rfl) (fun _ _ _ h => h) (by rfl) (fun w4 c4 => ?_) ?_
          · go_simp
          try simp only [Act.put, List.getElem_toArray, List.getElem_cons_succ, List.getElem_cons_zero, List.setIfInBounds_toArray, List.set_cons_zero, List.set_cons_succ]
          refine wpAnyE_take 29 (v := (.bool true)) C122.out rfl (by kernel_rfl) (by kernel_rfl) (by kernel_rfl) (fun _ _ _ h => h) (by rfl) (fun w4 c4 => ?_) ?_
          · go_simp
          try simp only [Act.put, List.getElem_toArray, List.getElem_cons_succ, List.getElem_cons_zero, List.setIfInBounds_toArray, List.set_cons_zero, List.set_cons_succ]
          refine wpAnyE_take 30 (v := (.bool true)) C122.out rfl (by kernel_rfl) (by kernel_rfl) (by kernel_rfl) (fun _ _ _ h => h) (by rfl) (fun w4 c4 => ?_) ?_
          · go_simp
          try simp only [Act.put, List.getElem_toArray, List.getElem_cons_succ, List.getElem_cons_zero, List.setIfInBounds_toArray, List.set_cons_zero, List.set_cons_succ]
          refine wpAnyE_take 31 (v := (.bool okv)) C122.out rfl (by kernel_rfl) (by kernel_rfl) (by kernel_rfl) (fun _ _ _ h => h) (by rfl) (fun w4 c4 => ?_) ?_
          · go_simp
          try simp only [Act.put, List.getElem_toArray, List.getElem_cons_succ, List.getElem_cons_zero, List.setIfInBounds_toArray, List.set_cons_zero, List.set_cons_succ]
          refine wpAnyE_take 32 (v := (.bool okv)) C122.out rfl (by kernel_rfl) (by kernel_rfl) (by kernel_rfl) (fun _ _ _ h => h) (by rfl) (fun w4 c4 => ?_) ?_
          · go_simp
          try simp only [Act.put, List.getElem_toArray, List.getElem_cons_succ, List.getElem_cons_zero, List.setIfInBounds_toArray, List.set_cons_zero, List.set_cons_succ]
          refine wpAnyE_take 33 (v := (.bool true)) C122.out rfl (by kernel_rfl) (by kernel_rfl) (by kernel_rfl) (fun _ _ _ h => h) (by rfl) (fun w4 c4 => ?_) ?_
          · go_simp
          try simp only [Act.put, List.getElem_toArray, List.getElem_cons_succ, List.getElem_cons_zero, List.setIfInBounds_toArray, List.set_cons_zero, List.set_cons_succ]
          refine wpAnyE_take 34 (v := (.bool true)) C122.out rfl (by kernel_rfl) (by kernel_rfl) (by kernel_rfl) (fun _ _ _ h => h) (by rfl) (fun w4 c4 => ?_) ?_
          · go_simp
          try simp only [Act.put, List.getElem_toArray, List.getElem_cons_succ, List.getElem_cons_zero, List.setIfInBounds_toArray, List.set_cons_zero, List.set_cons_succ]
          refine wpAnyE_take 35 (v := (.bool true)) C122.out rfl (by kernel_rfl) (by kernel_rfl) (by kernel_rfl) (fun _ _ _ h => h) (by rfl) (fun w4 c4 => ?_) ?_
          · go_simp
          try simp only [Act.put, List.getElem_toArray, List.getElem_cons_succ, List.getElem_cons_zero, List.setIfInBounds_toArray, List.set_cons_zero, List.set_cons_succ]
          refine wpAnyE_take 36 (v := (.slice ai nl ci)) C122.out rfl (by kernel_rfl) (by kernel_rfl) (by kernel_rfl) (fun _ _ _ h => h) (by rfl) (fun w4 c4 => ?_) ?_
          · go_simp
          try simp only [Act.put, List.getElem_toArray, List.getElem_cons_succ, List.getElem_cons_zero, List.setIfInBounds_toArray, List.set_cons_zero, List.set_cons_succ]
          refine wpAnyE_take 38 (v := (.slice ao nl cap)) C122.out rfl (by kernel_rfl) (by kernel_rfl) (by kernel_rfl) (fun _ _ _ h => h) (by rfl) (fun w4 c4 => ?_) ?_
          · go_simp
          try simp only [Act.put, List.getElem_toArray, List.getElem_cons_succ, List.getElem_cons_zero, List.setIfInBounds_toArray, List.set_cons_zero, List.set_cons_succ]
          have hma := mayN HL.out HNB.out HX2.out w122 (HT.out.chg (H27.out _ (Chg.refl [] _)).1.1.1.1.1.1.1.1.1.1.1.1.1.1.1) (.slice ai nl ci) (H27.out _ (Chg.refl [] _)).1.1.1.1.1.1.1.1.1.1.1.2
          rw [HM.out] at hma
          have HMA := Lib.hid hma
          clear hma
          refine wpAnyE_only 37 rfl (by kernel_rfl) (by rfl) ?_
          go_simp
          refine (HMA.out).mono ?_
          rintro e w123 ⟨rfl, c⟩
          have C123 := Lib.hid (C122.out.nil c)
          clear C122
          have H28 := Lib.hid (fun w' (h : Chg [] w123 w') => H27.out w' (c.nil h))
          clear H27
          clear c HMA
          refine ⟨C123.out, ?_⟩
          try simp only [Act.put, List.getElem_toArray, List.getElem_cons_succ, List.getElem_cons_zero, List.setIfInBounds_toArray, List.set_cons_zero, List.set_cons_succ]
          refine wpAnyE_only 39 rfl (by kernel_rfl) (by rfl) ?_
          go_simp
          refine (plainN HL.out HNB.out _ _ (H28.out _ (Chg.refl [] _)).1.1.1.1.1.1.1.1.1.1.1.1.1.2).mono ?_
          rintro e w124 ⟨v0, rfl, hF⟩
          obtain ⟨m2, o2, rfl, -⟩ := hF.shape
          have C124 := Lib.hid (C123.out.nil hF.chg)
          clear C123
          have H29 := Lib.hid (fun w' (h : Chg [] w124 w') => And.intro (H28.out w' (hF.chg.nil h)) (hF.own.sees.chg0 h))
          clear H28
          clear hF
          refine ⟨C124.out, ?_⟩
          try simp only [Act.put, List.getElem_toArray, List.getElem_cons_succ, List.getElem_cons_zero, List.setIfInBounds_toArray, List.set_cons_zero, List.set_cons_succ]
          have hma := rmayN HL.out HNB.out HX2.out w124 (.slice m2 nl o2) (H29.out _ (Chg.refl [] _)).2
          rw [HM.out] at hma
          have HMA := Lib.hid hma
          clear hma
          refine wpAnyE_only 40 rfl (by kernel_rfl) (by rfl) ?_
          go_simp
          refine (HMA.out).mono ?_
          rintro e w125 ⟨rfl, c⟩
          have C125 := Lib.hid (C124.out.nil c)
          clear C124
          have H30 := Lib.hid (fun w' (h : Chg [] w125 w') => H29.out w' (c.nil h))
          clear H29
          clear c HMA
          refine ⟨C125.out, ?_⟩
          try simp only [Act.put, List.getElem_toArray, List.getElem_cons_succ, List.getElem_cons_zero, List.setIfInBounds_toArray, List.set_cons_zero, List.set_cons_succ]
          refine wpAnyE_take 41 (v := (.bool true)) C125.out rfl (by kernel_rfl) (by kernel_rfl) (by kernel_rfl) (fun _ _ _ h => h) (by rfl) (fun w4 c4 => ?_) ?_
          · go_simp
          try simp only [Act.put, List.getElem_toArray, List.getElem_cons_succ, List.getElem_cons_zero, List.setIfInBounds_toArray, List.set_cons_zero, List.set_cons_succ]
          refine wpAnyE_take 42 (v := (.bool true)) C125.out rfl (by kernel_rfl) (by kernel_rfl) (by kernel_rfl) (fun _ _ _ h => h) (by rfl) (fun w4 c4 => ?_) ?_
          · go_simp
          try simp only [Act.put, List.getElem_toArray, List.getElem_cons_succ, List.getElem_cons_zero, List.setIfInBounds_toArray, List.set_cons_zero, List.set_cons_succ]
          refine wpAnyE_take 43 (v := (.bool true)) C125.out rfl (by kernel_rfl) (by kernel_rfl) (by kernel_rfl) (fun _ _ _ h => h) (by rfl) (fun w4 c4 => ?_) ?_
          · go_simp
          try simp only [Act.put, List.getElem_toArray, List.getElem_cons_succ, List.getElem_cons_zero, List.setIfInBounds_toArray, List.set_cons_zero, List.set_cons_succ]
          refine wpAnyE_take 44 (v := (.agg #[.bool tg, .string (str nm), .string (str ky)])) C125.out rfl (by kernel_rfl) (by kernel_rfl) (by kernel_rfl) (fun _ _ _ h => h) (by rfl) (fun w4 c4 => ?_) ?_
          · obtain ⟨⟨f0, f1, f2⟩, f3, f4, f5⟩ := HK0.out w4 c4
            go_simp
          try simp only [Act.put, List.getElem_toArray, List.getElem_cons_succ, List.getElem_cons_zero, List.setIfInBounds_toArray, List.set_cons_zero, List.set_cons_succ]
          refine wpAnyE_take 45 (v := (.agg #[.bool sg, .string (str sn), .string (str sk)])) C125.out rfl (by kernel_rfl) (by kernel_rfl) (by kernel_rfl) (fun _ _ _ h => h) (by rfl) (fun w4 c4 => ?_) ?_
          · obtain ⟨⟨f0, f1, f2⟩, f3, f4, f5⟩ := HK0.out w4 c4
            go_simp
          try simp only [Act.put, List.getElem_toArray, List.getElem_cons_succ, List.getElem_cons_zero, List.setIfInBounds_toArray, List.set_cons_zero, List.set_cons_succ]
          refine wpAnyE_take 47 (v := (.agg #[.bool tg, .string (str nm), .string (str ky)])) C125.out rfl (by kernel_rfl) (by kernel_rfl) (by kernel_rfl) (fun _ _ _ h => h) (by rfl) (fun w4 c4 => ?_) ?_
          · obtain ⟨⟨f0, f1, f2⟩, f3, f4, f5⟩ := HK0.out w4 c4
            go_simp
          try simp only [Act.put, List.getElem_toArray, List.getElem_cons_succ, List.getElem_cons_zero, List.setIfInBounds_toArray, List.set_cons_zero, List.set_cons_succ]
          refine wpAnyE_take 49 (v := (.agg #[.bool sg, .string (str sn), .string (str sk)])) C125.out rfl (by kernel_rfl) (by kernel_rfl) (by kernel_rfl) (fun _ _ _ h => h) (by rfl) (fun w4 c4 => ?_) ?_
          · obtain ⟨⟨f0, f1, f2⟩, f3, f4, f5⟩ := HK0.out w4 c4
            go_simp
          try simp only [Act.put, List.getElem_toArray, List.getElem_cons_succ, List.getElem_cons_zero, List.setIfInBounds_toArray, List.set_cons_zero, List.set_cons_succ]
          obtain ⟨cv1, hcv1⟩ : ∃ c, cmpR ⟨tg, nm, ky⟩ ⟨sg, sn, sk⟩ = c := ⟨_, rfl⟩
          have hco := fun w' => compare_any ⟨tg, nm, ky⟩ ⟨sg, sn, sk⟩ w'
          have hcr := fun w' => rcompare_any ⟨tg, nm, ky⟩ ⟨sg, sn, sk⟩ w'
          rw [hcv1] at hco hcr
          have HCO := Lib.hid hco
          have HCR := Lib.hid hcr
          clear hco hcr hcv1
          refine wpAnyE_only 46 rfl (by kernel_rfl) (by rfl) ?_
          go_simp
          refine (HCO.out _).mono ?_
          rintro e w126 ⟨rfl, c⟩
          have C126 := Lib.hid (C125.out.nil c)
          clear C125
          have H31 := Lib.hid (fun w' (h : Chg [] w126 w') => H30.out w' (c.nil h))
          clear H30
          clear c
          refine ⟨C126.out, ?_⟩
          try simp only [Act.put, List.getElem_toArray, List.getElem_cons_succ, List.getElem_cons_zero, List.setIfInBounds_toArray, List.set_cons_zero, List.set_cons_succ]
          refine wpAnyE_only 48 rfl (by kernel_rfl) (by rfl) ?_
          go_simp
          refine (one_any _ ⟨tg, nm, ky⟩).mono ?_
          rintro e w127 ⟨rfl, c⟩
          have C127 := Lib.hid (C126.out.nil c)
          clear C126
          have H32 := Lib.hid (fun w' (h : Chg [] w127 w') => H31.out w' (c.nil h))
          clear H31
          clear c
          refine ⟨C127.out, ?_⟩
          try simp only [Act.put, List.getElem_toArray, List.getElem_cons_succ, List.getElem_cons_zero, List.setIfInBounds_toArray, List.set_cons_zero, List.set_cons_succ]
          refine wpAnyE_only 50 rfl (by kernel_rfl) (by rfl) ?_
          go_simp
          refine (one_any _ ⟨sg, sn, sk⟩).mono ?_
          rintro e w128 ⟨rfl, c⟩
          have C128 := Lib.hid (C127.out.nil c)
          clear C127
          have H33 := Lib.hid (fun w' (h : Chg [] w128 w') => H32.out w' (c.nil h))
          clear H32
          clear c
          refine ⟨C128.out, ?_⟩
          try simp only [Act.put, List.getElem_toArray, List.getElem_cons_succ, List.getElem_cons_zero, List.setIfInBounds_toArray, List.set_cons_zero, List.set_cons_succ]
          refine wpAnyE_only 51 rfl (by kernel_rfl) (by rfl) ?_
          go_simp
          refine (HCR.out _).mono ?_
          rintro e w129 ⟨rfl, c⟩
          have C129 := Lib.hid (C128.out.nil c)
          clear C128
          have H34 := Lib.hid (fun w' (h : Chg [] w129 w') => H33.out w' (c.nil h))
          clear H33
          clear c
          refine ⟨C129.out, ?_⟩
          try simp only [Act.put, List.getElem_toArray, List.getElem_cons_succ, List.getElem_cons_zero, List.setIfInBounds_toArray, List.set_cons_zero, List.set_cons_succ]
          have ec : (cv1 == cv1) = true := by simp
          refine wpAnyE_take 52 (v := (.bool true)) C129.out rfl (by kernel_rfl) (by kernel_rfl) (by kernel_rfl) (fun _ _ _ h => h) (by rfl) (fun w4 c4 => ?_) ?_
          · go_simp
          try simp only [Act.put, List.getElem_toArray, List.getElem_cons_succ, List.getElem_cons_zero, List.setIfInBounds_toArray, List.set_cons_zero, List.set_cons_succ]
          refine wpAnyE_take 53 (v := (.bool true)) C129.out rfl (by kernel_rfl) (by kernel_rfl) (by kernel_rfl) (fun _ _ _ h => h) (by rfl) (fun w4 c4 => ?_) ?_
          · go_simp
          try simp only [Act.put, List.getElem_toArray, List.getElem_cons_succ, List.getElem_cons_zero, List.setIfInBounds_toArray, List.set_cons_zero, List.set_cons_succ]
          refine wpAnyE_take 54 (v := (.bool true)) C129.out rfl (by kernel_rfl) (by kernel_rfl) (by kernel_rfl) (fun _ _ _ h => h) (by rfl) (fun w4 c4 => ?_) ?_
          · go_simp
          try simp only [Act.put, List.getElem_toArray, List.getElem_cons_succ, List.getElem_cons_zero, List.setIfInBounds_toArray, List.set_cons_zero, List.set_cons_succ]
          refine wpAnyE_take 55 (v := (.slice ai nl ci)) C129.out rfl (by kernel_rfl) (by kernel_rfl) (by kernel_rfl) (fun _ _ _ h => h) (by rfl) (fun w4 c4 => ?_) ?_
          · go_simp
          try simp only [Act.put, List.getElem_toArray, List.getElem_cons_succ, List.getElem_cons_zero, List.setIfInBounds_toArray, List.set_cons_zero, List.set_cons_succ]
          refine wpAnyE_take 57 (v := (.slice ao nl cap)) C129.out rfl (by kernel_rfl) (by kernel_rfl) (by kernel_rfl) (fun _ _ _ h => h) (by rfl) (fun w4 c4 => ?_) ?_
          · go_simp
          try simp only [Act.put, List.getElem_toArray, List.getElem_cons_succ, List.getElem_cons_zero, List.setIfInBounds_toArray, List.set_cons_zero, List.set_cons_succ]
          refine wpAnyE_only 56 rfl (by kernel_rfl) (by rfl) ?_
          go_simp
          refine (plainN HL.out HNB.out _ _ (H34.out _ (Chg.refl [] _)).1.1.1.1.1.1.1.1.1.1.1.1.2).mono ?_
          rintro e w130 ⟨v0, rfl, hF⟩
          obtain ⟨m3, o3, rfl, -⟩ := hF.shape
          have C130 := Lib.hid (C129.out.nil hF.chg)
          clear C129
          have H35 := Lib.hid (fun w' (h : Chg [] w130 w') => And.intro (H34.out w' (hF.chg.nil h)) (hF.own.sees.chg0 h))
          clear H34
          clear hF
          refine ⟨C130.out, ?_⟩
          try simp only [Act.put, List.getElem_toArray, List.getElem_cons_succ, List.getElem_cons_zero, List.setIfInBounds_toArray, List.set_cons_zero, List.set_cons_succ]
          refine wpAnyE_only 58 rfl (by kernel_rfl) (by rfl) ?_
          go_simp
          refine (plainN HL.out HNB.out _ _ (H35.out _ (Chg.refl [] _)).1.1.1.1.1.1.1.1.1.1.1.1.1.1.1.2).mono ?_
          rintro e w131 ⟨v0, rfl, hF⟩
          obtain ⟨m4, o4, rfl, -⟩ := hF.shape
          have C131 := Lib.hid (C130.out.nil hF.chg)
          clear C130
          have H36 := Lib.hid (fun w' (h : Chg [] w131 w') => And.intro (H35.out w' (hF.chg.nil h)) (hF.own.sees.chg0 h))
          clear H35
          clear hF
          refine ⟨C131.out, ?_⟩
          try simp only [Act.put, List.getElem_toArray, List.getElem_cons_succ, List.getElem_cons_zero, List.setIfInBounds_toArray, List.set_cons_zero, List.set_cons_succ]
          refine wpAnyE_only 59 rfl (by kernel_rfl) (by rfl) ?_
          go_simp
          refine (sameN HL.out HNB.out _ _ _ (H36.out _ (Chg.refl [] _)).1.2 (H36.out _ (Chg.refl [] _)).2).mono ?_
          rintro e w132 ⟨rfl, c⟩
          have C132 := Lib.hid (C131.out.nil c)
          clear C131
          have H37 := Lib.hid (fun w' (h : Chg [] w132 w') => H36.out w' (c.nil h))
          clear H36
          clear c
          refine ⟨C132.out, ?_⟩
          try simp only [Act.put, List.getElem_toArray, List.getElem_cons_succ, List.getElem_cons_zero, List.setIfInBounds_toArray, List.set_cons_zero, List.set_cons_succ]
          refine wpAnyE_take 60 (v := (.bool true)) C132.out rfl (by kernel_rfl) (by kernel_rfl) (by kernel_rfl) (fun _ _ _ h => h) (by rfl) (fun w4 c4 => ?_) ?_
          · go_simp
          try simp only [Act.put, List.getElem_toArray, List.getElem_cons_succ, List.getElem_cons_zero, List.setIfInBounds_toArray, List.set_cons_zero, List.set_cons_succ]
          refine wpAnyE_take 61 (v := (.bool true)) C132.out rfl (by kernel_rfl) (by kernel_rfl) (by kernel_rfl) (fun _ _ _ h => h) (by rfl) (fun w4 c4 => ?_) ?_
          · go_simp
          try simp only [Act.put, List.getElem_toArray, List.getElem_cons_succ, List.getElem_cons_zero, List.setIfInBounds_toArray, List.set_cons_zero, List.set_cons_succ]
          refine wpAnyE_done (by kernel_rfl) ?_ _
          go_wp2_with fail
          go_ret
          exact ⟨rfl, (H37.out _ (Chg.refl [] _)).1.1.1.1.1.1.1.1.1.1.1.1.1.1.1.1.1.1⟩
        | true =>
          obtain ⟨x, hxe⟩ : ∃ x, encodeL l = (x, 0) := ⟨_, by unfold encodeL; rw [hM]; rfl⟩
          have HE := Lib.hid hxe
          have HM := Lib.hid hM
          obtain ⟨xl, HXL⟩ : ∃ k, Hid (x.length = k) := ⟨_, rfl⟩
          clear hxe hM
          skip
          refine (encX HL.out HE.out HXL.out HNB.out HX2.out _ (HT.out.chg (H4.out _ (Chg.refl [] _)).1.1.1.1) _ (H4.out _ (Chg.refl [] _)).2).mono ?_
          rintro e w133 ⟨v0, rfl, hs, c⟩
          obtain ⟨ax, cx, rfl, -⟩ := hs.shape
          have H38 := Lib.hid (fun w' (h : Chg [] w133 w') => And.intro (H4.out w' (c.nil h)) (hs.chg0 h))
          clear H4
          clear hs c
          go_wp2_with fail
          refine (plainN HL.out HNB.out _ _ (H38.out _ (Chg.refl [] _)).1.1.1.2).mono ?_
          rintro e w134 ⟨v0, rfl, hF⟩
          obtain ⟨a7, c7, rfl, -⟩ := hF.shape
          have H39 := Lib.hid (fun w' (h : Chg [] w134 w') => And.intro (H38.out w' (hF.chg.nil h)) (hF.own.sees.chg0 h))
          clear H38
          clear hF
          go_wp2_with fail
          refine (rencX HL.out HE.out HXL.out HNB.out HX2.out _ _ (H39.out _ (Chg.refl [] _)).2).mono ?_
          rintro e w135 ⟨v0, rfl, hs, c⟩
          obtain ⟨ay, cy, rfl, -⟩ := hs.shape
          have H40 := Lib.hid (fun w' (h : Chg [] w135 w') => And.intro (H39.out w' (c.nil h)) (hs.chg0 h))
          clear H39
          clear hs c
          go_wp2_with fail
          refine (decN HPD.out HPN.out HBB.out _ (HT.out.chg (H40.out _ (Chg.refl [] _)).1.1.1.1.1.1.1) _ (H40.out _ (Chg.refl [] _)).1.1.1.1.2).mono ?_
          rintro e w136 ⟨v0, rfl, hs, c⟩
          obtain ⟨ap, cp, rfl, -⟩ := hs.shape
          have H41 := Lib.hid (fun w' (h : Chg [] w136 w') => And.intro (H40.out w' (c.nil h)) (hs.chg0 h))
          clear H40
          clear hs c
          go_wp2_with fail
          refine (rdecN HPD.out HPN.out HBB.out _ _ (H41.out _ (Chg.refl [] _)).1.1.1.1.1.2).mono ?_
          rintro e w137 ⟨v0, rfl, hs, c⟩
          obtain ⟨aq, cq, rfl, -⟩ := hs.shape
          have H42 := Lib.hid (fun w' (h : Chg [] w137 w') => And.intro (H41.out w' (c.nil h)) (hs.chg0 h))
          clear H41
          clear hs c
          obtain ⟨⟨f0, f1, f2⟩, f3, f4, f5⟩ := (H42.out w137 (Chg.refl [] _)).1.1.1.1.1.1.1.1.2
          go_wp2_with fail
          refine (HFN.out _ _ (H42.out _ (Chg.refl [] _)).1.1.1.1.1.2).mono ?_
          rintro e w138 ⟨rfl, c⟩
          have H43 := Lib.hid (fun w' (h : Chg [] w138 w') => H42.out w' (c.nil h))
          clear H42
          clear c
          clear f0 f1 f2 f3 f4 f5
          obtain ⟨⟨f0, f1, f2⟩, f3, f4, f5⟩ := (H43.out w138 (Chg.refl [] _)).1.1.1.1.1.1.1.1.2
          go_upto_region 11 with (fail)
          have c0 : Chg [] w138 w138.drew := (Chg.refl [] _).drew
          refine wp_region_E [] (by kernel_rfl) ?_
          generalize hW0 : w138.drew = W0 at *
          clear hW0
          have H44 := Lib.hid (fun w' (h : Chg [] W0 w') => H43.out w' (c0.nil h))
          clear H43
          clear c0
          have C0 : Hid (Chg [] W0 W0) := Chg.refl _ _
          have HK0 := Lib.hid (fun w' h => (H44.out w' h).1.1.1.1.1.1.1.1.2)
          clear f0 f1 f2 f3 f4 f5
          refine wpAnyE_take 0 (v := (.slice ao nl cap)) C0.out rfl (by kernel_rfl) (by kernel_rfl) (by kernel_rfl) (fun _ _ _ h => h) (by rfl) (fun w4 c4 => ?_) ?_
          · go_simp
          try simp only [Act.put, List.getElem_toArray, List.getElem_cons_succ, List.getElem_cons_zero, List.setIfInBounds_toArray, List.set_cons_zero, List.set_cons_succ]
          refine wpAnyE_take 2 (v := (.pointer (some ⟨K, 0, none⟩))) C0.out rfl (by kernel_rfl) (by kernel_rfl) (by kernel_rfl) (fun _ _ _ h => h) (by rfl) (fun w4 c4 => ?_) ?_
          · go_simp
          try simp only [Act.put, List.getElem_toArray, List.getElem_cons_succ, List.getElem_cons_zero, List.setIfInBounds_toArray, List.set_cons_zero, List.set_cons_succ]
          refine wpAnyE_take 3 (v := (.bool tg)) C0.out rfl (by kernel_rfl) (by kernel_rfl) (by kernel_rfl) (fun _ _ _ h => h) (by rfl) (fun w4 c4 => ?_) ?_
          · obtain ⟨⟨f0, f1, f2⟩, f3, f4, f5⟩ := HK0.out w4 c4
            go_simp
          try simp only [Act.put, List.getElem_toArray, List.getElem_cons_succ, List.getElem_cons_zero, List.setIfInBounds_toArray, List.set_cons_zero, List.set_cons_succ]
          refine wpAnyE_take 4 (v := (.pointer (some ⟨K, 1, none⟩))) C0.out rfl (by kernel_rfl) (by kernel_rfl) (by kernel_rfl) (fun _ _ _ h => h) (by rfl) (fun w4 c4 => ?_) ?_
          · go_simp
          try simp only [Act.put, List.getElem_toArray, List.getElem_cons_succ, List.getElem_cons_zero, List.setIfInBounds_toArray, List.set_cons_zero, List.set_cons_succ]
          refine wpAnyE_take 5 (v := (.string (str nm))) C0.out rfl (by kernel_rfl) (by kernel_rfl) (by kernel_rfl) (fun _ _ _ h => h) (by rfl) (fun w4 c4 => ?_) ?_
          · obtain ⟨⟨f0, f1, f2⟩, f3, f4, f5⟩ := HK0.out w4 c4
            go_simp
          try simp only [Act.put, List.getElem_toArray, List.getElem_cons_succ, List.getElem_cons_zero, List.setIfInBounds_toArray, List.set_cons_zero, List.set_cons_succ]
          refine wpAnyE_only 1 rfl (by kernel_rfl) (by rfl) ?_
          go_simp
          refine (plainN HL.out HNB.out _ _ (H44.out _ (Chg.refl [] _)).1.1.1.1.1.1.1.2).mono ?_
          rintro e w139 ⟨v0, rfl, hF⟩
          obtain ⟨a11, c11, rfl, -⟩ := hF.shape
          have C139 := Lib.hid (C0.out.nil hF.chg)
          clear C0
          have H45 := Lib.hid (fun w' (h : Chg [] w139 w') => And.intro (H44.out w' (hF.chg.nil h)) (hF.own.sees.chg0 h))
          clear H44
          clear hF
          refine ⟨C139.out, ?_⟩
          try simp only [Act.put, List.getElem_toArray, List.getElem_cons_succ, List.getElem_cons_zero, List.setIfInBounds_toArray, List.set_cons_zero, List.set_cons_succ]
          refine wpAnyE_only 6 rfl (by kernel_rfl) (by rfl) ?_
          go_simp
          refine (HRF.out _ _ (H45.out _ (Chg.refl [] _)).2).mono ?_
          rintro e w140 ⟨rfl, c⟩
          have C140 := Lib.hid (C139.out.nil c)
          clear C139
          have H46 := Lib.hid (fun w' (h : Chg [] w140 w') => H45.out w' (c.nil h))
          clear H45
          clear c
          refine ⟨C140.out, ?_⟩
          try simp only [Act.put, List.getElem_toArray, List.getElem_cons_succ, List.getElem_cons_zero, List.setIfInBounds_toArray, List.set_cons_zero, List.set_cons_succ]
          refine wpAnyE_take 7 (v := (.tuple #[.string (str kv), .bool okv])) C140.out rfl (by kernel_rfl) (by kernel_rfl) (by kernel_rfl) (fun _ _ _ h => h) (by rfl) (fun w4 c4 => ?_) ?_
          · go_simp
          try simp only [Act.put, List.getElem_toArray, List.getElem_cons_succ, List.getElem_cons_zero, List.setIfInBounds_toArray, List.set_cons_zero, List.set_cons_succ]
          refine wpAnyE_take 8 (v := (.string (str kv))) C140.out rfl (by kernel_rfl) (by kernel_rfl) (by kernel_rfl) (fun _ _ _ h => h) (by rfl) (fun w4 c4 => ?_) ?_
          · go_simp
          try simp only [Act.put, List.getElem_toArray, List.getElem_cons_succ, List.getElem_cons_zero, List.setIfInBounds_toArray, List.set_cons_zero, List.set_cons_succ]
          refine wpAnyE_take 9 (v := (.bool okv)) C140.out rfl (by kernel_rfl) (by kernel_rfl) (by kernel_rfl) (fun _ _ _ h => h) (by rfl) (fun w4 c4 => ?_) ?_
          · go_simp
          try simp only [Act.put, List.getElem_toArray, List.getElem_cons_succ, List.getElem_cons_zero, List.setIfInBounds_toArray, List.set_cons_zero, List.set_cons_succ]
          refine wpAnyE_take 10 (v := (.string (str kv))) C140.out rfl (by kernel_rfl) (by kernel_rfl) (by kernel_rfl) (fun _ _ _ h => h) (by rfl) (fun w4 c4 => ?_) ?_
          · go_simp
          try simp only [Act.put, List.getElem_toArray, List.getElem_cons_succ, List.getElem_cons_zero, List.setIfInBounds_toArray, List.set_cons_zero, List.set_cons_succ]
          refine wpAnyE_take 11 (v := (.bool okv)) C140.out rfl (by kernel_rfl) (by kernel_rfl) (by kernel_rfl) (fun _ _ _ h => h) (by rfl) (fun w4 c4 => ?_) ?_
          · go_simp
          try simp only [Act.put, List.getElem_toArray, List.getElem_cons_succ, List.getElem_cons_zero, List.setIfInBounds_toArray, List.set_cons_zero, List.set_cons_succ]
          refine wpAnyE_done (by kernel_rfl) ?_ _
          clear HK0
          go_wp2_with fail
          refine (saveX HL.out HE.out HXL.out HM.out HNB.out HX2.out _ (HT.out.chg (H46.out _ (Chg.refl [] _)).1.1.1.1.1.1.1.1.1.1) _ (H46.out _ (Chg.refl [] _)).1.1.1.1.1.1.2).mono ?_
          rintro e w141 ⟨v0, rfl, hs, c⟩
          obtain ⟨av, cv, rfl, -⟩ := hs.shape
          have H47 := Lib.hid (fun w' (h : Chg [] w141 w') => And.intro (H46.out w' (c.nil h)) (hs.chg0 h))
          clear H46
          clear hs c
          obtain ⟨M, hM⟩ : ∃ M, w141.heap.size = M := ⟨_, rfl⟩
          have hbM : Blk (w141.alloc (.cells #[.int .i64 0, .string ⟨#[]⟩, .string ⟨#[]⟩, .slice none 0 0] 42)) M #[.int .i64 0, .string ⟨#[]⟩, .string ⟨#[]⟩, .slice none 0 0] 42 := Blk.new_at _ _ _ hM
          have hone : ∀ u ∈ (#[.int .i64 2, .string ⟨#[114, 101, 102, 115]⟩, .string ⟨#[]⟩, .slice av xl cv] : Array Value).toList, u.oneCell' = true := by intro u hu; simp at hu; rcases hu with rfl | rfl | rfl | rfl <;> rfl
          have hz := zero_ch
          go_upto_region 13 with (refine wpList_stA (cs := #[.int .i64 2, .string ⟨#[114, 101, 102, 115]⟩, .string ⟨#[]⟩, .slice av xl cv]) rfl 42 _ _ rfl hbM ch_ty rfl hone rfl rfl ?_; intro w142 hb13 hc13 hs13; obtain ⟨⟨z0, z1, z2, z3⟩, -⟩ := Blk.c4 hb13; have hc13' : Chg [] w141 w142 := ((Chg.refl [] w141).alloc (.cells #[.int .i64 0, .string ⟨#[]⟩, .string ⟨#[]⟩, .slice none 0 0] 42)).trans hc13 (fun k hk => .inr (by rw [List.mem_singleton.1 hk]; omega)); clear hbM hone hz hs13 hc13 hb13 hM)
          have H48 := Lib.hid (fun w' (h : Chg [] w142 w') => H47.out w' (hc13'.nil h))
          clear H47
          clear hc13'
          go_wp2_with fail
          refine (same_yes _ _ _ xl xl x x (H48.out _ (Chg.refl [] _)).2 (H48.out _ (Chg.refl [] _)).1.1.1.1.2 rfl).mono ?_
          rintro e w143 ⟨rfl, hw⟩
          have H49 := Lib.hid (fun w' (h : Chg [] w143 w') => H48.out w' ((chg_eq hw).nil h))
          clear H48
          clear hw z0 z1 z2 z3
          obtain ⟨⟨f0, f1, f2⟩, f3, f4, f5⟩ := (H49.out w143 (Chg.refl [] _)).1.1.1.1.1.1.1.1.1.1.2
          go_wp2_with fail
          refine (dropN HL.out HDN.out HNB.out tg nm HD.out _ _ (H49.out _ (Chg.refl [] _)).1.1.1.1.1.1.1.2).mono ?_
          rintro e w144 ⟨v0, rfl, hF⟩
          obtain ⟨ad, cd, rfl, -⟩ := hF.shape
          have H50 := Lib.hid (fun w' (h : Chg [] w144 w') => And.intro (H49.out w' (hF.chg.nil h)) (hF.own.sees.chg0 h))
          clear H49
          clear hF
          clear f0 f1 f2 f3 f4 f5
          obtain ⟨⟨f0, f1, f2⟩, f3, f4, f5⟩ := (H50.out w144 (Chg.refl [] _)).1.1.1.1.1.1.1.1.1.1.1.2
          go_upto_region 16 with (fail)
          have c0 : Chg [] w144 w144.drew := (Chg.refl [] _).drew
          refine wp_region_E [] (by kernel_rfl) ?_
          generalize hW0 : w144.drew = W0 at *
          clear hW0
          have H51 := Lib.hid (fun w' (h : Chg [] W0 w') => H50.out w' (c0.nil h))
          clear H50
          clear c0
          have C0 : Hid (Chg [] W0 W0) := Chg.refl _ _
          have HK0 := Lib.hid (fun w' h => (H51.out w' h).1.1.1.1.1.1.1.1.1.1.1.2)
          clear f0 f1 f2 f3 f4 f5
          refine wpAnyE_take 0 (v := (.slice ad dn cd)) C0.out rfl (by kernel_rfl) (by kernel_rfl) (by kernel_rfl) (fun _ _ _ h => h) (by rfl) (fun w4 c4 => ?_) ?_
          · go_simp
          try simp only [Act.put, List.getElem_toArray, List.getElem_cons_succ, List.getElem_cons_zero, List.setIfInBounds_toArray, List.set_cons_zero, List.set_cons_succ]
          refine wpAnyE_take 2 (v := (.slice ao nl cap)) C0.out rfl (by kernel_rfl) (by kernel_rfl) (by kernel_rfl) (fun _ _ _ h => h) (by rfl) (fun w4 c4 => ?_) ?_
          · go_simp
          try simp only [Act.put, List.getElem_toArray, List.getElem_cons_succ, List.getElem_cons_zero, List.setIfInBounds_toArray, List.set_cons_zero, List.set_cons_succ]
          refine wpAnyE_take 4 (v := (.pointer (some ⟨K, 0, none⟩))) C0.out rfl (by kernel_rfl) (by kernel_rfl) (by kernel_rfl) (fun _ _ _ h => h) (by rfl) (fun w4 c4 => ?_) ?_
          · go_simp
          try simp only [Act.put, List.getElem_toArray, List.getElem_cons_succ, List.getElem_cons_zero, List.setIfInBounds_toArray, List.set_cons_zero, List.set_cons_succ]
          refine wpAnyE_take 5 (v := (.bool tg)) C0.out rfl (by kernel_rfl) (by kernel_rfl) (by kernel_rfl) (fun _ _ _ h => h) (by rfl) (fun w4 c4 => ?_) ?_
          · obtain ⟨⟨f0, f1, f2⟩, f3, f4, f5⟩ := HK0.out w4 c4
            go_simp
          try simp only [Act.put, List.getElem_toArray, List.getElem_cons_succ, List.getElem_cons_zero, List.setIfInBounds_toArray, List.set_cons_zero, List.set_cons_succ]
          refine wpAnyE_take 6 (v := (.pointer (some ⟨K, 1, none⟩))) C0.out rfl (by kernel_rfl) (by kernel_rfl) (by kernel_rfl) (fun _ _ _ h => h) (by rfl) (fun w4 c4 => ?_) ?_
          · go_simp
          try simp only [Act.put, List.getElem_toArray, List.getElem_cons_succ, List.getElem_cons_zero, List.setIfInBounds_toArray, List.set_cons_zero, List.set_cons_succ]
          refine wpAnyE_take 7 (v := (.string (str nm))) C0.out rfl (by kernel_rfl) (by kernel_rfl) (by kernel_rfl) (fun _ _ _ h => h) (by rfl) (fun w4 c4 => ?_) ?_
          · obtain ⟨⟨f0, f1, f2⟩, f3, f4, f5⟩ := HK0.out w4 c4
            go_simp
          try simp only [Act.put, List.getElem_toArray, List.getElem_cons_succ, List.getElem_cons_zero, List.setIfInBounds_toArray, List.set_cons_zero, List.set_cons_succ]
          refine wpAnyE_only 1 rfl (by kernel_rfl) (by rfl) ?_
          go_simp
          refine (plainN HDN.out HDB.out _ _ (H51.out _ (Chg.refl [] _)).2).mono ?_
          rintro e w145 ⟨v0, rfl, hF⟩
          obtain ⟨b1, e1, rfl, -⟩ := hF.shape
          have C145 := Lib.hid (C0.out.nil hF.chg)
          clear C0
          have H52 := Lib.hid (fun w' (h : Chg [] w145 w') => And.intro (H51.out w' (hF.chg.nil h)) (hF.own.sees.chg0 h))
          clear H51
          clear hF
          refine ⟨C145.out, ?_⟩
          try simp only [Act.put, List.getElem_toArray, List.getElem_cons_succ, List.getElem_cons_zero, List.setIfInBounds_toArray, List.set_cons_zero, List.set_cons_succ]
          refine wpAnyE_only 3 rfl (by kernel_rfl) (by rfl) ?_
          go_simp
          refine (plainN HL.out HNB.out _ _ (H52.out _ (Chg.refl [] _)).1.1.1.1.1.1.1.1.1.1.1.2).mono ?_
          rintro e w146 ⟨v0, rfl, hF⟩
          obtain ⟨b2, e2, rfl, -⟩ := hF.shape
          have C146 := Lib.hid (C145.out.nil hF.chg)
          clear C145
          have H53 := Lib.hid (fun w' (h : Chg [] w146 w') => And.intro (H52.out w' (hF.chg.nil h)) (hF.own.sees.chg0 h))
          clear H52
          clear hF
          refine ⟨C146.out, ?_⟩
          try simp only [Act.put, List.getElem_toArray, List.getElem_cons_succ, List.getElem_cons_zero, List.setIfInBounds_toArray, List.set_cons_zero, List.set_cons_succ]
          refine wpAnyE_only 8 rfl (by kernel_rfl) (by rfl) ?_
          go_simp
          refine (rdropN HL.out HDN.out HNB.out tg nm HD.out _ _ (H53.out _ (Chg.refl [] _)).2).mono ?_
          rintro e w147 ⟨v0, rfl, hF⟩
          obtain ⟨b3, e3, rfl, -⟩ := hF.shape
          have C147 := Lib.hid (C146.out.nil hF.chg)
          clear C146
          have H54 := Lib.hid (fun w' (h : Chg [] w147 w') => And.intro (H53.out w' (hF.chg.nil h)) (hF.own.sees.chg0 h))
          clear H53
          clear hF
          refine ⟨C147.out, ?_⟩
          try simp only [Act.put, List.getElem_toArray, List.getElem_cons_succ, List.getElem_cons_zero, List.setIfInBounds_toArray, List.set_cons_zero, List.set_cons_succ]
          refine wpAnyE_only 9 rfl (by kernel_rfl) (by rfl) ?_
          go_simp
          refine (sameN HDN.out HDB.out _ _ _ (H54.out _ (Chg.refl [] _)).1.1.2 (H54.out _ (Chg.refl [] _)).2).mono ?_
          rintro e w148 ⟨rfl, c⟩
          have C148 := Lib.hid (C147.out.nil c)
          clear C147
          have H55 := Lib.hid (fun w' (h : Chg [] w148 w') => H54.out w' (c.nil h))
          clear H54
          clear c
          refine ⟨C148.out, ?_⟩
          try simp only [Act.put, List.getElem_toArray, List.getElem_cons_succ, List.getElem_cons_zero, List.setIfInBounds_toArray, List.set_cons_zero, List.set_cons_succ]
          refine wpAnyE_take 10 (v := (.bool true)) C148.out rfl (by kernel_rfl) (by kernel_rfl) (by kernel_rfl) (fun _ _ _ h => h) (by rfl) (fun w4 c4 => ?_) ?_
          · go_simp
          try simp only [Act.put, List.getElem_toArray, List.getElem_cons_succ, List.getElem_cons_zero, List.setIfInBounds_toArray, List.set_cons_zero, List.set_cons_succ]
          refine wpAnyE_done (by kernel_rfl) ?_ _
          clear HK0
          have hma := mayN HL.out HNB.out HX2.out w148 (HT.out.chg (H55.out _ (Chg.refl [] _)).1.1.1.1.1.1.1.1.1.1.1.1.1.1.1) (.slice ai nl ci) (H55.out _ (Chg.refl [] _)).1.1.1.1.1.1.1.1.1.1.1.2
          rw [HM.out] at hma
          go_wp2_with fail
          refine (hma).mono ?_
          rintro e w150 ⟨rfl, c⟩
          have H56 := Lib.hid (fun w' (h : Chg [] w150 w') => H55.out w' (c.nil h))
          clear H55
          clear c hma
          obtain ⟨⟨f0, f1, f2⟩, f3, f4, f5⟩ := (H56.out w150 (Chg.refl [] _)).1.1.1.1.1.1.1.1.1.1.1.1.1.1.2
          go_upto_region 18 with (fail)
          have c0 : Chg [] w150 w150.drew := (Chg.refl [] _).drew
          refine wp_region_E [] (by kernel_rfl) ?_
          generalize hW0 : w150.drew = W0 at *
          clear hW0
          have H57 := Lib.hid (fun w' (h : Chg [] W0 w') => H56.out w' (c0.nil h))
          clear H56
          clear c0
          have C0 : Hid (Chg [] W0 W0) := Chg.refl _ _
          have HK0 := Lib.hid (fun w' h => (H57.out w' h).1.1.1.1.1.1.1.1.1.1.1.1.1.1.2)
          clear f0 f1 f2 f3 f4 f5
          refine wpAnyE_take 0 (v := (.bool true)) C0.out rfl (by kernel_rfl) (by kernel_rfl) (by kernel_rfl) (fun _ _ _ h => h) (by rfl) (fun w4 c4 => ?_) ?_
          · go_simp
          try simp only [Act.put, List.getElem_toArray, List.getElem_cons_succ, List.getElem_cons_zero, List.setIfInBounds_toArray, List.set_cons_zero, List.set_cons_succ]
          refine wpAnyE_take 1 (v := (.bool true)) C0.out rfl (by kernel_rfl) (by kernel_rfl) (by kernel_rfl) (fun _ _ _ h => h) (by rfl) (fun w4 c4 => ?_) ?_
          · go_simp
          try simp only [Act.put, List.getElem_toArray, List.getElem_cons_succ, List.getElem_cons_zero, List.setIfInBounds_toArray, List.set_cons_zero, List.set_cons_succ]
          refine wpAnyE_take 2 (v := (.slice ai nl ci)) C0.out rfl (by kernel_rfl) (by kernel_rfl) (by kernel_rfl) (fun _ _ _ h => h) (by rfl) (fun w4 c4 => ?_) ?_
          · go_simp
          try simp only [Act.put, List.getElem_toArray, List.getElem_cons_succ, List.getElem_cons_zero, List.setIfInBounds_toArray, List.set_cons_zero, List.set_cons_succ]
          refine wpAnyE_take 3 (v := (.agg #[.bool tg, .string (str nm), .string (str ky)])) C0.out rfl (by kernel_rfl) (by kernel_rfl) (by kernel_rfl) (fun _ _ _ h => h) (by rfl) (fun w4 c4 => ?_) ?_
          · obtain ⟨⟨f0, f1, f2⟩, f3, f4, f5⟩ := HK0.out w4 c4
            go_simp
          try simp only [Act.put, List.getElem_toArray, List.getElem_cons_succ, List.getElem_cons_zero, List.setIfInBounds_toArray, List.set_cons_zero, List.set_cons_succ]
          refine wpAnyE_take 6 (v := (.slice ao nl cap)) C0.out rfl (by kernel_rfl) (by kernel_rfl) (by kernel_rfl) (fun _ _ _ h => h) (by rfl) (fun w4 c4 => ?_) ?_
          · go_simp
          try simp only [Act.put, List.getElem_toArray, List.getElem_cons_succ, List.getElem_cons_zero, List.setIfInBounds_toArray, List.set_cons_zero, List.set_cons_succ]
          refine wpAnyE_take 8 (v := (.agg #[.bool tg, .string (str nm), .string (str ky)])) C0.out rfl (by kernel_rfl) (by kernel_rfl) (by kernel_rfl) (fun _ _ _ h => h) (by rfl) (fun w4 c4 => ?_) ?_
          · obtain ⟨⟨f0, f1, f2⟩, f3, f4, f5⟩ := HK0.out w4 c4
            go_simp
          try simp only [Act.put, List.getElem_toArray, List.getElem_cons_succ, List.getElem_cons_zero, List.setIfInBounds_toArray, List.set_cons_zero, List.set_cons_succ]
          refine wpAnyE_only 4 rfl (by kernel_rfl) (by rfl) ?_
          go_simp
          refine (setN HL.out HSN.out HNB.out ⟨tg, nm, ky⟩ HS.out _ _ (H57.out _ (Chg.refl [] _)).1.1.1.1.1.1.1.1.1.1.1.2).mono ?_
          rintro e w151 ⟨v0, rfl, hs, c⟩
          obtain ⟨k1, l1, rfl, -⟩ := hs.shape
          have C151 := Lib.hid (C0.out.nil c)
          clear C0
          have H58 := Lib.hid (fun w' (h : Chg [] w151 w') => And.intro (H57.out w' (c.nil h)) (hs.chg0 h))
          clear H57
          clear hs c
          refine ⟨C151.out, ?_⟩
          try simp only [Act.put, List.getElem_toArray, List.getElem_cons_succ, List.getElem_cons_zero, List.setIfInBounds_toArray, List.set_cons_zero, List.set_cons_succ]
          refine wpAnyE_only 5 rfl (by kernel_rfl) (by rfl) ?_
          go_simp
          refine (plainN HSN.out HSB.out _ _ (H58.out _ (Chg.refl [] _)).2).mono ?_
          rintro e w152 ⟨v0, rfl, hF⟩
          obtain ⟨k2, l2, rfl, -⟩ := hF.shape
          have C152 := Lib.hid (C151.out.nil hF.chg)
          clear C151
          have H59 := Lib.hid (fun w' (h : Chg [] w152 w') => And.intro (H58.out w' (hF.chg.nil h)) (hF.own.sees.chg0 h))
          clear H58
          clear hF
          refine ⟨C152.out, ?_⟩
          try simp only [Act.put, List.getElem_toArray, List.getElem_cons_succ, List.getElem_cons_zero, List.setIfInBounds_toArray, List.set_cons_zero, List.set_cons_succ]
          refine wpAnyE_only 7 rfl (by kernel_rfl) (by rfl) ?_
          go_simp
          refine (plainN HL.out HNB.out _ _ (H59.out _ (Chg.refl [] _)).1.1.1.1.1.1.1.1.1.1.1.1.1.1.1.2).mono ?_
          rintro e w153 ⟨v0, rfl, hF⟩
          obtain ⟨k3, l3, rfl, -⟩ := hF.shape
          have C153 := Lib.hid (C152.out.nil hF.chg)
          clear C152
          have H60 := Lib.hid (fun w' (h : Chg [] w153 w') => And.intro (H59.out w' (hF.chg.nil h)) (hF.own.sees.chg0 h))
          clear H59
          clear hF
          refine ⟨C153.out, ?_⟩
          try simp only [Act.put, List.getElem_toArray, List.getElem_cons_succ, List.getElem_cons_zero, List.setIfInBounds_toArray, List.set_cons_zero, List.set_cons_succ]
          refine wpAnyE_only 9 rfl (by kernel_rfl) (by rfl) ?_
          go_simp
          refine (one_any _ ⟨tg, nm, ky⟩).mono ?_
          rintro e w154 ⟨rfl, c⟩
          have C154 := Lib.hid (C153.out.nil c)
          clear C153
          have H61 := Lib.hid (fun w' (h : Chg [] w154 w') => H60.out w' (c.nil h))
          clear H60
          clear c
          refine ⟨C154.out, ?_⟩
          try simp only [Act.put, List.getElem_toArray, List.getElem_cons_succ, List.getElem_cons_zero, List.setIfInBounds_toArray, List.set_cons_zero, List.set_cons_succ]
          refine wpAnyE_only 10 rfl (by kernel_rfl) (by rfl) ?_
          go_simp
          refine (rsetN HL.out HSN.out HNB.out ⟨tg, nm, ky⟩ HS.out _ _ (H61.out _ (Chg.refl [] _)).2).mono ?_
          rintro e w155 ⟨v0, rfl, hs, c⟩
          obtain ⟨k4, l4, rfl, -⟩ := hs.shape
          have C155 := Lib.hid (C154.out.nil c)
          clear C154
          have H62 := Lib.hid (fun w' (h : Chg [] w155 w') => And.intro (H61.out w' (c.nil h)) (hs.chg0 h))
          clear H61
          clear hs c
          refine ⟨C155.out, ?_⟩
          try simp only [Act.put, List.getElem_toArray, List.getElem_cons_succ, List.getElem_cons_zero, List.setIfInBounds_toArray, List.set_cons_zero, List.set_cons_succ]
          refine wpAnyE_only 11 rfl (by kernel_rfl) (by rfl) ?_
          go_simp
          refine (sameN HSN.out HSB.out _ _ _ (H62.out _ (Chg.refl [] _)).1.1.2 (H62.out _ (Chg.refl [] _)).2).mono ?_
          rintro e w156 ⟨rfl, c⟩
          have C156 := Lib.hid (C155.out.nil c)
          clear C155
          have H63 := Lib.hid (fun w' (h : Chg [] w156 w') => H62.out w' (c.nil h))
          clear H62
          clear c
          refine ⟨C156.out, ?_⟩
          try simp only [Act.put, List.getElem_toArray, List.getElem_cons_succ, List.getElem_cons_zero, List.setIfInBounds_toArray, List.set_cons_zero, List.set_cons_succ]
          refine wpAnyE_take 12 (v := (.bool true)) C156.out rfl (by kernel_rfl) (by kernel_rfl) (by kernel_rfl) (fun _ _ _ h => h) (by rfl) (fun w4 c4 => ?_) ?_
          · go_simp
          try simp only [Act.put, List.getElem_toArray, List.getElem_cons_succ, List.getElem_cons_zero, List.setIfInBounds_toArray, List.set_cons_zero, List.set_cons_succ]
          refine wpAnyE_take 13 (v := (.bool true)) C156.out rfl (by kernel_rfl) (by kernel_rfl) (by kernel_rfl) (fun _ _ _ h => h) (by rfl) (fun w4 c4 => ?_) ?_
          · go_simp
          try simp only [Act.put, List.getElem_toArray, List.getElem_cons_succ, List.getElem_cons_zero, List.setIfInBounds_toArray, List.set_cons_zero, List.set_cons_succ]
          refine wpAnyE_done (by kernel_rfl) ?_ _
          clear HK0
          obtain ⟨⟨f0, f1, f2⟩, f3, f4, f5⟩ := (H63.out w156 (Chg.refl [] _)).1.1.1.1.1.1.1.1.1.1.1.1.1.1.1.1.1.1.2
          go_upto_region 19 with (fail)
          have c0 : Chg [] w156 w156.drew := (Chg.refl [] _).drew
          refine wp_region_E [] (by kernel_rfl) ?_
          generalize hW0 : w156.drew = W0 at *
          clear hW0
          have H64 := Lib.hid (fun w' (h : Chg [] W0 w') => H63.out w' (c0.nil h))
          clear H63
          clear c0
          have C0 : Hid (Chg [] W0 W0) := Chg.refl _ _
          have HK0 := Lib.hid (fun w' h => (H64.out w' h).1.1.1.1.1.1.1.1.1.1.1.1.1.1.1.1.1.1.2)
          clear f0 f1 f2 f3 f4 f5
          refine wpAnyE_only 0 rfl (by kernel_rfl) (by rfl) ?_
          go_simp
          refine (HFI.out _ (H64.out _ (Chg.refl [] _)).1.1.1.1.1.1.1.1.1.1.1.1.1.1.1.1.1.1.1).mono ?_
          rintro e w157 ⟨rfl, c⟩
          have C157 := Lib.hid (C0.out.nil c)
          clear C0
          have H65 := Lib.hid (fun w' (h : Chg [] w157 w') => H64.out w' (c.nil h))
          clear H64
          clear c
          refine ⟨C157.out, ?_⟩
          try simp only [Act.put, List.getElem_toArray, List.getElem_cons_succ, List.getElem_cons_zero, List.setIfInBounds_toArray, List.set_cons_zero, List.set_cons_succ]
          refine wpAnyE_take 1 (v := (.bool true)) C157.out rfl (by kernel_rfl) (by kernel_rfl) (by kernel_rfl) (fun _ _ _ h => h) (by rfl) (fun w4 c4 => ?_) ?_
          · go_simp
          try simp only [Act.put, List.getElem_toArray, List.getElem_cons_succ, List.getElem_cons_zero, List.setIfInBounds_toArray, List.set_cons_zero, List.set_cons_succ]
          refine wpAnyE_take 2 (v := (.bool true)) C157.out rfl (by kernel_rfl) (by kernel_rfl) (by kernel_rfl) (fun _ _ _ h => h) (by rfl) (fun w4 c4 => ?_) ?_
          · go_simp
          try simp only [Act.put, List.getElem_toArray, List.getElem_cons_succ, List.getElem_cons_zero, List.setIfInBounds_toArray, List.set_cons_zero, List.set_cons_succ]
          refine wpAnyE_take 3 (v := (.bool true)) C157.out rfl (by kernel_rfl) (by kernel_rfl) (by kernel_rfl) (fun _ _ _ h => h) (by rfl) (fun w4 c4 => ?_) ?_
          · go_simp
          try simp only [Act.put, List.getElem_toArray, List.getElem_cons_succ, List.getElem_cons_zero, List.setIfInBounds_toArray, List.set_cons_zero, List.set_cons_succ]
          refine wpAnyE_take 4 (v := (.bool true)) C157.out rfl (by kernel_rfl) (by kernel_rfl) (by kernel_rfl) (fun _ _ _ h => h) (by rfl) (fun w4 c4 => ?_) ?_
          · go_simp
          try simp only [Act.put, List.getElem_toArray, List.getElem_cons_succ, List.getElem_cons_zero, List.setIfInBounds_toArray, List.set_cons_zero, List.set_cons_succ]
          refine wpAnyE_take 5 (v := (.slice ax xl cx)) C157.out rfl (by kernel_rfl) (by kernel_rfl) (by kernel_rfl) (fun _ _ _ h => h) (by rfl) (fun w4 c4 => ?_) ?_
          · go_simp
          try simp only [Act.put, List.getElem_toArray, List.getElem_cons_succ, List.getElem_cons_zero, List.setIfInBounds_toArray, List.set_cons_zero, List.set_cons_succ]
          refine wpAnyE_take 6 (v := (.slice ay xl cy)) C157.out rfl (by kernel_rfl) (by kernel_rfl) (by kernel_rfl) (fun _ _ _ h => h) (by rfl) (fun w4 c4 => ?_) ?_
          · go_simp
          try simp only [Act.put, List.getElem_toArray, List.getElem_cons_succ, List.getElem_cons_zero, List.setIfInBounds_toArray, List.set_cons_zero, List.set_cons_succ]
          refine wpAnyE_only 7 rfl (by kernel_rfl) (by rfl) ?_
          go_simp
          refine (same_yes _ _ _ xl xl x x (H65.out _ (Chg.refl [] _)).1.1.1.1.1.1.1.1.1.1.1.1.1.1.2 (H65.out _ (Chg.refl [] _)).1.1.1.1.1.1.1.1.1.1.1.1.2 rfl).mono ?_
          rintro e w158 ⟨rfl, hw⟩
          have C158 := Lib.hid (C157.out.nil (chg_eq hw))
          clear C157
          have H66 := Lib.hid (fun w' (h : Chg [] w158 w') => H65.out w' ((chg_eq hw).nil h))
          clear H65
          clear hw
          refine ⟨C158.out, ?_⟩
          try simp only [Act.put, List.getElem_toArray, List.getElem_cons_succ, List.getElem_cons_zero, List.setIfInBounds_toArray, List.set_cons_zero, List.set_cons_succ]
          refine wpAnyE_take 8 (v := (.bool true)) C158.out rfl (by kernel_rfl) (by kernel_rfl) (by kernel_rfl) (fun _ _ _ h => h) (by rfl) (fun w4 c4 => ?_) ?_
          · go_simp
          try simp only [Act.put, List.getElem_toArray, List.getElem_cons_succ, List.getElem_cons_zero, List.setIfInBounds_toArray, List.set_cons_zero, List.set_cons_succ]
          refine wpAnyE_take 9 (v := (.bool true)) C158.out rfl (by kernel_rfl) (by kernel_rfl) (by kernel_rfl) (fun _ _ _ h => h) (by rfl) (fun w4 c4 => ?_) ?_
          · go_simp
          try simp only [Act.put, List.getElem_toArray, List.getElem_cons_succ, List.getElem_cons_zero, List.setIfInBounds_toArray, List.set_cons_zero, List.set_cons_succ]
          refine wpAnyE_take 10 (v := (.int .i64 0)) C158.out rfl (by kernel_rfl) (by kernel_rfl) (by kernel_rfl) (fun _ _ _ h => h) (by rfl) (fun w4 c4 => ?_) ?_
          · go_simp
          try simp only [Act.put, List.getElem_toArray, List.getElem_cons_succ, List.getElem_cons_zero, List.setIfInBounds_toArray, List.set_cons_zero, List.set_cons_succ]
          refine wpAnyE_take 11 (v := (.int .i64 0)) C158.out rfl (by kernel_rfl) (by kernel_rfl) (by kernel_rfl) (fun _ _ _ h => h) (by rfl) (fun w4 c4 => ?_) ?_
          · go_simp
          try simp only [Act.put, List.getElem_toArray, List.getElem_cons_succ, List.getElem_cons_zero, List.setIfInBounds_toArray, List.set_cons_zero, List.set_cons_succ]
          refine wpAnyE_take 12 (v := (.bool true)) C158.out rfl (by kernel_rfl) (by kernel_rfl) (by kernel_rfl) (fun _ _ _ h => h) (by rfl) (fun w4 c4 => ?_) ?_
          · go_simp
          try simp only [Act.put, List.getElem_toArray, List.getElem_cons_succ, List.getElem_cons_zero, List.setIfInBounds_toArray, List.set_cons_zero, List.set_cons_succ]
          refine wpAnyE_take 13 (v := (.bool true)) C158.out rfl (by kernel_rfl) (by kernel_rfl) (by kernel_rfl) (fun _ _ _ h => h) (by rfl) (fun w4 c4 => ?_) ?_
          · go_simp
          try simp only [Act.put, List.getElem_toArray, List.getElem_cons_succ, List.getElem_cons_zero, List.setIfInBounds_toArray, List.set_cons_zero, List.set_cons_succ]
          refine wpAnyE_take 14 (v := (.bool true)) C158.out rfl (by kernel_rfl) (by kernel_rfl) (by kernel_rfl) (fun _ _ _ h => h) (by rfl) (fun w4 c4 => ?_) ?_
          · go_simp
          try simp only [Act.put, List.getElem_toArray, List.getElem_cons_succ, List.getElem_cons_zero, List.setIfInBounds_toArray, List.set_cons_zero, List.set_cons_succ]
          refine wpAnyE_take 15 (v := (.slice ap pn cp)) C158.out rfl (by kernel_rfl) (by kernel_rfl) (by kernel_rfl) (fun _ _ _ h => h) (by rfl) (fun w4 c4 => ?_) ?_
          · go_simp
          try simp only [Act.put, List.getElem_toArray, List.getElem_cons_succ, List.getElem_cons_zero, List.setIfInBounds_toArray, List.set_cons_zero, List.set_cons_succ]
          refine wpAnyE_take 17 (v := (.slice aq pn cq)) C158.out rfl (by kernel_rfl) (by kernel_rfl) (by kernel_rfl) (fun _ _ _ h => h) (by rfl) (fun w4 c4 => ?_) ?_
          · go_simp
          try simp only [Act.put, List.getElem_toArray, List.getElem_cons_succ, List.getElem_cons_zero, List.setIfInBounds_toArray, List.set_cons_zero, List.set_cons_succ]
          refine wpAnyE_only 16 rfl (by kernel_rfl) (by rfl) ?_
          go_simp
          refine (plainN HPN.out HPB.out _ _ (H66.out _ (Chg.refl [] _)).1.1.1.1.1.1.1.1.1.1.1.2).mono ?_
          rintro e w159 ⟨v0, rfl, hF⟩
          obtain ⟨m1, o1, rfl, -⟩ := hF.shape
          have C159 := Lib.hid (C158.out.nil hF.chg)
          clear C158
          have H67 := Lib.hid (fun w' (h : Chg [] w159 w') => And.intro (H66.out w' (hF.chg.nil h)) (hF.own.sees.chg0 h))
          clear H66
          clear hF
          refine ⟨C159.out, ?_⟩
          try simp only [Act.put, List.getElem_toArray, List.getElem_cons_succ, List.getElem_cons_zero, List.setIfInBounds_toArray, List.set_cons_zero, List.set_cons_succ]
          refine wpAnyE_only 18 rfl (by kernel_rfl) (by rfl) ?_
          go_simp
          refine (sameN HPN.out HPB.out _ _ _ (H67.out _ (Chg.refl [] _)).2 (H67.out _ (Chg.refl [] _)).1.1.1.1.1.1.1.1.1.1.1.2).mono ?_
          rintro e w160 ⟨rfl, c⟩
          have C160 := Lib.hid (C159.out.nil c)
          clear C159
          have H68 := Lib.hid (fun w' (h : Chg [] w160 w') => H67.out w' (c.nil h))
          clear H67
          clear c
          refine ⟨C160.out, ?_⟩
          try simp only [Act.put, List.getElem_toArray, List.getElem_cons_succ, List.getElem_cons_zero, List.setIfInBounds_toArray, List.set_cons_zero, List.set_cons_succ]
          have ek : ((str kv).toList == (str kv).toList) = true := by simp
          have eo : (okv == okv) = true := by simp
          have eg : ((g : Int) == (g : Int)) = true := by simp
          refine wpAnyE_take 19 (v := (.bool true)) C160.out rfl (by kernel_rfl) (by kernel_rfl) (by kernel_rfl) (fun _ _ _ h => h) (by rfl) (fun w4 c4 => ?_) ?_
          · go_simp
          try simp only [Act.put, List.getElem_toArray, List.getElem_cons_succ, List.getElem_cons_zero, List.setIfInBounds_toArray, List.set_cons_zero, List.set_cons_succ]
          refine wpAnyE_take 20 (v := (.bool true)) C160.out rfl (by kernel_rfl) (by kernel_rfl) (by kernel_rfl) (fun _ _ _ h => h) (by rfl) (fun w4 c4 => ?_) ?_
          · go_simp
          try simp only [Act.put, List.getElem_toArray, List.getElem_cons_succ, List.getElem_cons_zero, List.setIfInBounds_toArray, List.set_cons_zero, List.set_cons_succ]
          refine wpAnyE_take 21 (v := (.int .i64 (g : Int))) C160.out rfl (by kernel_rfl) (by kernel_rfl) (by kernel_rfl) (fun _ _ _ h => h) (by rfl) (fun w4 c4 => ?_) ?_
          · go_simp
          try simp only [Act.put, List.getElem_toArray, List.getElem_cons_succ, List.getElem_cons_zero, List.setIfInBounds_toArray, List.set_cons_zero, List.set_cons_succ]
          refine wpAnyE_take 22 (v := (.int .i64 (g : Int))) C160.out rfl (by kernel_rfl) (by kernel_rfl) (by kernel_rfl) (fun _ _ _ h => h) (by rfl) (fun w4 c4 => ?_) ?_
          · go_simp
          try simp only [Act.put, List.getElem_toArray, List.getElem_cons_succ, List.getElem_cons_zero, List.setIfInBounds_toArray, List.set_cons_zero, List.set_cons_succ]
          refine wpAnyE_take 23 (v := (.bool true)) C160.out rfl (by kernel_rfl) (by kernel_rfl) (by kernel_rfl) (fun _ _ _ h => h) (by rfl) (fun w4 c4 => ?_) ?_
          · go_simp
          try simp only [Act.put, List.getElem_toArray, List.getElem_cons_succ, List.getElem_cons_zero, List.setIfInBounds_toArray, List.set_cons_zero, List.set_cons_succ]
          refine wpAnyE_take 24 (v := (.bool true)) C160.out rfl (by kernel_rfl) (by kernel_rfl) (by kernel_rfl) (fun _ _ _ h => h) (by rfl) (fun w4 c4 => ?_) ?_
          · go_simp
          try simp only [Act.put, List.getElem_toArray, List.getElem_cons_succ, List.getElem_cons_zero, List.setIfInBounds_toArray, List.set_cons_zero, List.set_cons_succ]
          refine wpAnyE_take 25 (v := (.bool true)) C160.out rfl (by kernel_rfl) (by kernel_rfl) (by kernel_rfl) (fun _ _ _ h => h) (by rfl) (fun w4 c4 => ?_) ?_
          · go_simp
          try simp only [Act.put, List.getElem_toArray, List.getElem_cons_succ, List.getElem_cons_zero, List.setIfInBounds_toArray, List.set_cons_zero, List.set_cons_succ]
          refine wpAnyE_take 26 (v := (.string (str kv))) C160.out rfl (by kernel_rfl) (by kernel_rfl) (by kernel_rfl) (fun _ _ _ h => h) (by rfl) (fun w4 c4 => ?_) ?_
          · go_simp
          try simp only [Act.put, List.getElem_toArray, List.getElem_cons_succ, List.getElem_cons_zero, List.setIfInBounds_toArray, List.set_cons_zero, List.set_cons_succ]
          refine wpAnyE_take 27 (v := (.string (str kv))) C160.out rfl (by kernel_rfl) (by kernel_rfl) (by kernel_rfl) (fun _ _ _ h => h) (by rfl) (fun w4 c4 => ?_) ?_
          · go_simp
          try simp only [Act.put, List.getElem_toArray, List.getElem_cons_succ, List.getElem_cons_zero, List.setIfInBounds_toArray, List.set_cons_zero, List.set_cons_succ]
          refine wpAnyE_take 28 (v := (.bool true)) C160.out rfl (by kernel_rfl) (by kernel_rfl) (by kernel_rfl) (fun _ _ _ h => h) (by rfl) (fun w4 c4 => ?_) ?_
          · go_simp
          try simp only [Act.put, List.getElem_toArray, List.getElem_cons_succ, List.getElem_cons_zero, List.setIfInBounds_toArray, List.set_cons_zero, List.set_cons_succ]
          refine wpAnyE_take 29 (v := (.bool true)) C160.out rfl (by kernel_rfl) (by kernel_rfl) (by kernel_rfl) (fun _ _ _ h => h) (by rfl) (fun w4 c4 => ?_) ?_
          · go_simp
          try simp only [Act.put, List.getElem_toArray, List.getElem_cons_succ, List.getElem_cons_zero, List.setIfInBounds_toArray, List.set_cons_zero, List.set_cons_succ]
          refine wpAnyE_take 30 (v := (.bool true)) C160.out rfl (by kernel_rfl) (by kernel_rfl) (by kernel_rfl) (fun _ _ _ h => h) (by rfl) (fun w4 c4 => ?_) ?_
          · go_simp
          try simp only [Act.put, List.getElem_toArray, List.getElem_cons_succ, List.getElem_cons_zero, List.setIfInBounds_toArray, List.set_cons_zero, List.set_cons_succ]
          refine wpAnyE_take 31 (v := (.bool okv)) C160.out rfl (by kernel_rfl) (by kernel_rfl) (by kernel_rfl) (fun _ _ _ h => h) (by rfl) (fun w4 c4 => ?_) ?_
          · go_simp
          try simp only [Act.put, List.getElem_toArray, List.getElem_cons_succ, List.getElem_cons_zero, List.setIfInBounds_toArray, List.set_cons_zero, List.set_cons_succ]
          refine wpAnyE_take 32 (v := (.bool okv)) C160.out rfl (by kernel_rfl) (by kernel_rfl) (by kernel_rfl) (fun _ _ _ h => h) (by rfl) (fun w4 c4 => ?_) ?_
          · go_simp
          try simp only [Act.put, List.getElem_toArray, List.getElem_cons_succ, List.getElem_cons_zero, List.setIfInBounds_toArray, List.set_cons_zero, List.set_cons_succ]
          refine wpAnyE_take 33 (v := (.bool true)) C160.out rfl (by kernel_rfl) (by kernel_rfl) (by kernel_rfl) (fun _ _ _ h => h) (by rfl) (fun w4 c4 => ?_) ?_
          · go_simp
          try simp only [Act.put, List.getElem_toArray, List.getElem_cons_succ, List.getElem_cons_zero, List.setIfInBounds_toArray, List.set_cons_zero, List.set_cons_succ]
          refine wpAnyE_take 34 (v := (.bool true)) C160.out rfl (by kernel_rfl) (by kernel_rfl) (by kernel_rfl) (fun _ _ _ h => h) (by rfl) (fun w4 c4 => ?_) ?_
          · go_simp
          try simp only [Act.put, List.getElem_toArray, List.getElem_cons_succ, List.getElem_cons_zero, List.setIfInBounds_toArray, List.set_cons_zero, List.set_cons_succ]
          refine wpAnyE_take 35 (v := (.bool true)) C160.out rfl (by kernel_rfl) (by kernel_rfl) (by kernel_rfl) (fun _ _ _ h => h) (by rfl) (fun w4 c4 => ?_) ?_
          · go_simp
          try simp only [Act.put, List.getElem_toArray, List.getElem_cons_succ, List.getElem_cons_zero, List.setIfInBounds_toArray, List.set_cons_zero, List.set_cons_succ]
          refine wpAnyE_take 36 (v := (.slice ai nl ci)) C160.out rfl (by kernel_rfl) (by kernel_rfl) (by kernel_rfl) (fun _ _ _ h => h) (by rfl) (fun w4 c4 => ?_) ?_
          · go_simp
          try simp only [Act.put, List.getElem_toArray, List.getElem_cons_succ, List.getElem_cons_zero, List.setIfInBounds_toArray, List.set_cons_zero, List.set_cons_succ]
          refine wpAnyE_take 38 (v := (.slice ao nl cap)) C160.out rfl (by kernel_rfl) (by kernel_rfl) (by kernel_rfl) (fun _ _ _ h => h) (by rfl) (fun w4 c4 => ?_) ?_
          · go_simp
          try simp only [Act.put, List.getElem_toArray, List.getElem_cons_succ, List.getElem_cons_zero, List.setIfInBounds_toArray, List.set_cons_zero, List.set_cons_succ]
          have hma := mayN HL.out HNB.out HX2.out w160 (HT.out.chg (H68.out _ (Chg.refl [] _)).1.1.1.1.1.1.1.1.1.1.1.1.1.1.1.1.1.1.1.1) (.slice ai nl ci) (H68.out _ (Chg.refl [] _)).1.1.1.1.1.1.1.1.1.1.1.1.1.1.1.1.2
          rw [HM.out] at hma
          have HMA := Lib.hid hma
          clear hma
          refine wpAnyE_only 37 rfl (by kernel_rfl) (by rfl) ?_
          go_simp
          refine (HMA.out).mono ?_
          rintro e w161 ⟨rfl, c⟩
          have C161 := Lib.hid (C160.out.nil c)
          clear C160
          have H69 := Lib.hid (fun w' (h : Chg [] w161 w') => H68.out w' (c.nil h))
          clear H68
          clear c HMA
          refine ⟨C161.out, ?_⟩
          try simp only [Act.put, List.getElem_toArray, List.getElem_cons_succ, List.getElem_cons_zero, List.setIfInBounds_toArray, List.set_cons_zero, List.set_cons_succ]
          refine wpAnyE_only 39 rfl (by kernel_rfl) (by rfl) ?_
          go_simp
          refine (plainN HL.out HNB.out _ _ (H69.out _ (Chg.refl [] _)).1.1.1.1.1.1.1.1.1.1.1.1.1.1.1.1.1.1.2).mono ?_
          rintro e w162 ⟨v0, rfl, hF⟩
          obtain ⟨m2, o2, rfl, -⟩ := hF.shape
          have C162 := Lib.hid (C161.out.nil hF.chg)
          clear C161
          have H70 := Lib.hid (fun w' (h : Chg [] w162 w') => And.intro (H69.out w' (hF.chg.nil h)) (hF.own.sees.chg0 h))
          clear H69
          clear hF
          refine ⟨C162.out, ?_⟩
          try simp only [Act.put, List.getElem_toArray, List.getElem_cons_succ, List.getElem_cons_zero, List.setIfInBounds_toArray, List.set_cons_zero, List.set_cons_succ]
          have hma := rmayN HL.out HNB.out HX2.out w162 (.slice m2 nl o2) (H70.out _ (Chg.refl [] _)).2
          rw [HM.out] at hma
          have HMA := Lib.hid hma
          clear hma
          refine wpAnyE_only 40 rfl (by kernel_rfl) (by rfl) ?_
          go_simp
          refine (HMA.out).mono ?_
          rintro e w163 ⟨rfl, c⟩
          have C163 := Lib.hid (C162.out.nil c)
          clear C162
          have H71 := Lib.hid (fun w' (h : Chg [] w163 w') => H70.out w' (c.nil h))
          clear H70
          clear c HMA
          refine ⟨C163.out, ?_⟩
          try simp only [Act.put, List.getElem_toArray, List.getElem_cons_succ, List.getElem_cons_zero, List.setIfInBounds_toArray, List.set_cons_zero, List.set_cons_succ]
          refine wpAnyE_take 41 (v := (.bool true)) C163.out rfl (by kernel_rfl) (by kernel_rfl) (by kernel_rfl) (fun _ _ _ h => h) (by rfl) (fun w4 c4 => ?_) ?_
          · go_simp
          try simp only [Act.put, List.getElem_toArray, List.getElem_cons_succ, List.getElem_cons_zero, List.setIfInBounds_toArray, List.set_cons_zero, List.set_cons_succ]
          refine wpAnyE_take 42 (v := (.bool true)) C163.out rfl (by kernel_rfl) (by kernel_rfl) (by kernel_rfl) (fun _ _ _ h => h) (by rfl) (fun w4 c4 => ?_) ?_
          · go_simp
          try simp only [Act.put, List.getElem_toArray, List.getElem_cons_succ, List.getElem_cons_zero, List.setIfInBounds_toArray, List.set_cons_zero, List.set_cons_succ]
          refine wpAnyE_take 43 (v := (.bool true)) C163.out rfl (by kernel_rfl) (by kernel_rfl) (by kernel_rfl) (fun _ _ _ h => h) (by rfl) (fun w4 c4 => ?_) ?_
          · go_simp
          try simp only [Act.put, List.getElem_toArray, List.getElem_cons_succ, List.getElem_cons_zero, List.setIfInBounds_toArray, List.set_cons_zero, List.set_cons_succ]
          refine wpAnyE_take 44 (v := (.agg #[.bool tg, .string (str nm), .string (str ky)])) C163.out rfl (by kernel_rfl) (by kernel_rfl) (by kernel_rfl) (fun _ _ _ h => h) (by rfl) (fun w4 c4 => ?_) ?_
          · obtain ⟨⟨f0, f1, f2⟩, f3, f4, f5⟩ := HK0.out w4 c4
            go_simp
          try simp only [Act.put, List.getElem_toArray, List.getElem_cons_succ, List.getElem_cons_zero, List.setIfInBounds_toArray, List.set_cons_zero, List.set_cons_succ]
          refine wpAnyE_take 45 (v := (.agg #[.bool sg, .string (str sn), .string (str sk)])) C163.out rfl (by kernel_rfl) (by kernel_rfl) (by kernel_rfl) (fun _ _ _ h => h) (by rfl) (fun w4 c4 => ?_) ?_
          · obtain ⟨⟨f0, f1, f2⟩, f3, f4, f5⟩ := HK0.out w4 c4
            go_simp
          try simp only [Act.put, List.getElem_toArray, List.getElem_cons_succ, List.getElem_cons_zero, List.setIfInBounds_toArray, List.set_cons_zero, List.set_cons_succ]
          refine wpAnyE_take 47 (v := (.agg #[.bool tg, .string (str nm), .string (str ky)])) C163.out rfl (by kernel_rfl) (by kernel_rfl) (by kernel_rfl) (fun _ _ _ h => h) (by rfl) (fun w4 c4 => ?_) ?_
          · obtain ⟨⟨f0, f1, f2⟩, f3, f4, f5⟩ := HK0.out w4 c4
            go_simp
          try simp only [Act.put, List.getElem_toArray, List.getElem_cons_succ, List.getElem_cons_zero, List.setIfInBounds_toArray, List.set_cons_zero, List.set_cons_succ]
          refine wpAnyE_take 49 (v := (.agg #[.bool sg, .string (str sn), .string (str sk)])) C163.out rfl (by kernel_rfl) (by kernel_rfl) (by kernel_rfl) (fun _ _ _ h => h) (by rfl) (fun w4 c4 => ?_) ?_
          · obtain ⟨⟨f0, f1, f2⟩, f3, f4, f5⟩ := HK0.out w4 c4
            go_simp
          try simp only [Act.put, List.getElem_toArray, List.getElem_cons_succ, List.getElem_cons_zero, List.setIfInBounds_toArray, List.set_cons_zero, List.set_cons_succ]
          obtain ⟨cv1, hcv1⟩ : ∃ c, cmpR ⟨tg, nm, ky⟩ ⟨sg, sn, sk⟩ = c := ⟨_, rfl⟩
          have hco := fun w' => compare_any ⟨tg, nm, ky⟩ ⟨sg, sn, sk⟩ w'
          have hcr := fun w' => rcompare_any ⟨tg, nm, ky⟩ ⟨sg, sn, sk⟩ w'
          rw [hcv1] at hco hcr
          have HCO := Lib.hid hco
          have HCR := Lib.hid hcr
          clear hco hcr hcv1
          refine wpAnyE_only 46 rfl (by kernel_rfl) (by rfl) ?_
          go_simp
          refine (HCO.out _).mono ?_
          rintro e w164 ⟨rfl, c⟩
          have C164 := Lib.hid (C163.out.nil c)
          clear C163
          have H72 := Lib.hid (fun w' (h : Chg [] w164 w') => H71.out w' (c.nil h))
          clear H71
          clear c
          refine ⟨C164.out, ?_⟩
          try simp only [Act.put, List.getElem_toArray, List.getElem_cons_succ, List.getElem_cons_zero, List.setIfInBounds_toArray, List.set_cons_zero, List.set_cons_succ]
          refine wpAnyE_only 48 rfl (by kernel_rfl) (by rfl) ?_
          go_simp
          refine (one_any _ ⟨tg, nm, ky⟩).mono ?_
          rintro e w165 ⟨rfl, c⟩
          have C165 := Lib.hid (C164.out.nil c)
          clear C164
          have H73 := Lib.hid (fun w' (h : Chg [] w165 w') => H72.out w' (c.nil h))
          clear H72
          clear c
          refine ⟨C165.out, ?_⟩
          try simp only [Act.put, List.getElem_toArray, List.getElem_cons_succ, List.getElem_cons_zero, List.setIfInBounds_toArray, List.set_cons_zero, List.set_cons_succ]
          refine wpAnyE_only 50 rfl (by kernel_rfl) (by rfl) ?_
          go_simp
          refine (one_any _ ⟨sg, sn, sk⟩).mono ?_
          rintro e w166 ⟨rfl, c⟩
          have C166 := Lib.hid (C165.out.nil c)
          clear C165
          have H74 := Lib.hid (fun w' (h : Chg [] w166 w') => H73.out w' (c.nil h))
          clear H73
          clear c
          refine ⟨C166.out, ?_⟩
          try simp only [Act.put, List.getElem_toArray, List.getElem_cons_succ, List.getElem_cons_zero, List.setIfInBounds_toArray, List.set_cons_zero, List.set_cons_succ]
          refine wpAnyE_only 51 rfl (by kernel_rfl) (by rfl) ?_
          go_simp
          refine (HCR.out _).mono ?_
          rintro e w167 ⟨rfl, c⟩
          have C167 := Lib.hid (C166.out.nil c)
          clear C166
          have H75 := Lib.hid (fun w' (h : Chg [] w167 w') => H74.out w' (c.nil h))
          clear H74
          clear c
          refine ⟨C167.out, ?_⟩
          try simp only [Act.put, List.getElem_toArray, List.getElem_cons_succ, List.getElem_cons_zero, List.setIfInBounds_toArray, List.set_cons_zero, List.set_cons_succ]
          have ec : (cv1 == cv1) = true := by simp
          refine wpAnyE_take 52 (v := (.bool true)) C167.out rfl (by kernel_rfl) (by kernel_rfl) (by kernel_rfl) (fun _ _ _ h => h) (by rfl) (fun w4 c4 => ?_) ?_
          · go_simp
          try simp only [Act.put, List.getElem_toArray, List.getElem_cons_succ, List.getElem_cons_zero, List.setIfInBounds_toArray, List.set_cons_zero, List.set_cons_succ]
          refine wpAnyE_take 53 (v := (.bool true)) C167.out rfl (by kernel_rfl) (by kernel_rfl) (by kernel_rfl) (fun _ _ _ h => h) (by rfl) (fun w4 c4 => ?_) ?_
          · go_simp
          try simp only [Act.put, List.getElem_toArray, List.getElem_cons_succ, List.getElem_cons_zero, List.setIfInBounds_toArray, List.set_cons_zero, List.set_cons_succ]
          refine wpAnyE_take 54 (v := (.bool true)) C167.out rfl (by kernel_rfl) (by kernel_rfl) (by kernel_rfl) (fun _ _ _ h => h) (by rfl) (fun w4 c4 => ?_) ?_
          · go_simp
          try simp only [Act.put, List.getElem_toArray, List.getElem_cons_succ, List.getElem_cons_zero, List.setIfInBounds_toArray, List.set_cons_zero, List.set_cons_succ]
          refine wpAnyE_take 55 (v := (.slice ai nl ci)) C167.out rfl (by kernel_rfl) (by kernel_rfl) (by kernel_rfl) (fun _ _ _ h => h) (by rfl) (fun w4 c4 => ?_) ?_
          · go_simp
          try simp only [Act.put, List.getElem_toArray, List.getElem_cons_succ, List.getElem_cons_zero, List.setIfInBounds_toArray, List.set_cons_zero, List.set_cons_succ]
          refine wpAnyE_take 57 (v := (.slice ao nl cap)) C167.out rfl (by kernel_rfl) (by kernel_rfl) (by kernel_rfl) (fun _ _ _ h => h) (by rfl) (fun w4 c4 => ?_) ?_
          · go_simp
          try simp only [Act.put, List.getElem_toArray, List.getElem_cons_succ, List.getElem_cons_zero, List.setIfInBounds_toArray, List.set_cons_zero, List.set_cons_succ]
          refine wpAnyE_only 56 rfl (by kernel_rfl) (by rfl) ?_
          go_simp
          refine (plainN HL.out HNB.out _ _ (H75.out _ (Chg.refl [] _)).1.1.1.1.1.1.1.1.1.1.1.1.1.1.1.1.1.2).mono ?_
          rintro e w168 ⟨v0, rfl, hF⟩
          obtain ⟨m3, o3, rfl, -⟩ := hF.shape
          have C168 := Lib.hid (C167.out.nil hF.chg)
          clear C167
          have H76 := Lib.hid (fun w' (h : Chg [] w168 w') => And.intro (H75.out w' (hF.chg.nil h)) (hF.own.sees.chg0 h))
          clear H75
          clear hF
          refine ⟨C168.out, ?_⟩
          try simp only [Act.put, List.getElem_toArray, List.getElem_cons_succ, List.getElem_cons_zero, List.setIfInBounds_toArray, List.set_cons_zero, List.set_cons_succ]
          refine wpAnyE_only 58 rfl (by kernel_rfl) (by rfl) ?_
          go_simp
          refine (plainN HL.out HNB.out _ _ (H76.out _ (Chg.refl [] _)).1.1.1.1.1.1.1.1.1.1.1.1.1.1.1.1.1.1.1.1.2).mono ?_
          rintro e w169 ⟨v0, rfl, hF⟩
          obtain ⟨m4, o4, rfl, -⟩ := hF.shape
          have C169 := Lib.hid (C168.out.nil hF.chg)
          clear C168
          have H77 := Lib.hid (fun w' (h : Chg [] w169 w') => And.intro (H76.out w' (hF.chg.nil h)) (hF.own.sees.chg0 h))
          clear H76
          clear hF
          refine ⟨C169.out, ?_⟩
          try simp only [Act.put, List.getElem_toArray, List.getElem_cons_succ, List.getElem_cons_zero, List.setIfInBounds_toArray, List.set_cons_zero, List.set_cons_succ]
          refine wpAnyE_only 59 rfl (by kernel_rfl) (by rfl) ?_
          go_simp
          refine (sameN HL.out HNB.out _ _ _ (H77.out _ (Chg.refl [] _)).1.2 (H77.out _ (Chg.refl [] _)).2).mono ?_
          rintro e w170 ⟨rfl, c⟩
          have C170 := Lib.hid (C169.out.nil c)
          clear C169
          have H78 := Lib.hid (fun w' (h : Chg [] w170 w') => H77.out w' (c.nil h))
          clear H77
          clear c
          refine ⟨C170.out, ?_⟩
          try simp only [Act.put, List.getElem_toArray, List.getElem_cons_succ, List.getElem_cons_zero, List.setIfInBounds_toArray, List.set_cons_zero, List.set_cons_succ]
          refine wpAnyE_take 60 (v := (.bool true)) C170.out rfl (by kernel_rfl) (by kernel_rfl) (by kernel_rfl) (fun _ _ _ h => h) (by rfl) (fun w4 c4 => ?_) ?_
          · go_simp
          try simp only [Act.put, List.getElem_toArray, List.getElem_cons_succ, List.getElem_cons_zero, List.setIfInBounds_toArray, List.set_cons_zero, List.set_cons_succ]
          refine wpAnyE_take 61 (v := (.bool true)) C170.out rfl (by kernel_rfl) (by kernel_rfl) (by kernel_rfl) (fun _ _ _ h => h) (by rfl) (fun w4 c4 => ?_) ?_
          · go_simp
          try simp only [Act.put, List.getElem_toArray, List.getElem_cons_succ, List.getElem_cons_zero, List.setIfInBounds_toArray, List.set_cons_zero, List.set_cons_succ]
          refine wpAnyE_done (by kernel_rfl) ?_ _
          go_wp2_with fail
          go_ret
          exact ⟨rfl, (H78.out _ (Chg.refl [] _)).1.1.1.1.1.1.1.1.1.1.1.1.1.1.1.1.1.1.1.1.1.1.1⟩
end Go.Proofs.YtihoohhngiomdaaGreatDoor
