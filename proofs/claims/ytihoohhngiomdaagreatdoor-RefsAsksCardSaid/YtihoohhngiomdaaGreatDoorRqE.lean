/- The document's refs: DecodeRefs. No statement of the seat is proved here. -/
import Derived.Test.YtihoohhngiomdaaGreatDoorRqD
set_option linter.unusedVariables false
set_option linter.unusedSimpArgs false
namespace Go.Proofs.YtihoohhngiomdaaGreatDoor
open Go.RowKit Go.Aq Go.Aq.Wd
theorem ends_len {P : List (List UInt8)} {x : List UInt8} (hx : x ∈ P) : x.length ≤ (ends P).length := by
  induction P with
  | nil => cases hx
  | cons a t ih =>
    have e : (ends (a :: t)).length = a.length + 1 + (ends t).length := by simp [ends]; omega
    rcases List.mem_cons.1 hx with rfl | hx
    · omega
    · have := ih hx; omega
theorem readW_bound {B : Nat} : ∀ (P : List (List UInt8)) (m : List RefD), readW P = some m → (∀ x ∈ P, x.length ≤ B) → ∀ r ∈ m, r.name.length ≤ 4 * B ∧ r.key.length ≤ 4 * B
  | [], m, h, _ => by
    simp only [readW, Option.some.injEq] at h
    subst h
    intro r hr; cases hr
  | x :: t, m, h, hB => by
    simp only [readW] at h
    cases hx : lineW x with
    | none => rw [hx] at h; cases h
    | some y =>
      rw [hx] at h
      obtain ⟨m', hm, rfl⟩ := Option.map_eq_some_iff.1 h
      have ih := readW_bound t m' hm (fun z hz => hB z (by simp [hz]))
      intro r hr
      rcases List.mem_cons.1 hr with rfl | hr
      · have h1 := lineW_len hx
        have h2 := hB x (by simp)
        omega
      · exact ih r hr
set_option maxRecDepth 100000 in
set_option maxHeartbeats 8000000 in
theorem rdecode_any (w : World) (v : Value) (n : Nat) (b : List UInt8) (hv : Sees w 1 v n (Bs b)) (hb : b.length ≤ 200000) :
    Calls Tryz.prog 10 #[v] w fun e w' => ∃ v', e = .returned (.tuple #[v', .int .i64 (decL b).2]) ∧ Sees w' 3 v' (decL b).1.length (Rfs (decL b).1) ∧ Chg [] w w' := by
  have hcv := run_str8 hv
  obtain ⟨ao, cap, rfl, -⟩ := hv.shape
  have hsp := split_any b w (by omega)
  have HV := Lib.hid hv
  have HB := Lib.hid hb
  have hgo : ∀ (w' : World), Chg [] w w' → Hid (decL b = ([], 4)) → ∃ v' : Value, (Ending.returned (.tuple #[.slice none 0 0, .int .i64 4])) = .returned (.tuple #[v', .int .i64 (decL b).2]) ∧ Sees w' 3 v' (decL b).1.length (Rfs (decL b).1) ∧ Chg [] w w' := fun w' c h => by
    rw [h.out]
    exact ⟨_, rfl, Sees.nil _ _, c⟩
  have HGO := Lib.hid hgo
  clear hgo
  clear hv hb
  go_enter Tryz.func10, Tryz.ntmps10
  go_wp2_with fail
  refine hsp.mono ?_
  rintro e w1 ⟨v1, P, q, rfl, hP, hF1⟩
  clear hsp hcv
  obtain ⟨np, HNP⟩ : ∃ k, Hid (P.length = k) := ⟨_, rfl⟩
  rw [HNP.out] at hF1
  obtain ⟨L1, HL1⟩ : ∃ k, Hid (np + 1 = k) := ⟨_, rfl⟩
  rw [HL1.out] at hF1
  have hPb : Hid (∀ x ∈ P, x.length ≤ 200000) := fun x hx => by
    have h1 := ends_len hx
    have h2 := congrArg List.length hP.eq
    rw [List.length_append] at h2
    have := HB.out
    omega
  have hnp : np ≤ 200000 := by
    have h2 := congrArg List.length hP.eq
    rw [List.length_append] at h2
    have h3 : P.length ≤ (ends P).length := by
      clear h2 hF1 HNP hP hPb
      induction P with
      | nil => simp
      | cons a t ih =>
        have e : (ends (a :: t)).length = a.length + 1 + (ends t).length := by simp [ends]; omega
        rw [List.length_cons]; omega
    have := HB.out
    have := HNP.out
    omega
  obtain ⟨gS, cS, rfl, -, -, hgS⟩ := hF1.own.pos (by have := HL1.out; omega)
  have hSc : Hid (∀ i (h : i < P.length), w1.cell? ⟨gS, i, none⟩ = some (.string (str (P[i]'h)))) := fun i h => by
    have h0 : i < L1 := by have := HL1.out; have := HNP.out; omega
    rw [hF1.own.cellAt i (by omega), Ss_append, List.getElem?_append_left (by rw [Ss_len]; exact h), Ss_get _ _ h]
  have HPI := Lib.hid hP
  have HC1 := Lib.hid hF1.chg
  have HGS := Lib.hid hgS
  have e3 : (L1 : Int) - 1 = (np : Int) := by have := HL1.out; omega
  have w3 : wrap64 (np : Int) = (np : Int) := w64R _ (by omega)
  have w4' : IntKind.i64.wrap (np : Int) = (np : Int) := wrapR _ (by omega)
  have HNB := Lib.hid hnp
  clear hF1 hP hgS hnp
  go_wp2_with fail
  go_loopg [5, 6] np (fun gk (v5 v6 : Value) wr => ∃ (i : Nat) (a5 : Option Addr) (c5 : Nat) (out : List RefD), v5 = .slice a5 i c5 ∧ v6 = .int .i64 (i : Int) ∧ i + gk = np ∧ Hid (readW (P.take i) = some out) ∧ Hid (Fresh w1 wr 51 3 (.slice a5 i c5) i (Rfs out)))
  case atStart => exact ⟨0, none, 0, [], rfl, rfl, by omega, rfl, Fresh.nil _ _ _⟩
  case round =>
    obtain ⟨i, a5, c5, out, rfl, rfl, hik, HO, HF⟩ := hrel
    by_cases hin : i < np
    · have t1 : decide ((i : Int) < (np : Int)) = true := decide_eq_true (by omega)
      have t1' : decide (i < np) = true := decide_eq_true hin
      have hip : i < P.length := by rw [HNP.out]; exact hin
      have x0 := HF.out.chg.cell_some (hSc.out i hip) (by simp)
      have hw := rwords_any P[i] wr (by have := hPb.out _ (List.getElem_mem hip); omega)
      have htk := List.take_succ_eq_append_getElem hip
      have hbad := fun h => dec_bad HPI.out hip h
      have hlong := fun h : 100 < i => dec_long HPI.out (by omega)
      have hsn := readW_snoc P[i] _ out HO.out
      rw [← htk] at hsn
      have hlw : lineW P[i] = if (wordsL P[i]).2.2 = 0 ∧ (wordsL P[i]).1.length = 3 then some ⟨decide ((wordsL P[i]).1.getD 0 [] = [116, 97, 103]), (wordsL P[i]).1.getD 1 [], (wordsL P[i]).1.getD 2 []⟩ else none := rfl
      have i1 : (i : Int) ≤ 200000 := by have := HNB.out; omega
      have i2 : i < L1 := by have := HL1.out; omega
      have HI := Lib.hid (And.intro hik (And.intro hsn hlw))
      have HBD := Lib.hid (And.intro hbad hlong)
      clear hik htk hsn hlw hbad hlong
      generalize P[i] = x at *
      clear hip
      obtain ⟨W, hW⟩ : ∃ W, (wordsL x).1 = W := ⟨_, rfl⟩
      obtain ⟨wc, hwc⟩ : ∃ k, (wordsL x).2.2 = k := ⟨_, rfl⟩
      obtain ⟨wp, hwp⟩ : ∃ k, (wordsL x).2.1 = k := ⟨_, rfl⟩
      rw [hW, hwc, hwp] at hw
      rw [hW, hwc] at HI
      clear hW hwc hwp
      obtain ⟨k, HK⟩ : ∃ k, Hid (W.length = k) := ⟨_, rfl⟩
      rw [HK.out] at hw
      have hcw := HC1.out.nil HF.out.chg
      by_cases h0 : wc = 0
      · subst h0
        by_cases h3 : k = 3
        · subst h3
          by_cases h100 : 100 < i
          · have hde : Hid (decL b = ([], 4)) := HBD.out.2 h100
            have t5 : decide ((100 : Int) < (i : Int)) = true := decide_eq_true (by omega)
            have t5' : decide (100 < i) = true := decide_eq_true h100
            have HCW := Lib.hid hcw
            clear h100 hcw
            go_wp2_with fail
            refine hw.mono ?_
            rintro e w2 ⟨v2, rfl, hF2⟩
            obtain ⟨a2, p2, rfl, -⟩ := hF2.shape
            have HC2 := Lib.hid (HCW.out.nil hF2.chg)
            clear hw hF2 x0
            go_wp2_with fail
            go_ret2
            exact HGO.out _ HC2.out hde
          · have t5 : decide ((100 : Int) < (i : Int)) = false := decide_eq_false (by omega)
            have t5' : decide (100 < i) = false := decide_eq_false h100
            obtain ⟨l0, l1, l2, rfl⟩ : ∃ l0 l1 l2, W = [l0, l1, l2] := by
              have := HK.out
              match W, this with
              | [a, b, c], _ => exact ⟨a, b, c, rfl⟩
            obtain ⟨tb, htb⟩ : ∃ tb, tb = decide (l0 = [116, 97, 103]) := ⟨_, rfl⟩
            have hsn : Hid (readW (P.take (i + 1)) = some (out ++ [⟨tb, l1, l2⟩])) := by
              obtain ⟨-, h1, h2⟩ := HI.out
              rw [if_pos ⟨rfl, rfl⟩] at h2
              show _ = _
              rw [h1, h2, htb]; rfl
            have e1 : ((str l0).toList == (⟨#[116, 97, 103]⟩ : ByteArray).toList) = tb := by rw [show (⟨#[116, 97, 103]⟩ : ByteArray) = str [116, 97, 103] from rfl, str_eq, htb]
            have e2 : ((str l0).toList == [116, 97, 103]) = tb := by rw [str_toList, htb]; rw [Bool.eq_iff_iff]; simp
            have hb3 : (i + 1) * 40 ≤ 140737488355328 := by omega
            have hb4 : i + 1 ≤ 9223372036854775807 := by omega
            have HIK := Lib.hid HI.out.1
            have HCW := Lib.hid hcw
            have HE := Lib.hid (And.intro e1 e2)
            clear h100 hcw htb e1 e2
            go_wp2_with fail
            refine hw.mono ?_
            rintro e w2 ⟨v2, rfl, hF2⟩
            obtain ⟨g, p2, rfl, -, -, hgl⟩ := hF2.own.pos (by decide)
            have z0 : w2.cell? ⟨g, 0, none⟩ = some (.string (str l0)) := by rw [hF2.own.cellAt 0 (by simp)]; rfl
            have z1 : w2.cell? ⟨g, 1, none⟩ = some (.string (str l1)) := by rw [hF2.own.cellAt 1 (by simp)]; rfl
            have z2 : w2.cell? ⟨g, 2, none⟩ = some (.string (str l2)) := by rw [hF2.own.cellAt 2 (by simp)]; rfl
            have HF2 : Hid (Fresh w1 w2 51 3 (.slice a5 i c5) i (Rfs out)) := HF.out.to hF2.chg
            have hgn : g ∉ (Value.slice a5 i c5).ownBlock.toList := fun hm => by
              have h1 := HF.out.own.lt _ hm
              have h2 := hF2.new g (by simp [Value.ownBlock])
              omega
            have HZ : Hid (∀ W, Chg (Value.slice a5 i c5).ownBlock.toList w2.drew W → W.cell? ⟨g, 0, none⟩ = some (.string (str l0)) ∧ W.cell? ⟨g, 1, none⟩ = some (.string (str l1)) ∧ W.cell? ⟨g, 2, none⟩ = some (.string (str l2))) := fun W c => by
              have c' : Chg (Value.slice a5 i c5).ownBlock.toList w2 W := ((Chg.refl _ w2).drew).tr c
              exact ⟨c'.cell_some z0 hgn, c'.cell_some z1 hgn, c'.cell_some z2 hgn⟩
            clear hw hF2 x0 z0 z1 z2 hgn hgl t1 t1' HF
            go_upto_region 9 with (fail)
            clear t5 t5' i1 i2
            have HF0 : Hid (Fresh w1 w2.drew 51 3 (.slice a5 i c5) i (Rfs out)) := HF2.out.to ((Chg.refl [] w2).drew)
            have c0 : Chg (Value.slice a5 i c5).ownBlock.toList w2.drew w2.drew := Chg.refl _ _
            refine wp_region_E (Value.slice a5 i c5).ownBlock.toList (by kernel_rfl) ?_
            generalize w2.drew = W0 at *
            refine wpAnyE_take 0 (v := (.slice a5 i c5)) c0 rfl (by kernel_rfl) (by kernel_rfl) (by kernel_rfl) (fun _ _ _ h => h) (by rfl) (fun w4 c4 => ?_) ?_
            · go_simp
            try simp only [Act.put, List.getElem_toArray, List.getElem_cons_succ, List.getElem_cons_zero, List.setIfInBounds_toArray, List.set_cons_zero, List.set_cons_succ]
            refine wpAnyE_take 1 (v := (.slice (some ⟨g, 0, none⟩) 3 p2)) c0 rfl (by kernel_rfl) (by kernel_rfl) (by kernel_rfl) (fun _ _ _ h => h) (by rfl) (fun w4 c4 => ?_) ?_
            · go_simp
            try simp only [Act.put, List.getElem_toArray, List.getElem_cons_succ, List.getElem_cons_zero, List.setIfInBounds_toArray, List.set_cons_zero, List.set_cons_succ]
            refine wpAnyE_take 2 (v := (.pointer (some ⟨g, 0, none⟩))) c0 rfl (by kernel_rfl) (by kernel_rfl) (by kernel_rfl) (fun _ _ _ h => h) (by rfl) (fun w4 c4 => ?_) ?_
            · go_simp
            try simp only [Act.put, List.getElem_toArray, List.getElem_cons_succ, List.getElem_cons_zero, List.setIfInBounds_toArray, List.set_cons_zero, List.set_cons_succ]
            refine wpAnyE_take 3 (v := (.string (str l0))) c0 rfl (by kernel_rfl) (by kernel_rfl) (by kernel_rfl) (fun _ _ _ h => h) (by rfl) (fun w4 c4 => ?_) ?_
            · obtain ⟨z0, z1, z2⟩ := HZ.out w4 c4
              go_simp
            try simp only [Act.put, List.getElem_toArray, List.getElem_cons_succ, List.getElem_cons_zero, List.setIfInBounds_toArray, List.set_cons_zero, List.set_cons_succ]
            refine wpAnyE_take 4 (v := (.bool tb)) c0 rfl (by kernel_rfl) (by kernel_rfl) (by kernel_rfl) (fun _ _ _ h => h) (by rfl) (fun w4 c4 => ?_) ?_
            · obtain ⟨e1, e2⟩ := HE.out
              go_simp
            try simp only [Act.put, List.getElem_toArray, List.getElem_cons_succ, List.getElem_cons_zero, List.setIfInBounds_toArray, List.set_cons_zero, List.set_cons_succ]
            refine wpAnyE_take 5 (v := (.slice (some ⟨g, 0, none⟩) 3 p2)) c0 rfl (by kernel_rfl) (by kernel_rfl) (by kernel_rfl) (fun _ _ _ h => h) (by rfl) (fun w4 c4 => ?_) ?_
            · go_simp
            try simp only [Act.put, List.getElem_toArray, List.getElem_cons_succ, List.getElem_cons_zero, List.setIfInBounds_toArray, List.set_cons_zero, List.set_cons_succ]
            refine wpAnyE_take 6 (v := (.pointer (some ⟨g, 1, none⟩))) c0 rfl (by kernel_rfl) (by kernel_rfl) (by kernel_rfl) (fun _ _ _ h => h) (by rfl) (fun w4 c4 => ?_) ?_
            · go_simp
            try simp only [Act.put, List.getElem_toArray, List.getElem_cons_succ, List.getElem_cons_zero, List.setIfInBounds_toArray, List.set_cons_zero, List.set_cons_succ]
            refine wpAnyE_take 7 (v := (.string (str l1))) c0 rfl (by kernel_rfl) (by kernel_rfl) (by kernel_rfl) (fun _ _ _ h => h) (by rfl) (fun w4 c4 => ?_) ?_
            · obtain ⟨z0, z1, z2⟩ := HZ.out w4 c4
              go_simp
            try simp only [Act.put, List.getElem_toArray, List.getElem_cons_succ, List.getElem_cons_zero, List.setIfInBounds_toArray, List.set_cons_zero, List.set_cons_succ]
            refine wpAnyE_take 8 (v := (.slice (some ⟨g, 0, none⟩) 3 p2)) c0 rfl (by kernel_rfl) (by kernel_rfl) (by kernel_rfl) (fun _ _ _ h => h) (by rfl) (fun w4 c4 => ?_) ?_
            · go_simp
            try simp only [Act.put, List.getElem_toArray, List.getElem_cons_succ, List.getElem_cons_zero, List.setIfInBounds_toArray, List.set_cons_zero, List.set_cons_succ]
            refine wpAnyE_take 9 (v := (.pointer (some ⟨g, 2, none⟩))) c0 rfl (by kernel_rfl) (by kernel_rfl) (by kernel_rfl) (fun _ _ _ h => h) (by rfl) (fun w4 c4 => ?_) ?_
            · go_simp
            try simp only [Act.put, List.getElem_toArray, List.getElem_cons_succ, List.getElem_cons_zero, List.setIfInBounds_toArray, List.set_cons_zero, List.set_cons_succ]
            refine wpAnyE_take 10 (v := (.string (str l2))) c0 rfl (by kernel_rfl) (by kernel_rfl) (by kernel_rfl) (fun _ _ _ h => h) (by rfl) (fun w4 c4 => ?_) ?_
            · obtain ⟨z0, z1, z2⟩ := HZ.out w4 c4
              go_simp
            try simp only [Act.put, List.getElem_toArray, List.getElem_cons_succ, List.getElem_cons_zero, List.setIfInBounds_toArray, List.set_cons_zero, List.set_cons_succ]
            refine wpAnyE_take 11 (v := (.agg #[.bool tb, .string (str l1), .string (str l2)])) c0 rfl (by kernel_rfl) (by kernel_rfl) (by kernel_rfl) (fun _ _ _ h => h) (by rfl) (fun w4 c4 => ?_) ?_
            · go_simp
            try simp only [Act.put, List.getElem_toArray, List.getElem_cons_succ, List.getElem_cons_zero, List.setIfInBounds_toArray, List.set_cons_zero, List.set_cons_succ]
            refine wpAnyE_only 12 rfl (by kernel_rfl) (by rfl) ?_
            have hb : Blk (W0.alloc (.cells #[.bool tb, .string (str l1), .string (str l2)] 51)) W0.heap.size #[.bool tb, .string (str l1), .string (str l2)] 51 := Blk.new _ _ _
            have cB : Chg [] W0 (W0.alloc (.cells #[.bool tb, .string (str l1), .string (str l2)] 51)) := (Chg.refl [] _).alloc _
            have HC0 := Lib.hid c0
            clear c0
            go_simp
            have c18 := HC0.out.nil cB
            have hO18 := HF0.out.to cB
            refine ⟨c18, ?_⟩
            have hs1 : Sees (W0.alloc (.cells #[.bool tb, .string (str l1), .string (str l2)] 51)) 3 (.slice (some ⟨W0.heap.size, 0, none⟩) 1 1) 1 (Rfs [⟨tb, l1, l2⟩]) := Sees.blk hb
            generalize W0.heap.size = KK at *
            generalize W0.alloc (.cells #[.bool tb, .string (str l1), .string (str l2)] 51) = w18 at *
            clear cB hb
            try simp only [Act.put, List.getElem_toArray, List.getElem_cons_succ, List.getElem_cons_zero, List.setIfInBounds_toArray, List.set_cons_zero, List.set_cons_succ]
            refine wpAnyE_only 13 rfl (by kernel_rfl) (by rfl) ?_
            refine wp_app _ _ 32 (by rfl) sl_q (v := (.slice a5 i c5)) (n := i) (xs := Rfs out) hO18.own (by rfl) (vx := (.slice (some ⟨KK, 0, none⟩) 1 1)) (m := 1) (news := Rfs [⟨tb, l1, l2⟩]) hs1 (by rfl) (rfs_ones _) hb3 hb4 ?_
            intro v19 w19 o19 e19 n19
            have c19 : Chg (Value.slice a5 i c5).ownBlock.toList W0 w19 := c18.tr e19
            have hF19 := hO18.app o19 e19 n19
            clear o19 e19 n19
            refine ⟨c19, ?_⟩
            try simp only [Act.put, List.getElem_toArray, List.getElem_cons_succ, List.getElem_cons_zero, List.setIfInBounds_toArray, List.set_cons_zero, List.set_cons_succ]
            refine wpAnyE_take 14 (v := v19) c19 rfl (by kernel_rfl) (by kernel_rfl) (by kernel_rfl) (fun _ _ _ h => h) (by rfl) (fun w4 c4 => ?_) ?_
            · go_simp
            try simp only [Act.put, List.getElem_toArray, List.getElem_cons_succ, List.getElem_cons_zero, List.setIfInBounds_toArray, List.set_cons_zero, List.set_cons_succ]
            refine wpAnyE_done (by kernel_rfl) ?_ _
            obtain ⟨a19, q19, rfl, -⟩ := hF19.shape
            rw [← Rfs_app] at hF19
            have HF19 := Lib.hid hF19
            have w5 : wrap64 ((i : Int) + 1) = ((i + 1 : Nat) : Int) := by have := HNB.out; unfold wrap64; omega
            clear hF19 c19 c18 hO18 hs1
            go_wp2_with fail
            go_roundg (gk - 1)
            case measure => have := HIK.out; omega
            case rel => exact ⟨i + 1, a19, q19, out ++ [⟨tb, l1, l2⟩], rfl, by first | rfl | rw [w5], by have := HIK.out; omega, hsn, HF19⟩
        · have hde : Hid (decL b = ([], 4)) := HBD.out.1 (by
            rw [HI.out.2.2, if_neg (fun h => h3 (by rw [← HK.out]; exact h.2))])
          have t5 : ((k : Int) != 3) = true := by simp; omega
          have t5' : ((k : Int) == 3) = false := by simp; omega
          have HCW := Lib.hid hcw
          clear h3 hcw
          go_wp2_with fail
          refine hw.mono ?_
          rintro e w2 ⟨v2, rfl, hF2⟩
          obtain ⟨a2, p2, rfl, -⟩ := hF2.shape
          have HC2 := Lib.hid (HCW.out.nil hF2.chg)
          clear hw hF2 x0
          go_wp2_with fail
          go_ret2
          exact HGO.out _ HC2.out hde
      · have hde : Hid (decL b = ([], 4)) := HBD.out.1 (by
          rw [HI.out.2.2, if_neg (fun h => h0 h.1)])
        have t5 : ((wc : Int) != 0) = true := by simp; omega
        have t5' : ((wc : Int) == 0) = false := by simp; omega
        have HCW := Lib.hid hcw
        clear h0 hcw
        go_wp2_with fail
        refine hw.mono ?_
        rintro e w2 ⟨v2, rfl, hF2⟩
        obtain ⟨a2, p2, rfl, -⟩ := hF2.shape
        have HC2 := Lib.hid (HCW.out.nil hF2.chg)
        clear hw hF2 x0
        go_wp2_with fail
        go_ret2
        exact HGO.out _ HC2.out hde
    · have t1 : decide ((i : Int) < (np : Int)) = false := decide_eq_false (by omega)
      have t1' : decide (i < np) = false := decide_eq_false hin
      have hii : i = np := by omega
      have hrd : readW P = some out := by
        have h := HO.out
        rw [hii, ← HNP.out, List.take_length] at h
        exact h
      have hda := dec_all HPI.out hrd
      have hol : out.length = i := by rw [readW_len hrd, HNP.out, hii]
      have hen := rencode_any wr (.slice a5 i c5) out (by rw [hol]; exact HF.out.own.sees) (by have := HNB.out; omega) (fun r hr => by have := readW_bound P out hrd hPb.out r hr; omega)
      have hcw := HC1.out.nil HF.out.chg
      have HCW := Lib.hid hcw
      have HOL := Lib.hid hol
      have HDA := Lib.hid hda
      have HS := Lib.hid HF.out.own.sees
      have henc : encodeL out = if mayL out then (out.flatMap lineR, 0) else ([], 4) := rfl
      clear hik hin hii hrd hda hol hcw
      cases hM : mayL out with
      | false =>
        rw [hM, if_neg (by simp)] at henc
        rw [henc] at hen
        have hde : Hid (decL b = ([], 4)) := by show _ = _; rw [HDA.out, henc, if_neg (by simp)]
        simp only [List.length_nil] at hen
        clear hM henc
        go_wp2_with fail
        refine hen.mono ?_
        rintro e w2 ⟨v2, rfl, hF2⟩
        obtain ⟨a2, p2, rfl, -⟩ := hF2.shape
        have HC2 := Lib.hid (HCW.out.nil hF2.chg)
        clear hen hF2
        go_wp2_with fail
        go_ret2
        exact HGO.out _ HC2.out hde
      | true =>
        rw [hM, if_pos rfl] at henc
        rw [henc] at hen
        simp only at hen
        have hde : Hid (decL b = if out.flatMap lineR = b then (out, 0) else ([], 4)) := by
          show _ = _
          rw [HDA.out, henc]
          by_cases h : out.flatMap lineR = b
          · rw [if_pos h, if_pos (by rw [h])]
          · rw [if_neg h, if_neg (fun e => h (by injection e))]
        clear hM henc
        generalize out.flatMap lineR = y at *
        obtain ⟨yl, hyl⟩ : ∃ k, y.length = k := ⟨_, rfl⟩
        rw [hyl] at hen
        have HYL := Lib.hid hyl
        clear hyl
        go_wp2_with fail
        refine hen.mono ?_
        rintro e w2 ⟨v2, rfl, hF2⟩
        obtain ⟨a2, p2, rfl, -⟩ := hF2.shape
        have hsm := same_any w2 (.slice a2 yl p2) (.slice ao n cap) yl n y b hF2.own.sees (HV.out.chg0 (HCW.out.nil hF2.chg))
        have HC2 := Lib.hid (HCW.out.nil hF2.chg)
        have HS2 := Lib.hid (HS.out.chg0 hF2.chg)
        clear hen hF2
        by_cases hy : y = b
        · rw [decide_eq_true hy] at hsm
          have hde2 : Hid (decL b = (out, 0)) := by show _ = _; rw [hde.out, if_pos hy]
          clear hy hde
          go_wp2_with fail
          refine hsm.mono ?_
          rintro e w3 ⟨rfl, rfl⟩
          clear hsm
          go_wp2_with fail
          go_ret2
          rw [hde2.out]
          exact ⟨_, rfl, by rw [HOL.out]; exact HS2.out, HC2.out⟩
        · rw [decide_eq_false hy] at hsm
          have hde2 : Hid (decL b = ([], 4)) := by show _ = _; rw [hde.out, if_neg hy]
          clear hy hde
          go_wp2_with fail
          refine hsm.mono ?_
          rintro e w3 ⟨rfl, rfl⟩
          clear hsm
          go_wp2_with fail
          go_ret2
          exact HGO.out _ HC2.out hde2
end Go.Proofs.YtihoohhngiomdaaGreatDoor
