/- Contracts of aquref24.bytesOf, Parse. No statement of the seat is proved here. (Printed by gen_rparse.py.) -/
import Derived.Test.YtfammoidikdbpaaGreatDoorRPrint
import Derived.Test.YtfammoidikdbpaaGreatDoorRefAll
import Derived.Test.YtfammoidikdbpaaGreatDoorScrAll
import Derived.Test.YtfammoidikdbpaaGreatDoorRWordY
set_option linter.unusedVariables false
set_option linter.unusedSimpArgs false
namespace Go.Aq.Wd
theorem kind_at : ∀ i, i < 14 → ∀ s, kindL.getD i [] = s → kindN s = i + 1 := fun i hi s h => by rw [← h]; exact kind_back i hi
theorem kind_of {s : List UInt8} {i : Nat} (h : kindN s = i + 1) : kindL.getD i [] = s := by
  unfold kindN at h
  split at h
  · rename_i hm
    have hl : kindL.idxOf s < kindL.length := List.idxOf_lt_length_of_mem hm
    have e : kindL.idxOf s = i := by omega
    rw [List.getD_eq_getElem?_getD, ← e, List.getElem?_eq_getElem hl]
    simp
  · omega
theorem rbytes_len {s b : List UInt8} (h : rbytes s = some b) : b.length ≤ s.length := by
  unfold rbytes at h
  split at h
  · rw [← Option.some.inj h]; simp
  · have := unhexL_length _ _ h; omega
end Go.Aq.Wd
namespace Go.Proofs.YtfammoidikdbpaaGreatDoor
open Go.RowKit Go.Aq Go.Aq.Wd
theorem rbytesOf_any (w : World) (s : List UInt8) (hs : s.length ≤ 1000000) :
    Calls Tryz.prog 31 #[.string (str s)] w fun e w' => (∃ bs v', rbytes s = some bs ∧ e = .returned (.tuple #[v', .bool true]) ∧ Sees w' 1 v' bs.length (Bs bs) ∧ (∀ k ∈ eyes v', w.heap.size ≤ k) ∧ Chg [] w w') ∨ (rbytes s = none ∧ e = .returned (.tuple #[.slice none 0 0, .bool false]) ∧ Chg [] w w') := by
  have h := refUnhex_any w s hs
  have HC : Hid (Chg [] w w) := Chg.refl _ _
  by_cases h45 : s = [45]
  · have HR : Hid (rbytes s = some []) := by show _ = _; unfold rbytes; rw [if_pos h45]
    have e1 : ((str s).toList == (⟨#[45]⟩ : ByteArray).toList) = true := by rw [show (⟨#[45]⟩ : ByteArray) = str [45] from rfl, str_eq]; simpa using h45
    have e2 : ((str s).toList == [45]) = true := by rw [str_toList]; simpa using h45
    clear h h45
    go_enter Tryz.func31, Tryz.ntmps31
    go_wp2_with fail
    go_ret2
    exact .inl ⟨[], _, HR.out, rfl, Sees.nil _ _, by simp [eyes], HC.out⟩
  · have e1 : ((str s).toList == (⟨#[45]⟩ : ByteArray).toList) = false := by rw [show (⟨#[45]⟩ : ByteArray) = str [45] from rfl, str_eq]; simpa using h45
    have e2 : ((str s).toList == [45]) = false := by rw [str_toList]; simpa using h45
    have HR : Hid (rbytes s = unhexL s) := by show _ = _; unfold rbytes; rw [if_neg h45]
    clear h45
    go_enter Tryz.func31, Tryz.ntmps31
    go_wp2_with fail
    refine h.mono ?_
    rintro e w1 (⟨bs, v', hu, rfl, hF⟩ | ⟨hu, rfl, c1⟩)
    · obtain ⟨ao, cap, rfl, -⟩ := hF.shape
      have HU := Lib.hid hu
      clear hu
      go_wp2_with fail
      go_ret2
      exact .inl ⟨bs, _, HR.out.trans HU.out, rfl, hF.own.sees, fun k hk => hF.new k (eyes_own _ k hk), hF.chg⟩
    · have HU := Lib.hid hu
      clear hu
      go_wp2_with fail
      go_ret2
      exact .inr ⟨HR.out.trans HU.out, rfl, c1⟩
set_option maxRecDepth 100000 in
set_option maxHeartbeats 4000000 in
theorem rparse_bad (s : List UInt8) (w : World) (hs : s.length ≤ 200000) (h : (wordsL s).2.2 ≠ 0 ∨ (wordsL s).1.length ≠ 9) :
    Calls Tryz.prog 10 #[.string (str s)] w fun e w' => e = .returned (.tuple #[actV (parseL s).1 (.slice none 0 0) (.slice none 0 0), .int .i64 (parseL s).2]) ∧ Chg [] w w' := by
  obtain ⟨K, hK⟩ : ∃ K, w.heap.size = K := ⟨_, rfl⟩
  have hbK : Blk (w.alloc (.cells #[.int .i64 0, .int .i64 0, .int .i64 0, .string ⟨#[]⟩, .string ⟨#[]⟩, .string ⟨#[]⟩, .int .i64 0, .int .i64 0, .int .i64 0, .int .i64 0, .int .i64 0, .slice none 0 0, .slice none 0 0] 35)) K #[.int .i64 0, .int .i64 0, .int .i64 0, .string ⟨#[]⟩, .string ⟨#[]⟩, .string ⟨#[]⟩, .int .i64 0, .int .i64 0, .int .i64 0, .int .i64 0, .int .i64 0, .slice none 0 0, .slice none 0 0] 35 := Blk.new_at w _ _ hK
  have hc1 : Chg [] w (w.alloc (.cells #[.int .i64 0, .int .i64 0, .int .i64 0, .string ⟨#[]⟩, .string ⟨#[]⟩, .string ⟨#[]⟩, .int .i64 0, .int .i64 0, .int .i64 0, .int .i64 0, .int .i64 0, .slice none 0 0, .slice none 0 0] 35)) := (Chg.refl [] w).alloc _
  have hw := rwords_any s (w.alloc (.cells #[.int .i64 0, .int .i64 0, .int .i64 0, .string ⟨#[]⟩, .string ⟨#[]⟩, .string ⟨#[]⟩, .int .i64 0, .int .i64 0, .int .i64 0, .int .i64 0, .int .i64 0, .slice none 0 0, .slice none 0 0] 35)) (by omega)
  have aT : ArrTy Tryz.prog 35 (#[.int .i64 0, .int .i64 0, .int .i64 0, .string ⟨#[]⟩, .string ⟨#[]⟩, .string ⟨#[]⟩, .int .i64 0, .int .i64 0, .int .i64 0, .int .i64 0, .int .i64 0, .slice none 0 0, .slice none 0 0] : Array Value).size := ract_ty2
  have fin : ∀ (n : Int) w1 w9, Chg [] w w1 → Chg [K] w1 w9 → parseL s = (actZ, n) → (Value.tuple #[.agg #[.int .i64 0, .int .i64 0, .int .i64 0, .string ⟨#[]⟩, .string ⟨#[]⟩, .string ⟨#[]⟩, .int .i64 0, .int .i64 0, .int .i64 0, .int .i64 0, .int .i64 0, .slice none 0 0, .slice none 0 0], .int .i64 n] = .tuple #[actV (parseL s).1 (.slice none 0 0) (.slice none 0 0), .int .i64 (parseL s).2]) ∧ Chg [] w w9 := by
    intro n w1 w9 c1 c9 e
    rw [e]
    exact ⟨rfl, c1.trans c9 fun k hk => by simp at hk; right; omega⟩
  have hP : parseL s = if (wordsL s).2.2 ≠ 0 then (actZ, (((wordsL s).2.2 : Nat) : Int)) else if (wordsL s).1.length < 9 then (actZ, 2) else (actZ, 4) := by
    unfold parseL
    split
    · rfl
    · rename_i h0
      have h9 : (wordsL s).1.length ≠ 9 := h.resolve_left h0
      split
      · rfl
      · rw [if_pos (by omega)]
  generalize (wordsL s).2.2 = er at *
  generalize (wordsL s).2.1 = wh at *
  generalize (wordsL s).1 = L at *
  obtain ⟨nl, hnl⟩ : ∃ n, L.length = n := ⟨_, rfl⟩
  rw [hnl] at hw hP h
  have HF := Lib.hid (And.intro @fin (And.intro hP (And.intro hbK hc1)))
  clear fin hP hc1 hnl
  by_cases h0 : er = 0
  · subst h0
    have h9 : nl ≠ 9 := h.resolve_left (by simp)
    by_cases hlt : nl < 9
    · have t1 : decide ((nl : Int) < 9) = true := by simp; omega
      have t1' : decide (nl < 9) = true := by simp; omega
      have HN : Hid (parseL s = (actZ, 2)) := by show _ = _; rw [HF.out.2.1, if_neg (by simp), if_pos hlt]
      clear h h9 hlt
      go_enter Tryz.func10, Tryz.ntmps10
      go_wp2_with fail
      refine hw.mono ?_
      rintro e w2 ⟨v2, rfl, hF2⟩
      obtain ⟨ao2, cp2, rfl, -⟩ := hF2.shape
      have hbK2 := hbK.chg0 hF2.chg
      have cw2 := HF.out.2.2.2.nil hF2.chg
      clear hw hbK
      go_wp2_with (with_reducible refine wpList_stA rfl 35 _ _ rfl hbK2 aT rfl (by simp [Value.oneCell']) rfl rfl ?_; intro w20 hb20 c20 hs20)
      refine bodyPost_ret (results_AT rfl _ _ hb20 aT rfl) rfl ?_
      have hh := HF.out.1 2 _ _ cw2 c20 HN.out
      exact ⟨congrArg _ hh.1, hh.2⟩
    · have t1 : decide ((nl : Int) < 9) = false := by simp; omega
      have t1' : decide (nl < 9) = false := by simp; omega
      have t2 : decide ((9 : Int) < (nl : Int)) = true := by simp; omega
      have t2' : decide (9 < nl) = true := by simp; omega
      have HN : Hid (parseL s = (actZ, 4)) := by show _ = _; rw [HF.out.2.1, if_neg (by simp), if_neg hlt]
      clear h h9 hlt
      go_enter Tryz.func10, Tryz.ntmps10
      go_wp2_with fail
      refine hw.mono ?_
      rintro e w2 ⟨v2, rfl, hF2⟩
      obtain ⟨ao2, cp2, rfl, -⟩ := hF2.shape
      have hbK2 := hbK.chg0 hF2.chg
      have cw2 := HF.out.2.2.2.nil hF2.chg
      clear hw hbK
      go_wp2_with (with_reducible refine wpList_stA rfl 35 _ _ rfl hbK2 aT rfl (by simp [Value.oneCell']) rfl rfl ?_; intro w20 hb20 c20 hs20)
      refine bodyPost_ret (results_AT rfl _ _ hb20 aT rfl) rfl ?_
      have hh := HF.out.1 4 _ _ cw2 c20 HN.out
      exact ⟨congrArg _ hh.1, hh.2⟩
  · have t1 : ((er : Int) != 0) = true := by simp; omega
    have t1' : (er != 0) = true := by simp; omega
    have HN : Hid (parseL s = (actZ, (er : Int))) := by show _ = _; rw [HF.out.2.1, if_pos h0]
    clear h h0
    go_enter Tryz.func10, Tryz.ntmps10
    go_wp2_with fail
    refine hw.mono ?_
    rintro e w2 ⟨v2, rfl, hF2⟩
    obtain ⟨ao2, cp2, rfl, -⟩ := hF2.shape
    have hbK2 := hbK.chg0 hF2.chg
    have cw2 := HF.out.2.2.2.nil hF2.chg
    clear hw hbK
    go_wp2_with (with_reducible refine wpList_stA rfl 35 _ _ rfl hbK2 aT rfl (by simp [Value.oneCell']) rfl rfl ?_; intro w20 hb20 c20 hs20)
    refine bodyPost_ret (results_AT rfl _ _ hb20 aT rfl) rfl ?_
    have hh := HF.out.1 er _ _ cw2 c20 HN.out
    exact ⟨congrArg _ hh.1, hh.2⟩
set_option maxRecDepth 100000 in
set_option maxHeartbeats 16000000 in
theorem rparse_nine (s : List UInt8) (w : World) (hs : s.length ≤ 200000) (h0 : (wordsL s).2.2 = 0) (h9 : (wordsL s).1.length = 9) :
    Calls Tryz.prog 10 #[.string (str s)] w fun e w' => ∃ pv mv, e = .returned (.tuple #[actV (parseL s).1 pv mv, .int .i64 (parseL s).2]) ∧ ActR w w' (parseL s).1 pv mv ∧ Chg [] w w' := by
  obtain ⟨K, hK⟩ : ∃ K, w.heap.size = K := ⟨_, rfl⟩
  have hbK : Blk (w.alloc (.cells #[.int .i64 0, .int .i64 0, .int .i64 0, .string ⟨#[]⟩, .string ⟨#[]⟩, .string ⟨#[]⟩, .int .i64 0, .int .i64 0, .int .i64 0, .int .i64 0, .int .i64 0, .slice none 0 0, .slice none 0 0] 35)) K #[.int .i64 0, .int .i64 0, .int .i64 0, .string ⟨#[]⟩, .string ⟨#[]⟩, .string ⟨#[]⟩, .int .i64 0, .int .i64 0, .int .i64 0, .int .i64 0, .int .i64 0, .slice none 0 0, .slice none 0 0] 35 := Blk.new_at w _ _ hK
  have hc1 : Chg [] w (w.alloc (.cells #[.int .i64 0, .int .i64 0, .int .i64 0, .string ⟨#[]⟩, .string ⟨#[]⟩, .string ⟨#[]⟩, .int .i64 0, .int .i64 0, .int .i64 0, .int .i64 0, .int .i64 0, .slice none 0 0, .slice none 0 0] 35)) := (Chg.refl [] w).alloc _
  have hw := rwords_any s (w.alloc (.cells #[.int .i64 0, .int .i64 0, .int .i64 0, .string ⟨#[]⟩, .string ⟨#[]⟩, .string ⟨#[]⟩, .int .i64 0, .int .i64 0, .int .i64 0, .int .i64 0, .int .i64 0, .slice none 0 0, .slice none 0 0] 35)) (by omega)
  have hP : parseL s = if (prL (actP (wordsL s).1)).2 ≠ 0 ∨ (prL (actP (wordsL s).1)).1 ≠ s then (actZ, 4) else (actP (wordsL s).1, 0) := by
    unfold parseL
    rw [if_neg (by simp [h0]), if_neg (by omega), if_neg (by omega)]
  have hflag := fun h => par_flags (s := s) h
  have hact := fun (u1 u2 u3 : Int) (p b : List UInt8) => par_act (l := (wordsL s).1) (u1 := u1) (u2 := u2) (u3 := u3) (p := p) (b := b)
  have hbd := words_bound s
  rw [h0] at hw
  generalize (wordsL s).2.1 = wh at *
  generalize (wordsL s).1 = L at *
  rw [h9] at hw
  have hbz : (parseL s).2 ≠ 0 → parseL s = (actZ, 4) := by
    intro h
    rw [hP] at h ⊢
    split at h
    · rename_i hh; rw [if_pos hh]
    · exact absurd rfl h
  have hgl : ∀ j, (L.getD j []).length ≤ 800000 := by
    intro j
    by_cases hj : j < L.length
    · rw [List.getD_eq_getElem?_getD, List.getElem?_eq_getElem hj]
      have := hbd _ (List.getElem_mem hj)
      simp only [Option.getD_some]; omega
    · rw [List.getD_eq_getElem?_getD, List.getElem?_eq_none (by omega)]; simp
  have HF := Lib.hid (And.intro hP (And.intro hbK (And.intro hc1 (And.intro h9 (And.intro hgl (And.intro hs (And.intro hflag (And.intro hact hbz))))))))
  clear hP hc1 hbd hgl hs h0 hflag hact hbz h9
  go_enter Tryz.func10, Tryz.ntmps10
  go_wp2_with fail
  refine hw.mono ?_
  rintro e w2 ⟨v2, rfl, hF2⟩
  clear hw
  obtain ⟨g, cp2, rfl, -, -, hgl⟩ := hF2.own.pos (by decide)
  have hce : ∀ j, j < 9 → w2.cell? ⟨g, j, none⟩ = some (.string (str (L.getD j []))) ∧ (L.getD j []).length ≤ 800000 := by
    intro j hj
    have hj' : j < L.length := by rw [HF.out.2.2.2.1]; exact hj
    refine ⟨?_, HF.out.2.2.2.2.1 j⟩
    rw [hF2.own.cellAt j (by omega), List.getD_eq_getElem?_getD, List.getElem?_eq_getElem hj']
    simp [Ss, List.getElem?_eq_getElem hj']
  have cw2 := HF.out.2.2.1.nil hF2.chg
  have hbK2 := hbK.chg0 hF2.chg
  have hAP : actP L = if (decPL (bytesL (L.getD 7 []))).2.2 = 0 then { actW L with shp := (decPL (bytesL (L.getD 7 []))).1, pix := (decPL (bytesL (L.getD 7 []))).2.1 } else actW L := rfl
  obtain ⟨l0, hl0⟩ : ∃ l, L.getD 0 [] = l := ⟨_, rfl⟩
  have q0 := hce 0 (by decide)
  rw [hl0] at q0
  obtain ⟨z0, b0⟩ := q0
  obtain ⟨l1, hl1⟩ : ∃ l, L.getD 1 [] = l := ⟨_, rfl⟩
  have q1 := hce 1 (by decide)
  rw [hl1] at q1
  obtain ⟨z1, b1⟩ := q1
  obtain ⟨l2, hl2⟩ : ∃ l, L.getD 2 [] = l := ⟨_, rfl⟩
  have q2 := hce 2 (by decide)
  rw [hl2] at q2
  obtain ⟨z2, b2⟩ := q2
  obtain ⟨l3, hl3⟩ : ∃ l, L.getD 3 [] = l := ⟨_, rfl⟩
  have q3 := hce 3 (by decide)
  rw [hl3] at q3
  obtain ⟨z3, b3⟩ := q3
  obtain ⟨l4, hl4⟩ : ∃ l, L.getD 4 [] = l := ⟨_, rfl⟩
  have q4 := hce 4 (by decide)
  rw [hl4] at q4
  obtain ⟨z4, b4⟩ := q4
  obtain ⟨l5, hl5⟩ : ∃ l, L.getD 5 [] = l := ⟨_, rfl⟩
  have q5 := hce 5 (by decide)
  rw [hl5] at q5
  obtain ⟨z5, b5⟩ := q5
  obtain ⟨l6, hl6⟩ : ∃ l, L.getD 6 [] = l := ⟨_, rfl⟩
  have q6 := hce 6 (by decide)
  rw [hl6] at q6
  obtain ⟨z6, b6⟩ := q6
  obtain ⟨l7, hl7⟩ : ∃ l, L.getD 7 [] = l := ⟨_, rfl⟩
  have q7 := hce 7 (by decide)
  rw [hl7] at q7
  obtain ⟨z7, b7⟩ := q7
  obtain ⟨l8, hl8⟩ : ∃ l, L.getD 8 [] = l := ⟨_, rfl⟩
  have q8 := hce 8 (by decide)
  rw [hl8] at q8
  obtain ⟨z8, b8⟩ := q8
  rw [hl7] at hAP
  have hflag : (parseL s).2 = 0 → (∃ u, IsNum l1 u) ∧ (∃ u, IsNum l2 u) ∧ (∃ u, IsNum l3 u) ∧ (∃ p, rbytes l7 = some p ∧ (p ≠ [] → (decPL p).2.2 = 0)) ∧ ∃ b, rbytes l8 = some b := by
    have h := HF.out.2.2.2.2.2.2.1
    rw [hl1, hl2, hl3, hl7, hl8] at h
    exact h
  have hact : ∀ (u1 u2 u3 : Int) (p b : List UInt8), IsNum l1 u1 → IsNum l2 u2 → IsNum l3 u3 → rbytes l7 = some p → rbytes l8 = some b → actW L = { actZ with kind := (kindN l0 : Int), n := u1, m := u2, key := u3, name := l4, other := l5, text := l6, mask := b } ∧ bytesL l7 = p := by
    have h := HF.out.2.2.2.2.2.2.2.1
    rw [hl0, hl1, hl2, hl3, hl4, hl5, hl6, hl7, hl8] at h
    exact h
  have hk14 := kindN_le l0
  have hkt : ∀ i, i < 14 → (kindL.getD i [] = l0 ↔ kindN l0 = i + 1) := fun i hi => ⟨kind_at i hi l0, kind_of⟩
  have hn1 := fun w' => rnum_any l1 (by omega) w'
  have hn2 := fun w' => rnum_any l2 (by omega) w'
  have hn3 := fun w' => rnum_any l3 (by omega) w'
  have hb7 := fun w' => rbytesOf_any w' l7 (by omega)
  have hb8 := fun w' => rbytesOf_any w' l8 (by omega)
  generalize kindN l0 = kd at *
  have HA := Lib.hid (And.intro hAP (And.intro hflag (And.intro hact (And.intro hk14 (And.intro hkt (And.intro hbK2 cw2))))))
  have HZ0 := Lib.hid z0
  have HZ := Lib.hid (And.intro z1 (And.intro z2 (And.intro z3 (And.intro z7 z8))))
  have HL := Lib.hid (And.intro b4 (And.intro b5 (And.intro b6 (And.intro b7 b8))))
  clear hAP hflag hact hk14 hkt hbK2 cw2 hce hF2 hbK hl0 hl1 hl2 hl3 hl4 hl5 hl6 hl7 hl8 b0 b1 b2 b3 b4 b5 b6 b7 b8 z1 z2 z3 z7 z8
  go_upto_region 8 with (fail)
  refine wp_region_S (fun i => i == 11) (by kernel_rfl) ?_
  refine wpAnyS_take 0 (v := (.slice (some ⟨g, 0, none⟩) 9 cp2)) rfl (by kernel_rfl) (by kernel_rfl) (by kernel_rfl) (by kernel_rfl) (fun _ _ _ h => h) (by rfl) (fun w4 c4 => ?_) ?_
  · go_simp
  try simp only [Act.put, List.getElem_toArray, List.getElem_cons_succ, List.getElem_cons_zero, List.setIfInBounds_toArray, List.set_cons_zero, List.set_cons_succ]
  refine wpAnyS_take 1 (v := (.pointer (some ⟨g, 4, none⟩))) rfl (by kernel_rfl) (by kernel_rfl) (by kernel_rfl) (by kernel_rfl) (fun _ _ _ h => h) (by rfl) (fun w4 c4 => ?_) ?_
  · go_simp
  try simp only [Act.put, List.getElem_toArray, List.getElem_cons_succ, List.getElem_cons_zero, List.setIfInBounds_toArray, List.set_cons_zero, List.set_cons_succ]
  refine wpAnyS_take 2 (v := (.string (str l4))) rfl (by kernel_rfl) (by kernel_rfl) (by kernel_rfl) (by kernel_rfl) (fun _ _ _ h => h) (by rfl) (fun w4 c4 => ?_) ?_
  · have z := c4.cell_some z4 (by simp)
    go_simp
  try simp only [Act.put, List.getElem_toArray, List.getElem_cons_succ, List.getElem_cons_zero, List.setIfInBounds_toArray, List.set_cons_zero, List.set_cons_succ]
  refine wpAnyS_take 3 (v := (.slice (some ⟨g, 0, none⟩) 9 cp2)) rfl (by kernel_rfl) (by kernel_rfl) (by kernel_rfl) (by kernel_rfl) (fun _ _ _ h => h) (by rfl) (fun w4 c4 => ?_) ?_
  · go_simp
  try simp only [Act.put, List.getElem_toArray, List.getElem_cons_succ, List.getElem_cons_zero, List.setIfInBounds_toArray, List.set_cons_zero, List.set_cons_succ]
  refine wpAnyS_take 4 (v := (.pointer (some ⟨g, 5, none⟩))) rfl (by kernel_rfl) (by kernel_rfl) (by kernel_rfl) (by kernel_rfl) (fun _ _ _ h => h) (by rfl) (fun w4 c4 => ?_) ?_
  · go_simp
  try simp only [Act.put, List.getElem_toArray, List.getElem_cons_succ, List.getElem_cons_zero, List.setIfInBounds_toArray, List.set_cons_zero, List.set_cons_succ]
  refine wpAnyS_take 5 (v := (.string (str l5))) rfl (by kernel_rfl) (by kernel_rfl) (by kernel_rfl) (by kernel_rfl) (fun _ _ _ h => h) (by rfl) (fun w4 c4 => ?_) ?_
  · have z := c4.cell_some z5 (by simp)
    go_simp
  try simp only [Act.put, List.getElem_toArray, List.getElem_cons_succ, List.getElem_cons_zero, List.setIfInBounds_toArray, List.set_cons_zero, List.set_cons_succ]
  refine wpAnyS_take 6 (v := (.slice (some ⟨g, 0, none⟩) 9 cp2)) rfl (by kernel_rfl) (by kernel_rfl) (by kernel_rfl) (by kernel_rfl) (fun _ _ _ h => h) (by rfl) (fun w4 c4 => ?_) ?_
  · go_simp
  try simp only [Act.put, List.getElem_toArray, List.getElem_cons_succ, List.getElem_cons_zero, List.setIfInBounds_toArray, List.set_cons_zero, List.set_cons_succ]
  refine wpAnyS_take 7 (v := (.pointer (some ⟨g, 6, none⟩))) rfl (by kernel_rfl) (by kernel_rfl) (by kernel_rfl) (by kernel_rfl) (fun _ _ _ h => h) (by rfl) (fun w4 c4 => ?_) ?_
  · go_simp
  try simp only [Act.put, List.getElem_toArray, List.getElem_cons_succ, List.getElem_cons_zero, List.setIfInBounds_toArray, List.set_cons_zero, List.set_cons_succ]
  refine wpAnyS_take 8 (v := (.string (str l6))) rfl (by kernel_rfl) (by kernel_rfl) (by kernel_rfl) (by kernel_rfl) (fun _ _ _ h => h) (by rfl) (fun w4 c4 => ?_) ?_
  · have z := c4.cell_some z6 (by simp)
    go_simp
  try simp only [Act.put, List.getElem_toArray, List.getElem_cons_succ, List.getElem_cons_zero, List.setIfInBounds_toArray, List.set_cons_zero, List.set_cons_succ]
  refine wpAnyS_take 9 (v := (.agg #[.int .i64 0, .int .i64 0, .int .i64 0, .string (str l4), .string (str l5), .string (str l6), .int .i64 0, .int .i64 0, .int .i64 0, .int .i64 0, .int .i64 0, .slice none 0 0, .slice none 0 0])) rfl (by kernel_rfl) (by kernel_rfl) (by kernel_rfl) (by kernel_rfl) (fun _ _ _ h => h) (by rfl) (fun w4 c4 => ?_) ?_
  · go_simp
  try simp only [Act.put, List.getElem_toArray, List.getElem_cons_succ, List.getElem_cons_zero, List.setIfInBounds_toArray, List.set_cons_zero, List.set_cons_succ]
  refine wpAnyS_only 10 rfl (by kernel_rfl) rfl (by rfl) (fun w4 c4 => ?_)
  go_simp
  obtain ⟨K7, hK7⟩ : ∃ P, w4.heap.size = P := ⟨_, rfl⟩
  rw [hK7]
  have hb4 : Blk (w4.alloc (.cells #[.int .i64 0, .int .i64 0, .int .i64 0, .string ⟨#[]⟩, .string ⟨#[]⟩, .string ⟨#[]⟩, .int .i64 0, .int .i64 0, .int .i64 0, .int .i64 0, .int .i64 0, .slice none 0 0, .slice none 0 0] 35)) K7 #[.int .i64 0, .int .i64 0, .int .i64 0, .string ⟨#[]⟩, .string ⟨#[]⟩, .string ⟨#[]⟩, .int .i64 0, .int .i64 0, .int .i64 0, .int .i64 0, .int .i64 0, .slice none 0 0, .slice none 0 0] 35 := Blk.new_at w4 _ _ hK7
  have hcP : Chg [] w4 (w4.alloc (.cells #[.int .i64 0, .int .i64 0, .int .i64 0, .string ⟨#[]⟩, .string ⟨#[]⟩, .string ⟨#[]⟩, .int .i64 0, .int .i64 0, .int .i64 0, .int .i64 0, .int .i64 0, .slice none 0 0, .slice none 0 0] 35)) := (Chg.refl [] w4).alloc _
  refine ⟨hcP, ?_⟩
  try simp only [Act.put, List.getElem_toArray, List.getElem_cons_succ, List.getElem_cons_zero, List.setIfInBounds_toArray, List.set_cons_zero, List.set_cons_succ]
  refine wpAnyS_last 11 rfl (by kernel_rfl) rfl (by rfl) (fun w5 c5 => ?_)
  refine wp_stA (cs := #[.int .i64 0, .int .i64 0, .int .i64 0, .string (str l4), .string (str l5), .string (str l6), .int .i64 0, .int .i64 0, .int .i64 0, .int .i64 0, .int .i64 0, .slice none 0 0, .slice none 0 0]) 35 _ _ rfl (hb4.chg0 c5) ract_ty2 rfl (by simp [Value.oneCell']) rfl rfl ?_
  intro w6 hb6 c6 hs6
  refine wpAny_fin (by kernel_rfl) ?_ _
  have hK72 : w2.heap.size ≤ K7 := by have := c4.size; omega
  have cw6 : Chg [] w2 w6 := ((c4.nil hcP).nil c5).trans c6 (fun k hk => by simp at hk; right; omega)
  have z0 := cw6.cell_some z0 (by simp)
  have K76 := hb6.lt
  have HC6 := Lib.hid (And.intro hb6 cw6)
  clear hs6 c6 c5 hcP hb4 c4 hK7 z4 z5 z6 hb6 cw6
  go_wp2_with fail
  refine (rkinds_any _).mono ?_
  rintro e w8 ⟨rfl, hbk, c8⟩
  obtain ⟨K8, hK8⟩ : ∃ K8, w6.heap.size = K8 := ⟨_, rfl⟩
  rw [hK8] at hbk
  rw [hK8]
  have h78 : K7 < K8 := by omega
  have HC8 := Lib.hid (And.intro (HC6.out.1.chg0 c8) (And.intro (HC6.out.2.nil c8) (And.intro hbk h78)))
  clear HC6 hbk c8 hK8 z0 K76 h78
  go_wp2_with fail
  go_loopg [9] 14 (fun k vi wr => ∃ (i : Nat), vi = .int .i64 i ∧ i + k = 14 ∧ Blk wr K7 #[.int .i64 ((if kd ≤ i then kd else 0 : Nat) : Int), .int .i64 0, .int .i64 0, .string (str l4), .string (str l5), .string (str l6), .int .i64 0, .int .i64 0, .int .i64 0, .int .i64 0, .int .i64 0, .slice none 0 0, .slice none 0 0] 35 ∧ Blk wr K8 (Ss kindL).toArray 9 ∧ Chg [] w2 wr)
  case atStart => exact ⟨0, rfl, by omega, (by have h := HC8.out.1; by_cases hk0 : kd ≤ 0
                                               · have : kd = 0 := by omega
                                                 subst this; exact h
                                               · rw [if_neg hk0]; exact h), HC8.out.2.2.1, HC8.out.2.1⟩
  case round =>
    obtain ⟨i, rfl, hik, hb7c, hbk, cwr⟩ := hrel
    have h78 := HC8.out.2.2.2
    by_cases hi : i < 14
    · have r1 : decide ((i : Int) < 14) = true := by simp; omega
      have r1' : decide (i < 14) = true := by simp; omega
      have i14 : (i : Int) < 14 := by omega
      obtain ⟨ki, hki⟩ : ∃ ki, kindL.getD i [] = ki := ⟨_, rfl⟩
      have m8 : wr.cell? ⟨K8, i, none⟩ = some (.string (str ki)) := by
        rw [hbk.cell]
        have : i < (Ss kindL).toArray.size := hi
        rw [Array.getElem?_eq_getElem this]
        simp only [Ss, List.getElem_toArray, List.getElem_map]
        rw [← hki, List.getD_eq_getElem?_getD, List.getElem?_eq_getElem (show i < kindL.length from hi)]
        rfl
      have m0 := cwr.cell_some HZ0.out (by simp)
      obtain ⟨b, hb⟩ : ∃ b, b = decide (ki = l0) := ⟨_, rfl⟩
      have e1 : ((str ki).toList == (str l0).toList) = b := by rw [str_eq, hb]
      have hbk1 : b = true → kd = i + 1 := fun h => (HA.out.2.2.2.2.1 i hi).1 (by rw [hki]; rw [hb] at h; exact of_decide_eq_true h)
      have hbk2 : b = false → kd ≠ i + 1 := fun h hh => by
        have := (HA.out.2.2.2.2.1 i hi).2 hh
        rw [hki] at this
        rw [hb] at h
        exact of_decide_eq_false h this
      have HBK := Lib.hid (And.intro hbk1 (And.intro hbk2 (And.intro hik hi)))
      clear hb hbk1 hbk2 hki hik hi
      go_upto_region 13 with (fail)
      refine wp_region_T (by kernel_rfl) ?_
      refine wpAnyT_take 0 (v := (.slice (some ⟨K8, 0, none⟩) 14 14)) rfl (by kernel_rfl) (by kernel_rfl) (by kernel_rfl) (fun _ _ _ h => h) (by rfl) (fun w4 c4 => ?_) ?_
      · go_simp
      try simp only [Act.put, List.getElem_toArray, List.getElem_cons_succ, List.getElem_cons_zero, List.setIfInBounds_toArray, List.set_cons_zero, List.set_cons_succ]
      refine wpAnyT_take 1 (v := (.int .i64 (i : Int))) rfl (by kernel_rfl) (by kernel_rfl) (by kernel_rfl) (fun _ _ _ h => h) (by rfl) (fun w4 c4 => ?_) ?_
      · go_simp
      try simp only [Act.put, List.getElem_toArray, List.getElem_cons_succ, List.getElem_cons_zero, List.setIfInBounds_toArray, List.set_cons_zero, List.set_cons_succ]
      refine wpAnyT_take 2 (v := (.pointer (some ⟨K8, i, none⟩))) rfl (by kernel_rfl) (by kernel_rfl) (by kernel_rfl) (fun _ _ _ h => h) (by rfl) (fun w4 c4 => ?_) ?_
      · go_simp
      try simp only [Act.put, List.getElem_toArray, List.getElem_cons_succ, List.getElem_cons_zero, List.setIfInBounds_toArray, List.set_cons_zero, List.set_cons_succ]
      refine wpAnyT_take 3 (v := (.string (str ki))) rfl (by kernel_rfl) (by kernel_rfl) (by kernel_rfl) (fun _ _ _ h => h) (by rfl) (fun w4 c4 => ?_) ?_
      · have z := c4.cell_some m8 (by simp)
        go_simp
      try simp only [Act.put, List.getElem_toArray, List.getElem_cons_succ, List.getElem_cons_zero, List.setIfInBounds_toArray, List.set_cons_zero, List.set_cons_succ]
      refine wpAnyT_take 4 (v := (.slice (some ⟨g, 0, none⟩) 9 cp2)) rfl (by kernel_rfl) (by kernel_rfl) (by kernel_rfl) (fun _ _ _ h => h) (by rfl) (fun w4 c4 => ?_) ?_
      · go_simp
      try simp only [Act.put, List.getElem_toArray, List.getElem_cons_succ, List.getElem_cons_zero, List.setIfInBounds_toArray, List.set_cons_zero, List.set_cons_succ]
      refine wpAnyT_take 5 (v := (.pointer (some ⟨g, 0, none⟩))) rfl (by kernel_rfl) (by kernel_rfl) (by kernel_rfl) (fun _ _ _ h => h) (by rfl) (fun w4 c4 => ?_) ?_
      · go_simp
      try simp only [Act.put, List.getElem_toArray, List.getElem_cons_succ, List.getElem_cons_zero, List.setIfInBounds_toArray, List.set_cons_zero, List.set_cons_succ]
      refine wpAnyT_take 6 (v := (.string (str l0))) rfl (by kernel_rfl) (by kernel_rfl) (by kernel_rfl) (fun _ _ _ h => h) (by rfl) (fun w4 c4 => ?_) ?_
      · have z := c4.cell_some m0 (by simp)
        go_simp
      try simp only [Act.put, List.getElem_toArray, List.getElem_cons_succ, List.getElem_cons_zero, List.setIfInBounds_toArray, List.set_cons_zero, List.set_cons_succ]
      refine wpAnyT_take 7 (v := (.bool b)) rfl (by kernel_rfl) (by kernel_rfl) (by kernel_rfl) (fun _ _ _ h => h) (by rfl) (fun w4 c4 => ?_) ?_
      · go_simp
      try simp only [Act.put, List.getElem_toArray, List.getElem_cons_succ, List.getElem_cons_zero, List.setIfInBounds_toArray, List.set_cons_zero, List.set_cons_succ]
      refine wpAnyT_done (by kernel_rfl) (fun w5 c5 => ?_) _
      have hb75 := hb7c.chg0 c5
      have hbk5 := hbk.chg0 c5
      have cw5 := cwr.nil c5
      have HW5 := Lib.hid (And.intro hb75 (And.intro hbk5 cw5))
      have y0 := hb75.cell 0
      have f0 := hb75.frozen 0
      simp only [List.getElem?_toArray, List.getElem?_cons_succ, List.getElem?_cons_zero] at y0
      clear hb7c hbk cwr c5 m8 m0 hb75 hbk5 cw5 e1 i14
      cases b with
      | true =>
        go_wp2_with fail
        go_roundg (gk - 1)
        case measure => have := HBK.out; omega
        case rel =>
          have hkd : kd = i + 1 := HBK.out.1 (by trivial)
          have hw : wrap64 ((i : Int) + 1) = ((i + 1 : Nat) : Int) := by rw [Int.natCast_add]; exact w64 _ (by have := HBK.out.2.2.2; omega)
          have h7 := HW5.out.1.set 0 (.int .i64 (wrap64 ((i : Int) + 1)))
          refine ⟨i + 1, by first | rw [hw] | go_num, by have h1 := HBK.out.2.2.1; have h2 := HBK.out.2.2.2; clear hkd; omega, ?_, HW5.out.2.1.set_ne (by simp; omega) _, HW5.out.2.2.setCell (.inr (by simpa using hK72)) _⟩
          rw [if_pos (by rw [hkd]; exact Nat.le_refl _), hkd, ← hw]
          exact h7
      | false =>
        go_wp2_with fail
        go_roundg (gk - 1)
        case measure => have := HBK.out; omega
        case rel =>
          have hkd : kd ≠ i + 1 := HBK.out.2.1 (by trivial)
          have hw : wrap64 ((i : Int) + 1) = ((i + 1 : Nat) : Int) := by rw [Int.natCast_add]; exact w64 _ (by have := HBK.out.2.2.2; omega)
          have h7 := HW5.out.1
          refine ⟨i + 1, by first | rw [hw] | go_num, by have h1 := HBK.out.2.2.1; have h2 := HBK.out.2.2.2; clear hkd; omega, ?_, HW5.out.2.1, HW5.out.2.2⟩
          have hee : (if kd ≤ i + 1 then kd else 0) = (if kd ≤ i then kd else 0) := by
            by_cases h1 : kd ≤ i
            · rw [if_pos h1, if_pos (by omega)]
            · rw [if_neg h1, if_neg (by omega)]
          rw [hee]
          exact h7
    · have r1 : decide ((i : Int) < 14) = false := by simp; omega
      have r1' : decide (i < 14) = false := by simp; omega
      have hi14 : i = 14 := by omega
      rw [hi14, if_pos HA.out.2.2.2.1] at hb7c
      rw [hi14] at r1 r1' ⊢
      have z1 := cwr.cell_some HZ.out.1 (by simp)
      clear hi14 hik hi hbk h78
      go_wp2_with fail
      refine (hn1 _).mono ?_
      rintro e wA ⟨v1, o1, rfl, hs1, cA⟩
      have cwA := cwr.nil cA
      have z2 := cwA.cell_some HZ.out.2.1 (by simp)
      have hS1 := Lib.hid hs1
      clear z1 hs1 hn1
      go_wp2_with fail
      refine (hn2 _).mono ?_
      rintro e wB ⟨v2, o2, rfl, hs2, cB⟩
      have cwB := cwA.nil cB
      have z3 := cwB.cell_some HZ.out.2.2.1 (by simp)
      have hS2 := Lib.hid hs2
      clear z2 hs2 hn2
      go_wp2_with fail
      refine (hn3 _).mono ?_
      rintro e wC ⟨v3, o3, rfl, hs3, cC⟩
      have cwC := cwB.nil cC
      have z7 := cwC.cell_some HZ.out.2.2.2.1 (by simp)
      have hS3 := Lib.hid hs3
      have hb7C := ((hb7c.chg0 cA).chg0 cB).chg0 cC
      clear z3 hs3 hn3 hb7c cA cB cC cwA cwB cwr
      have aTZ : ArrTy Tryz.prog 35 (#[.int .i64 0, .int .i64 0, .int .i64 0, .string ⟨#[]⟩, .string ⟨#[]⟩, .string ⟨#[]⟩, .int .i64 0, .int .i64 0, .int .i64 0, .int .i64 0, .int .i64 0, .slice none 0 0, .slice none 0 0] : Array Value).size := ract_ty2
      go_wp2_with fail
      refine (hb7 _).mono ?_
      rintro e wD (⟨p7, bv7, hr7, rfl, hs7, hn7, cD⟩ | ⟨hr7, rfl, cD⟩)
      · skip
        have HR7 := Lib.hid hr7
        obtain ⟨ao7, cp7, rfl, -, -⟩ := hs7.shape
        have cwD := cwC.nil cD
        have z8 := cwD.cell_some HZ.out.2.2.2.2 (by simp)
        clear z7 hr7 hb7
        go_wp2_with fail
        refine (hb8 _).mono ?_
        rintro e wE (⟨b8, bv8, hr8, rfl, hs8, hn8, cE⟩ | ⟨hr8, rfl, cE⟩)
        · have HR8 := Lib.hid hr8
          obtain ⟨ao8, cp8, rfl, -, -⟩ := hs8.shape
          have hn8 : ∀ k ∈ eyes (.slice ao8 b8.length cp8), w2.heap.size ≤ k := fun k hk => by have h1 := hn8 k hk; have h2 := cwD.size; omega
          clear z8 hr8 hb8
          go_upto_region 20 with (fail)
          cases o1 with
          | false =>
            have HB4 : Hid (parseL s = (actZ, 4)) := HF.out.2.2.2.2.2.2.2.2 (fun h => (by obtain ⟨u, hu⟩ := (HA.out.2.1 h).1; exact hS1.out.2.1 rfl u hu))
            have hbKx := HA.out.2.2.2.2.2.1.chg0 (cwD.nil cE)
            go_wp2_with (with_reducible refine wpList_stA rfl 35 _ _ rfl hbKx aTZ rfl (by simp [Value.oneCell']) rfl rfl ?_; intro w20 hb20 c20 hs20)
            refine bodyPost_ret (results_AT rfl _ _ hb20 aTZ rfl) rfl ⟨.slice none 0 0, .slice none 0 0, ?_⟩
            rw [HB4.out]
            exact ⟨rfl, ⟨Sees.nil _ _, Sees.nil _ _, by simp [eyes], by simp [eyes]⟩, (HA.out.2.2.2.2.2.2.nil (cwD.nil cE)).trans c20 fun k hk => by simp at hk; right; omega⟩
          | true =>
            cases o2 with
            | false =>
              have HB4 : Hid (parseL s = (actZ, 4)) := HF.out.2.2.2.2.2.2.2.2 (fun h => (by obtain ⟨u, hu⟩ := (HA.out.2.1 h).2.1; exact hS2.out.2.1 rfl u hu))
              have hbKx := HA.out.2.2.2.2.2.1.chg0 (cwD.nil cE)
              go_wp2_with (with_reducible refine wpList_stA rfl 35 _ _ rfl hbKx aTZ rfl (by simp [Value.oneCell']) rfl rfl ?_; intro w20 hb20 c20 hs20)
              refine bodyPost_ret (results_AT rfl _ _ hb20 aTZ rfl) rfl ⟨.slice none 0 0, .slice none 0 0, ?_⟩
              rw [HB4.out]
              exact ⟨rfl, ⟨Sees.nil _ _, Sees.nil _ _, by simp [eyes], by simp [eyes]⟩, (HA.out.2.2.2.2.2.2.nil (cwD.nil cE)).trans c20 fun k hk => by simp at hk; right; omega⟩
            | true =>
              cases o3 with
              | false =>
                have HB4 : Hid (parseL s = (actZ, 4)) := HF.out.2.2.2.2.2.2.2.2 (fun h => (by obtain ⟨u, hu⟩ := (HA.out.2.1 h).2.2.1; exact hS3.out.2.1 rfl u hu))
                have hbKx := HA.out.2.2.2.2.2.1.chg0 (cwD.nil cE)
                go_wp2_with (with_reducible refine wpList_stA rfl 35 _ _ rfl hbKx aTZ rfl (by simp [Value.oneCell']) rfl rfl ?_; intro w20 hb20 c20 hs20)
                refine bodyPost_ret (results_AT rfl _ _ hb20 aTZ rfl) rfl ⟨.slice none 0 0, .slice none 0 0, ?_⟩
                rw [HB4.out]
                exact ⟨rfl, ⟨Sees.nil _ _, Sees.nil _ _, by simp [eyes], by simp [eyes]⟩, (HA.out.2.2.2.2.2.2.nil (cwD.nil cE)).trans c20 fun k hk => by simp at hk; right; omega⟩
              | true =>
                obtain ⟨haW, hbl7⟩ := HA.out.2.2.1 v1 v2 v3 p7 b8 (hS1.out.1 rfl) (hS2.out.1 rfl) (hS3.out.1 rfl) HR7.out HR8.out
                have hAP := HA.out.1
                rw [hbl7, haW] at hAP
                have rr1 := hS1.out.2.2
                have rr2 := hS2.out.2.2
                have rr3 := hS3.out.2.2
                have HR := Lib.hid (And.intro rr1 (And.intro rr2 rr3))
                have lp7 := rbytes_len HR7.out
                have lb8 := rbytes_len HR8.out
                have LL := HL.out
                have hp7l : p7.length ≤ 800000 := by omega
                have hb8l : b8.length ≤ 800000 := by omega
                have HLL := Lib.hid (And.intro hp7l hb8l)
                have hb7E := (hb7C.chg0 cD).chg0 cE
                have hs8E := hs8
                have hs7E := hs7.chg0 cE
                have cwE := cwD.nil cE
                have HAP := Lib.hid hAP
                clear haW hbl7 hAP rr1 rr2 rr3 lp7 lb8 LL hp7l hb8l
                have y1 := hb7E.cell 1
                have f1 := hb7E.frozen 1
                have y2 := hb7E.cell 2
                have f2 := hb7E.frozen 2
                have y6 := hb7E.cell 6
                have f6 := hb7E.frozen 6
                have y12 := hb7E.cell 12
                have f12 := hb7E.frozen 12
                simp only [List.getElem?_toArray, List.getElem?_cons_succ, List.getElem?_cons_zero] at y1 y2 y6 y12
                have cS : Chg [K7] wE ((((wE.setCell ⟨K7, 1, none⟩ (.int .i64 v1)).setCell ⟨K7, 2, none⟩ (.int .i64 v2)).setCell ⟨K7, 6, none⟩ (.int .i64 v3)).setCell ⟨K7, 12, none⟩ (.slice ao8 b8.length cp8)) :=
                  ((((Chg.refl [K7] wE).setCell (.inl (by simp)) _).setCell (.inl (by simp)) _).setCell (.inl (by simp)) _).setCell (.inl (by simp)) _
                have bS := (((hb7E.set 1 (.int .i64 v1)).set 2 (.int .i64 v2)).set 6 (.int .i64 v3)).set 12 (.slice ao8 b8.length cp8)
                have bS2 : Blk ((((wE.setCell ⟨K7, 1, none⟩ (.int .i64 v1)).setCell ⟨K7, 2, none⟩ (.int .i64 v2)).setCell ⟨K7, 6, none⟩ (.int .i64 v3)).setCell ⟨K7, 12, none⟩ (.slice ao8 b8.length cp8)) K7 #[.int .i64 (kd : Int), .int .i64 v1, .int .i64 v2, .string (str l4), .string (str l5), .string (str l6), .int .i64 v3, .int .i64 0, .int .i64 0, .int .i64 0, .int .i64 0, .slice none 0 0, .slice ao8 b8.length cp8] 35 := bS
                have s7S := seesU8 hs7E hb7E cS (by simp [notU8])
                have s8S := seesU8 hs8E hb7E cS (by simp [notU8])
                have cwS : Chg [] w2 ((((wE.setCell ⟨K7, 1, none⟩ (.int .i64 v1)).setCell ⟨K7, 2, none⟩ (.int .i64 v2)).setCell ⟨K7, 6, none⟩ (.int .i64 v3)).setCell ⟨K7, 12, none⟩ (.slice ao8 b8.length cp8)) := cwE.trans cS fun k hk => by simp at hk; right; omega
                have HS := Lib.hid (And.intro bS2 (And.intro s7S (And.intro s8S cwS)))
                clear bS bS2 s7S s8S cwS cS hb7C hs7 hs8
                go_upto_region 23 with (fail)
                have bS := HS.out.1
                have s7S := HS.out.2.1
                have s8S := HS.out.2.2.1
                have cwS := HS.out.2.2.2
                clear HS
                generalize ((((wE.setCell ⟨K7, 1, none⟩ (.int .i64 v1)).setCell ⟨K7, 2, none⟩ (.int .i64 v2)).setCell ⟨K7, 6, none⟩ (.int .i64 v3)).setCell ⟨K7, 12, none⟩ (.slice ao8 b8.length cp8)) = wS at *
                clear y1 y2 y6 y12 f1 f2 f6 f12 hb7E hs8E hs7E cwE cD cE cwD cwC
                by_cases hp0 : p7 = []
                · subst hp0
                  have hd2 : (decPL []).2.2 = 2 := rfl
                  obtain ⟨A, hA⟩ : ∃ A : ActD, A = { actZ with kind := (kd : Int), n := v1, m := v2, key := v3, name := l4, other := l5, text := l6, mask := b8 } := ⟨_, rfl⟩
                  have hAe : actP L = A := by rw [HAP.out, if_neg (by rw [hd2]; decide), hA]
                  have hAf : (A.kind = kd ∧ A.n = v1 ∧ A.m = v2 ∧ A.key = v3) ∧ (A.name = l4 ∧ A.other = l5 ∧ A.text = l6 ∧ A.mask = b8) ∧ A.pix.length ≤ 400000 := by subst hA; exact ⟨⟨rfl, rfl, rfl, rfl⟩, ⟨rfl, rfl, rfl, rfl⟩, by simp [actZ]⟩
                  have hbA : Blk wS K7 (actL A (.slice none A.pix.length 0) (.slice ao8 A.mask.length cp8)).toArray 35 := by subst hA; exact bS
                  have hsp : Sees wS 1 (.slice none A.pix.length 0) A.pix.length (Bs A.pix) := by subst hA; exact Sees.nil _ _
                  have hsm : Sees wS 1 (.slice ao8 A.mask.length cp8) A.mask.length (Bs A.mask) := by subst hA; exact s8S
                  have hnp : ∀ k ∈ eyes (.slice none A.pix.length 0), w2.heap.size ≤ k := by subst hA; simp [eyes, actZ]
                  have hnm : ∀ k ∈ eyes (.slice ao8 A.mask.length cp8), w2.heap.size ≤ k := by subst hA; exact hn8
                  have HAE := Lib.hid (And.intro hA hAe)
                  have t0 : decide ((0 : Int) < ((([] : List UInt8).length : Nat) : Int)) = false := rfl
                  clear bS s7S s8S hn8 hA hAe
                  have cw6 := HA.out.2.2.2.2.2.2.nil cwS
                  have hpr := rprint_all A (.slice none A.pix.length 0) (.slice ao8 A.mask.length cp8) wS hsp hsm (by rw [hAf.2.1.1]; have := HL.out; omega) (by rw [hAf.2.1.2.1]; have := HL.out; omega) (by rw [hAf.2.1.2.2.1]; have := HL.out; omega) hAf.2.2 (by rw [hAf.2.1.2.2.2]; have := HLL.out.2; omega)
                    (fun n hn => by
                      obtain ⟨⟨-, e1, e2, e3⟩, -⟩ := hAf
                      obtain ⟨r1, r2, r3⟩ := HR.out
                      rcases hn with rfl | rfl | rfl
                      · rw [e1]; exact r1
                      · rw [e2]; exact r2
                      · rw [e3]; exact r3)
                  unfold actL at hbA
                  unfold actV actL at hpr
                  obtain ⟨p1, hp1⟩ : ∃ q, (prL A).1 = q := ⟨_, rfl⟩
                  obtain ⟨p2, hp2⟩ : ∃ q, (prL A).2 = q := ⟨_, rfl⟩
                  have HPP := Lib.hid (And.intro hp1 hp2)
                  rw [hp1, hp2] at hpr
                  clear hp1 hp2 hAf
                  obtain ⟨nP, hnP⟩ : ∃ q, A.pix.length = q := ⟨_, rfl⟩
                  obtain ⟨nM, hnM⟩ : ∃ q, A.mask.length = q := ⟨_, rfl⟩
                  rw [hnP] at hbA hsp hnp hpr
                  rw [hnM] at hbA hsm hnm hpr
                  have hbK6 := HA.out.2.2.2.2.2.1.chg0 cwS
                  have HX := Lib.hid (And.intro hnP (And.intro hnM (And.intro hsp (And.intro hsm (And.intro hnp (And.intro hnm hbA))))))
                  clear hnP hnM hsp hsm hnp hnm
                  have aTA : ArrTy Tryz.prog 35 (#[Value.int .i64 A.kind, .int .i64 A.n, .int .i64 A.m, .string (str A.name), .string (str A.other), .string (str A.text), .int .i64 A.key, .int .i64 A.shp.w, .int .i64 A.shp.h, .int .i64 A.shp.c, .int .i64 A.shp.d, .slice none nP 0, .slice ao8 nM cp8] : Array Value).size := ract_ty2
                  go_wp2_with (with_reducible refine wpList_ldA rfl 35 _ rfl hbA aTA rfl ?_)
                  refine hpr.mono ?_
                  rintro e w6 ⟨rfl, c6⟩
                  have hbA6 := hbA.chg0 c6
                  have hbK6 := hbK6.chg0 c6
                  have cw7 := cw6.nil c6
                  clear hpr hbA
                  by_cases h2 : p2 = 0
                  · have u1 : (p2 != 0) = false := by simpa using h2
                    by_cases h1 : p1 = s
                    · have u2 : ((str p1).toList == (str s).toList) = true := by rw [str_eq]; simpa using h1
                      have u3 : ((str p1).toList != (str s).toList) = false := by rw [bne, u2]; rfl
                      have hz : parseL s = (A, 0) := by rw [HF.out.1, HAE.out.2, HPP.out.1, HPP.out.2, if_neg (by simp [h1, h2])]
                      have HZ4 := Lib.hid hz
                      clear hz h1 h2
                      go_wp2_with (first | (with_reducible refine wpList_ldA rfl 35 _ rfl hbA6 aTA rfl ?_) | (with_reducible refine wpList_stA rfl 35 _ _ rfl hbK6 aTA rfl (by simp [Value.oneCell']) rfl rfl ?_; intro w20 hb20 c20 hs20))
                      refine bodyPost_ret (results_AT rfl _ _ hb20 aTA rfl) rfl ⟨.slice none nP 0, .slice ao8 nM cp8, ?_⟩
                      rw [HZ4.out]
                      obtain ⟨hnP, hnM, hsp, hsm, hnp, hnm, -⟩ := HX.out
                      have cs2 := HA.out.2.2.2.2.2.2.size
                      refine ⟨rfl, ⟨?_, ?_, fun k hk => by have := hnp k hk; omega, fun k hk => by have := hnm k hk; omega⟩, cw7.trans c20 fun k hk => by simp at hk; right; omega⟩
                      · simp only; rw [hnP]; exact seesU8 (hsp.chg0 c6) hbK6 c20 (by simp [notU8])
                      · simp only; rw [hnM]; exact seesU8 (hsm.chg0 c6) hbK6 c20 (by simp [notU8])
                    · have u2 : ((str p1).toList == (str s).toList) = false := by rw [str_eq]; simpa using h1
                      have u3 : ((str p1).toList != (str s).toList) = true := by rw [bne, u2]; rfl
                      have hz : parseL s = (actZ, 4) := by rw [HF.out.1, HAE.out.2, HPP.out.1, HPP.out.2, if_pos (.inr h1)]
                      have HZ4 := Lib.hid hz
                      clear hz h1 h2
                      go_wp2_with (with_reducible refine wpList_stA rfl 35 _ _ rfl hbK6 aTZ rfl (by simp [Value.oneCell']) rfl rfl ?_; intro w20 hb20 c20 hs20)
                      refine bodyPost_ret (results_AT rfl _ _ hb20 aTZ rfl) rfl ⟨.slice none 0 0, .slice none 0 0, ?_⟩
                      rw [HZ4.out]
                      exact ⟨rfl, ⟨Sees.nil _ _, Sees.nil _ _, by simp [eyes], by simp [eyes]⟩, cw7.trans c20 fun k hk => by simp at hk; right; omega⟩
                  · have u1 : (p2 != 0) = true := by simpa using h2
                    have hz : parseL s = (actZ, 4) := by rw [HF.out.1, HAE.out.2, HPP.out.1, HPP.out.2, if_pos (.inl h2)]
                    have HZ4 := Lib.hid hz
                    clear hz h2
                    go_wp2_with (with_reducible refine wpList_stA rfl 35 _ _ rfl hbK6 aTZ rfl (by simp [Value.oneCell']) rfl rfl ?_; intro w20 hb20 c20 hs20)
                    refine bodyPost_ret (results_AT rfl _ _ hb20 aTZ rfl) rfl ⟨.slice none 0 0, .slice none 0 0, ?_⟩
                    rw [HZ4.out]
                    exact ⟨rfl, ⟨Sees.nil _ _, Sees.nil _ _, by simp [eyes], by simp [eyes]⟩, cw7.trans c20 fun k hk => by simp at hk; right; omega⟩
                · have t0 : decide ((0 : Int) < (p7.length : Int)) = true := by
                    have : 0 < p7.length := List.length_pos_iff.2 hp0
                    simp; omega
                  have t0' : decide (0 < p7.length) = true := by
                    have : 0 < p7.length := List.length_pos_iff.2 hp0
                    simp; omega
                  have hde := rdecode_pix (.slice ao7 p7.length cp7) p7.length p7 wS s7S (by have := HLL.out.1; omega)
                  have hdl : (decPL p7).2.1.length ≤ 800000 := by
                    have := HLL.out.1
                    unfold decPL
                    repeat' split
                    all_goals simp
                    omega
                  have hdl4 : (decPL p7).2.1.length ≤ 400000 := by
                    unfold decPL
                    repeat' split
                    all_goals simp
                    rename_i h1 h2 h3 h4
                    have hm := (Classical.not_not.1 h2).2
                    unfold maySh at hm
                    simp only [Bool.and_eq_true, decide_eq_true_eq] at hm
                    omega
                  have hzr : (decPL p7).2.2 ≠ 0 → (decPL p7).1 = shpZ ∧ (decPL p7).2.1 = [] := by
                    unfold decPL
                    repeat' split
                    all_goals simp
                  have HPE := Lib.hid hp0
                  obtain ⟨ds, hds⟩ : ∃ d, (decPL p7).1 = d := ⟨_, rfl⟩
                  obtain ⟨dp, hdp⟩ : ∃ d, (decPL p7).2.1 = d := ⟨_, rfl⟩
                  obtain ⟨de, hdee⟩ : ∃ d, (decPL p7).2.2 = d := ⟨_, rfl⟩
                  have HDD := Lib.hid hdee
                  rw [hds, hdp, hdee] at hde
                  rw [hdp] at hdl4
                  have hAPx := HAP.out
                  rw [hds, hdp, hdee] at hAPx
                  have HAP2 := Lib.hid hAPx
                  unfold rasV at hde
                  clear hdl hds hdp hdee hp0 hzr hAPx
                  go_wp2_with fail
                  refine hde.mono ?_
                  rintro e w4 ⟨dv, rfl, hds, hdn, c4⟩
                  obtain ⟨aod, cpd, rfl, -, -⟩ := hds.shape
                  have hb74 := bS.chg0 c4
                  have hms4 := s8S.chg0 c4
                  have cw4 := cwS.nil c4
                  have hdn : ∀ k ∈ eyes (.slice aod dp.length cpd), w2.heap.size ≤ k := fun k hk => by have h1 := hdn k hk; have h2 := cwS.size; omega
                  clear hde bS s7S s8S c4 cwS t0 t0'
                  have y7 := hb74.cell 7
                  have f7 := hb74.frozen 7
                  have y8 := hb74.cell 8
                  have f8 := hb74.frozen 8
                  have y9 := hb74.cell 9
                  have f9 := hb74.frozen 9
                  have y10 := hb74.cell 10
                  have f10 := hb74.frozen 10
                  have y11 := hb74.cell 11
                  have f11 := hb74.frozen 11
                  simp only [List.getElem?_toArray, List.getElem?_cons_succ, List.getElem?_cons_zero] at y7 y8 y9 y10 y11
                  have cS : Chg [K7] w4 (((((w4.setCell ⟨K7, 7, none⟩ (.int .i64 ds.w)).setCell ⟨K7, 8, none⟩ (.int .i64 ds.h)).setCell ⟨K7, 9, none⟩ (.int .i64 ds.c)).setCell ⟨K7, 10, none⟩ (.int .i64 ds.d)).setCell ⟨K7, 11, none⟩ (.slice aod dp.length cpd)) :=
                    (((((Chg.refl [K7] w4).setCell (.inl (by simp)) _).setCell (.inl (by simp)) _).setCell (.inl (by simp)) _).setCell (.inl (by simp)) _).setCell (.inl (by simp)) _
                  have bS := ((((hb74.set 7 (.int .i64 ds.w)).set 8 (.int .i64 ds.h)).set 9 (.int .i64 ds.c)).set 10 (.int .i64 ds.d)).set 11 (.slice aod dp.length cpd)
                  have bS2 : Blk (((((w4.setCell ⟨K7, 7, none⟩ (.int .i64 ds.w)).setCell ⟨K7, 8, none⟩ (.int .i64 ds.h)).setCell ⟨K7, 9, none⟩ (.int .i64 ds.c)).setCell ⟨K7, 10, none⟩ (.int .i64 ds.d)).setCell ⟨K7, 11, none⟩ (.slice aod dp.length cpd)) K7 #[.int .i64 (kd : Int), .int .i64 v1, .int .i64 v2, .string (str l4), .string (str l5), .string (str l6), .int .i64 v3, .int .i64 ds.w, .int .i64 ds.h, .int .i64 ds.c, .int .i64 ds.d, .slice aod dp.length cpd, .slice ao8 b8.length cp8] 35 := bS
                  have sdS := seesU8 hds hb74 cS (by simp [notU8])
                  have s8S := seesU8 hms4 hb74 cS (by simp [notU8])
                  have cwS : Chg [] w2 (((((w4.setCell ⟨K7, 7, none⟩ (.int .i64 ds.w)).setCell ⟨K7, 8, none⟩ (.int .i64 ds.h)).setCell ⟨K7, 9, none⟩ (.int .i64 ds.c)).setCell ⟨K7, 10, none⟩ (.int .i64 ds.d)).setCell ⟨K7, 11, none⟩ (.slice aod dp.length cpd)) := cw4.trans cS fun k hk => by simp at hk; right; omega
                  have HS := Lib.hid (And.intro bS2 (And.intro sdS (And.intro s8S cwS)))
                  clear bS bS2 sdS s8S cwS cS hds hms4 cw4
                  go_upto_region 25 with (fail)
                  have bS := HS.out.1
                  have sdS := HS.out.2.1
                  have s8S := HS.out.2.2.1
                  have cwS := HS.out.2.2.2
                  clear HS
                  generalize (((((w4.setCell ⟨K7, 7, none⟩ (.int .i64 ds.w)).setCell ⟨K7, 8, none⟩ (.int .i64 ds.h)).setCell ⟨K7, 9, none⟩ (.int .i64 ds.c)).setCell ⟨K7, 10, none⟩ (.int .i64 ds.d)).setCell ⟨K7, 11, none⟩ (.slice aod dp.length cpd)) = wS at *
                  clear y7 y8 y9 y10 y11 f7 f8 f9 f10 f11 hb74
                  obtain ⟨A, hA⟩ : ∃ A : ActD, A = { actZ with kind := (kd : Int), n := v1, m := v2, key := v3, name := l4, other := l5, text := l6, mask := b8, shp := ds, pix := dp } := ⟨_, rfl⟩
                  have hAf : (A.kind = kd ∧ A.n = v1 ∧ A.m = v2 ∧ A.key = v3) ∧ (A.name = l4 ∧ A.other = l5 ∧ A.text = l6 ∧ A.mask = b8) ∧ A.pix.length ≤ 400000 := by subst hA; exact ⟨⟨rfl, rfl, rfl, rfl⟩, ⟨rfl, rfl, rfl, rfl⟩, hdl4⟩
                  have hbA : Blk wS K7 (actL A (.slice aod A.pix.length cpd) (.slice ao8 A.mask.length cp8)).toArray 35 := by subst hA; exact bS
                  have hsp : Sees wS 1 (.slice aod A.pix.length cpd) A.pix.length (Bs A.pix) := by subst hA; exact sdS
                  have hsm : Sees wS 1 (.slice ao8 A.mask.length cp8) A.mask.length (Bs A.mask) := by subst hA; exact s8S
                  have hnp : ∀ k ∈ eyes (.slice aod A.pix.length cpd), w2.heap.size ≤ k := by subst hA; exact hdn
                  have hnm : ∀ k ∈ eyes (.slice ao8 A.mask.length cp8), w2.heap.size ≤ k := by subst hA; exact hn8
                  by_cases hde0 : de = 0
                  · subst hde0
                    have hAe : actP L = A := by rw [HAP2.out, if_pos rfl, hA]
                    have HAE := Lib.hid (And.intro hA hAe)
                    clear bS sdS s8S hn8 hA hAe hdn hdl4
                    have cw6 := HA.out.2.2.2.2.2.2.nil cwS
                    have hpr := rprint_all A (.slice aod A.pix.length cpd) (.slice ao8 A.mask.length cp8) wS hsp hsm (by rw [hAf.2.1.1]; have := HL.out; omega) (by rw [hAf.2.1.2.1]; have := HL.out; omega) (by rw [hAf.2.1.2.2.1]; have := HL.out; omega) hAf.2.2 (by rw [hAf.2.1.2.2.2]; have := HLL.out.2; omega)
                      (fun n hn => by
                        obtain ⟨⟨-, e1, e2, e3⟩, -⟩ := hAf
                        obtain ⟨r1, r2, r3⟩ := HR.out
                        rcases hn with rfl | rfl | rfl
                        · rw [e1]; exact r1
                        · rw [e2]; exact r2
                        · rw [e3]; exact r3)
                    unfold actL at hbA
                    unfold actV actL at hpr
                    obtain ⟨p1, hp1⟩ : ∃ q, (prL A).1 = q := ⟨_, rfl⟩
                    obtain ⟨p2, hp2⟩ : ∃ q, (prL A).2 = q := ⟨_, rfl⟩
                    have HPP := Lib.hid (And.intro hp1 hp2)
                    rw [hp1, hp2] at hpr
                    clear hp1 hp2 hAf
                    obtain ⟨nP, hnP⟩ : ∃ q, A.pix.length = q := ⟨_, rfl⟩
                    obtain ⟨nM, hnM⟩ : ∃ q, A.mask.length = q := ⟨_, rfl⟩
                    rw [hnP] at hbA hsp hnp hpr
                    rw [hnM] at hbA hsm hnm hpr
                    have hbK6 := HA.out.2.2.2.2.2.1.chg0 cwS
                    have HX := Lib.hid (And.intro hnP (And.intro hnM (And.intro hsp (And.intro hsm (And.intro hnp (And.intro hnm hbA))))))
                    clear hnP hnM hsp hsm hnp hnm
                    have aTA : ArrTy Tryz.prog 35 (#[Value.int .i64 A.kind, .int .i64 A.n, .int .i64 A.m, .string (str A.name), .string (str A.other), .string (str A.text), .int .i64 A.key, .int .i64 A.shp.w, .int .i64 A.shp.h, .int .i64 A.shp.c, .int .i64 A.shp.d, .slice aod nP cpd, .slice ao8 nM cp8] : Array Value).size := ract_ty2
                    go_wp2_with (with_reducible refine wpList_ldA rfl 35 _ rfl hbA aTA rfl ?_)
                    refine hpr.mono ?_
                    rintro e w6 ⟨rfl, c6⟩
                    have hbA6 := hbA.chg0 c6
                    have hbK6 := hbK6.chg0 c6
                    have cw7 := cw6.nil c6
                    clear hpr hbA
                    by_cases h2 : p2 = 0
                    · have u1 : (p2 != 0) = false := by simpa using h2
                      by_cases h1 : p1 = s
                      · have u2 : ((str p1).toList == (str s).toList) = true := by rw [str_eq]; simpa using h1
                        have u3 : ((str p1).toList != (str s).toList) = false := by rw [bne, u2]; rfl
                        have hz : parseL s = (A, 0) := by rw [HF.out.1, HAE.out.2, HPP.out.1, HPP.out.2, if_neg (by simp [h1, h2])]
                        have HZ4 := Lib.hid hz
                        clear hz h1 h2
                        go_wp2_with (first | (with_reducible refine wpList_ldA rfl 35 _ rfl hbA6 aTA rfl ?_) | (with_reducible refine wpList_stA rfl 35 _ _ rfl hbK6 aTA rfl (by simp [Value.oneCell']) rfl rfl ?_; intro w20 hb20 c20 hs20))
                        refine bodyPost_ret (results_AT rfl _ _ hb20 aTA rfl) rfl ⟨.slice aod nP cpd, .slice ao8 nM cp8, ?_⟩
                        rw [HZ4.out]
                        obtain ⟨hnP, hnM, hsp, hsm, hnp, hnm, -⟩ := HX.out
                        have cs2 := HA.out.2.2.2.2.2.2.size
                        refine ⟨rfl, ⟨?_, ?_, fun k hk => by have := hnp k hk; omega, fun k hk => by have := hnm k hk; omega⟩, cw7.trans c20 fun k hk => by simp at hk; right; omega⟩
                        · simp only; rw [hnP]; exact seesU8 (hsp.chg0 c6) hbK6 c20 (by simp [notU8])
                        · simp only; rw [hnM]; exact seesU8 (hsm.chg0 c6) hbK6 c20 (by simp [notU8])
                      · have u2 : ((str p1).toList == (str s).toList) = false := by rw [str_eq]; simpa using h1
                        have u3 : ((str p1).toList != (str s).toList) = true := by rw [bne, u2]; rfl
                        have hz : parseL s = (actZ, 4) := by rw [HF.out.1, HAE.out.2, HPP.out.1, HPP.out.2, if_pos (.inr h1)]
                        have HZ4 := Lib.hid hz
                        clear hz h1 h2
                        go_wp2_with (with_reducible refine wpList_stA rfl 35 _ _ rfl hbK6 aTZ rfl (by simp [Value.oneCell']) rfl rfl ?_; intro w20 hb20 c20 hs20)
                        refine bodyPost_ret (results_AT rfl _ _ hb20 aTZ rfl) rfl ⟨.slice none 0 0, .slice none 0 0, ?_⟩
                        rw [HZ4.out]
                        exact ⟨rfl, ⟨Sees.nil _ _, Sees.nil _ _, by simp [eyes], by simp [eyes]⟩, cw7.trans c20 fun k hk => by simp at hk; right; omega⟩
                    · have u1 : (p2 != 0) = true := by simpa using h2
                      have hz : parseL s = (actZ, 4) := by rw [HF.out.1, HAE.out.2, HPP.out.1, HPP.out.2, if_pos (.inl h2)]
                      have HZ4 := Lib.hid hz
                      clear hz h2
                      go_wp2_with (with_reducible refine wpList_stA rfl 35 _ _ rfl hbK6 aTZ rfl (by simp [Value.oneCell']) rfl rfl ?_; intro w20 hb20 c20 hs20)
                      refine bodyPost_ret (results_AT rfl _ _ hb20 aTZ rfl) rfl ⟨.slice none 0 0, .slice none 0 0, ?_⟩
                      rw [HZ4.out]
                      exact ⟨rfl, ⟨Sees.nil _ _, Sees.nil _ _, by simp [eyes], by simp [eyes]⟩, cw7.trans c20 fun k hk => by simp at hk; right; omega⟩
                  · have hden : (de != 0) = true := by simpa using hde0
                    have HDN := Lib.hid hde0
                    clear bS sdS s8S hn8 hA hdn hdl4 hde0
                    have cw6 := HA.out.2.2.2.2.2.2.nil cwS
                    have hpr := rprint_all A (.slice aod A.pix.length cpd) (.slice ao8 A.mask.length cp8) wS hsp hsm (by rw [hAf.2.1.1]; have := HL.out; omega) (by rw [hAf.2.1.2.1]; have := HL.out; omega) (by rw [hAf.2.1.2.2.1]; have := HL.out; omega) hAf.2.2 (by rw [hAf.2.1.2.2.2]; have := HLL.out.2; omega)
                      (fun n hn => by
                        obtain ⟨⟨-, e1, e2, e3⟩, -⟩ := hAf
                        obtain ⟨r1, r2, r3⟩ := HR.out
                        rcases hn with rfl | rfl | rfl
                        · rw [e1]; exact r1
                        · rw [e2]; exact r2
                        · rw [e3]; exact r3)
                    unfold actL at hbA
                    unfold actV actL at hpr
                    obtain ⟨p1, hp1⟩ : ∃ q, (prL A).1 = q := ⟨_, rfl⟩
                    obtain ⟨p2, hp2⟩ : ∃ q, (prL A).2 = q := ⟨_, rfl⟩
                    have HPP := Lib.hid (And.intro hp1 hp2)
                    rw [hp1, hp2] at hpr
                    clear hp1 hp2 hAf
                    obtain ⟨nP, hnP⟩ : ∃ q, A.pix.length = q := ⟨_, rfl⟩
                    obtain ⟨nM, hnM⟩ : ∃ q, A.mask.length = q := ⟨_, rfl⟩
                    rw [hnP] at hbA hsp hnp hpr
                    rw [hnM] at hbA hsm hnm hpr
                    have hbK6 := HA.out.2.2.2.2.2.1.chg0 cwS
                    have HX := Lib.hid (And.intro hnP (And.intro hnM (And.intro hsp (And.intro hsm (And.intro hnp (And.intro hnm hbA))))))
                    clear hnP hnM hsp hsm hnp hnm
                    have aTA : ArrTy Tryz.prog 35 (#[Value.int .i64 A.kind, .int .i64 A.n, .int .i64 A.m, .string (str A.name), .string (str A.other), .string (str A.text), .int .i64 A.key, .int .i64 A.shp.w, .int .i64 A.shp.h, .int .i64 A.shp.c, .int .i64 A.shp.d, .slice aod nP cpd, .slice ao8 nM cp8] : Array Value).size := ract_ty2
                    go_wp2_with (with_reducible refine wpList_ldA rfl 35 _ rfl hbA aTA rfl ?_)
                    refine hpr.mono ?_
                    rintro e w6 ⟨rfl, c6⟩
                    have hbA6 := hbA.chg0 c6
                    have hbK6 := hbK6.chg0 c6
                    have cw7 := cw6.nil c6
                    clear hpr hbA
                    have HZ4 : Hid (parseL s = (actZ, 4)) := HF.out.2.2.2.2.2.2.2.2 (fun h => (by obtain ⟨q, hq, hq2⟩ := (HA.out.2.1 h).2.2.2.1; rw [HR7.out] at hq; have hq := Option.some.inj hq; subst hq; rw [HDD.out] at hq2; exact HDN.out (hq2 HPE.out)))
                    go_wp2_with (with_reducible refine wpList_stA rfl 35 _ _ rfl hbK6 aTZ rfl (by simp [Value.oneCell']) rfl rfl ?_; intro w20 hb20 c20 hs20)
                    refine bodyPost_ret (results_AT rfl _ _ hb20 aTZ rfl) rfl ⟨.slice none 0 0, .slice none 0 0, ?_⟩
                    rw [HZ4.out]
                    exact ⟨rfl, ⟨Sees.nil _ _, Sees.nil _ _, by simp [eyes], by simp [eyes]⟩, cw7.trans c20 fun k hk => by simp at hk; right; omega⟩
        · have HR8 := Lib.hid hr8
          clear z8 hr8 hb8
          go_upto_region 20 with (fail)
          cases o1 with
          | false =>
            have HB4 : Hid (parseL s = (actZ, 4)) := HF.out.2.2.2.2.2.2.2.2 (fun h => (by obtain ⟨u, hu⟩ := (HA.out.2.1 h).1; exact hS1.out.2.1 rfl u hu))
            have hbKx := HA.out.2.2.2.2.2.1.chg0 (cwD.nil cE)
            go_wp2_with (with_reducible refine wpList_stA rfl 35 _ _ rfl hbKx aTZ rfl (by simp [Value.oneCell']) rfl rfl ?_; intro w20 hb20 c20 hs20)
            refine bodyPost_ret (results_AT rfl _ _ hb20 aTZ rfl) rfl ⟨.slice none 0 0, .slice none 0 0, ?_⟩
            rw [HB4.out]
            exact ⟨rfl, ⟨Sees.nil _ _, Sees.nil _ _, by simp [eyes], by simp [eyes]⟩, (HA.out.2.2.2.2.2.2.nil (cwD.nil cE)).trans c20 fun k hk => by simp at hk; right; omega⟩
          | true =>
            cases o2 with
            | false =>
              have HB4 : Hid (parseL s = (actZ, 4)) := HF.out.2.2.2.2.2.2.2.2 (fun h => (by obtain ⟨u, hu⟩ := (HA.out.2.1 h).2.1; exact hS2.out.2.1 rfl u hu))
              have hbKx := HA.out.2.2.2.2.2.1.chg0 (cwD.nil cE)
              go_wp2_with (with_reducible refine wpList_stA rfl 35 _ _ rfl hbKx aTZ rfl (by simp [Value.oneCell']) rfl rfl ?_; intro w20 hb20 c20 hs20)
              refine bodyPost_ret (results_AT rfl _ _ hb20 aTZ rfl) rfl ⟨.slice none 0 0, .slice none 0 0, ?_⟩
              rw [HB4.out]
              exact ⟨rfl, ⟨Sees.nil _ _, Sees.nil _ _, by simp [eyes], by simp [eyes]⟩, (HA.out.2.2.2.2.2.2.nil (cwD.nil cE)).trans c20 fun k hk => by simp at hk; right; omega⟩
            | true =>
              cases o3 with
              | false =>
                have HB4 : Hid (parseL s = (actZ, 4)) := HF.out.2.2.2.2.2.2.2.2 (fun h => (by obtain ⟨u, hu⟩ := (HA.out.2.1 h).2.2.1; exact hS3.out.2.1 rfl u hu))
                have hbKx := HA.out.2.2.2.2.2.1.chg0 (cwD.nil cE)
                go_wp2_with (with_reducible refine wpList_stA rfl 35 _ _ rfl hbKx aTZ rfl (by simp [Value.oneCell']) rfl rfl ?_; intro w20 hb20 c20 hs20)
                refine bodyPost_ret (results_AT rfl _ _ hb20 aTZ rfl) rfl ⟨.slice none 0 0, .slice none 0 0, ?_⟩
                rw [HB4.out]
                exact ⟨rfl, ⟨Sees.nil _ _, Sees.nil _ _, by simp [eyes], by simp [eyes]⟩, (HA.out.2.2.2.2.2.2.nil (cwD.nil cE)).trans c20 fun k hk => by simp at hk; right; omega⟩
              | true =>
                have HB4 : Hid (parseL s = (actZ, 4)) := HF.out.2.2.2.2.2.2.2.2 (fun h => (by obtain ⟨q, hq⟩ := (HA.out.2.1 h).2.2.2.2; rw [HR8.out] at hq; cases hq))
                have hbKx := HA.out.2.2.2.2.2.1.chg0 (cwD.nil cE)
                go_wp2_with (with_reducible refine wpList_stA rfl 35 _ _ rfl hbKx aTZ rfl (by simp [Value.oneCell']) rfl rfl ?_; intro w20 hb20 c20 hs20)
                refine bodyPost_ret (results_AT rfl _ _ hb20 aTZ rfl) rfl ⟨.slice none 0 0, .slice none 0 0, ?_⟩
                rw [HB4.out]
                exact ⟨rfl, ⟨Sees.nil _ _, Sees.nil _ _, by simp [eyes], by simp [eyes]⟩, (HA.out.2.2.2.2.2.2.nil (cwD.nil cE)).trans c20 fun k hk => by simp at hk; right; omega⟩
      · skip
        have HR7 := Lib.hid hr7
        have cwD := cwC.nil cD
        have z8 := cwD.cell_some HZ.out.2.2.2.2 (by simp)
        clear z7 hr7 hb7
        go_wp2_with fail
        refine (hb8 _).mono ?_
        rintro e wE (⟨b8, bv8, hr8, rfl, hs8, hn8, cE⟩ | ⟨hr8, rfl, cE⟩)
        · have HR8 := Lib.hid hr8
          obtain ⟨ao8, cp8, rfl, -, -⟩ := hs8.shape
          clear z8 hr8 hb8
          go_upto_region 20 with (fail)
          cases o1 with
          | false =>
            have HB4 : Hid (parseL s = (actZ, 4)) := HF.out.2.2.2.2.2.2.2.2 (fun h => (by obtain ⟨u, hu⟩ := (HA.out.2.1 h).1; exact hS1.out.2.1 rfl u hu))
            have hbKx := HA.out.2.2.2.2.2.1.chg0 (cwD.nil cE)
            go_wp2_with (with_reducible refine wpList_stA rfl 35 _ _ rfl hbKx aTZ rfl (by simp [Value.oneCell']) rfl rfl ?_; intro w20 hb20 c20 hs20)
            refine bodyPost_ret (results_AT rfl _ _ hb20 aTZ rfl) rfl ⟨.slice none 0 0, .slice none 0 0, ?_⟩
            rw [HB4.out]
            exact ⟨rfl, ⟨Sees.nil _ _, Sees.nil _ _, by simp [eyes], by simp [eyes]⟩, (HA.out.2.2.2.2.2.2.nil (cwD.nil cE)).trans c20 fun k hk => by simp at hk; right; omega⟩
          | true =>
            cases o2 with
            | false =>
              have HB4 : Hid (parseL s = (actZ, 4)) := HF.out.2.2.2.2.2.2.2.2 (fun h => (by obtain ⟨u, hu⟩ := (HA.out.2.1 h).2.1; exact hS2.out.2.1 rfl u hu))
              have hbKx := HA.out.2.2.2.2.2.1.chg0 (cwD.nil cE)
              go_wp2_with (with_reducible refine wpList_stA rfl 35 _ _ rfl hbKx aTZ rfl (by simp [Value.oneCell']) rfl rfl ?_; intro w20 hb20 c20 hs20)
              refine bodyPost_ret (results_AT rfl _ _ hb20 aTZ rfl) rfl ⟨.slice none 0 0, .slice none 0 0, ?_⟩
              rw [HB4.out]
              exact ⟨rfl, ⟨Sees.nil _ _, Sees.nil _ _, by simp [eyes], by simp [eyes]⟩, (HA.out.2.2.2.2.2.2.nil (cwD.nil cE)).trans c20 fun k hk => by simp at hk; right; omega⟩
            | true =>
              cases o3 with
              | false =>
                have HB4 : Hid (parseL s = (actZ, 4)) := HF.out.2.2.2.2.2.2.2.2 (fun h => (by obtain ⟨u, hu⟩ := (HA.out.2.1 h).2.2.1; exact hS3.out.2.1 rfl u hu))
                have hbKx := HA.out.2.2.2.2.2.1.chg0 (cwD.nil cE)
                go_wp2_with (with_reducible refine wpList_stA rfl 35 _ _ rfl hbKx aTZ rfl (by simp [Value.oneCell']) rfl rfl ?_; intro w20 hb20 c20 hs20)
                refine bodyPost_ret (results_AT rfl _ _ hb20 aTZ rfl) rfl ⟨.slice none 0 0, .slice none 0 0, ?_⟩
                rw [HB4.out]
                exact ⟨rfl, ⟨Sees.nil _ _, Sees.nil _ _, by simp [eyes], by simp [eyes]⟩, (HA.out.2.2.2.2.2.2.nil (cwD.nil cE)).trans c20 fun k hk => by simp at hk; right; omega⟩
              | true =>
                have HB4 : Hid (parseL s = (actZ, 4)) := HF.out.2.2.2.2.2.2.2.2 (fun h => (by obtain ⟨q, hq, -⟩ := (HA.out.2.1 h).2.2.2.1; rw [HR7.out] at hq; cases hq))
                have hbKx := HA.out.2.2.2.2.2.1.chg0 (cwD.nil cE)
                go_wp2_with (with_reducible refine wpList_stA rfl 35 _ _ rfl hbKx aTZ rfl (by simp [Value.oneCell']) rfl rfl ?_; intro w20 hb20 c20 hs20)
                refine bodyPost_ret (results_AT rfl _ _ hb20 aTZ rfl) rfl ⟨.slice none 0 0, .slice none 0 0, ?_⟩
                rw [HB4.out]
                exact ⟨rfl, ⟨Sees.nil _ _, Sees.nil _ _, by simp [eyes], by simp [eyes]⟩, (HA.out.2.2.2.2.2.2.nil (cwD.nil cE)).trans c20 fun k hk => by simp at hk; right; omega⟩
        · have HR8 := Lib.hid hr8
          clear z8 hr8 hb8
          go_upto_region 20 with (fail)
          cases o1 with
          | false =>
            have HB4 : Hid (parseL s = (actZ, 4)) := HF.out.2.2.2.2.2.2.2.2 (fun h => (by obtain ⟨u, hu⟩ := (HA.out.2.1 h).1; exact hS1.out.2.1 rfl u hu))
            have hbKx := HA.out.2.2.2.2.2.1.chg0 (cwD.nil cE)
            go_wp2_with (with_reducible refine wpList_stA rfl 35 _ _ rfl hbKx aTZ rfl (by simp [Value.oneCell']) rfl rfl ?_; intro w20 hb20 c20 hs20)
            refine bodyPost_ret (results_AT rfl _ _ hb20 aTZ rfl) rfl ⟨.slice none 0 0, .slice none 0 0, ?_⟩
            rw [HB4.out]
            exact ⟨rfl, ⟨Sees.nil _ _, Sees.nil _ _, by simp [eyes], by simp [eyes]⟩, (HA.out.2.2.2.2.2.2.nil (cwD.nil cE)).trans c20 fun k hk => by simp at hk; right; omega⟩
          | true =>
            cases o2 with
            | false =>
              have HB4 : Hid (parseL s = (actZ, 4)) := HF.out.2.2.2.2.2.2.2.2 (fun h => (by obtain ⟨u, hu⟩ := (HA.out.2.1 h).2.1; exact hS2.out.2.1 rfl u hu))
              have hbKx := HA.out.2.2.2.2.2.1.chg0 (cwD.nil cE)
              go_wp2_with (with_reducible refine wpList_stA rfl 35 _ _ rfl hbKx aTZ rfl (by simp [Value.oneCell']) rfl rfl ?_; intro w20 hb20 c20 hs20)
              refine bodyPost_ret (results_AT rfl _ _ hb20 aTZ rfl) rfl ⟨.slice none 0 0, .slice none 0 0, ?_⟩
              rw [HB4.out]
              exact ⟨rfl, ⟨Sees.nil _ _, Sees.nil _ _, by simp [eyes], by simp [eyes]⟩, (HA.out.2.2.2.2.2.2.nil (cwD.nil cE)).trans c20 fun k hk => by simp at hk; right; omega⟩
            | true =>
              cases o3 with
              | false =>
                have HB4 : Hid (parseL s = (actZ, 4)) := HF.out.2.2.2.2.2.2.2.2 (fun h => (by obtain ⟨u, hu⟩ := (HA.out.2.1 h).2.2.1; exact hS3.out.2.1 rfl u hu))
                have hbKx := HA.out.2.2.2.2.2.1.chg0 (cwD.nil cE)
                go_wp2_with (with_reducible refine wpList_stA rfl 35 _ _ rfl hbKx aTZ rfl (by simp [Value.oneCell']) rfl rfl ?_; intro w20 hb20 c20 hs20)
                refine bodyPost_ret (results_AT rfl _ _ hb20 aTZ rfl) rfl ⟨.slice none 0 0, .slice none 0 0, ?_⟩
                rw [HB4.out]
                exact ⟨rfl, ⟨Sees.nil _ _, Sees.nil _ _, by simp [eyes], by simp [eyes]⟩, (HA.out.2.2.2.2.2.2.nil (cwD.nil cE)).trans c20 fun k hk => by simp at hk; right; omega⟩
              | true =>
                have HB4 : Hid (parseL s = (actZ, 4)) := HF.out.2.2.2.2.2.2.2.2 (fun h => (by obtain ⟨q, hq, -⟩ := (HA.out.2.1 h).2.2.2.1; rw [HR7.out] at hq; cases hq))
                have hbKx := HA.out.2.2.2.2.2.1.chg0 (cwD.nil cE)
                go_wp2_with (with_reducible refine wpList_stA rfl 35 _ _ rfl hbKx aTZ rfl (by simp [Value.oneCell']) rfl rfl ?_; intro w20 hb20 c20 hs20)
                refine bodyPost_ret (results_AT rfl _ _ hb20 aTZ rfl) rfl ⟨.slice none 0 0, .slice none 0 0, ?_⟩
                rw [HB4.out]
                exact ⟨rfl, ⟨Sees.nil _ _, Sees.nil _ _, by simp [eyes], by simp [eyes]⟩, (HA.out.2.2.2.2.2.2.nil (cwD.nil cE)).trans c20 fun k hk => by simp at hk; right; omega⟩
end Go.Proofs.YtfammoidikdbpaaGreatDoor
