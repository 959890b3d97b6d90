/- The walk of the law RefsOrder. No statement of the seat is proved here. -/
import Derived.Test.YtihoohhngiomdaaDoorRefsD
import Derived.Deep.DeepCutAuto
set_option linter.unusedVariables false
namespace Go.Aq
open Go.RowKit Go.Aq.Wd
theorem Sees.rows {W : World} {k : Nat} {cs : Array Value} {e : TypeId} {m s : Nat} (h : Blk W k cs e) (hm : cs.size = m * s) : Sees W s (.slice (some ⟨k, 0, none⟩) m m) m cs.toList := by
  refine ⟨by simpa using hm, _, _, rfl, Nat.le_refl _, by simp, fun ad had j u hu => ?_⟩
  cases had
  rw [Addr.add_lit, Nat.zero_add, h.cell]
  simpa using hu
theorem cmpR_range (a b : RefD) : cmpR a b = -1 ∨ cmpR a b = 0 ∨ cmpR a b = 1 := by
  unfold cmpR; split
  · exact cmpB_range _ _
  · split
    · right; right; rfl
    · left; rfl
theorem cmpR_anti (a b : RefD) : cmpR b a = - cmpR a b := by
  obtain ⟨ta, na, ka⟩ := a
  obtain ⟨tb, nb, kb⟩ := b
  unfold cmpR
  simp only
  cases ta <;> cases tb <;> simp
  · exact cmpB_anti nb na
  · exact cmpB_anti nb na
theorem cmpR_self (a : RefD) : cmpR a a = 0 := by unfold cmpR; rw [if_pos rfl]; exact cmpB_self _
theorem cmpR_zero (a b : RefD) : cmpR a b = 0 ↔ a.tag = b.tag ∧ a.name = b.name := by
  unfold cmpR
  split
  · rename_i h; rw [cmpB_zero]; simp [h]
  · rename_i h
    split
    · simp [h]
    · simp [h]
theorem cmpR_trans (a b c : RefD) (h1 : cmpR a b ≤ 0) (h2 : cmpR b c ≤ 0) : cmpR a c ≤ 0 := by
  obtain ⟨ta, na, ka⟩ := a
  obtain ⟨tb, nb, kb⟩ := b
  obtain ⟨tc, nc, kc⟩ := c
  unfold cmpR at *
  simp only at *
  cases ta <;> cases tb <;> cases tc <;> simp at * <;> try omega
  · exact cmpB_trans _ _ _ h1 h2
  · exact cmpB_trans _ _ _ h1 h2
theorem cmpR_trans' (a b c : RefD) (h1 : 0 ≤ cmpR a b) (h2 : 0 ≤ cmpR b c) : 0 ≤ cmpR a c := by
  have e1 := cmpR_anti a b
  have e2 := cmpR_anti b c
  have e3 := cmpR_anti a c
  have := cmpR_trans c b a (by omega) (by omega)
  omega
theorem cmpR_tag (a b : RefD) (h1 : a.tag = true) (h2 : b.tag = false) : cmpR a b = 1 := by
  unfold cmpR; rw [h1, h2]; rfl
/-- The seven ways in which three comparisons can fall, as far as they are asked for. -/
theorem cmp_ways {x y z : Int} (hx : x = -1 ∨ x = 0 ∨ x = 1) (h1 : x ≤ 0 → y ≤ 0 → z ≤ 0) (h2 : 0 ≤ x → 0 ≤ y → 0 ≤ z) :
    (x = -1 ∧ decide (y ≤ 0) = true ∧ decide (0 < z) = false) ∨ (x = -1 ∧ decide (y ≤ 0) = false) ∨
    (x = 0 ∧ decide (y ≤ 0) = true ∧ decide (0 < z) = false ∧ decide (0 ≤ y) = false) ∨ (x = 0 ∧ decide (y ≤ 0) = true ∧ decide (0 < z) = false ∧ decide (0 ≤ y) = true ∧ decide (z < 0) = false) ∨ (x = 0 ∧ decide (y ≤ 0) = false ∧ decide (0 ≤ y) = true ∧ decide (z < 0) = false) ∨
    (x = 1 ∧ decide (0 ≤ y) = true ∧ decide (z < 0) = false) ∨ (x = 1 ∧ decide (0 ≤ y) = false) := by
  simp only [decide_eq_true_eq, decide_eq_false_iff_not]
  omega
end Go.Aq
namespace Go.Proofs.YtihoohhngiomdaaDoor
open Go.RowKit Go.Aq Go.Aq.Wd
def okRef (r : RefD) : Prop := r.name.length ≤ 9223372036854775807 ∧ r.key.length ≤ 9223372036854775807
set_option maxRecDepth 100000 in
set_option maxHeartbeats 8000000 in
theorem order_any (w : World) (hT : Tabs w) (v : Value) (l : List RefD) (hv : Sees w 3 v l.length (Rfs l)) (hl : l.length ≤ 9223372036854775807) (hx : ∀ r ∈ l, okRef r) (a b c : RefD) (ha : okRef a) (hb : okRef b) (hc : okRef c) :
    Calls Tryd.prog 3 #[v, rfV a, rfV b, rfV c] w fun e w' => e = .returned (.bool true) ∧ Chg [] w w' := by
  obtain ⟨K, hK⟩ : ∃ K, w.heap.size = K := ⟨_, rfl⟩
  obtain ⟨aa, hA⟩ : ∃ aa, Hid (a = aa) := ⟨_, rfl⟩
  obtain ⟨bb, hB⟩ : ∃ bb, Hid (b = bb) := ⟨_, rfl⟩
  obtain ⟨cc, hC⟩ : ∃ cc, Hid (c = cc) := ⟨_, rfl⟩
  unfold rfV
  have hbA : Blk (w.alloc (.cells #[.bool a.tag, .string (str a.name), .string (str a.key)] 24)) K #[.bool a.tag, .string (str a.name), .string (str a.key)] 24 := Blk.new_at w _ _ hK
  have hcA : Chg [] w (w.alloc (.cells #[.bool a.tag, .string (str a.name), .string (str a.key)] 24)) := (Chg.refl [] w).alloc _
  have hsA : (w.alloc (.cells #[.bool a.tag, .string (str a.name), .string (str a.key)] 24)).heap.size = K + 1 := by simp [hK]
  generalize ew1 : w.alloc (.cells #[.bool a.tag, .string (str a.name), .string (str a.key)] 24) = wa at *
  have hbB : Blk (wa.alloc (.cells #[.bool b.tag, .string (str b.name), .string (str b.key)] 24)) (K + 1) #[.bool b.tag, .string (str b.name), .string (str b.key)] 24 := Blk.new_at wa _ _ hsA
  have hbA2 := hbA.alloc (.cells #[.bool b.tag, .string (str b.name), .string (str b.key)] 24)
  have hcB := hcA.alloc (.cells #[.bool b.tag, .string (str b.name), .string (str b.key)] 24)
  have hsB : (wa.alloc (.cells #[.bool b.tag, .string (str b.name), .string (str b.key)] 24)).heap.size = K + 1 + 1 := by simp [hsA]
  generalize ew2 : wa.alloc (.cells #[.bool b.tag, .string (str b.name), .string (str b.key)] 24) = wb at *
  have hbC : Blk (wb.alloc (.cells #[.bool c.tag, .string (str c.name), .string (str c.key)] 24)) (K + 1 + 1) #[.bool c.tag, .string (str c.name), .string (str c.key)] 24 := Blk.new_at wb _ _ hsB
  have hbB2 := hbB.alloc (.cells #[.bool c.tag, .string (str c.name), .string (str c.key)] 24)
  have hbA3 := hbA2.alloc (.cells #[.bool c.tag, .string (str c.name), .string (str c.key)] 24)
  have hcC := hcB.alloc (.cells #[.bool c.tag, .string (str c.name), .string (str c.key)] 24)
  have hsC : (wb.alloc (.cells #[.bool c.tag, .string (str c.name), .string (str c.key)] 24)).heap.size = K + 1 + 1 + 1 := by simp [hsB]
  have hv3 := hv.chg0 hcC
  have hT3 := hT.chg hcC
  have hfi := fun w' (h : Chg [] w w') => first_any w' (hT.chg h)
  clear hbA hcA hbA2 hcB hbB hsA hsB hv
  subst ew2 ew1
  obtain ⟨nl, HL⟩ : ∃ n, Hid (l.length = n) := ⟨_, rfl⟩
  rw [HL.out] at hv3
  obtain ⟨ao, cap, rfl, hcap, hno⟩ := hv3.shape
  have HNO := Lib.hid hno; clear hno
  go_enter Tryd.func3, Tryd.ntmps3
  go_wp2_with fail
  generalize ((w.alloc (.cells #[.bool a.tag, .string (str a.name), .string (str a.key)] 24)).alloc (.cells #[.bool b.tag, .string (str b.name), .string (str b.key)] 24)).alloc (.cells #[.bool c.tag, .string (str c.name), .string (str c.key)] 24) = w3 at *
  refine (hfi _ hcC).mono ?_
  rintro e w4 ⟨rfl, c4⟩
  have hv4 := hv3.chg0 c4
  have bA := hbA3.chg0 c4
  have bB := hbB2.chg0 c4
  have bC := hbC.chg0 c4
  have cW := hcC.nil c4
  have hsz : K + 1 + 1 < w4.heap.size := bC.lt
  clear hv3 hbA3 hbB2 hbC hcC hsC hT3 hK c4
  clear w3
  have hfw := few_any w4 (.slice ao nl cap) l (by rw [HL.out]; exact hv4) hl hx
  cases hF : fewL l with
  | false =>
    rw [hF] at hfw
    clear hF
    go_wp2_with fail
    refine hfw.mono ?_
    rintro e w5 ⟨rfl, q, rfl⟩
    have cW5 := cW.drewN q
    generalize w4.drewN q = w5 at *
    go_wp2_with fail
    refine (hfi _ cW5).mono ?_
    rintro e w6 ⟨rfl, c6⟩
    go_wp2_with fail
    go_ret
    exact ⟨rfl, cW5.nil c6⟩
  | true =>
    rw [hF] at hfw
    have hlp := fewL_parts hF
    clear hF
    go_wp2_with fail
    refine hfw.mono ?_
    rintro e w5 ⟨rfl, q, rfl⟩
    have cW5 := cW.drewN q
    have c45 : Chg [] w4 (w4.drewN q) := (Chg.refl [] w4).drewN q
    have hv5 := hv4.chg0 c45
    have bA5 := bA.chg0 c45
    have bB5 := bB.chg0 c45
    have bC5 := bC.chg0 c45
    obtain ⟨⟨a0, a1, a2⟩, -⟩ := bA5.c3
    obtain ⟨⟨b0, b1, b2⟩, -⟩ := bB5.c3
    obtain ⟨⟨d0, d1, d2⟩, -⟩ := bC5.c3
    clear hfw hv4 bA bB bC cW c45
    generalize w4.drewN q = w5 at *
    obtain ⟨G, hG⟩ : ∃ G, w5.heap.size = G := ⟨_, rfl⟩
    have hbx : Blk (w5.alloc (.cells #[.bool a.tag, .string (str a.name), .string (str a.key), .bool b.tag, .string (str b.name), .string (str b.key), .bool c.tag, .string (str c.name), .string (str c.key)] 24)) G #[.bool a.tag, .string (str a.name), .string (str a.key), .bool b.tag, .string (str b.name), .string (str b.key), .bool c.tag, .string (str c.name), .string (str c.key)] 24 := Blk.new_at w5 _ _ hG
    have hsx : Sees (w5.alloc (.cells #[.bool a.tag, .string (str a.name), .string (str a.key), .bool b.tag, .string (str b.name), .string (str b.key), .bool c.tag, .string (str c.name), .string (str c.key)] 24)) 3 (.slice (some ⟨G, 0, none⟩) 3 3) 3 (Rfs [a, b, c]) := Sees.rows hbx rfl
    have hcx : Chg [] w5 (w5.alloc (.cells #[.bool a.tag, .string (str a.name), .string (str a.key), .bool b.tag, .string (str b.name), .string (str b.key), .bool c.tag, .string (str c.name), .string (str c.key)] 24)) := (Chg.refl [] w5).alloc _
    have hf3 := few_any _ (.slice (some ⟨G, 0, none⟩) 3 3) [a, b, c] hsx (by simp) (by
      intro r hr
      simp only [List.mem_cons, List.not_mem_nil, or_false] at hr
      rcases hr with rfl | rfl | rfl
      · exact ha
      · exact hb
      · exact hc)
    clear hbx hsx
    generalize ewx : w5.alloc (.cells #[.bool a.tag, .string (str a.name), .string (str a.key), .bool b.tag, .string (str b.name), .string (str b.key), .bool c.tag, .string (str c.name), .string (str c.key)] 24) = wx at *
    have hv6 := hv5.chg0 hcx
    have bA6 := bA5.chg0 hcx
    have bB6 := bB5.chg0 hcx
    have bC6 := bC5.chg0 hcx
    have cW6 := cW5.nil hcx
    clear bA5 bB5 bC5 hv5 cW5 hcx
    cases hF3 : fewL [a, b, c] with
    | false =>
      rw [hF3] at hf3
      clear hF3
      go_wp2_with fail
      refine hf3.mono ?_
      rintro e w7 ⟨rfl, q, rfl⟩
      have cW7 := cW6.drewN q
      generalize wx.drewN q = w7 at *
      go_wp2_with fail
      refine (hfi _ cW7).mono ?_
      rintro e w8 ⟨rfl, c8⟩
      go_wp2_with fail
      go_ret
      exact ⟨rfl, cW7.nil c8⟩
    | true =>
      rw [hF3] at hf3
      clear hF3
      go_wp2_with fail
      refine hf3.mono ?_
      rintro e w7 ⟨rfl, q, rfl⟩
      have c67 : Chg [] wx (wx.drewN q) := (Chg.refl [] wx).drewN q
      have hv7 := hv6.chg0 c67
      have bA7 := bA6.chg0 c67
      have bB7 := bB6.chg0 c67
      have bC7 := bC6.chg0 c67
      have cW7 := cW6.nil c67
      clear ewx hf3 hv6 bA6 bB6 bC6 cW6 c67 a0 a1 a2 b0 b1 b2 d0 d1 d2
      generalize wx.drewN q = w7 at *
      obtain ⟨X, hne, F, x0, hF0, hFc, hX⟩ := fam0 w7
      obtain ⟨⟨a0, a1, a2⟩, -⟩ := bA7.c3
      obtain ⟨⟨b0, b1, b2⟩, -⟩ := bB7.c3
      obtain ⟨⟨d0, d1, d2⟩, -⟩ := bC7.c3
      have za0 := fun x => (hFc x).cell_some a0 (by simp)
      have za1 := fun x => (hFc x).cell_some a1 (by simp)
      have za2 := fun x => (hFc x).cell_some a2 (by simp)
      have zb0 := fun x => (hFc x).cell_some b0 (by simp)
      have zb1 := fun x => (hFc x).cell_some b1 (by simp)
      have zb2 := fun x => (hFc x).cell_some b2 (by simp)
      have zd0 := fun x => (hFc x).cell_some d0 (by simp)
      have zd1 := fun x => (hFc x).cell_some d1 (by simp)
      have zd2 := fun x => (hFc x).cell_some d2 (by simp)
      have kC := fun a b w => compare_any a b w
      have kBA := fun w => compare_any b a w
      have kAA := fun w => compare_any a a w
      rw [cmpR_anti a b] at kBA
      rw [cmpR_self a] at kAA
      unfold rfV at kC kBA kAA
      have hxr := cmpR_range a b
      have hx0 := cmpR_zero a b
      have htr := cmpR_trans a b c
      have htr' := cmpR_trans' a b c
      have htg := cmpR_tag a b
      have hways := cmp_ways hxr htr htr'
      have hna := str_eq a.name b.name
      have HXR := Lib.hid hxr
      have HX := Lib.hid (And.intro hways (And.intro hx0 (And.intro hna htg)))
      clear hways hx0 hna htg hxr htr htr' a0 a1 a2 b0 b1 b2 d0 d1 d2
      go_wp2_with fail
      refine wp_fam F (by kernel_rfl) (by kernel_rfl) x0 hF0 ?_
      repeat (go_big_quiet_step (exact fam_call hFc hX (kC _ _ _)))
      refine wpQuiet_nil ?_
      rintro w' ⟨x1, rfl⟩
      generalize cmpR a b = x at *
      generalize cmpR b c = y at *
      generalize cmpR a c = z at *
      have c78 := hFc x1
      have hv8 := hv7.chg0 c78
      have bA8 := bA7.chg0 c78
      have bB8 := bB7.chg0 c78
      have cW8 := cW7.nil c78
      clear hv7 bA7 bB7 bC7 cW7 c78 za0 za1 za2 zb0 zb1 zb2 zd0 zd1 zd2
      generalize F x1 = w8 at *
      clear hFc hX hF0 x0 kC
      go_upto_region 6 with (fail)
      go_cut [96] from 36 to 96 (fun s w' => s = .bool false ∧ Chg [] w8 w')
      case first =>
        have hnb : (a.tag == b.tag) = true ∨ (a.tag == b.tag) = false := by cases (a.tag == b.tag) <;> simp
        obtain ⟨hways, hx0, hna, htg⟩ := HX.out
        have hxn : x ≠ 0 → (a.tag == b.tag) = true → ((str a.name).toList == (str b.name).toList) = false := fun h1 h2 => by
          rw [hna]; exact decide_eq_false fun h3 => h1 (hx0.2 ⟨by simpa using h2, h3⟩)
        have hxz : x = 0 → (a.tag == b.tag) = true ∧ ((str a.name).toList == (str b.name).toList) = true := fun h1 => by
          rw [hna]; exact ⟨by simpa using (hx0.1 h1).1, decide_eq_true (hx0.1 h1).2⟩
        clear hx0 hna htg HX HXR
        obtain ⟨⟨a0, a1, a2⟩, -⟩ := bA8.c3
        obtain ⟨⟨b0, b1, b2⟩, -⟩ := bB8.c3
        rcases hways with ⟨rfl, p1, p2⟩ | ⟨rfl, p1⟩ | ⟨rfl, p1, p2, p3⟩ | ⟨rfl, p1, p2, p3, p4⟩ | ⟨rfl, p1, p2, p3⟩ | ⟨rfl, p1, p2⟩ | ⟨rfl, p1⟩
        · rcases hnb with n1 | n1
          · have n2 := hxn (by decide) n1
            clear hxn hxz
            go_wp2_with fail
            refine (kBA _).mono ?_
            rintro e w9 ⟨rfl, c9⟩
            have bA9 := bA8.chg0 c9
            have bB9 := bB8.chg0 c9
            clear a0 a1 a2 b0 b1 b2
            obtain ⟨⟨a0, a1, a2⟩, -⟩ := bA9.c3
            obtain ⟨⟨b0, b1, b2⟩, -⟩ := bB9.c3
            go_wp2_with fail
            refine (kAA _).mono ?_
            rintro e w10 ⟨rfl, c10⟩
            clear a0 a1 a2 b0 b1 b2
            obtain ⟨⟨a0, a1, a2⟩, -⟩ := (bA9.chg0 c10).c3
            obtain ⟨⟨b0, b1, b2⟩, -⟩ := (bB9.chg0 c10).c3
            go_wp2_with fail
            go_meet
            exact ⟨rfl, c9.nil c10⟩
          · clear hxn hxz
            go_wp2_with fail
            refine (kBA _).mono ?_
            rintro e w9 ⟨rfl, c9⟩
            have bA9 := bA8.chg0 c9
            have bB9 := bB8.chg0 c9
            clear a0 a1 a2 b0 b1 b2
            obtain ⟨⟨a0, a1, a2⟩, -⟩ := bA9.c3
            obtain ⟨⟨b0, b1, b2⟩, -⟩ := bB9.c3
            go_wp2_with fail
            refine (kAA _).mono ?_
            rintro e w10 ⟨rfl, c10⟩
            clear a0 a1 a2 b0 b1 b2
            obtain ⟨⟨a0, a1, a2⟩, -⟩ := (bA9.chg0 c10).c3
            obtain ⟨⟨b0, b1, b2⟩, -⟩ := (bB9.chg0 c10).c3
            go_wp2_with fail
            go_meet
            exact ⟨rfl, c9.nil c10⟩
        · rcases hnb with n1 | n1
          · have n2 := hxn (by decide) n1
            clear hxn hxz
            go_wp2_with fail
            refine (kBA _).mono ?_
            rintro e w9 ⟨rfl, c9⟩
            have bA9 := bA8.chg0 c9
            have bB9 := bB8.chg0 c9
            clear a0 a1 a2 b0 b1 b2
            obtain ⟨⟨a0, a1, a2⟩, -⟩ := bA9.c3
            obtain ⟨⟨b0, b1, b2⟩, -⟩ := bB9.c3
            go_wp2_with fail
            refine (kAA _).mono ?_
            rintro e w10 ⟨rfl, c10⟩
            clear a0 a1 a2 b0 b1 b2
            obtain ⟨⟨a0, a1, a2⟩, -⟩ := (bA9.chg0 c10).c3
            obtain ⟨⟨b0, b1, b2⟩, -⟩ := (bB9.chg0 c10).c3
            go_wp2_with fail
            go_meet
            exact ⟨rfl, c9.nil c10⟩
          · clear hxn hxz
            go_wp2_with fail
            refine (kBA _).mono ?_
            rintro e w9 ⟨rfl, c9⟩
            have bA9 := bA8.chg0 c9
            have bB9 := bB8.chg0 c9
            clear a0 a1 a2 b0 b1 b2
            obtain ⟨⟨a0, a1, a2⟩, -⟩ := bA9.c3
            obtain ⟨⟨b0, b1, b2⟩, -⟩ := bB9.c3
            go_wp2_with fail
            refine (kAA _).mono ?_
            rintro e w10 ⟨rfl, c10⟩
            clear a0 a1 a2 b0 b1 b2
            obtain ⟨⟨a0, a1, a2⟩, -⟩ := (bA9.chg0 c10).c3
            obtain ⟨⟨b0, b1, b2⟩, -⟩ := (bB9.chg0 c10).c3
            go_wp2_with fail
            go_meet
            exact ⟨rfl, c9.nil c10⟩
        · obtain ⟨n1, n2⟩ := hxz rfl
          clear hxn hxz hnb
          go_wp2_with fail
          refine (kBA _).mono ?_
          rintro e w9 ⟨rfl, c9⟩
          have bA9 := bA8.chg0 c9
          have bB9 := bB8.chg0 c9
          clear a0 a1 a2 b0 b1 b2
          obtain ⟨⟨a0, a1, a2⟩, -⟩ := bA9.c3
          obtain ⟨⟨b0, b1, b2⟩, -⟩ := bB9.c3
          go_wp2_with fail
          refine (kAA _).mono ?_
          rintro e w10 ⟨rfl, c10⟩
          clear a0 a1 a2 b0 b1 b2
          obtain ⟨⟨a0, a1, a2⟩, -⟩ := (bA9.chg0 c10).c3
          obtain ⟨⟨b0, b1, b2⟩, -⟩ := (bB9.chg0 c10).c3
          go_wp2_with fail
          go_meet
          exact ⟨rfl, c9.nil c10⟩
        · obtain ⟨n1, n2⟩ := hxz rfl
          clear hxn hxz hnb
          go_wp2_with fail
          refine (kBA _).mono ?_
          rintro e w9 ⟨rfl, c9⟩
          have bA9 := bA8.chg0 c9
          have bB9 := bB8.chg0 c9
          clear a0 a1 a2 b0 b1 b2
          obtain ⟨⟨a0, a1, a2⟩, -⟩ := bA9.c3
          obtain ⟨⟨b0, b1, b2⟩, -⟩ := bB9.c3
          go_wp2_with fail
          refine (kAA _).mono ?_
          rintro e w10 ⟨rfl, c10⟩
          clear a0 a1 a2 b0 b1 b2
          obtain ⟨⟨a0, a1, a2⟩, -⟩ := (bA9.chg0 c10).c3
          obtain ⟨⟨b0, b1, b2⟩, -⟩ := (bB9.chg0 c10).c3
          go_wp2_with fail
          go_meet
          exact ⟨rfl, c9.nil c10⟩
        · obtain ⟨n1, n2⟩ := hxz rfl
          clear hxn hxz hnb
          go_wp2_with fail
          refine (kBA _).mono ?_
          rintro e w9 ⟨rfl, c9⟩
          have bA9 := bA8.chg0 c9
          have bB9 := bB8.chg0 c9
          clear a0 a1 a2 b0 b1 b2
          obtain ⟨⟨a0, a1, a2⟩, -⟩ := bA9.c3
          obtain ⟨⟨b0, b1, b2⟩, -⟩ := bB9.c3
          go_wp2_with fail
          refine (kAA _).mono ?_
          rintro e w10 ⟨rfl, c10⟩
          clear a0 a1 a2 b0 b1 b2
          obtain ⟨⟨a0, a1, a2⟩, -⟩ := (bA9.chg0 c10).c3
          obtain ⟨⟨b0, b1, b2⟩, -⟩ := (bB9.chg0 c10).c3
          go_wp2_with fail
          go_meet
          exact ⟨rfl, c9.nil c10⟩
        · rcases hnb with n1 | n1
          · have n2 := hxn (by decide) n1
            clear hxn hxz
            go_wp2_with fail
            refine (kBA _).mono ?_
            rintro e w9 ⟨rfl, c9⟩
            have bA9 := bA8.chg0 c9
            have bB9 := bB8.chg0 c9
            clear a0 a1 a2 b0 b1 b2
            obtain ⟨⟨a0, a1, a2⟩, -⟩ := bA9.c3
            obtain ⟨⟨b0, b1, b2⟩, -⟩ := bB9.c3
            go_wp2_with fail
            refine (kAA _).mono ?_
            rintro e w10 ⟨rfl, c10⟩
            clear a0 a1 a2 b0 b1 b2
            obtain ⟨⟨a0, a1, a2⟩, -⟩ := (bA9.chg0 c10).c3
            obtain ⟨⟨b0, b1, b2⟩, -⟩ := (bB9.chg0 c10).c3
            go_wp2_with fail
            go_meet
            exact ⟨rfl, c9.nil c10⟩
          · clear hxn hxz
            go_wp2_with fail
            refine (kBA _).mono ?_
            rintro e w9 ⟨rfl, c9⟩
            have bA9 := bA8.chg0 c9
            have bB9 := bB8.chg0 c9
            clear a0 a1 a2 b0 b1 b2
            obtain ⟨⟨a0, a1, a2⟩, -⟩ := bA9.c3
            obtain ⟨⟨b0, b1, b2⟩, -⟩ := bB9.c3
            go_wp2_with fail
            refine (kAA _).mono ?_
            rintro e w10 ⟨rfl, c10⟩
            clear a0 a1 a2 b0 b1 b2
            obtain ⟨⟨a0, a1, a2⟩, -⟩ := (bA9.chg0 c10).c3
            obtain ⟨⟨b0, b1, b2⟩, -⟩ := (bB9.chg0 c10).c3
            go_wp2_with fail
            go_meet
            exact ⟨rfl, c9.nil c10⟩
        · rcases hnb with n1 | n1
          · have n2 := hxn (by decide) n1
            clear hxn hxz
            go_wp2_with fail
            refine (kBA _).mono ?_
            rintro e w9 ⟨rfl, c9⟩
            have bA9 := bA8.chg0 c9
            have bB9 := bB8.chg0 c9
            clear a0 a1 a2 b0 b1 b2
            obtain ⟨⟨a0, a1, a2⟩, -⟩ := bA9.c3
            obtain ⟨⟨b0, b1, b2⟩, -⟩ := bB9.c3
            go_wp2_with fail
            refine (kAA _).mono ?_
            rintro e w10 ⟨rfl, c10⟩
            clear a0 a1 a2 b0 b1 b2
            obtain ⟨⟨a0, a1, a2⟩, -⟩ := (bA9.chg0 c10).c3
            obtain ⟨⟨b0, b1, b2⟩, -⟩ := (bB9.chg0 c10).c3
            go_wp2_with fail
            go_meet
            exact ⟨rfl, c9.nil c10⟩
          · clear hxn hxz
            go_wp2_with fail
            refine (kBA _).mono ?_
            rintro e w9 ⟨rfl, c9⟩
            have bA9 := bA8.chg0 c9
            have bB9 := bB8.chg0 c9
            clear a0 a1 a2 b0 b1 b2
            obtain ⟨⟨a0, a1, a2⟩, -⟩ := bA9.c3
            obtain ⟨⟨b0, b1, b2⟩, -⟩ := bB9.c3
            go_wp2_with fail
            refine (kAA _).mono ?_
            rintro e w10 ⟨rfl, c10⟩
            clear a0 a1 a2 b0 b1 b2
            obtain ⟨⟨a0, a1, a2⟩, -⟩ := (bA9.chg0 c10).c3
            obtain ⟨⟨b0, b1, b2⟩, -⟩ := (bB9.chg0 c10).c3
            go_wp2_with fail
            go_meet
            exact ⟨rfl, c9.nil c10⟩
      case rest =>
        obtain ⟨rfl, hcw⟩ := hcut
        have hv9 := hv8.chg0 hcw
        have bA9 := bA8.chg0 hcw
        have bB9 := bB8.chg0 hcw
        have cW9 := cW8.nil hcw
        obtain ⟨-, -, -, htg⟩ := HX.out
        obtain ⟨hl120, hl2⟩ := hlp
        clear HX kBA kAA hv8 bA8 bB8 cW8 hcw hl hx
        clear w8
        rw [HL.out] at hl120
        have HNO2 := Lib.hid HNO; clear HNO
        have HTG := Lib.hid htg; clear htg
        have hma := fun w' (h : Chg [] wc w') => may_any w' (hT.chg (cW9.nil h)) (.slice ao nl cap) l (by rw [HL.out]; exact hv9.chg0 h) (by rw [HL.out]; omega) fun r hr => by have := hl2 r hr; omega
        go_wp2_with fail
        go_loopg [12] nl (fun k vi wr => ∃ (i : Nat), vi = .int .i64 i ∧ 1 ≤ i ∧ i + k = nl + 1 ∧ Chg [] wc wr)
        case atStart => exact ⟨1, rfl, by omega, by omega, Chg.refl _ _⟩
        case round =>
          obtain ⟨i, rfl, hi1, hik, hcr⟩ := hrel
          have hib : (i : Int) ≤ 200 := by omega
          have hib0 : i ≤ 200 := by omega
          have HI := Lib.hid (And.intro hi1 hik)
          clear hi1 hik
          have hend : ∀ w', Chg [] wc w' → Hid (Chg [] w w' ∧ (w'.cell? ⟨K, 0, none⟩ = some (.bool a.tag) ∧ w'.cell? ⟨K + 1, 0, none⟩ = some (.bool b.tag)) ∧ Calls Tryd.prog 5 #[] w' fun e w'' => e = .returned (.bool true) ∧ Chg [] w' w'') := fun w' h =>
            ⟨cW9.nil h, ⟨(bA9.chg0 h).cell 0, (bB9.chg0 h).cell 0⟩, hfi w' (cW9.nil h)⟩
          by_cases hi : i < nl
          · have t1 : decide ((i : Int) < (nl : Int)) = true := by simp; omega
            have t1' : decide (i < nl) = true := by simp; omega
            have hmr := hma wr hcr
            clear hma hi
            cases hM : mayL l with
            | true =>
              rw [hM] at hmr
              go_wp2_with fail
              refine hmr.mono ?_
              rintro e w10 ⟨rfl, c10⟩
              have c90 := hcr.nil c10
              obtain ⟨hi1, hik⟩ := HI.out
              obtain ⟨m, rfl⟩ : ∃ m, i = m + 1 := ⟨i - 1, by omega⟩
              have hmn : m + 1 < nl := by simpa using t1'
              have hm1 : m < l.length := by rw [HL.out]; omega
              have hm2 : m + 1 < l.length := by rw [HL.out]; omega
              obtain ⟨g, off, cap', hs, -, hgl, hcell⟩ := (hv9.chg0 c90).cells (by omega)
              simp only [Value.slice.injEq, true_and] at hs
              obtain ⟨rfl, rfl⟩ := hs
              obtain ⟨X2, hne2, F2, x02, hF02, hFc2, hX2⟩ := fam0 w10
              obtain ⟨p0, p1, p2⟩ := Rfs_cells HL.out hcell m hm1
              obtain ⟨q0, q1, q2⟩ := Rfs_cells HL.out hcell (m + 1) hm2
              have zp0 := fun x => (hFc2 x).cell_some p0 (by simp)
              have zp1 := fun x => (hFc2 x).cell_some p1 (by simp)
              have zp2 := fun x => (hFc2 x).cell_some p2 (by simp)
              have zq0 := fun x => (hFc2 x).cell_some q0 (by simp)
              have zq1 := fun x => (hFc2 x).cell_some q1 (by simp)
              have zq2 := fun x => (hFc2 x).cell_some q2 (by simp)
              have hcv : cmpR l[m] l[m + 1] = -1 := by
                have h1 := mayL_at hM (m + 1) hm2
                unfold mayAt at h1
                rw [show l.getD (m + 1) default = l[m + 1] by simp [List.getD, hm2], show l.getD (m + 1 - 1) default = l[m] by simp [List.getD, hm1]] at h1
                simp only [Bool.and_eq_true, Bool.or_eq_true, decide_eq_true_eq] at h1
                have h2 := cmpR_range l[m] l[m + 1]
                rcases h1.2 with h3 | h3
                · simp at h3
                · omega
              have kC := fun w => compare_any l[m] l[m + 1] w
              rw [hcv] at kC
              unfold rfV at kC
              clear hM hcv p0 p1 p2 q0 q1 q2 hmr hend c10 hcell
              generalize l[m] = r1 at *
              generalize l[m + 1] = r2 at *
              have HJ := Lib.hid (And.intro hi1 hik)
              have hmb : m ≤ 200 := by omega
              have hmi : (m : Int) ≤ 200 := by omega
              clear hm1 hm2 hi1 hik HI hib hib0 bA9 bB9
              go_wp2_with fail
              refine wp_fam F2 (by kernel_rfl) (by kernel_rfl) x02 hF02 ?_
              repeat (go_big_quiet_step (exact fam_call hFc2 hX2 (kC _)))
              refine wpQuiet_nil ?_
              rintro w' ⟨x2, rfl⟩
              have c92 := c90.nil (hFc2 x2)
              generalize F2 x2 = w12 at *
              go_wp2_with fail
              go_roundg (gk - 1)
              case measure => have := HJ.out; omega
              case rel => exact ⟨m + 1 + 1, by go_num, by omega, by have := HJ.out; omega, c92⟩
            | false =>
              rw [hM] at hmr
              clear hM
              go_wp2_with fail
              refine hmr.mono ?_
              rintro e w10 ⟨rfl, c10⟩
              have HE := hend w10 (hcr.nil c10)
              obtain ⟨z1, ⟨z2, z3⟩, z4⟩ := HE.out
              clear hend HE hmr
              go_wp2_with fail
              refine z4.mono ?_
              rintro e w11 ⟨rfl, c11⟩
              have y2 := c11.cell_some z2 (by simp)
              have y3 := c11.cell_some z3 (by simp)
              have c12 := z1.nil c11
              have htg := HTG.out
              clear z1 z2 z3 z4 HTG bA9 bB9 c11
              generalize a.tag = ta at *
              generalize b.tag = tb at *
              have HTG2 := Lib.hid htg; clear htg
              cases ta with
              | false =>
                go_wp2_with fail
                go_ret
                exact ⟨rfl, c12⟩
              | true =>
                cases tb with
                | true =>
                  go_wp2_with fail
                  go_ret
                  exact ⟨rfl, c12⟩
                | false =>
                  obtain rfl : x = 1 := HTG2.out rfl rfl
                  go_wp2_with fail
                  go_ret
                  exact ⟨rfl, c12⟩
          · have t1 : decide ((i : Int) < (nl : Int)) = false := by simp; omega
            have t1' : decide (i < nl) = false := by simp; omega
            have HE := hend wr hcr
            obtain ⟨z1, ⟨z2, z3⟩, z4⟩ := HE.out
            clear hend HE hma hi
            go_wp2_with fail
            refine z4.mono ?_
            rintro e w11 ⟨rfl, c11⟩
            have y2 := c11.cell_some z2 (by simp)
            have y3 := c11.cell_some z3 (by simp)
            have c12 := z1.nil c11
            have htg := HTG.out
            clear z1 z2 z3 z4 HTG bA9 bB9 c11
            generalize a.tag = ta at *
            generalize b.tag = tb at *
            have HTG2 := Lib.hid htg; clear htg
            cases ta with
            | false =>
              go_wp2_with fail
              go_ret
              exact ⟨rfl, c12⟩
            | true =>
              cases tb with
              | true =>
                go_wp2_with fail
                go_ret
                exact ⟨rfl, c12⟩
              | false =>
                obtain rfl : x = 1 := HTG2.out rfl rfl
                go_wp2_with fail
                go_ret
                exact ⟨rfl, c12⟩
end Go.Proofs.YtihoohhngiomdaaDoor
