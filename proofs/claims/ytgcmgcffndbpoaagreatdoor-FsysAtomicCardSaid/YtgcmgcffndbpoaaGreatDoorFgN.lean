/- The law FsysAtomic. No statement of the seat is proved here. -/
import Derived.Test.YtgcmgcffndbpoaaGreatDoorFgM
import Derived.Test.YtgcmgcffndbpoaaGreatDoorFgJ
set_option linter.unusedVariables false
set_option linter.unusedSimpArgs false
namespace Go.Proofs.YtgcmgcffndbpoaaGreatDoor
open Go.RowKit Go.Aq Go.Aq.Fy Go.Maps
theorem Upd.left {S S' T : List Nat} {w w' : World} (u : Upd S S' w w') : Upd (T ++ S) (T ++ S') w w' :=
  ⟨u.chg.mono (fun k hk => .inl (List.mem_append_right _ hk)), fun k hk => by
    rcases List.mem_append.1 hk with h | h
    · exact .inl (List.mem_append_left _ h)
    · exact (u.new k h).imp (List.mem_append_right _) id⟩
theorem ShotR.upd {w w' : World} {S S' : List Nat} {v : Value} {V : View} (h : ShotR w S v V) (u : Upd S S' w w') : ShotR w' S' v V :=
  (((h.wide (T := S ++ S') (fun k hk => by
    rcases List.mem_append.1 hk with h | h
    · exact .inl h
    · exact u.new k h)).chg u.chg (fun k hk => .inl (List.mem_append_left _ hk))).wide (fun k hk => .inl (List.mem_append_right _ hk)))
/-- A shot in a cell of its own, off the blocks S. -/
structure Sh (w : World) (S : List Nat) (K : Nat) (a b : Value) (V : View) : Prop where
  blk : Blk w K #[a, b] 33
  off : K ∉ S
  shot : ShotR w S (.agg #[a, b]) V
theorem Sh.upd {w w' : World} {S S' : List Nat} {K : Nat} {a b : Value} {V : View} (h : Sh w S K a b V) (u : Upd S S' w w') : Sh w' S' K a b V :=
  ⟨h.blk.chg u.chg h.off, fun hh => by
    rcases u.new K hh with h1 | h1
    · exact h.off h1
    · have := h.blk.lt; omega, h.shot.upd u⟩
theorem Sh.chg0 {w w' : World} {S : List Nat} {K : Nat} {a b : Value} {V : View} (h : Sh w S K a b V) (c : Chg [] w w') : Sh w' S K a b V := ⟨h.blk.chg0 c, h.off, h.shot.chg c (by simp)⟩
theorem Sh.sub {w : World} {S S' : List Nat} {K : Nat} {a b : Value} {V : View} (h : Sh w S K a b V) (hs : ∀ k ∈ S', k ∈ S) : Sh w S' K a b V := ⟨h.blk, fun hh => h.off (hs K hh), h.shot.wide (fun k hk => .inl (hs k hk))⟩
theorem cell_lt {w : World} {g o : Nat} {u : Value} (h : w.cell? ⟨g, o, none⟩ = some u) : g < w.heap.size := by
  unfold World.cell? at h
  by_cases hg : g < w.heap.size
  · exact hg
  · rw [Array.getElem?_eq_none (Nat.le_of_not_lt hg)] at h; cases h
/-- Blocks that came since w stay such. -/
theorem upd_new {w w1 w2 : World} {S S' : List Nat} (u : Upd S S' w1 w2) (h : ∀ k ∈ S, w.heap.size ≤ k) (c : w.heap.size ≤ w1.heap.size) : ∀ k ∈ S', w.heap.size ≤ k := fun k hk => by
  rcases u.new k hk with h1 | h1
  · exact h k h1
  · omega
/-- An opening somewhere within a change. -/
theorem open_any {q : Nat} (w : World) (S : List Nat) (p : Nat) (D : DiskD) (hD : DiskR w S p D) {F : FsD} {bl : Puts} {fs : Files} {V' : View} (hA : AtomF q F bl fs V') (hP : Phase F bl fs D) (hq : q < 1000) (hu : D.down = false) :
    Calls Tryz.prog 24 #[.pointer (some ⟨p, 0, none⟩)] w fun e w' => ∃ v1 v2, e = .returned (.tuple #[v1, v2]) ∧ ∃ D' X S', DiskR w' S' p D' ∧ Phase F bl fs D' ∧ Upd S (X ++ S') w w' ∧
      (D.falls = 0 → ∃ f l bf F', v1 = .pointer (some ⟨f, 0, none⟩) ∧ v2 = .int .i64 0 ∧ FsR w' S' [] f p l bf F' ∧ FInv (q + 1) F' ∧ (viewF F' = viewF F ∨ viewF F' = V')) := by
  have h47 : (2 : Nat) ^ 47 = 140737488355328 := by decide
  obtain ⟨L, ho⟩ := hP.opens hA.inv hA.plan (by omega) hu
  obtain ⟨F', hF'⟩ : ∃ F' : FsD, (runP D (redoP D L)).2 = 0 → F'.disk = (runP D (redoP D L)).1 ∧ F'.log = (if markedN D L = 0 then L else nextL L (markedN D L)) ∧ FInv (q + 1) F' ∧ (viewF F' = viewF F ∨ viewF F' = V') := by
    by_cases h0 : (runP D (redoP D L)).2 = 0
    · obtain ⟨F', h1, h2, h3, h4⟩ := atom_open hA ho h0
      exact ⟨F', fun _ => ⟨h1, h2, h3, h4⟩⟩
    · exact ⟨F, fun e => absurd e h0⟩
  refine (fopen_ok w S p D L F' (q + 1) hD hu hP.pend ho.of ho.head ⟨ho.ring.1, ho.ring.2.1, ho.ring.2.2.1, by have := ho.ring.2.2.2; omega⟩ hP.len ho.home (fun e => ⟨(hF' e).1, (hF' e).2.1, (hF' e).2.2.1⟩) (by omega)).mono ?_
  rintro e w' (⟨h0, f, l, bf, S', rfl, hF, hU⟩ | ⟨h0, rfl, S', hD', hU⟩)
  · refine ⟨_, _, rfl, _, [f, l, bf], S', hF.disk, by rw [(hF' h0).1]; exact ho.after, hU, fun _ => ⟨f, l, bf, F', rfl, rfl, hF, (hF' h0).2.2.1, (hF' h0).2.2.2⟩⟩
  · exact ⟨_, _, rfl, _, [], S', hD', ho.after, hU, fun hf => absurd (ho.calm hf) h0⟩
set_option maxRecDepth 100000 in
set_option maxHeartbeats 16000000 in
theorem atomic_law (w : World) (n r m : Int) (v : Value) (css : List (List ChangeD)) (hv : ListsC w v css) (vl : Value) (cs : List ChangeD) (hl : SeesC w vl cs) (t : Int) (vm : Value) (ms : Sec) (nm : Nat) (hm : Sees w 1 vm nm (Bs ms))
    (va : Value) (zs : List Int) (ha : Sees w 1 va zs.length (zs.map fun z => Value.int .i64 z)) (haz : ∀ z ∈ zs, z ≤ 9223372036854775807) (vb : Value) (L : List Sec) (hb : RowsV w [] vb L) :
    Calls Tryz.prog 5 #[.int .i64 n, .int .i64 r, .int .i64 m, v, vl, .int .i64 t, vm, va, vb] w fun e w' => e = .returned (.bool true) ∧ Chg [] w w' := by
  obtain ⟨ao, cap, rfl, -⟩ := hv.choose_spec.1.shape
  obtain ⟨LN, hLN⟩ : ∃ LN, css.length = LN := ⟨_, rfl⟩
  rw [hLN] at hv ⊢
  obtain ⟨xs, hxs, hxc⟩ := hl
  obtain ⟨al, cl, rfl, -⟩ := hxs.shape
  obtain ⟨LC, hLC⟩ : ∃ LC, cs.length = LC := ⟨_, rfl⟩
  rw [hLC] at hxs ⊢
  obtain ⟨am, cm, rfl, -⟩ := hm.shape
  obtain ⟨aa, ca, rfl, -⟩ := ha.shape
  obtain ⟨NA, hNA⟩ : ∃ NA, zs.length = NA := ⟨_, rfl⟩
  rw [hNA] at ha ⊢
  obtain ⟨ab, cb, rfl, -⟩ := hb.choose_spec.1.shape
  obtain ⟨NB, hNB⟩ : ∃ NB, L.length = NB := ⟨_, rfl⟩
  rw [hNB]
  have hfi := first_ok16 w
  have hfw := fun w' (c : Chg [] w w') => few_ok w' cs (.slice al LC cl) xs (by rw [hLC]; exact hxs.chg0 c) (hxc.chg0 c)
  have hmd := fun w' (c : Chg [] w w') => made_ok w' n r m _ css (hv.chg0 c)
  have HL := Lib.hid (And.intro hxs (And.intro hxc (And.intro hLC (And.intro hm (And.intro ha (And.intro hNA (And.intro haz (And.intro hb hNB))))))))
  clear hv hLN hxs hxc hLC hm ha hNA haz hb hNB
  go_enter Tryz.func5, Tryz.ntmps5
  go_wp2_with fail
  refine hfi.mono ?_
  rintro e w0 ⟨rfl, c0⟩
  have hfw1 := hfw w0 c0
  clear hfi hfw
  go_wp2_with fail
  refine hfw1.mono ?_
  rintro e w1 ⟨b, rfl, hbf, c01⟩
  have c1 := c0.nil c01
  have hf2 := first_ok16 w1
  have C2 := Lib.hid c1
  have hm1 := hmd w1 c1
  clear hfw1 c0 c01
  cases b with
  | false =>
    clear hbf hm1 hmd c1
    go_wp2_with fail
    refine hf2.mono ?_
    rintro e w13 ⟨rfl, c13⟩
    clear hf2
    go_wp2_with fail
    go_ret
    exact ⟨rfl, C2.out.nil c13⟩
  | true =>
  have hFew := hbf rfl
  by_cases h100 : 100 < nm
  · have t1 : decide ((100 : Int) < (nm : Int)) = true := by simp; omega
    have t1' : decide (100 < nm) = true := by simp; omega
    clear hbf hm1 hmd c1 hFew h100
    go_wp2_with fail
    refine hf2.mono ?_
    rintro e w13 ⟨rfl, c13⟩
    clear hf2
    go_wp2_with fail
    go_ret
    exact ⟨rfl, C2.out.nil c13⟩
  have t1 : decide ((100 : Int) < (nm : Int)) = false := by simp; omega
  have t1' : decide (100 < nm) = false := by simp; omega
  by_cases h10 : 10 < NA
  · have t2 : decide ((10 : Int) < (NA : Int)) = true := by simp; omega
    have t2' : decide (10 < NA) = true := by simp; omega
    clear hbf hm1 hmd c1 hFew h100 h10
    go_wp2_with fail
    refine hf2.mono ?_
    rintro e w13 ⟨rfl, c13⟩
    clear hf2
    go_wp2_with fail
    go_ret
    exact ⟨rfl, C2.out.nil c13⟩
  have t2 : decide ((10 : Int) < (NA : Int)) = false := by simp; omega
  have t2' : decide (10 < NA) = false := by simp; omega
  by_cases hne : NB = NA
  rotate_left
  · have t3 : ((NB : Int) != (NA : Int)) = true := by simp; omega
    have t3' : (NB != NA) = true := by simp; omega
    clear hbf hm1 hmd c1 hFew h100 h10 hne
    go_wp2_with fail
    refine hf2.mono ?_
    rintro e w13 ⟨rfl, c13⟩
    clear hf2
    go_wp2_with fail
    go_ret
    exact ⟨rfl, C2.out.nil c13⟩
  subst hne
  have t3 : ((NB : Int) != (NB : Int)) = false := by simp
  by_cases ht1 : t < 1
  · have t4 : decide (t < 1) = true := decide_eq_true ht1
    clear hbf hm1 hmd c1 hFew h100 h10 ht1
    go_wp2_with fail
    refine hf2.mono ?_
    rintro e w13 ⟨rfl, c13⟩
    clear hf2
    go_wp2_with fail
    go_ret
    exact ⟨rfl, C2.out.nil c13⟩
  have t4 : decide (t < 1) = false := decide_eq_false ht1
  by_cases ht2 : 2000 < t
  · have t5 : decide (2000 < t) = true := decide_eq_true ht2
    clear hbf hm1 hmd c1 hFew h100 h10 ht1 ht2
    go_wp2_with fail
    refine hf2.mono ?_
    rintro e w13 ⟨rfl, c13⟩
    clear hf2
    go_wp2_with fail
    go_ret
    exact ⟨rfl, C2.out.nil c13⟩
  have t5 : decide (2000 < t) = false := decide_eq_false ht2
  have HB := Lib.hid (And.intro hFew (And.intro (Nat.le_of_not_lt h100) (And.intro (Nat.le_of_not_lt h10) (And.intro (Int.not_lt.1 ht1) (Int.not_lt.1 ht2)))))
  clear hbf hf2 hFew h100 h10 ht1 ht2
  go_wp2_with fail
  refine hm1.mono ?_
  rintro e w2 ⟨c2, rfl | ⟨f, d, l, bf, Sd, F, N1, R1, M1, rfl, rfl, rfl, rfl, h4, h300, hfm, hM, hF, hnw⟩⟩
  · have hm2 := hmd w2 (c1.nil c2)
    clear hm1 hmd
    go_wp2_with fail
    refine hm2.mono ?_
    rintro e w3 ⟨c3, rfl | ⟨g, d2, l2, bg, Sg, G, N2, R2, M2, rfl, rfl, rfl, rfl, -, -, -, -, -, -⟩⟩
    · have hf3 := first_ok16 w3
      have C3 := Lib.hid ((c1.nil c2).nil c3)
      clear hm2 c1 c2 c3
      go_wp2_with fail
      refine hf3.mono ?_
      rintro e w13 ⟨rfl, c13⟩
      clear hf3
      go_wp2_with fail
      go_ret
      exact ⟨rfl, C3.out.nil c13⟩
    · have hf3 := first_ok16 w3
      have C3 := Lib.hid ((c1.nil c2).nil c3)
      clear hm2 c1 c2 c3
      go_wp2_with fail
      refine hf3.mono ?_
      rintro e w13 ⟨rfl, c13⟩
      clear hf3
      go_wp2_with fail
      go_ret
      exact ⟨rfl, C3.out.nil c13⟩
  have hm2 := hmd w2 (c1.nil c2)
  have HF := Lib.hid (And.intro hM (And.intro hF (And.intro (fun (k : Nat) (hk : k ∈ f :: l :: bf :: Sd) => Nat.le_trans c1.size (hnw k hk)) (c1.nil c2))))
  clear hm1 hmd h4 h300 hfm hM hF hnw c1 c2 C2
  go_wp2_with fail
  refine hm2.mono ?_
  rintro e w3 ⟨c3, rfl | ⟨g, d2, l2, bg, Sg, G, N2, R2, M2, rfl, hN2, hR2, hM2, -, -, -, hMG, hG, hnw2⟩⟩
  · have C0 := HF.out.2.2.2
    have hf2 := first_ok16 w3
    have C2 := Lib.hid (C0.nil c3)
    clear hm2 C0 c3
    go_wp2_with fail
    refine hf2.mono ?_
    rintro e w13 ⟨rfl, c13⟩
    clear hf2
    go_wp2_with fail
    go_ret
    exact ⟨rfl, C2.out.nil c13⟩
  obtain rfl : N1 = N2 := Int.ofNat_inj.1 hN2
  obtain rfl : R1 = R2 := Int.ofNat_inj.1 hR2
  obtain rfl : M1 = M2 := Int.ofNat_inj.1 hM2
  have HG := Lib.hid (And.intro hMG (And.intro hG (And.intro hnw2 c3)))
  have hF3 := HF.out.2.1.chg0 c3
  have hdk := disk_ok w3 Sd [] f d l bf F hF3
  have htk := taken_ok w3 Sd f d l bf F hF3 HF.out.1.inv
  obtain ⟨NF, hNF⟩ : ∃ NF, (viewF F).length = NF := ⟨_, rfl⟩
  have HN := Lib.hid hNF
  clear hm2 hN2 hR2 hM2 hMG hG hnw2 c3 hNF
  go_wp2_with fail
  refine hdk.mono ?_
  rintro e w3' ⟨rfl, hw3⟩
  rw [hw3]
  clear hdk hw3
  go_wp2_with fail
  refine htk.mono ?_
  rintro e w4 ⟨v4, rfl, hsh, c4⟩
  have hsh4 := hsh ((f :: l :: bf :: Sd) ++ (g :: l2 :: bg :: Sg)) (fun k hk => by
    rcases List.mem_append.1 hk with h | h
    · exact hF3.lt k h
    · exact HG.out.2.1.lt k h)
  obtain ⟨an, cn, ab4, cb4, rfl⟩ := hsh4.cells HN.out
  have H4 := Lib.hid (And.intro hsh4 (And.intro c4 hF3))
  clear htk hsh hsh4 c4 hF3
  go_upto_region 10 with (fail)
  obtain ⟨w5, hw5⟩ : ∃ w5, w4.alloc (.cells #[.slice an NF cn, .slice ab4 NF cb4] 33) = w5 := ⟨_, rfl⟩
  obtain ⟨K, hK⟩ : ∃ K, w4.heap.size = K := ⟨_, rfl⟩
  have h5 := shot_cell hw5 hK
  rw [hw5, hK]
  have c35 : Chg [] w3 w5 := H4.out.2.1.nil h5.2
  have hSh5 : Sh w5 ((f :: l :: bf :: Sd) ++ (g :: l2 :: bg :: Sg)) K (.slice an NF cn) (.slice ab4 NF cb4) (viewF F) := ⟨h5.1, fun hh => by
    have h1 := H4.out.2.1.size
    rcases List.mem_append.1 hh with h | h
    · have := H4.out.2.2.lt K h; omega
    · have := HG.out.2.1.lt K h; omega, H4.out.1.chg h5.2 (by simp)⟩
  have c05 : Chg [] w w5 := (HF.out.2.2.2.nil HG.out.2.2.2).nil c35
  have hdg := do_ok (q := 40) w5 Sg g d2 l2 bg G (HG.out.2.1.chg0 c35) HG.out.1.inv (by decide) cs HB.out.1.facts.1 HB.out.1.facts.2 (.slice al LC cl) xs (by rw [HL.out.2.2.1]; exact HL.out.1.chg0 c05) (HL.out.2.1.chg0 c05)
  have hIH := (do_law HG.out.1.inv (by decide) HG.out.1.falls cs).1
  have hat := fun (T : Nat) => atom_law (arm_inv HF.out.1.inv T ms) HG.out.1.inv (by decide) (by decide) ((arm_tw F T ms).symm.trans (HF.out.1.twin.trans HG.out.1.twin.symm)) HG.out.1.falls cs
  obtain ⟨H, hH⟩ : ∃ H, doF G cs = H := ⟨_, rfl⟩
  rw [hH] at hdg hIH
  simp only [hH] at hat
  obtain ⟨H1, h⟩ := H
  have H5 := Lib.hid (And.intro hSh5 (And.intro c35 (And.intro c05 (And.intro hIH hat))))
  clear hw5 hK h5 c35 hSh5 c05 hIH hat hH
  go_wp2_with fail
  refine hdg.mono ?_
  rintro e w6 ⟨rfl, Sg6, bg6, hG6, hU6⟩
  simp only at hG6 hU6
  have hSh6 : Sh w6 (f :: l :: bf :: Sd) K (.slice an NF cn) (.slice ab4 NF cb4) (viewF F) := (H5.out.1.upd (Upd.left hU6)).sub (fun k hk => List.mem_append_left _ hk)
  have c26 : Chg [] w2 w6 := ((HG.out.2.2.2.nil H5.out.2.1).trans hU6.chg (fun t ht => .inr (HG.out.2.2.1 t ht)))
  have htg := taken_ok w6 Sg6 g d2 l2 bg6 H1 hG6 H5.out.2.2.2.1
  obtain ⟨NG, hNG⟩ : ∃ NG, (viewF H1).length = NG := ⟨_, rfl⟩
  have H6 := Lib.hid (And.intro hSh6 (And.intro c26 (And.intro (HF.out.2.1.chg0 c26) (And.intro (HF.out.2.2.2.nil c26) (And.intro hNG H5.out.2.2.2.1)))))
  clear hdg hG6 hU6 hSh6 c26 hNG
  go_wp2_with fail
  refine htg.mono ?_
  rintro e w7 ⟨v7, rfl, hsh, c7⟩
  have hsh7 := hsh (f :: l :: bf :: Sd) H6.out.2.2.1.lt
  obtain ⟨an7, cn7, ab7, cb7, rfl⟩ := hsh7.cells H6.out.2.2.2.2.1
  have H7 := Lib.hid (And.intro hsh7 c7)
  clear htg hsh hsh7 c7
  go_upto_region 12 with (fail)
  obtain ⟨w8, hw8⟩ : ∃ w8, w7.alloc (.cells #[.slice an7 NG cn7, .slice ab7 NG cb7] 33) = w8 := ⟨_, rfl⟩
  obtain ⟨K8, hK8⟩ : ∃ K8, w7.heap.size = K8 := ⟨_, rfl⟩
  have h8 := shot_cell hw8 hK8
  rw [hw8, hK8]
  have c68 : Chg [] w6 w8 := H7.out.2.nil h8.2
  have hShB : Sh w8 (f :: l :: bf :: Sd) K8 (.slice an7 NG cn7) (.slice ab7 NG cb7) (viewF H1) := ⟨h8.1, fun hh => by have h1 := H6.out.2.2.1.lt K8 hh; have h2 := H7.out.2.size; omega, H7.out.1.chg h8.2 (by simp)⟩
  have hF8 := H6.out.2.2.1.chg0 c68
  have c08 : Chg [] w w8 := H6.out.2.2.2.1.nil c68
  have hcr := crashAt_ok w8 Sd d F.disk hF8.disk t (by have := HB.out.2.2.2.2; omega) (.slice am nm cm) nm ms (HL.out.2.2.2.1.chg0 c08) (by have := HB.out.2.1; omega)
  obtain ⟨T, hT⟩ : ∃ T, t.toNat = T := ⟨_, rfl⟩
  rw [hT] at hcr
  have hat := H5.out.2.2.2.2 T
  have H8 := Lib.hid (And.intro (H6.out.1.chg0 c68) (And.intro hShB (And.intro hF8 (And.intro c08 hat))))
  clear hw8 hK8 h8 c68 hShB hF8 c08 hT hat
  go_wp2_with fail
  refine hcr.mono ?_
  rintro e w9 ⟨rfl, hD9, hU9⟩
  have hF9 : FsR w9 Sd [] f d l bf (armF F T ms) := FsR.turn (X := []) H8.out.2.2.1 hU9 hD9 rfl
  have hnS := HF.out.2.2.1
  have c09 : Chg [] w w9 := H8.out.2.2.2.1.trans hU9.chg (fun t ht => .inr (hnS t (by simp [ht])))
  have hdf := do_ok (q := 40) w9 Sd f d l bf (armF F T ms) hF9 (arm_inv HF.out.1.inv T ms) (by decide) cs HB.out.1.facts.1 HB.out.1.facts.2 (.slice al LC cl) xs (by rw [HL.out.2.2.1]; exact HL.out.1.chg0 c09) (HL.out.2.1.chg0 c09)
  have hat := H8.out.2.2.2.2
  obtain ⟨R, hR⟩ : ∃ R, doF (armF F T ms) cs = R := ⟨_, rfl⟩
  rw [hR] at hdf hat
  obtain ⟨F1, e1⟩ := R
  have u9 : Upd (f :: l :: bf :: Sd) (f :: l :: bf :: Sd) w8 w9 := Upd.left (T := [f, l, bf]) hU9
  have H9 := Lib.hid (And.intro (H8.out.1.upd u9) (And.intro (H8.out.2.1.upd u9) (And.intro c09 hat)))
  clear hcr hD9 hU9 hF9 hnS c09 hR hat u9
  go_wp2_with fail
  refine hdf.mono ?_
  rintro e w10 ⟨rfl, Sd1, bf1, hF10, hU10⟩
  simp only at hF10 hU10
  have c010 : Chg [] w w10 := H9.out.2.2.1.trans hU10.chg (fun t ht => .inr (HF.out.2.2.1 t ht))
  have hn10 := upd_new hU10 HF.out.2.2.1 H9.out.2.2.1.size
  have H10 := Lib.hid (And.intro (H9.out.1.upd hU10) (And.intro (H9.out.2.1.upd hU10) (And.intro hF10 (And.intro c010 hn10))))
  have hat := H9.out.2.2.2
  clear hdf hF10 hU10 c010 hn10
  unfold AtomEnd at hat
  simp only at hat
  rcases hat with ⟨g0, g12, gF, gh, gv⟩ | ⟨gh, F2, bl, fs, hA, hP, hR2, hup⟩
  · have g1 : (((e1 : Nat) : Int) != 0) = true := by simp; omega
    have g1' : (e1 != 0) = true := by simp; omega
    have g2 : (((e1 : Nat) : Int) != 12) = true := by simp; omega
    have g2' : (e1 != 12) = true := by simp; omega
    subst gh
    have geq : ((e1 : Int) == (e1 : Int)) = true := by simp
    have htf := taken_ok w10 Sd1 f d l bf1 F1 H10.out.2.2.1 (by rw [gF]; exact arm_inv HF.out.1.inv T ms)
    have hv1 : viewF F1 = viewF F := by rw [gF]; rfl
    have HV := Lib.hid (And.intro hv1 (And.intro gv (show (viewF F1).length = NF by rw [hv1]; exact HN.out)))
    clear g0 g12 gF gv hv1
    go_wp2_with fail
    refine htf.mono ?_
    rintro e w11 ⟨v11, rfl, hsh, c11⟩
    have hsh11 := hsh [] (fun _ h => absurd h (by simp))
    obtain ⟨an11, cn11, ab11, cb11, rfl⟩ := hsh11.cells HV.out.2.2
    have H11 := Lib.hid (And.intro hsh11 c11)
    clear htf hsh hsh11 c11
    go_upto_region 18 with (fail)
    obtain ⟨w12, hw12⟩ : ∃ w12, w11.alloc (.cells #[.slice an11 NF cn11, .slice ab11 NF cb11] 33) = w12 := ⟨_, rfl⟩
    obtain ⟨K12, hK12⟩ : ∃ K12, w11.heap.size = K12 := ⟨_, rfl⟩
    have h12 := shot_cell hw12 hK12
    rw [hw12, hK12]
    have c1012 : Chg [] w10 w12 := H11.out.2.nil h12.2
    have hf12 := first_ok16 w12
    have H12 := Lib.hid (And.intro h12 c1012)
    clear hw12 hK12 h12 c1012
    go_wp2_with fail
    refine hf12.mono ?_
    rintro e w13 ⟨rfl, c13⟩
    have c1013 : Chg [] w10 w13 := H12.out.2.nil c13
    have hA1 := alike_any w13 _ _ (viewF F1) (viewF F) (H11.out.1.chg (H12.out.1.2.nil c13) (by simp)) ((H10.out.1.chg0 c1013).shot.wide (T := []) (by simp)) (by rw [viewF_len]; have h1 := HF.out.1.inv.files.few; have h2 := HV.out.2.2; have h3 := HN.out; rw [viewF_len] at h2 h3; omega) (by rw [viewF_len]; have h1 := HF.out.1.inv.files.few; omega)
    rw [decide_eq_true HV.out.1] at hA1
    have hA2 := fun w' (c : Chg [] w13 w') => alike_any w' _ _ (viewF H1) (viewF F) ((H10.out.2.1.chg0 (c1013.nil c)).shot.wide (T := []) (by simp)) ((H10.out.1.chg0 (c1013.nil c)).shot.wide (T := []) (by simp)) (by rw [viewF_len]; have h1 := H6.out.2.2.2.2.2.files.few; omega) (by rw [viewF_len]; have h1 := HF.out.1.inv.files.few; omega)
    rw [decide_eq_true (show viewF H1 = viewF F from HV.out.2.1)] at hA2
    obtain ⟨⟨x0, x1⟩, -⟩ := (H10.out.1.chg0 c1013).blk.c2
    obtain ⟨⟨y0, y1⟩, -⟩ := (H10.out.2.1.chg0 c1013).blk.c2
    obtain ⟨⟨z0, z1⟩, -⟩ := (H12.out.1.1.chg0 c13).c2
    have C13 := Lib.hid (H10.out.2.2.2.1.nil c1013)
    clear hf12 c13 c1013
    go_wp2_with fail
    refine hA1.mono ?_
    rintro e w14 ⟨rfl, c14⟩
    have hA3 := hA2 w14 c14
    replace x0 := c14.cell_some x0 (by simp)
    replace x1 := c14.cell_some x1 (by simp)
    replace y0 := c14.cell_some y0 (by simp)
    replace y1 := c14.cell_some y1 (by simp)
    clear hA1 hA2 z0 z1
    go_wp2_with fail
    refine hA3.mono ?_
    rintro e w15 ⟨rfl, c15⟩
    clear hA3 x0 x1 y0 y1
    go_wp2_with fail
    go_ret
    exact ⟨rfl, (C13.out.nil c14).nil c15⟩
  · subst gh
    have hD10 := H10.out.2.2.1.disk
    have hu10 := up_ok w10 Sd1 d F1.disk hD10
    have hS10 : ∀ k ∈ Sd1, w.heap.size ≤ k := fun k hk => H10.out.2.2.2.2 k (by simp [hk])
    have hmask : ∀ (v : Value) (n : Nat) (b : Sec), Sees w 1 v n (Bs b) → ∀ (S : List Nat), (∀ k ∈ S, w.heap.size ≤ k) → Disj (eyes v) S := fun v n b hv S hS k hk hk' => by
      have h1 := hv.lt (by decide) k hk
      have h2 := hS k hk'
      omega
    have HM := Lib.hid hmask
    rcases hR2 with ⟨h0, hv2⟩ | ⟨h12, hv2⟩
    · subst h0
      have hup := hup.1 rfl
      rw [hup] at hu10
      have hcr := crash_up w10 Sd1 d F1.disk hD10 hup (by rw [hP.pend]; simp) (.slice am nm cm) nm ms (HL.out.2.2.2.1.chg0 H10.out.2.2.2.1) (hmask _ _ _ HL.out.2.2.2.1 Sd1 hS10)
      have HA := Lib.hid (And.intro hA (And.intro hP (And.intro hS10 hv2)))
      clear hA hP hup hD10 hS10 hmask hv2
      go_wp2_with fail
      refine hu10.mono ?_
      rintro e w11 ⟨rfl, hw11⟩
      rw [hw11]
      clear hu10 hw11
      go_wp2_with fail
      refine hcr.mono ?_
      rintro e wq ⟨rfl, Sq, hDq, hUq⟩
      have HQ := Lib.hid (And.intro hDq (And.intro (HA.out.2.1.crash ms) (And.intro (upd_new hUq HA.out.2.2.1 H10.out.2.2.2.1.size) (And.intro ((H10.out.1.sub (fun k hk => by simp [hk])).upd hUq) (And.intro ((H10.out.2.1.sub (fun k hk => by simp [hk])).upd hUq) (H10.out.2.2.2.1.trans hUq.chg (fun t ht => .inr (HA.out.2.2.1 t ht))))))))
      obtain ⟨Dq, hDq2⟩ : ∃ Dq, crashD F1.disk ms = Dq := ⟨_, rfl⟩
      rw [hDq2] at HQ
      clear hcr hDq hUq hDq2
      go_wp2_with fail
      go_loopg [30] NB (fun k (v30 : Value) wr => ∃ (i : Nat) (S : List Nat) (D : DiskD), v30 = .int .i64 i ∧ Hid (i + k = NB ∧ DiskR wr S d D ∧ Phase F2 bl fs D ∧ (∀ k ∈ S, w.heap.size ≤ k) ∧ Sh wr S K (.slice an NF cn) (.slice ab4 NF cb4) (viewF F) ∧ Sh wr S K8 (.slice an7 NG cn7) (.slice ab7 NG cb7) (viewF H1) ∧ Chg [] w wr))
      case atStart =>
        obtain ⟨q1, q2, q3, q4, q5, q6⟩ := HQ.out
        exact ⟨0, Sq, Dq, rfl, Nat.zero_add _, q1, q2, q3, q4, q5, q6⟩
      case round =>
        obtain ⟨i, S, D, rfl, HJ⟩ := hrel
        by_cases hi : i < NB
        · have t0 : decide ((i : Int) < (NB : Int)) = true := by simp; omega
          have t0' : decide (i < NB) = true := by simp; omega
          obtain ⟨hik, hD, hP, hnew, hSA, hSB, cw⟩ := HJ.out
          obtain ⟨hxs, hxc, hLC, hm, ha, hNA, haz, hb, hNB⟩ := HL.out
          obtain ⟨ga, oa, ca', e, -, hca⟩ := ha.at1 (by omega)
          cases e
          have hil : i < zs.length := by rw [hNA]; exact hi
          have hiL : i < L.length := by rw [hNB]; exact hi
          have a0 := hca i hi
          obtain ⟨z, hz⟩ : ∃ z, zs[i]'hil = z := ⟨_, rfl⟩
          have a0' : (zs.map fun z => Value.int .i64 z)[i]? = some (.int .i64 z) := by rw [List.getElem?_map, List.getElem?_eq_getElem hil, hz]; rfl
          rw [a0'] at a0
          have hzm : z ∈ zs := by rw [← hz]; exact List.getElem_mem hil
          have hz63 := haz z hzm
          obtain ⟨bs, hbs, hbr, -⟩ := hb
          rw [hNB] at hbs
          obtain ⟨Li, hLi⟩ : ∃ Li, L[i]'hiL = Li := ⟨_, rfl⟩
          obtain ⟨y, hy, hyS, -⟩ := hbr i Li (by rw [List.getElem?_eq_getElem hiL, hLi])
          obtain ⟨ay, cy, rfl, -⟩ := hyS.shape
          obtain ⟨gb, ob, cb', e, -, hcb⟩ := hbs.at1 (by omega)
          cases e
          have a1 := hcb i hi
          rw [hy] at a1
          obtain ⟨ly, hly⟩ : ∃ ly, Li.length = ly := ⟨_, rfl⟩
          rw [hly] at hyS a1
          have hgaw : ga < w.heap.size := cell_lt a0
          have hgbw : gb < w.heap.size := cell_lt a1
          have HOA : ga ∉ S := fun hh => by have := hnew ga hh; omega
          have HOB : gb ∉ S := fun hh => by have := hnew gb hh; omega
          have b1 := cw.cell_some a1 (by simp)
          have b0 := cw.cell_some a0 (by simp)
          have hf2 := first_ok16 wr
          have C2 := Lib.hid cw
          by_cases h100 : 100 < ly
          · have t1 : decide ((100 : Int) < (ly : Int)) = true := by simp; omega
            have t1' : decide (100 < ly) = true := by simp; omega
            clear hik hD hP hnew hSA hSB cw hxs hxc hLC hm ha hNA haz hNB hca hil hiL a0 hz a0' hzm hz63 hbs hbr hLi hy hyS hcb a1 hly hgaw hgbw HOA HOB b0 h100 HJ
            go_wp2_with fail
            refine hf2.mono ?_
            rintro e w13 ⟨rfl, c13⟩
            clear hf2
            go_wp2_with fail
            go_ret
            exact ⟨rfl, C2.out.nil c13⟩
          have t1 : decide ((100 : Int) < (ly : Int)) = false := by simp; omega
          have t1' : decide (100 < ly) = false := by simp; omega
          have hrb := reboot_ok wr S d D hD
          have HR := Lib.hid (And.intro (lg1 hik hi) (And.intro hyS (And.intro hz63 (And.intro (Nat.le_of_not_lt h100) (And.intro hgaw (And.intro hgbw (And.intro a0 (And.intro a1 HJ.out))))))))
          clear hf2 hik hD hP hnew hSA hSB cw hxs hxc hLC hm ha hNA haz hNB hca hil hiL a0 hz a0' hzm hz63 hbs hbr hLi hy hyS hcb a1 hly hgaw hgbw h100 HJ
          go_wp2_with fail
          refine hrb.mono ?_
          rintro e w12 ⟨rfl, hD12, hU12⟩
          have c12 : Chg [] w w12 := C2.out.trans hU12.chg (fun t ht => .inr (HR.out.2.2.2.2.2.2.2.2.2.2.2.1 t ht))
          have a0 := c12.cell_some HR.out.2.2.2.2.2.2.1 (by simp)
          have a1 := c12.cell_some HR.out.2.2.2.2.2.2.2.1 (by simp)
          have hca := fun w' (c : Chg [] w12 w') => crashAt_ok w' S d (reboot D) (hD12.chg c) z HR.out.2.2.1 (.slice ay ly cy) ly Li (HR.out.2.1.chg0 (c12.nil c)) (by have := HR.out.2.2.2.1; omega)
          have H12 := Lib.hid (And.intro hU12 c12)
          clear hrb hD12 hU12 c12 b0 b1
          go_upto_region 27 with (fail)
          obtain ⟨W0, hW0⟩ : ∃ W0, w12.drew = W0 := ⟨_, rfl⟩
          have cd : Chg [] w12 W0 := by rw [← hW0]; exact (Chg.refl _ _).drew
          refine wp_region_U S (fun _ => false) (by kernel_rfl) ?_
          rw [hW0]
          clear hW0
          have C0 : Chg S W0 W0 := Chg.refl _ _
          refine wpAnyU_take 0 (v := (.pointer (some ⟨d, 0, none⟩))) C0 rfl (by kernel_rfl) (by kernel_rfl) (by kernel_rfl) (by kernel_rfl) (fun _ _ _ h => h) (by rfl) (fun w4 c4 => ?_) ?_
          · go_simp
          try simp only [Act.put, List.getElem_toArray, List.getElem_cons_succ, List.getElem_cons_zero, List.setIfInBounds_toArray, List.set_cons_zero, List.set_cons_succ]
          refine wpAnyU_take 1 (v := (.slice (some ⟨ga, oa, none⟩) NB ca)) C0 rfl (by kernel_rfl) (by kernel_rfl) (by kernel_rfl) (by kernel_rfl) (fun _ _ _ h => h) (by rfl) (fun w4 c4 => ?_) ?_
          · go_simp
          try simp only [Act.put, List.getElem_toArray, List.getElem_cons_succ, List.getElem_cons_zero, List.setIfInBounds_toArray, List.set_cons_zero, List.set_cons_succ]
          refine wpAnyU_take 2 (v := (.int .i64 (i : Int))) C0 rfl (by kernel_rfl) (by kernel_rfl) (by kernel_rfl) (by kernel_rfl) (fun _ _ _ h => h) (by rfl) (fun w4 c4 => ?_) ?_
          · go_simp
          try simp only [Act.put, List.getElem_toArray, List.getElem_cons_succ, List.getElem_cons_zero, List.setIfInBounds_toArray, List.set_cons_zero, List.set_cons_succ]
          refine wpAnyU_take 3 (v := (.pointer (some ⟨ga, oa + i, none⟩))) C0 rfl (by kernel_rfl) (by kernel_rfl) (by kernel_rfl) (by kernel_rfl) (fun _ _ _ h => h) (by rfl) (fun w4 c4 => ?_) ?_
          · go_simp
          try simp only [Act.put, List.getElem_toArray, List.getElem_cons_succ, List.getElem_cons_zero, List.setIfInBounds_toArray, List.set_cons_zero, List.set_cons_succ]
          refine wpAnyU_take 4 (v := (.int .i64 z)) C0 rfl (by kernel_rfl) (by kernel_rfl) (by kernel_rfl) (by kernel_rfl) (fun _ _ _ h => h) (by rfl) (fun w4 c4 => ?_) ?_
          · have q1 := c4.cell_some (cd.cell_some a0 (by simp)) HOA
            go_simp
          try simp only [Act.put, List.getElem_toArray, List.getElem_cons_succ, List.getElem_cons_zero, List.setIfInBounds_toArray, List.set_cons_zero, List.set_cons_succ]
          refine wpAnyU_take 5 (v := (.slice (some ⟨gb, ob, none⟩) NB cb)) C0 rfl (by kernel_rfl) (by kernel_rfl) (by kernel_rfl) (by kernel_rfl) (fun _ _ _ h => h) (by rfl) (fun w4 c4 => ?_) ?_
          · go_simp
          try simp only [Act.put, List.getElem_toArray, List.getElem_cons_succ, List.getElem_cons_zero, List.setIfInBounds_toArray, List.set_cons_zero, List.set_cons_succ]
          refine wpAnyU_take 6 (v := (.int .i64 (i : Int))) C0 rfl (by kernel_rfl) (by kernel_rfl) (by kernel_rfl) (by kernel_rfl) (fun _ _ _ h => h) (by rfl) (fun w4 c4 => ?_) ?_
          · go_simp
          try simp only [Act.put, List.getElem_toArray, List.getElem_cons_succ, List.getElem_cons_zero, List.setIfInBounds_toArray, List.set_cons_zero, List.set_cons_succ]
          refine wpAnyU_take 7 (v := (.pointer (some ⟨gb, ob + i, none⟩))) C0 rfl (by kernel_rfl) (by kernel_rfl) (by kernel_rfl) (by kernel_rfl) (fun _ _ _ h => h) (by rfl) (fun w4 c4 => ?_) ?_
          · go_simp
          try simp only [Act.put, List.getElem_toArray, List.getElem_cons_succ, List.getElem_cons_zero, List.setIfInBounds_toArray, List.set_cons_zero, List.set_cons_succ]
          refine wpAnyU_take 8 (v := (.slice ay ly cy)) C0 rfl (by kernel_rfl) (by kernel_rfl) (by kernel_rfl) (by kernel_rfl) (fun _ _ _ h => h) (by rfl) (fun w4 c4 => ?_) ?_
          · have q1 := c4.cell_some (cd.cell_some a1 (by simp)) HOB
            go_simp
          try simp only [Act.put, List.getElem_toArray, List.getElem_cons_succ, List.getElem_cons_zero, List.setIfInBounds_toArray, List.set_cons_zero, List.set_cons_succ]
          refine wpAnyU_only 9 rfl (by kernel_rfl) (by rfl) (by rfl) ?_
          go_simp
          refine (hca W0 cd).mono ?_
          rintro e w13 ⟨rfl, hD13, hU13⟩
          refine ⟨hU13.chg, ?_⟩
          try simp only [Act.put, List.getElem_toArray, List.getElem_cons_succ, List.getElem_cons_zero, List.setIfInBounds_toArray, List.set_cons_zero, List.set_cons_succ]
          refine wpAnyU_done (by kernel_rfl) ?_ _
          have hUc : Upd S S w12 w13 := ⟨cd.toS.tr hU13.chg, fun _ h => .inl h⟩
          have c13 : Chg [] w w13 := H12.out.2.trans hUc.chg (fun t ht => .inr (HR.out.2.2.2.2.2.2.2.2.2.2.2.1 t ht))
          have hop := open_any w13 S d _ hD13 HA.out.1 ((HR.out.2.2.2.2.2.2.2.2.2.2.1.reboot).crashAt z.toNat Li) (by decide) rfl
          have H13 := Lib.hid (And.intro (H12.out.1.trans hUc) c13)
          clear C0 cd hca hD13 hU13 hUc c13 a0 a1
          go_wp2_with fail
          refine hop.mono ?_
          rintro e w14 ⟨v1, v2, rfl, D14, X, S14, hD14, hP14, hU14, -⟩
          have hu14 := up_ok w14 S14 d D14 hD14
          obtain ⟨-, -, -, -, -, -, -, -, -, -, -, hnew, hSA, hSB, cw⟩ := HR.out
          have u14 := H13.out.1.trans hU14
          have hn14 : ∀ k ∈ S14, w.heap.size ≤ k := fun k hk => upd_new u14 hnew cw.size k (List.mem_append_right _ hk)
          have c14 : Chg [] w w14 := cw.trans u14.chg (fun t ht => .inr (hnew t ht))
          have hSA14 := (hSA.upd u14).sub (fun k hk => List.mem_append_right _ hk)
          have hSB14 := (hSB.upd u14).sub (fun k hk => List.mem_append_right _ hk)
          have e2 : wrap64 ((i : Int) + 1) = ((i + 1 : Nat) : Int) := wr_i1 (n := 100) (by have := HB.out.2.2.1; omega) (by omega)
          have e2w := wIq e2
          clear hop hU14 u14 hnew hSA hSB cw
          cases hd : D14.down with
          | true =>
            rw [hd] at hu14
            have H14 := Lib.hid (And.intro hD14 (And.intro hP14 (And.intro hn14 (And.intro hSA14 (And.intro hSB14 c14)))))
            clear hd hD14 hP14 hn14 hSA14 hSB14 c14 hi
            go_wp2_with fail
            refine hu14.mono ?_
            rintro e w15 ⟨rfl, hw15⟩
            rw [hw15]
            clear hu14 hw15
            go_wp2_with fail
            go_roundg (gk - 1)
            case measure => exact HR.out.1.2
            case rel =>
              obtain ⟨q1, q2, q3, q4, q5, q6⟩ := H14.out
              exact ⟨i + 1, S14, D14, by simp, HR.out.1.1, q1, q2, q3, q4, q5, q6⟩
          | false =>
            rw [hd] at hu14
            have hcr := crash_up w14 S14 d D14 hD14 hd (by rw [hP14.pend]; simp) (.slice ay ly cy) ly Li (HR.out.2.1.chg0 c14) (HM.out _ _ _ HR.out.2.1 S14 hn14)
            have a1 := c14.cell_some HR.out.2.2.2.2.2.2.2.1 (by simp)
            have H14 := Lib.hid (And.intro hP14 (And.intro hn14 (And.intro hSA14 (And.intro hSB14 c14))))
            clear hd hD14 hP14 hn14 hSA14 hSB14 c14
            go_wp2_with fail
            refine hu14.mono ?_
            rintro e w15 ⟨rfl, hw15⟩
            rw [hw15]
            clear hu14 hw15
            go_wp2_with fail
            refine hcr.mono ?_
            rintro e w16 ⟨rfl, S16, hD16, hU16⟩
            have H16 := Lib.hid (And.intro hD16 hU16)
            clear hcr hD16 hU16 a1 hi
            go_wp2_with fail
            go_roundg (gk - 1)
            case measure => exact HR.out.1.2
            case rel =>
              obtain ⟨q2, q3, q4, q5, q6⟩ := H14.out
              obtain ⟨hD16, hU16⟩ := H16.out
              exact ⟨i + 1, S16, _, by simp, HR.out.1.1, hD16, q2.crash Li, upd_new hU16 q3 q6.size, q4.upd hU16, q5.upd hU16, q6.trans hU16.chg (fun t ht => .inr (q3 t ht))⟩
        · have t0 : decide ((i : Int) < (NB : Int)) = false := by simp; omega
          have t0' : decide (i < NB) = false := by simp; omega
          obtain ⟨hik, hD, hP, hnew, hSA, hSB, cw⟩ := HJ.out
          have hca := crashAt_ok wr S d D hD 0 (by decide) (.slice none 0 0) 0 [] (Sees.nil _ _) (by decide)
          have HE := Lib.hid HJ.out
          clear hik hD hP hnew hSA hSB cw hi HJ
          go_wp2_with fail
          refine hca.mono ?_
          rintro e w11 ⟨rfl, hD11, hU11⟩
          have hrb := reboot_ok w11 S d _ hD11
          clear hca hD11
          go_wp2_with fail
          refine hrb.mono ?_
          rintro e w12 ⟨rfl, hD12, hU12⟩
          have hop := open_any w12 S d _ hD12 HA.out.1 ((HE.out.2.2.1.crashAt 0 []).reboot) (by decide) rfl
          have HU := Lib.hid (hU11.trans hU12)
          clear hrb hD12 hU11 hU12
          go_wp2_with fail
          refine hop.mono ?_
          rintro e w13 ⟨v1, v2, rfl, D13, X, S13, -, -, hU13, hcalm⟩
          obtain ⟨o, lo, bo, F', rfl, rfl, hFo, hIo, hvo⟩ := hcalm rfl
          obtain ⟨-, -, -, hnew, hSA, hSB, cw⟩ := HE.out
          have u13 := HU.out.trans hU13
          have c13 : Chg [] w w13 := cw.trans u13.chg (fun t ht => .inr (hnew t ht))
          have htk := taken_ok w13 S13 o d lo bo F' hFo hIo
          obtain ⟨NO, hNO⟩ : ∃ NO, (viewF F').length = NO := ⟨_, rfl⟩
          have H13 := Lib.hid (And.intro ((hSA.upd u13).sub (S' := []) (by simp)) (And.intro ((hSB.upd u13).sub (S' := []) (by simp)) (And.intro c13 (And.intro hIo (And.intro hvo hNO)))))
          clear hop hcalm hFo hIo hvo hnew hSA hSB cw u13 c13 hU13 hNO
          go_wp2_with fail
          refine htk.mono ?_
          rintro e w14 ⟨v14, rfl, hsh, c14⟩
          have hsh14 := hsh [] (fun _ h => absurd h (by simp))
          obtain ⟨an14, cn14, ab14, cb14, rfl⟩ := hsh14.cells H13.out.2.2.2.2.2
          have H14 := Lib.hid (And.intro hsh14 c14)
          clear htk hsh hsh14 c14
          go_upto_region 37 with (fail)
          obtain ⟨w15, hw15⟩ : ∃ w15, w14.alloc (.cells #[.slice an14 NO cn14, .slice ab14 NO cb14] 33) = w15 := ⟨_, rfl⟩
          obtain ⟨K15, hK15⟩ : ∃ K15, w14.heap.size = K15 := ⟨_, rfl⟩
          have h15 := shot_cell hw15 hK15
          rw [hw15, hK15]
          have hf15 := first_ok16 w15
          have H15 := Lib.hid h15
          clear hw15 hK15 h15
          go_wp2_with fail
          refine hf15.mono ?_
          rintro e w16 ⟨rfl, c16⟩
          have c1516 := H15.out.2.nil c16
          have c1316 := H14.out.2.nil c1516
          obtain ⟨⟨x0, x1⟩, -⟩ := (H15.out.1.chg0 c16).c2
          obtain ⟨⟨y0, y1⟩, -⟩ := (H13.out.2.1.chg0 c1316).blk.c2
          obtain ⟨⟨z0, z1⟩, -⟩ := (H13.out.1.chg0 c1316).blk.c2
          have hlo : (viewF F').length ≤ 1000000000 := by rw [viewF_len]; have := H13.out.2.2.2.1.files.few; omega
          have hl1 : (viewF H1).length ≤ 1000000000 := by rw [viewF_len]; have := H6.out.2.2.2.2.2.files.few; omega
          have hl0 : (viewF F).length ≤ 1000000000 := by rw [viewF_len]; have := HF.out.1.inv.files.few; omega
          have hA1 := alike_any w16 _ _ (viewF F') (viewF H1) (H14.out.1.chg c1516 (by simp)) (H13.out.2.1.chg0 c1316).shot hlo hl1
          have hA2 := fun w' (c : Chg [] w16 w') => alike_any w' _ _ (viewF F') (viewF F) (H14.out.1.chg (c1516.nil c) (by simp)) (H13.out.1.chg0 (c1316.nil c)).shot hlo hl0
          have C16 := Lib.hid (H13.out.2.2.1.nil c1316)
          clear hf15 c16 c1516 c1316 hlo hl1 hl0
          have hvv : viewF F' = viewF H1 := by
            rcases H13.out.2.2.2.2.1 with h1 | h1
            · exact h1.trans HA.out.2.2.2
            · exact h1
          rw [decide_eq_true hvv] at hA1
          clear hA2 hvv z0 z1
          go_wp2_with fail
          refine hA1.mono ?_
          rintro e w17 ⟨rfl, c17⟩
          clear hA1 x0 x1 y0 y1
          go_wp2_with fail
          go_ret
          exact ⟨rfl, C16.out.nil c17⟩
    · subst h12
      have hup := hup.2 rfl
      rw [hup] at hu10
      have HA := Lib.hid (And.intro hA (And.intro hP (And.intro hS10 hv2)))
      clear hA hP hup hD10 hS10 hmask hv2
      go_wp2_with fail
      refine hu10.mono ?_
      rintro e wq ⟨rfl, hwq⟩
      obtain ⟨Sq, hSq⟩ : ∃ Sq, Sd1 = Sq := ⟨_, rfl⟩
      obtain ⟨Dq, hDq2⟩ : ∃ Dq, F1.disk = Dq := ⟨_, rfl⟩
      have HQ := Lib.hid (And.intro H10.out.2.2.1.disk (And.intro HA.out.2.1 (And.intro HA.out.2.2.1 (And.intro (H10.out.1.sub (S' := Sd1) (fun k hk => by simp [hk])) (And.intro (H10.out.2.1.sub (S' := Sd1) (fun k hk => by simp [hk])) H10.out.2.2.2.1)))))
      rw [← hwq, hSq, hDq2] at HQ
      clear hu10 hwq hSq hDq2
      go_wp2_with fail
      go_loopg [30] NB (fun k (v30 : Value) wr => ∃ (i : Nat) (S : List Nat) (D : DiskD), v30 = .int .i64 i ∧ Hid (i + k = NB ∧ DiskR wr S d D ∧ Phase F2 bl fs D ∧ (∀ k ∈ S, w.heap.size ≤ k) ∧ Sh wr S K (.slice an NF cn) (.slice ab4 NF cb4) (viewF F) ∧ Sh wr S K8 (.slice an7 NG cn7) (.slice ab7 NG cb7) (viewF H1) ∧ Chg [] w wr))
      case atStart =>
        obtain ⟨q1, q2, q3, q4, q5, q6⟩ := HQ.out
        exact ⟨0, Sq, Dq, rfl, Nat.zero_add _, q1, q2, q3, q4, q5, q6⟩
      case round =>
        obtain ⟨i, S, D, rfl, HJ⟩ := hrel
        by_cases hi : i < NB
        · have t0 : decide ((i : Int) < (NB : Int)) = true := by simp; omega
          have t0' : decide (i < NB) = true := by simp; omega
          obtain ⟨hik, hD, hP, hnew, hSA, hSB, cw⟩ := HJ.out
          obtain ⟨hxs, hxc, hLC, hm, ha, hNA, haz, hb, hNB⟩ := HL.out
          obtain ⟨ga, oa, ca', e, -, hca⟩ := ha.at1 (by omega)
          cases e
          have hil : i < zs.length := by rw [hNA]; exact hi
          have hiL : i < L.length := by rw [hNB]; exact hi
          have a0 := hca i hi
          obtain ⟨z, hz⟩ : ∃ z, zs[i]'hil = z := ⟨_, rfl⟩
          have a0' : (zs.map fun z => Value.int .i64 z)[i]? = some (.int .i64 z) := by rw [List.getElem?_map, List.getElem?_eq_getElem hil, hz]; rfl
          rw [a0'] at a0
          have hzm : z ∈ zs := by rw [← hz]; exact List.getElem_mem hil
          have hz63 := haz z hzm
          obtain ⟨bs, hbs, hbr, -⟩ := hb
          rw [hNB] at hbs
          obtain ⟨Li, hLi⟩ : ∃ Li, L[i]'hiL = Li := ⟨_, rfl⟩
          obtain ⟨y, hy, hyS, -⟩ := hbr i Li (by rw [List.getElem?_eq_getElem hiL, hLi])
          obtain ⟨ay, cy, rfl, -⟩ := hyS.shape
          obtain ⟨gb, ob, cb', e, -, hcb⟩ := hbs.at1 (by omega)
          cases e
          have a1 := hcb i hi
          rw [hy] at a1
          obtain ⟨ly, hly⟩ : ∃ ly, Li.length = ly := ⟨_, rfl⟩
          rw [hly] at hyS a1
          have hgaw : ga < w.heap.size := cell_lt a0
          have hgbw : gb < w.heap.size := cell_lt a1
          have HOA : ga ∉ S := fun hh => by have := hnew ga hh; omega
          have HOB : gb ∉ S := fun hh => by have := hnew gb hh; omega
          have b1 := cw.cell_some a1 (by simp)
          have b0 := cw.cell_some a0 (by simp)
          have hf2 := first_ok16 wr
          have C2 := Lib.hid cw
          by_cases h100 : 100 < ly
          · have t1 : decide ((100 : Int) < (ly : Int)) = true := by simp; omega
            have t1' : decide (100 < ly) = true := by simp; omega
            clear hik hD hP hnew hSA hSB cw hxs hxc hLC hm ha hNA haz hNB hca hil hiL a0 hz a0' hzm hz63 hbs hbr hLi hy hyS hcb a1 hly hgaw hgbw HOA HOB b0 h100 HJ
            go_wp2_with fail
            refine hf2.mono ?_
            rintro e w13 ⟨rfl, c13⟩
            clear hf2
            go_wp2_with fail
            go_ret
            exact ⟨rfl, C2.out.nil c13⟩
          have t1 : decide ((100 : Int) < (ly : Int)) = false := by simp; omega
          have t1' : decide (100 < ly) = false := by simp; omega
          have hrb := reboot_ok wr S d D hD
          have HR := Lib.hid (And.intro (lg1 hik hi) (And.intro hyS (And.intro hz63 (And.intro (Nat.le_of_not_lt h100) (And.intro hgaw (And.intro hgbw (And.intro a0 (And.intro a1 HJ.out))))))))
          clear hf2 hik hD hP hnew hSA hSB cw hxs hxc hLC hm ha hNA haz hNB hca hil hiL a0 hz a0' hzm hz63 hbs hbr hLi hy hyS hcb a1 hly hgaw hgbw h100 HJ
          go_wp2_with fail
          refine hrb.mono ?_
          rintro e w12 ⟨rfl, hD12, hU12⟩
          have c12 : Chg [] w w12 := C2.out.trans hU12.chg (fun t ht => .inr (HR.out.2.2.2.2.2.2.2.2.2.2.2.1 t ht))
          have a0 := c12.cell_some HR.out.2.2.2.2.2.2.1 (by simp)
          have a1 := c12.cell_some HR.out.2.2.2.2.2.2.2.1 (by simp)
          have hca := fun w' (c : Chg [] w12 w') => crashAt_ok w' S d (reboot D) (hD12.chg c) z HR.out.2.2.1 (.slice ay ly cy) ly Li (HR.out.2.1.chg0 (c12.nil c)) (by have := HR.out.2.2.2.1; omega)
          have H12 := Lib.hid (And.intro hU12 c12)
          clear hrb hD12 hU12 c12 b0 b1
          go_upto_region 27 with (fail)
          obtain ⟨W0, hW0⟩ : ∃ W0, w12.drew = W0 := ⟨_, rfl⟩
          have cd : Chg [] w12 W0 := by rw [← hW0]; exact (Chg.refl _ _).drew
          refine wp_region_U S (fun _ => false) (by kernel_rfl) ?_
          rw [hW0]
          clear hW0
          have C0 : Chg S W0 W0 := Chg.refl _ _
          refine wpAnyU_take 0 (v := (.pointer (some ⟨d, 0, none⟩))) C0 rfl (by kernel_rfl) (by kernel_rfl) (by kernel_rfl) (by kernel_rfl) (fun _ _ _ h => h) (by rfl) (fun w4 c4 => ?_) ?_
          · go_simp
          try simp only [Act.put, List.getElem_toArray, List.getElem_cons_succ, List.getElem_cons_zero, List.setIfInBounds_toArray, List.set_cons_zero, List.set_cons_succ]
          refine wpAnyU_take 1 (v := (.slice (some ⟨ga, oa, none⟩) NB ca)) C0 rfl (by kernel_rfl) (by kernel_rfl) (by kernel_rfl) (by kernel_rfl) (fun _ _ _ h => h) (by rfl) (fun w4 c4 => ?_) ?_
          · go_simp
          try simp only [Act.put, List.getElem_toArray, List.getElem_cons_succ, List.getElem_cons_zero, List.setIfInBounds_toArray, List.set_cons_zero, List.set_cons_succ]
          refine wpAnyU_take 2 (v := (.int .i64 (i : Int))) C0 rfl (by kernel_rfl) (by kernel_rfl) (by kernel_rfl) (by kernel_rfl) (fun _ _ _ h => h) (by rfl) (fun w4 c4 => ?_) ?_
          · go_simp
          try simp only [Act.put, List.getElem_toArray, List.getElem_cons_succ, List.getElem_cons_zero, List.setIfInBounds_toArray, List.set_cons_zero, List.set_cons_succ]
          refine wpAnyU_take 3 (v := (.pointer (some ⟨ga, oa + i, none⟩))) C0 rfl (by kernel_rfl) (by kernel_rfl) (by kernel_rfl) (by kernel_rfl) (fun _ _ _ h => h) (by rfl) (fun w4 c4 => ?_) ?_
          · go_simp
          try simp only [Act.put, List.getElem_toArray, List.getElem_cons_succ, List.getElem_cons_zero, List.setIfInBounds_toArray, List.set_cons_zero, List.set_cons_succ]
          refine wpAnyU_take 4 (v := (.int .i64 z)) C0 rfl (by kernel_rfl) (by kernel_rfl) (by kernel_rfl) (by kernel_rfl) (fun _ _ _ h => h) (by rfl) (fun w4 c4 => ?_) ?_
          · have q1 := c4.cell_some (cd.cell_some a0 (by simp)) HOA
            go_simp
          try simp only [Act.put, List.getElem_toArray, List.getElem_cons_succ, List.getElem_cons_zero, List.setIfInBounds_toArray, List.set_cons_zero, List.set_cons_succ]
          refine wpAnyU_take 5 (v := (.slice (some ⟨gb, ob, none⟩) NB cb)) C0 rfl (by kernel_rfl) (by kernel_rfl) (by kernel_rfl) (by kernel_rfl) (fun _ _ _ h => h) (by rfl) (fun w4 c4 => ?_) ?_
          · go_simp
          try simp only [Act.put, List.getElem_toArray, List.getElem_cons_succ, List.getElem_cons_zero, List.setIfInBounds_toArray, List.set_cons_zero, List.set_cons_succ]
          refine wpAnyU_take 6 (v := (.int .i64 (i : Int))) C0 rfl (by kernel_rfl) (by kernel_rfl) (by kernel_rfl) (by kernel_rfl) (fun _ _ _ h => h) (by rfl) (fun w4 c4 => ?_) ?_
          · go_simp
          try simp only [Act.put, List.getElem_toArray, List.getElem_cons_succ, List.getElem_cons_zero, List.setIfInBounds_toArray, List.set_cons_zero, List.set_cons_succ]
          refine wpAnyU_take 7 (v := (.pointer (some ⟨gb, ob + i, none⟩))) C0 rfl (by kernel_rfl) (by kernel_rfl) (by kernel_rfl) (by kernel_rfl) (fun _ _ _ h => h) (by rfl) (fun w4 c4 => ?_) ?_
          · go_simp
          try simp only [Act.put, List.getElem_toArray, List.getElem_cons_succ, List.getElem_cons_zero, List.setIfInBounds_toArray, List.set_cons_zero, List.set_cons_succ]
          refine wpAnyU_take 8 (v := (.slice ay ly cy)) C0 rfl (by kernel_rfl) (by kernel_rfl) (by kernel_rfl) (by kernel_rfl) (fun _ _ _ h => h) (by rfl) (fun w4 c4 => ?_) ?_
          · have q1 := c4.cell_some (cd.cell_some a1 (by simp)) HOB
            go_simp
          try simp only [Act.put, List.getElem_toArray, List.getElem_cons_succ, List.getElem_cons_zero, List.setIfInBounds_toArray, List.set_cons_zero, List.set_cons_succ]
          refine wpAnyU_only 9 rfl (by kernel_rfl) (by rfl) (by rfl) ?_
          go_simp
          refine (hca W0 cd).mono ?_
          rintro e w13 ⟨rfl, hD13, hU13⟩
          refine ⟨hU13.chg, ?_⟩
          try simp only [Act.put, List.getElem_toArray, List.getElem_cons_succ, List.getElem_cons_zero, List.setIfInBounds_toArray, List.set_cons_zero, List.set_cons_succ]
          refine wpAnyU_done (by kernel_rfl) ?_ _
          have hUc : Upd S S w12 w13 := ⟨cd.toS.tr hU13.chg, fun _ h => .inl h⟩
          have c13 : Chg [] w w13 := H12.out.2.trans hUc.chg (fun t ht => .inr (HR.out.2.2.2.2.2.2.2.2.2.2.2.1 t ht))
          have hop := open_any w13 S d _ hD13 HA.out.1 ((HR.out.2.2.2.2.2.2.2.2.2.2.1.reboot).crashAt z.toNat Li) (by decide) rfl
          have H13 := Lib.hid (And.intro (H12.out.1.trans hUc) c13)
          clear C0 cd hca hD13 hU13 hUc c13 a0 a1
          go_wp2_with fail
          refine hop.mono ?_
          rintro e w14 ⟨v1, v2, rfl, D14, X, S14, hD14, hP14, hU14, -⟩
          have hu14 := up_ok w14 S14 d D14 hD14
          obtain ⟨-, -, -, -, -, -, -, -, -, -, -, hnew, hSA, hSB, cw⟩ := HR.out
          have u14 := H13.out.1.trans hU14
          have hn14 : ∀ k ∈ S14, w.heap.size ≤ k := fun k hk => upd_new u14 hnew cw.size k (List.mem_append_right _ hk)
          have c14 : Chg [] w w14 := cw.trans u14.chg (fun t ht => .inr (hnew t ht))
          have hSA14 := (hSA.upd u14).sub (fun k hk => List.mem_append_right _ hk)
          have hSB14 := (hSB.upd u14).sub (fun k hk => List.mem_append_right _ hk)
          have e2 : wrap64 ((i : Int) + 1) = ((i + 1 : Nat) : Int) := wr_i1 (n := 100) (by have := HB.out.2.2.1; omega) (by omega)
          have e2w := wIq e2
          clear hop hU14 u14 hnew hSA hSB cw
          cases hd : D14.down with
          | true =>
            rw [hd] at hu14
            have H14 := Lib.hid (And.intro hD14 (And.intro hP14 (And.intro hn14 (And.intro hSA14 (And.intro hSB14 c14)))))
            clear hd hD14 hP14 hn14 hSA14 hSB14 c14 hi
            go_wp2_with fail
            refine hu14.mono ?_
            rintro e w15 ⟨rfl, hw15⟩
            rw [hw15]
            clear hu14 hw15
            go_wp2_with fail
            go_roundg (gk - 1)
            case measure => exact HR.out.1.2
            case rel =>
              obtain ⟨q1, q2, q3, q4, q5, q6⟩ := H14.out
              exact ⟨i + 1, S14, D14, by simp, HR.out.1.1, q1, q2, q3, q4, q5, q6⟩
          | false =>
            rw [hd] at hu14
            have hcr := crash_up w14 S14 d D14 hD14 hd (by rw [hP14.pend]; simp) (.slice ay ly cy) ly Li (HR.out.2.1.chg0 c14) (HM.out _ _ _ HR.out.2.1 S14 hn14)
            have a1 := c14.cell_some HR.out.2.2.2.2.2.2.2.1 (by simp)
            have H14 := Lib.hid (And.intro hP14 (And.intro hn14 (And.intro hSA14 (And.intro hSB14 c14))))
            clear hd hD14 hP14 hn14 hSA14 hSB14 c14
            go_wp2_with fail
            refine hu14.mono ?_
            rintro e w15 ⟨rfl, hw15⟩
            rw [hw15]
            clear hu14 hw15
            go_wp2_with fail
            refine hcr.mono ?_
            rintro e w16 ⟨rfl, S16, hD16, hU16⟩
            have H16 := Lib.hid (And.intro hD16 hU16)
            clear hcr hD16 hU16 a1 hi
            go_wp2_with fail
            go_roundg (gk - 1)
            case measure => exact HR.out.1.2
            case rel =>
              obtain ⟨q2, q3, q4, q5, q6⟩ := H14.out
              obtain ⟨hD16, hU16⟩ := H16.out
              exact ⟨i + 1, S16, _, by simp, HR.out.1.1, hD16, q2.crash Li, upd_new hU16 q3 q6.size, q4.upd hU16, q5.upd hU16, q6.trans hU16.chg (fun t ht => .inr (q3 t ht))⟩
        · have t0 : decide ((i : Int) < (NB : Int)) = false := by simp; omega
          have t0' : decide (i < NB) = false := by simp; omega
          obtain ⟨hik, hD, hP, hnew, hSA, hSB, cw⟩ := HJ.out
          have hca := crashAt_ok wr S d D hD 0 (by decide) (.slice none 0 0) 0 [] (Sees.nil _ _) (by decide)
          have HE := Lib.hid HJ.out
          clear hik hD hP hnew hSA hSB cw hi HJ
          go_wp2_with fail
          refine hca.mono ?_
          rintro e w11 ⟨rfl, hD11, hU11⟩
          have hrb := reboot_ok w11 S d _ hD11
          clear hca hD11
          go_wp2_with fail
          refine hrb.mono ?_
          rintro e w12 ⟨rfl, hD12, hU12⟩
          have hop := open_any w12 S d _ hD12 HA.out.1 ((HE.out.2.2.1.crashAt 0 []).reboot) (by decide) rfl
          have HU := Lib.hid (hU11.trans hU12)
          clear hrb hD12 hU11 hU12
          go_wp2_with fail
          refine hop.mono ?_
          rintro e w13 ⟨v1, v2, rfl, D13, X, S13, -, -, hU13, hcalm⟩
          obtain ⟨o, lo, bo, F', rfl, rfl, hFo, hIo, hvo⟩ := hcalm rfl
          obtain ⟨-, -, -, hnew, hSA, hSB, cw⟩ := HE.out
          have u13 := HU.out.trans hU13
          have c13 : Chg [] w w13 := cw.trans u13.chg (fun t ht => .inr (hnew t ht))
          have htk := taken_ok w13 S13 o d lo bo F' hFo hIo
          obtain ⟨NO, hNO⟩ : ∃ NO, (viewF F').length = NO := ⟨_, rfl⟩
          have H13 := Lib.hid (And.intro ((hSA.upd u13).sub (S' := []) (by simp)) (And.intro ((hSB.upd u13).sub (S' := []) (by simp)) (And.intro c13 (And.intro hIo (And.intro hvo hNO)))))
          clear hop hcalm hFo hIo hvo hnew hSA hSB cw u13 c13 hU13 hNO
          go_wp2_with fail
          refine htk.mono ?_
          rintro e w14 ⟨v14, rfl, hsh, c14⟩
          have hsh14 := hsh [] (fun _ h => absurd h (by simp))
          obtain ⟨an14, cn14, ab14, cb14, rfl⟩ := hsh14.cells H13.out.2.2.2.2.2
          have H14 := Lib.hid (And.intro hsh14 c14)
          clear htk hsh hsh14 c14
          go_upto_region 37 with (fail)
          obtain ⟨w15, hw15⟩ : ∃ w15, w14.alloc (.cells #[.slice an14 NO cn14, .slice ab14 NO cb14] 33) = w15 := ⟨_, rfl⟩
          obtain ⟨K15, hK15⟩ : ∃ K15, w14.heap.size = K15 := ⟨_, rfl⟩
          have h15 := shot_cell hw15 hK15
          rw [hw15, hK15]
          have hf15 := first_ok16 w15
          have H15 := Lib.hid h15
          clear hw15 hK15 h15
          go_wp2_with fail
          refine hf15.mono ?_
          rintro e w16 ⟨rfl, c16⟩
          have c1516 := H15.out.2.nil c16
          have c1316 := H14.out.2.nil c1516
          obtain ⟨⟨x0, x1⟩, -⟩ := (H15.out.1.chg0 c16).c2
          obtain ⟨⟨y0, y1⟩, -⟩ := (H13.out.2.1.chg0 c1316).blk.c2
          obtain ⟨⟨z0, z1⟩, -⟩ := (H13.out.1.chg0 c1316).blk.c2
          have hlo : (viewF F').length ≤ 1000000000 := by rw [viewF_len]; have := H13.out.2.2.2.1.files.few; omega
          have hl1 : (viewF H1).length ≤ 1000000000 := by rw [viewF_len]; have := H6.out.2.2.2.2.2.files.few; omega
          have hl0 : (viewF F).length ≤ 1000000000 := by rw [viewF_len]; have := HF.out.1.inv.files.few; omega
          have hA1 := alike_any w16 _ _ (viewF F') (viewF H1) (H14.out.1.chg c1516 (by simp)) (H13.out.2.1.chg0 c1316).shot hlo hl1
          have hA2 := fun w' (c : Chg [] w16 w') => alike_any w' _ _ (viewF F') (viewF F) (H14.out.1.chg (c1516.nil c) (by simp)) (H13.out.1.chg0 (c1316.nil c)).shot hlo hl0
          have C16 := Lib.hid (H13.out.2.2.1.nil c1316)
          clear hf15 c16 c1516 c1316 hlo hl1 hl0
          by_cases hvv : viewF F' = viewF H1
          · rw [decide_eq_true hvv] at hA1
            clear hA2 hvv z0 z1
            go_wp2_with fail
            refine hA1.mono ?_
            rintro e w17 ⟨rfl, c17⟩
            clear hA1 x0 x1 y0 y1
            go_wp2_with fail
            go_ret
            exact ⟨rfl, C16.out.nil c17⟩
          · have hv0 : viewF F' = viewF F := by
              rcases H13.out.2.2.2.2.1 with h1 | h1
              · exact h1.trans HA.out.2.2.2
              · exact absurd h1 hvv
            rw [decide_eq_false hvv] at hA1
            simp only [decide_eq_true hv0] at hA2
            clear hvv hv0
            go_wp2_with fail
            refine hA1.mono ?_
            rintro e w17 ⟨rfl, c17⟩
            have hA3 := hA2 w17 c17
            replace x0 := c17.cell_some x0 (by simp)
            replace x1 := c17.cell_some x1 (by simp)
            replace z0 := c17.cell_some z0 (by simp)
            replace z1 := c17.cell_some z1 (by simp)
            clear hA1 hA2 y0 y1
            go_wp2_with fail
            refine hA3.mono ?_
            rintro e w18 ⟨rfl, c18⟩
            clear hA3 x0 x1 z0 z1
            go_wp2_with fail
            go_ret
            exact ⟨rfl, (C16.out.nil c17).nil c18⟩
end Go.Proofs.YtgcmgcffndbpoaaGreatDoor
