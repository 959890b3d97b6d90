/- FzI, FzJ, FzK, FzL in one text. No statement of the seat is proved here. -/
import Derived.Test.YtgcmgcffndbpoaaGreatDoorFzDH
import Derived.Test.YtgcmgcffndbpoaaGreatDoorFzC
import Derived.Test.YtgcmgcffndbpoaaGreatDoorFyQS
import Derived.Test.YtgcmgcffndbpoaaGreatDoorFpB
set_option linter.unusedSimpArgs false
set_option linter.unusedVariables false
/- The sectors of the table that differ. No statement of the seat is proved here. -/
namespace Go.Aq.Fy
open Go.Aq
/-- The sectors that differ, up to i. -/
def difT (b m : Nat) (L L' : Files) (i : Nat) : Puts := ((List.range i).filter fun j => pieceT m L j ≠ pieceT m L' j).map fun j => (b + j, pieceT m L' j)
theorem difT_succ (b m : Nat) (L L' : Files) (i : Nat) : difT b m L L' (i + 1) = difT b m L L' i ++ if pieceT m L i = pieceT m L' i then [] else [(b + i, pieceT m L' i)] := by
  unfold difT
  rw [List.range_succ, List.filter_append, List.map_append]
  by_cases h : pieceT m L i = pieceT m L' i <;> simp [h]
theorem difT_all {b m : Nat} {L L' : Files} (h : (tableB L).length ≤ m * 256) (h' : (tableB L').length ≤ m * 256) : difT b m L L' m = differB b (sectorsB m L) (sectorsB m L') := by
  unfold difT differB
  rw [sectors_len h]
  have e1 : ∀ j ∈ List.range m, (decide (pieceT m L j ≠ pieceT m L' j)) = decide ((sectorsB m L).getD j [] ≠ (sectorsB m L').getD j []) := fun j hj => by
    rw [sectors_get h (List.mem_range.1 hj), sectors_get h' (List.mem_range.1 hj)]
  rw [List.filter_congr e1]
  refine List.map_congr_left fun j hj => ?_
  rw [sectors_get h' (List.mem_range.1 (List.mem_filter.1 hj).1)]
theorem difT_len (b m : Nat) (L L' : Files) (i : Nat) : (difT b m L L' i).length ≤ i := by
  unfold difT
  rw [List.length_map]
  exact Nat.le_trans (List.length_filter_le _ _) (by simp)
theorem lin5 {i k m : Nat} (h : i + k = m) (hi : i < m) : i + 1 + (k - 1) = m ∧ k - 1 < k := by omega
theorem lin6 {p i m : Nat} (h : p ≤ i) (hi : i < m) (hm : m ≤ 200) : (p + 1) * 32 ≤ 140737488355328 ∧ p + 1 ≤ 9223372036854775807 := by omega
end Go.Aq.Fy
namespace Go.Proofs.YtgcmgcffndbpoaaGreatDoor
open Go.RowKit Go.Aq Go.Aq.Fy Go.Maps
/-- A piece's bytes. -/
theorem piece_sees {w : World} {g m c : Nat} {L : Files} (h : Sees w 1 (.slice (some ⟨g, 0, none⟩) (256 * m) c) (256 * m) (Bs (tableB L ++ nul (m * 256 - (tableB L).length)))) {i : Nat} (hi : i < m) : Sees w 1 (pieceV g i) 256 (Bs (pieceT m L i)) := by
  obtain ⟨_, _, _, e, -, h1⟩ := h.part (256 * i) 256 (by decide) (by omega)
  simp only [Value.slice.injEq, Option.some.injEq, Addr.mk.injEq, and_true, true_and] at e
  obtain ⟨⟨rfl, rfl⟩, rfl⟩ := e
  rw [Nat.zero_add, ← Bs_drop, ← Bs_take] at h1
  exact h1.recap (Nat.le_refl _)
set_option maxRecDepth 100000 in
set_option maxHeartbeats 4000000 in
theorem differ_ok (w : World) (Sd X : List Nat) (f d l bf : Nat) (F : FsD) (h : FsR w Sd X f d l bf F) (h1 : 1 ≤ F.mt) (hn : F.files.length ≤ 400) (hL : ∀ p ∈ F.files, p.1.length ≤ 255 ∧ p.2.blocks.length ≤ 4096) (hz : ∀ p ∈ F.files, p.2.size < 4294967296 ∧ ∀ k ∈ p.2.blocks, k < 65536) (hfit : (tableB F.files).length ≤ F.mt * 256)
    (L' : Files) (hfit' : (tableB L').length ≤ F.mt * 256) (ao : Addr) (cap g' c' : Nat) (hv : Sees w 1 (.slice (some ao) F.mt cap) F.mt (pieces g' (List.range F.mt))) (hb : Sees w 1 (.slice (some ⟨g', 0, none⟩) (256 * F.mt) c') (256 * F.mt) (Bs (tableB L' ++ nul (F.mt * 256 - (tableB L').length)))) (S : List Nat) (hS : g' ∉ S) :
    Calls Tryz.prog 36 #[.pointer (some ⟨f, 0, none⟩), .slice (some ao) F.mt cap] w fun e w' => ∃ v xs, e = .returned v ∧ Fresh w w' 120 2 v ((diffF F L')).length xs ∧ PendR w' (v.ownBlock.toList ++ S) ((diffF F L')) xs := by
  obtain ⟨⟨c0, c1, c2, c3⟩, -⟩ := Blk.c4b h.blk
  have hsm := h.small
  have hsec := sectors_ok' w f F.mt _ _ _ h.blk h1 hsm.2.2.1 _ bf F.files h.files hn hL hz
  have hom := fun w' (c : Chg [] w w') => home_ok w' l d F.log (h.log.chg c (by simp)) (by have := h.small; omega)
  have hgl : g' < w.heap.size := hb.lt (by decide) g' (by simp [eyes]; omega)
  have hdif := difT_all (b := homeL F.log + 1) hfit hfit'
  obtain ⟨m, hm⟩ : ∃ m, F.mt = m := ⟨_, rfl⟩
  have hh4 : homeL F.log ≤ 4096 := by have := h.small; unfold homeL; omega
  obtain ⟨b, hb1⟩ : ∃ b, homeL F.log = b := ⟨_, rfl⟩
  rw [hm] at hsec hfit hfit' hv hb h1 hdif c2
  rw [hb1] at hom hdif hh4
  have HH := Lib.hid (And.intro hfit (And.intro hfit' (And.intro hv (And.intro hb (And.intro hS (And.intro hgl (And.intro (show m ≤ 200 by omega) (And.intro h1 (And.intro hh4 (show (diffF F L') = difT (b + 1) m F.files L' m by rw [hdif]; unfold diffF; rw [hm, hb1]))))))))))
  rw [hm]
  have hfl := Lib.hid h.blk.lt
  generalize F.files = L at *
  clear h h1 hn hL hz hfit hfit' hv hb hsm hgl hdif hm hb1 hS hh4 c0
  go_enter Tryz.func36, Tryz.ntmps36
  go_wp2_with fail
  refine hsec.mono ?_
  rintro e w1 ⟨cw, (⟨hno, -⟩ | ⟨-, ao1, cap1, g, cg, rfl, hO1, hao, hg, hB1⟩)⟩
  · have := HH.out.1; omega
  replace c1 := cw.cell_some c1 (by simp)
  have H1 := Lib.hid (And.intro cw (And.intro hO1 (And.intro hao (And.intro hg hB1))))
  clear hsec hO1 hao hg hB1 c2 c3
  go_wp2_with fail
  go_loopg [5, 6, 7, 15] m (fun k (v5 v6 v7 v15 : Value) wr => ∃ (i p : Nat) (xs : List Value), v15 = .int .i64 i ∧ wr.cell? ⟨f, 1, none⟩ = some (.pointer (some ⟨l, 0, none⟩)) ∧ Hid (i + k = m ∧ (difT (b + 1) m L L' i).length = p ∧ Fresh w1 wr 120 2 v5 p xs ∧ Chg [] w1 wr ∧ Hid True ∧ PendR wr (v5.ownBlock.toList ++ S) (difT (b + 1) m L L' i) xs))
  case atStart => exact ⟨0, 0, [], rfl, c1, Nat.zero_add _, rfl, Fresh.nil _ _ _, Chg.refl _ _, trivial, .nil⟩
  case round =>
    clear c1
    obtain ⟨i, p, xs, rfl, c1, HI⟩ := hrel
    by_cases hi : i < m
    · have t0 : decide ((i : Int) < (m : Int)) = true := by simp; omega
      have t0' : decide (i < m) = true := by simp; omega
      obtain ⟨hik, hp, hF, cy, -, hP⟩ := HI.out
      obtain ⟨a5, q5, rfl, -⟩ := hF.shape
      have hm2 := HH.out.2.2.2.2.2.2.1
      obtain ⟨gx, ox, cx, e, -, hcx⟩ := (H1.out.2.1.sees.chg0 cy).at1 (by omega)
      cases e
      obtain ⟨gy, oy, cyy, e, -, hcy⟩ := (HH.out.2.2.1.chg0 (H1.out.1.nil cy)).at1 (by omega)
      cases e
      have z0 := hcx i hi
      have z1 := hcy i hi
      have hpc : ∀ g, (pieces g (List.range m))[i]? = some (.slice (some ⟨g, 256 * i, none⟩) 256 256) := fun g => by simp [pieces, pieceV, hi]
      rw [hpc] at z0 z1
      have hs1 := piece_sees (H1.out.2.2.2.2.chg0 cy) hi
      have hs2 := piece_sees (HH.out.2.2.2.1.chg0 (H1.out.1.nil cy)) hi
      unfold pieceV at hs1 hs2
      obtain ⟨lo, hlo⟩ : ∃ lo, 256 * i = lo := ⟨_, rfl⟩
      rw [hlo] at z0 z1 hs1 hs2
      have heq := equal_any wr _ _ 256 256 _ _ hs1 hs2
      have e2 : wrap64 ((i : Int) + 1) = ((i + 1 : Nat) : Int) := by unfold wrap64; omega
      have e2w := wIq e2
      have e3 : wrap64 ((b : Int) + 1) = (b : Int) + 1 := by have := HH.out.2.2.2.2.2.2.2.2.1; unfold wrap64; omega
      have e3w := wIq e3
      have e4 : wrap64 ((b : Int) + 1 + (i : Int)) = (b : Int) + 1 + (i : Int) := by have := HH.out.2.2.2.2.2.2.2.2.1; unfold wrap64; omega
      have e4w := wIq e4
      have hl6 := lin6 (hp ▸ difT_len (b + 1) m L L' i) hi hm2
      have HR := Lib.hid (And.intro (lin5 hik hi) (And.intro hp (And.intro hF (And.intro cy (And.intro hP (And.intro hs2 hlo))))))
      have hh := hom wr (H1.out.1.nil cy)
      obtain ⟨q, hq⟩ : ∃ q, decide (pieceT m L i = pieceT m L' i) = q := ⟨_, rfl⟩
      rw [hq] at heq
      have HQ := Lib.hid hq
      clear hik hp hF cy hP hcx hcy hpc hs1 hs2 hlo hq hm2
      cases q with
      | true =>
        clear hl6 e3 e3w e4 e4w
        go_wp2_with fail
        refine heq.mono ?_
        rintro e w2 ⟨rfl, hw2⟩
        obtain rfl : wr = w2 := hw2.symm
        go_wp2_with fail
        go_roundg (gk - 1)
        case measure => exact HR.out.1.2
        case rel =>
          have e5 : difT (b + 1) m L L' (i + 1) = difT (b + 1) m L L' i := by rw [difT_succ, if_pos (of_decide_eq_true HQ.out), List.append_nil]
          exact ⟨i + 1, p, xs, by simp, c1, HR.out.1.1, by rw [e5]; exact HR.out.2.1, HR.out.2.2.1, HR.out.2.2.2.1, trivial, by rw [e5]; exact HR.out.2.2.2.2.1⟩
      | false =>
        go_wp2_with fail
        refine heq.mono ?_
        rintro e w2 ⟨rfl, hw2⟩
        obtain rfl : wr = w2 := hw2.symm
        clear heq
        go_upto_region 6 with (fail)
        obtain ⟨W0, hW0⟩ : ∃ W0, wr.drew = W0 := ⟨_, rfl⟩
        have cd : Chg [] wr W0 := by rw [← hW0]; exact (Chg.refl _ _).drew
        refine wp_region_U (Value.slice a5 p q5).ownBlock.toList (fun _ => false) (by kernel_rfl) ?_
        rw [hW0]
        clear hW0
        have C0 : Chg (Value.slice a5 p q5).ownBlock.toList W0 W0 := Chg.refl _ _
        have hfo : f ∉ (Value.slice a5 p q5).ownBlock.toList := fun hh => by have h1 := HR.out.2.2.1.new f hh; have h2 := hfl.out; have h3 := H1.out.1.size; omega
        have hgyo : gy ∉ (Value.slice a5 p q5).ownBlock.toList := fun hh => by have h1 := HR.out.2.2.1.new gy hh; have h2 : gy < w.heap.size := (HH.out.2.2.1.lt (by decide)) gy (by simp [eyes]; omega); have h3 := H1.out.1.size; omega
        have c1' := cd.cell_some c1 (by simp)
        have z1' := cd.cell_some z1 (by simp)
        refine wpAnyU_take 0 (v := (.slice a5 p q5)) C0 rfl (by kernel_rfl) (by kernel_rfl) (by kernel_rfl) (by kernel_rfl) (fun _ _ _ h => h) (by rfl) (fun w4 c4 => ?_) ?_
        · go_simp
        try simp only [Act.put, List.getElem_toArray, List.getElem_cons_succ, List.getElem_cons_zero, List.setIfInBounds_toArray, List.set_cons_zero, List.set_cons_succ]
        refine wpAnyU_take 1 (v := (.pointer (some ⟨f, 0, none⟩))) C0 rfl (by kernel_rfl) (by kernel_rfl) (by kernel_rfl) (by kernel_rfl) (fun _ _ _ h => h) (by rfl) (fun w4 c4 => ?_) ?_
        · go_simp
        try simp only [Act.put, List.getElem_toArray, List.getElem_cons_succ, List.getElem_cons_zero, List.setIfInBounds_toArray, List.set_cons_zero, List.set_cons_succ]
        refine wpAnyU_take 2 (v := (.pointer (some ⟨f, 0, none⟩))) C0 rfl (by kernel_rfl) (by kernel_rfl) (by kernel_rfl) (by kernel_rfl) (fun _ _ _ h => h) (by rfl) (fun w4 c4 => ?_) ?_
        · go_simp
        try simp only [Act.put, List.getElem_toArray, List.getElem_cons_succ, List.getElem_cons_zero, List.setIfInBounds_toArray, List.set_cons_zero, List.set_cons_succ]
        refine wpAnyU_take 3 (v := (.pointer (some ⟨f, 1, none⟩))) C0 rfl (by kernel_rfl) (by kernel_rfl) (by kernel_rfl) (by kernel_rfl) (fun _ _ _ h => h) (by rfl) (fun w4 c4 => ?_) ?_
        · go_simp
        try simp only [Act.put, List.getElem_toArray, List.getElem_cons_succ, List.getElem_cons_zero, List.setIfInBounds_toArray, List.set_cons_zero, List.set_cons_succ]
        refine wpAnyU_take 4 (v := (.pointer (some ⟨l, 0, none⟩))) C0 rfl (by kernel_rfl) (by kernel_rfl) (by kernel_rfl) (by kernel_rfl) (fun _ _ _ h => h) (by rfl) (fun w4 c4 => ?_) ?_
        · have z := c4.cell_some c1' hfo
          go_simp
        try simp only [Act.put, List.getElem_toArray, List.getElem_cons_succ, List.getElem_cons_zero, List.setIfInBounds_toArray, List.set_cons_zero, List.set_cons_succ]
        refine wpAnyU_take 7 (v := (.int .i64 i)) C0 rfl (by kernel_rfl) (by kernel_rfl) (by kernel_rfl) (by kernel_rfl) (fun _ _ _ h => h) (by rfl) (fun w4 c4 => ?_) ?_
        · go_simp
        try simp only [Act.put, List.getElem_toArray, List.getElem_cons_succ, List.getElem_cons_zero, List.setIfInBounds_toArray, List.set_cons_zero, List.set_cons_succ]
        refine wpAnyU_take 9 (v := (.slice (some ⟨gy, oy, none⟩) m cap)) C0 rfl (by kernel_rfl) (by kernel_rfl) (by kernel_rfl) (by kernel_rfl) (fun _ _ _ h => h) (by rfl) (fun w4 c4 => ?_) ?_
        · go_simp
        try simp only [Act.put, List.getElem_toArray, List.getElem_cons_succ, List.getElem_cons_zero, List.setIfInBounds_toArray, List.set_cons_zero, List.set_cons_succ]
        refine wpAnyU_take 10 (v := (.int .i64 i)) C0 rfl (by kernel_rfl) (by kernel_rfl) (by kernel_rfl) (by kernel_rfl) (fun _ _ _ h => h) (by rfl) (fun w4 c4 => ?_) ?_
        · go_simp
        try simp only [Act.put, List.getElem_toArray, List.getElem_cons_succ, List.getElem_cons_zero, List.setIfInBounds_toArray, List.set_cons_zero, List.set_cons_succ]
        refine wpAnyU_take 11 (v := (.pointer (some ⟨gy, oy + i, none⟩))) C0 rfl (by kernel_rfl) (by kernel_rfl) (by kernel_rfl) (by kernel_rfl) (fun _ _ _ h => h) (by rfl) (fun w4 c4 => ?_) ?_
        · go_simp
        try simp only [Act.put, List.getElem_toArray, List.getElem_cons_succ, List.getElem_cons_zero, List.setIfInBounds_toArray, List.set_cons_zero, List.set_cons_succ]
        refine wpAnyU_take 12 (v := (.slice (some ⟨g', lo, none⟩) 256 256)) C0 rfl (by kernel_rfl) (by kernel_rfl) (by kernel_rfl) (by kernel_rfl) (fun _ _ _ h => h) (by rfl) (fun w4 c4 => ?_) ?_
        · have z := c4.cell_some z1' hgyo
          go_simp
        try simp only [Act.put, List.getElem_toArray, List.getElem_cons_succ, List.getElem_cons_zero, List.setIfInBounds_toArray, List.set_cons_zero, List.set_cons_succ]
        refine wpAnyU_only 5 rfl (by kernel_rfl) (by rfl) (by rfl) ?_
        go_simp
        refine (hom W0 ((H1.out.1.nil HR.out.2.2.2.1).nil cd)).mono ?_
        rintro e w1' ⟨rfl, hw1'⟩
        obtain rfl : W0 = w1' := hw1'.symm
        refine ⟨C0, ?_⟩
        try simp only [Act.put, List.getElem_toArray, List.getElem_cons_succ, List.getElem_cons_zero, List.setIfInBounds_toArray, List.set_cons_zero, List.set_cons_succ]
        refine wpAnyU_take 6 (v := (.int .i64 ((b + 1 : Nat) : Int))) C0 rfl (by kernel_rfl) (by kernel_rfl) (by kernel_rfl) (by kernel_rfl) (fun _ _ _ h => h) (by rfl) (fun w4 c4 => ?_) ?_
        · go_simp
        try simp only [Act.put, List.getElem_toArray, List.getElem_cons_succ, List.getElem_cons_zero, List.setIfInBounds_toArray, List.set_cons_zero, List.set_cons_succ]
        refine wpAnyU_take 8 (v := (.int .i64 ((b + 1 + i : Nat) : Int))) C0 rfl (by kernel_rfl) (by kernel_rfl) (by kernel_rfl) (by kernel_rfl) (fun _ _ _ h => h) (by rfl) (fun w4 c4 => ?_) ?_
        · go_simp
        try simp only [Act.put, List.getElem_toArray, List.getElem_cons_succ, List.getElem_cons_zero, List.setIfInBounds_toArray, List.set_cons_zero, List.set_cons_succ]
        refine wpAnyU_take 13 (v := (.agg #[.int .i64 ((b + 1 + i : Nat) : Int), .slice (some ⟨g', lo, none⟩) 256 256])) C0 rfl (by kernel_rfl) (by kernel_rfl) (by kernel_rfl) (by kernel_rfl) (fun _ _ _ h => h) (by rfl) (fun w4 c4 => ?_) ?_
        · go_simp
        try simp only [Act.put, List.getElem_toArray, List.getElem_cons_succ, List.getElem_cons_zero, List.setIfInBounds_toArray, List.set_cons_zero, List.set_cons_succ]
        refine wpAnyU_only 14 rfl (by kernel_rfl) (by rfl) (by rfl) ?_
        go_simp
        have hca : Chg [] W0 (W0.alloc (.cells #[.int .i64 ((b + 1 + i : Nat) : Int), .slice (some ⟨g', lo, none⟩) 256 256] 120)) := (Chg.refl [] _).alloc _
        have hbx' : Blk (W0.alloc (.cells #[.int .i64 ((b + 1 + i : Nat) : Int), .slice (some ⟨g', lo, none⟩) 256 256] 120)) W0.heap.size #[.int .i64 ((b + 1 + i : Nat) : Int), .slice (some ⟨g', lo, none⟩) 256 256] 120 := Blk.new _ _ _
        have hsrc : Sees (W0.alloc (.cells #[.int .i64 ((b + 1 + i : Nat) : Int), .slice (some ⟨g', lo, none⟩) 256 256] 120)) 2 (.slice (some ⟨W0.heap.size, 0, none⟩) 1 1) 1 [.int .i64 ((b + 1 + i : Nat) : Int), .slice (some ⟨g', lo, none⟩) 256 256] := Sees.blk hbx'
        refine ⟨hca.toS, ?_⟩
        try simp only [Act.put, List.getElem_toArray, List.getElem_cons_succ, List.getElem_cons_zero, List.setIfInBounds_toArray, List.set_cons_zero, List.set_cons_succ]
        have cA : Chg [] wr (W0.alloc (.cells #[.int .i64 ((b + 1 + i : Nat) : Int), .slice (some ⟨g', lo, none⟩) 256 256] 120)) := cd.nil hca
        have hFa := HR.out.2.2.1.to cA
        refine wpAnyU_only 15 rfl (by kernel_rfl) (by rfl) (by rfl) ?_
        refine wp_app _ _ 80 rfl sl_put hFa.own rfl hsrc rfl (by intro u hu; simp at hu; rcases hu with rfl | rfl <;> rfl) hl6.1 hl6.2 ?_
        intro v8 w8 ho8 c8 hn8
        have hF8 := hFa.app ho8 c8 hn8
        have cW8 := hca.toS.tr c8
        refine ⟨cW8, ?_⟩
        try simp only [Act.put, List.getElem_toArray, List.getElem_cons_succ, List.getElem_cons_zero, List.setIfInBounds_toArray, List.set_cons_zero, List.set_cons_succ]
        refine wpAnyU_take 16 (v := v8) cW8 rfl (by kernel_rfl) (by kernel_rfl) (by kernel_rfl) (by kernel_rfl) (fun _ _ _ h => h) (by rfl) (fun w4 c4 => ?_) ?_
        · go_simp
        try simp only [Act.put, List.getElem_toArray, List.getElem_cons_succ, List.getElem_cons_zero, List.setIfInBounds_toArray, List.set_cons_zero, List.set_cons_succ]
        refine wpAnyU_done (by kernel_rfl) ?_ _
        have c1n := cW8.cell_some c1' hfo
        have HZ := Lib.hid (And.intro hF8 (And.intro cA (And.intro c8 hn8)))
        clear hF8 c8 hn8 ho8 cW8 hFa cA hsrc hbx' hca C0 cd c1' z1' hfo hgyo e3 e3w e4 e4w hl6 z0 z1 c1
        go_wp2_with fail
        go_roundg (gk - 1)
        case measure => exact HR.out.1.2
        case rel =>
          obtain ⟨hF8, cA, c8, hn8⟩ := HZ.out
          have e5 : difT (b + 1) m L L' (i + 1) = difT (b + 1) m L L' i ++ [(b + 1 + i, pieceT m L' i)] := by rw [difT_succ, if_neg (of_decide_eq_false HQ.out)]
          have hw1 := (H1.out.1.nil HR.out.2.2.1.chg).size
          have hs3 := cA.size
          have g69 : ∀ t ∈ (Value.slice a5 p q5).ownBlock.toList, g' ≠ t := fun t ht e => by have h1 := HR.out.2.2.1.new t ht; have h2 := HH.out.2.2.2.2.2.1; have h3 := H1.out.1.size; omega
          have hu : Upd ((Value.slice a5 p q5).ownBlock.toList ++ S) (v8.ownBlock.toList ++ S) wr w8 := ⟨(cA.toS.tr c8).mono (fun k hk => .inl (by simp [hk])), fun k hk => by
            rcases List.mem_append.1 hk with hk | hk
            · rcases hn8 k hk with h1 | h1
              · exact .inl (by simp [h1])
              · exact .inr (Nat.le_trans hs3 h1)
            · exact .inl (by simp [hk])⟩
          have hsv : SecV w8 (v8.ownBlock.toList ++ S) (.slice (some ⟨g', lo, none⟩) 256 256) (pieceT m L' i) := by
            have hey : eyes (.slice (some ⟨g', lo, none⟩) 256 256) = [g'] := rfl
            refine ⟨(HR.out.2.2.2.2.2.1.chg0 cA).chg c8 (fun t ht ht' => ?_), fun t ht ht' => ?_⟩
            · rw [hey, List.mem_singleton] at ht; exact g69 t ht' ht.symm
            · rw [hey, List.mem_singleton] at ht
              subst ht
              rcases List.mem_append.1 ht' with h2 | h2
              · rcases hn8 t h2 with h3 | h3
                · exact g69 t h3 rfl
                · exact absurd (Nat.le_trans (Nat.le_trans hw1 hs3) h3) (Nat.not_le.2 HH.out.2.2.2.2.2.1)
              · exact HH.out.2.2.2.2.1 h2
          refine ⟨i + 1, p + 1, xs ++ [.int .i64 ((b + 1 + i : Nat) : Int), .slice (some ⟨g', lo, none⟩) 256 256], by simp, c1n, HR.out.1.1, by rw [e5, List.length_append, HR.out.2.1]; rfl, hF8, ?_, trivial, ?_⟩
          · exact hF8.chg
          · rw [e5]
            exact PendR.snoc hsv (HR.out.2.2.2.2.1.upd hu)
    · have t0 : decide ((i : Int) < (m : Int)) = false := by simp; omega
      have t0' : decide (i < m) = false := by simp; omega
      have him : i = m := by have := HI.out.1; omega
      have HQ := Lib.hid him
      clear him hi
      obtain ⟨a5, q5, rfl, -⟩ := HI.out.2.2.1.shape
      go_wp2_with fail
      go_ret
      obtain ⟨hik, hp, hF, cy, -, hP⟩ := HI.out
      refine ⟨.slice a5 p q5, xs, rfl, ?_, ?_⟩
      · have e := HQ.out
        subst e
        rw [HH.out.2.2.2.2.2.2.2.2.2, hp]; exact hF.back H1.out.1
      · have e := HQ.out
        subst e
        rw [HH.out.2.2.2.2.2.2.2.2.2]; exact hP
end Go.Proofs.YtgcmgcffndbpoaaGreatDoor

/- Blocks and a table's change written. No statement of the seat is proved here. -/
namespace Go.Proofs.YtgcmgcffndbpoaaGreatDoor
open Go.RowKit Go.Aq Go.Aq.Fy Go.Maps
set_option maxRecDepth 100000 in
set_option maxHeartbeats 4000000 in
theorem fwrite_ok (w : World) (S : List Nat) (f mt bf l p : Nat) (D : DiskD) (L : LogD) (hF : Blk w f #[.pointer (some ⟨p, 0, none⟩), .pointer (some ⟨l, 0, none⟩), .int .i64 mt, .map (some bf)] 75) (hf : f ∉ S ∧ f ≠ l) (h : DiskR w S p D) (hL : LogR w l p L) (hl : l ∉ S) (hd : D.down = false)
    (B : Puts) (hp : D.pend.length + B.length ≤ 500000) (hk : ∀ q ∈ B, q.1 < D.n) (v : Value) (xs : List Value) (hs : Sees w 2 v B.length xs) (hx : PendR w S B xs) (ho : Disj (eyes v) S)
    (h0 : 0 < L.ring) (hr : L.ring + 4 ≤ D.n) (hpos : L.pos < 65536) (hq : L.seq < 281474976710655)
    (P : Puts) (n : Nat) (hn : P.length = n) (v2 : Value) (xs2 : List Value) (hv2 : Sees w 2 v2 n xs2) (hx2 : PendR w S P xs2) (ho2 : Disj (eyes v2) S) (hb : n ≤ 10000) (hh : ∀ q ∈ P, atHome D L q.1 = true) (hnd : (P.map (·.1)).Nodup) (hneed : need n ≤ L.ring) :
    Calls Tryz.prog 39 #[.pointer (some ⟨f, 0, none⟩), v, v2] w (CommitEnd w S l p (runP D ((if B = [] then [] else [B]) ++ commitP L P)) L (if P = [] then L else nextL L n)) := by
  obtain ⟨m, hm⟩ : ∃ m, B.length = m := ⟨_, rfl⟩
  obtain ⟨RR, hRR⟩ : ∃ RR, runP D ((if B = [] then [] else [B]) ++ commitP L P) = RR := ⟨_, rfl⟩
  obtain ⟨LN, hLN⟩ : ∃ LN, (if P = [] then L else nextL L n) = LN := ⟨_, rfl⟩
  rw [hRR, hLN]
  have HR2 := Lib.hid (And.intro hRR hLN)
  clear hRR hLN
  rw [hm] at hs hp
  obtain ⟨ao, cap, rfl, -⟩ := hs.shape
  obtain ⟨ao2, cap2, rfl, -⟩ := hv2.shape
  have hfl := hF.lt
  have hll := Blk.lt hL
  obtain ⟨⟨c0, c1, -, -⟩, -⟩ := Blk.c4b hF
  have HM := Lib.hid hm
  have HS := Lib.hid (And.intro hs (And.intro hx ho))
  have HK := Lib.hid hk
  have HB := Lib.hid hp
  have HH := Lib.hid (And.intro h hd)
  have HL := Lib.hid (And.intro hL (And.intro hl (And.intro h0 (And.intro hr (And.intro hpos (And.intro hq (And.intro hn (And.intro hv2 (And.intro hx2 (And.intro ho2 (And.intro hb (And.intro hh (And.intro hnd (And.intro hneed (And.intro hf (And.intro hfl (And.intro hll hF)))))))))))))))))
  clear hm hs hx ho hk hp h hd hL hl h0 hr hpos hq hn hv2 hx2 ho2 hb hh hnd hneed hf hfl hll hF
  have hoff : ∀ (wr : World) (S' : List Nat), Upd S S' w wr → f ∉ S' ∧ l ∉ S' := fun wr S' hU => by
    refine ⟨fun hh => ?_, fun hh => ?_⟩
    · rcases hU.new f hh with h1 | h1
      · exact HL.out.2.2.2.2.2.2.2.2.2.2.2.2.2.2.1.1 h1
      · have := HL.out.2.2.2.2.2.2.2.2.2.2.2.2.2.2.2.1; omega
    · rcases hU.new l hh with h1 | h1
      · exact HL.out.2.1 h1
      · have := HL.out.2.2.2.2.2.2.2.2.2.2.2.2.2.2.2.2.1; omega
  have HO := Lib.hid hoff
  clear hoff
  -- the log's part, behind the blocks
  have fin : ∀ (wr : World) (S' : List Nat) (Di : DiskD), DiskR wr S' p Di → Upd S S' w wr → Di.down = false → Di.n = D.n → Di.pend.length ≤ 600000 → RR = runP Di (commitP L P) →
      Calls Tryz.prog 72 #[.pointer (some ⟨l, 0, none⟩), .slice ao2 n cap2] wr (fun e w' => CommitEnd w S l p RR L LN e w') := by
    intro wr S' Di hR hU hdn hDn hpn he
    obtain ⟨hL, hl, h0, hr, hpos, hq, hn, hv2, hx2, ho2, hb, hh, hnd, hneed, -, -, -, -⟩ := HL.out
    have hc := commit_ok wr S' l p Di L hR (hL.chg hU.chg hl) (HO.out _ _ hU).2 hdn hpn h0 (by rw [hDn]; exact hr) hpos hq P n hn (.slice ao2 n cap2) xs2 (hv2.chg hU.chg ho2) (hx2.upd hU) (ho2.upd hU (hv2.lt (by decide))) hb (fun q hq => by have := hh q hq; unfold atHome at this ⊢; rw [hDn]; exact this) hnd hneed
    rw [HR2.out.2] at hc
    rw [he]
    refine hc.mono ?_
    rintro e w' ⟨rfl, S2, k1, k2, k3, k4⟩
    refine ⟨rfl, S2, k1, k2, k3, ?_⟩
    refine Upd.trans ⟨hU.chg.mono (fun k hk => .inl (by simp [hk])), fun k hk => ?_⟩ k4
    rcases List.mem_cons.1 hk with rfl | hk
    · simp
    · rcases hU.new k hk with h1 | h1
      · simp [h1]
      · exact .inr h1
  have FIN := Lib.hid fin
  clear fin
  go_enter Tryz.func39, Tryz.ntmps39
  go_wp2_with fail
  go_loopg [8, 9, 13] m (fun k (v8 v9 v13 : Value) wr => ∃ (i : Nat) (S' : List Nat) (Di : DiskD), v13 = .int .i64 (i : Int) ∧ wr.cell? ⟨f, 0, none⟩ = some (.pointer (some ⟨p, 0, none⟩)) ∧ wr.cell? ⟨f, 1, none⟩ = some (.pointer (some ⟨l, 0, none⟩)) ∧ Hid (i ≤ m ∧ k = m - i ∧ DiskR wr S' p Di ∧ Upd S S' w wr ∧ Di.down = false ∧ Di.n = D.n ∧ Di.pend.length ≤ D.pend.length + i ∧ eachD D B = eachD Di (B.drop i) ∧ (i = 0 → Di = D)))
  case atStart => exact ⟨0, S, D, rfl, c0, c1, Nat.zero_le _, (Nat.sub_zero _).symm, HH.out.1, Upd.refl _ _, HH.out.2, rfl, Nat.le_refl _, rfl, fun _ => rfl⟩
  case round =>
    clear c0 c1
    obtain ⟨i, S', Di, rfl, c0, c1, HI⟩ := hrel
    by_cases him : i < m
    · obtain ⟨hi, hk1, hR, hU, hI1, hI2, hI3, hI4, -⟩ := HI.out
      have t1 : decide ((i : Int) < (m : Int)) = true := decide_eq_true (by omega)
      have t1' : decide (i < m) = true := decide_eq_true him
      have him' : i < B.length := by rw [HM.out]; exact him
      have hpd : PendR wr S' B xs := HS.out.2.1.upd hU
      have hsw : Sees wr 2 (.slice ao m cap) m xs := HS.out.1.chg hU.chg HS.out.2.2
      obtain ⟨g', off', cap', a5, q5, e1, hmc, x0, x1, hsv⟩ := hpd.cells hsw HM.out him'
      injection e1 with e1 _ e2
      subst e1 e2
      have hkn : (B[i]).1 < Di.n := by rw [hI2]; exact HK.out _ (List.getElem_mem him')
      have hdrop : B.drop i = B[i] :: B.drop (i + 1) := List.drop_eq_getElem_cons him'
      generalize B[i] = pt at *
      obtain ⟨pk, pb⟩ := pt
      simp only at x0 hsv hkn
      obtain ⟨wA, hwA⟩ : ∃ wA, wr.alloc (.cells #[.int .i64 pk, .slice a5 256 q5] 120) = wA := ⟨_, rfl⟩
      obtain ⟨K, hK⟩ : ∃ K, wr.heap.size = K := ⟨_, rfl⟩
      have hca : Chg [] wr wA := by rw [← hwA]; exact (Chg.refl [] wr).alloc _
      have hbx : Blk wA K #[.int .i64 pk, .slice a5 256 q5] 120 := by rw [← hwA, ← hK]; exact Blk.new _ _ _
      obtain ⟨⟨z0, z1⟩, -⟩ := hbx.c2
      have hwr := fun w' (c : Chg [] wA w') => write_ok w' S' p Di pk pb (.slice a5 256 q5) ((hR.chg hca).chg c) hI1 hkn (by have := HB.out; omega) ((hsv.chg hca (by simp)).chg c (by simp))
      have hwd := writeD_put hI1 hkn hsv.len
      have hstep : eachD Di (B.drop i) = if (putD Di pk pb).2 = 0 then eachD (putD Di pk pb).1 (B.drop (i + 1)) else putD Di pk pb := by
        rw [hdrop]; simp only [eachD, hwd]
      have hcode := putD_code Di pk pb
      have hpn := putD_n Di pk pb
      have hpp := putD_pend Di pk pb
      have e2 : wrap64 ((i : Int) + 1) = ((i + 1 : Nat) : Int) := by have := HB.out; unfold wrap64; omega
      have e2w := wIq e2
      have hKS : K ∉ S' := fun hh => by have := hR.lt K hh; omega
      have hoo := HO.out _ _ hU
      have HQ := Lib.hid (And.intro hk1 (And.intro hstep (And.intro (hU.nil hca) (And.intro hpn (And.intro hpp (And.intro hI1 (And.intro hI2 (And.intro hI3 (And.intro hI4 (And.intro hoo (And.intro hKS him)))))))))))
      clear hk1 hstep hpn hpp hpd hsw hmc hsv hkn hdrop hwd hR hU hI1 hI2 hI3 hI4 hoo hKS hi him' hbx
      generalize putD Di pk pb = R at *
      obtain ⟨D2, e2'⟩ := R
      simp only at hcode hwr
      go_upto_region 4 with (fail)
      replace c0 := hca.cell_some c0 (by simp)
      replace c1 := hca.cell_some c1 (by simp)
      clear hwA hK hca x0 x1
      obtain ⟨W0, hW0⟩ : ∃ W0, wA.drew = W0 := ⟨_, rfl⟩
      have cd : Chg [] wA W0 := by rw [← hW0]; exact (Chg.refl _ _).drew
      refine wp_region_U S' (fun _ => false) (by kernel_rfl) ?_
      rw [hW0]
      clear hW0
      have C0 : Chg S' W0 W0 := Chg.refl _ _
      have hfo := HQ.out.2.2.2.2.2.2.2.2.2.1.1
      have hKS := HQ.out.2.2.2.2.2.2.2.2.2.2.1
      have c0' := cd.cell_some c0 (by simp)
      have c1' := cd.cell_some c1 (by simp)
      have z0' := cd.cell_some z0 (by simp)
      have z1' := cd.cell_some z1 (by simp)
      clear c0 c1 z0 z1
      refine wpAnyU_take 0 (v := (.pointer (some ⟨f, 0, none⟩))) C0 rfl (by kernel_rfl) (by kernel_rfl) (by kernel_rfl) (by kernel_rfl) (fun _ _ _ h => h) (by rfl) (fun w4 c4 => ?_) ?_
      · go_simp
      try simp only [Act.put, List.getElem_toArray, List.getElem_cons_succ, List.getElem_cons_zero, List.setIfInBounds_toArray, List.set_cons_zero, List.set_cons_succ]
      refine wpAnyU_take 1 (v := (.pointer (some ⟨f, 0, none⟩))) C0 rfl (by kernel_rfl) (by kernel_rfl) (by kernel_rfl) (by kernel_rfl) (fun _ _ _ h => h) (by rfl) (fun w4 c4 => ?_) ?_
      · go_simp
      try simp only [Act.put, List.getElem_toArray, List.getElem_cons_succ, List.getElem_cons_zero, List.setIfInBounds_toArray, List.set_cons_zero, List.set_cons_succ]
      refine wpAnyU_take 2 (v := (.pointer (some ⟨f, 0, none⟩))) C0 rfl (by kernel_rfl) (by kernel_rfl) (by kernel_rfl) (by kernel_rfl) (fun _ _ _ h => h) (by rfl) (fun w4 c4 => ?_) ?_
      · go_simp
      try simp only [Act.put, List.getElem_toArray, List.getElem_cons_succ, List.getElem_cons_zero, List.setIfInBounds_toArray, List.set_cons_zero, List.set_cons_succ]
      refine wpAnyU_take 3 (v := (.pointer (some ⟨p, 0, none⟩))) C0 rfl (by kernel_rfl) (by kernel_rfl) (by kernel_rfl) (by kernel_rfl) (fun _ _ _ h => h) (by rfl) (fun w4 c4 => ?_) ?_
      · have z := c4.cell_some c0' hfo
        go_simp
      try simp only [Act.put, List.getElem_toArray, List.getElem_cons_succ, List.getElem_cons_zero, List.setIfInBounds_toArray, List.set_cons_zero, List.set_cons_succ]
      refine wpAnyU_take 4 (v := (.pointer (some ⟨K, 0, none⟩))) C0 rfl (by kernel_rfl) (by kernel_rfl) (by kernel_rfl) (by kernel_rfl) (fun _ _ _ h => h) (by rfl) (fun w4 c4 => ?_) ?_
      · go_simp
      try simp only [Act.put, List.getElem_toArray, List.getElem_cons_succ, List.getElem_cons_zero, List.setIfInBounds_toArray, List.set_cons_zero, List.set_cons_succ]
      refine wpAnyU_take 5 (v := (.int .i64 pk)) C0 rfl (by kernel_rfl) (by kernel_rfl) (by kernel_rfl) (by kernel_rfl) (fun _ _ _ h => h) (by rfl) (fun w4 c4 => ?_) ?_
      · have z := c4.cell_some z0' hKS
        go_simp
      try simp only [Act.put, List.getElem_toArray, List.getElem_cons_succ, List.getElem_cons_zero, List.setIfInBounds_toArray, List.set_cons_zero, List.set_cons_succ]
      refine wpAnyU_take 6 (v := (.pointer (some ⟨K, 1, none⟩))) C0 rfl (by kernel_rfl) (by kernel_rfl) (by kernel_rfl) (by kernel_rfl) (fun _ _ _ h => h) (by rfl) (fun w4 c4 => ?_) ?_
      · go_simp
      try simp only [Act.put, List.getElem_toArray, List.getElem_cons_succ, List.getElem_cons_zero, List.setIfInBounds_toArray, List.set_cons_zero, List.set_cons_succ]
      refine wpAnyU_take 7 (v := (.slice a5 256 q5)) C0 rfl (by kernel_rfl) (by kernel_rfl) (by kernel_rfl) (by kernel_rfl) (fun _ _ _ h => h) (by rfl) (fun w4 c4 => ?_) ?_
      · have z := c4.cell_some z1' hKS
        go_simp
      try simp only [Act.put, List.getElem_toArray, List.getElem_cons_succ, List.getElem_cons_zero, List.setIfInBounds_toArray, List.set_cons_zero, List.set_cons_succ]
      refine wpAnyU_only 8 rfl (by kernel_rfl) (by rfl) (by rfl) ?_
      go_simp
      refine (hwr W0 cd).mono ?_
      rintro e w2 ⟨rfl, S2, hR2, hU2⟩
      refine ⟨hU2.chg, ?_⟩
      try simp only [Act.put, List.getElem_toArray, List.getElem_cons_succ, List.getElem_cons_zero, List.setIfInBounds_toArray, List.set_cons_zero, List.set_cons_succ]
      clear hwr
      refine wpAnyU_take 9 (v := (.int .i64 e2')) hU2.chg rfl (by kernel_rfl) (by kernel_rfl) (by kernel_rfl) (by kernel_rfl) (fun _ _ _ h => h) (by rfl) (fun w4 c4 => ?_) ?_
      · go_simp
      try simp only [Act.put, List.getElem_toArray, List.getElem_cons_succ, List.getElem_cons_zero, List.setIfInBounds_toArray, List.set_cons_zero, List.set_cons_succ]
      refine wpAnyU_done (by kernel_rfl) ?_ _
      have c0 := hU2.chg.cell_some c0' hfo
      have c1 := hU2.chg.cell_some c1' hfo
      have HU := Lib.hid (And.intro hR2 ((HQ.out.2.2.1.nil cd).trans hU2))
      clear hR2 hU2 C0 c0' c1' z0' z1' cd hfo hKS
      rcases hcode with ⟨rfl, hdn⟩ | rfl
      · have HD2 := Lib.hid hdn
        clear hdn
        go_wp2_with fail
        go_roundg (gk - 1)
        case measure => have h1 := HQ.out.1; have h2 := HQ.out.2.2.2.2.2.2.2.2.2.2.2; omega
        case rel =>
          obtain ⟨q1, q2, q3, q4, q5, q6, q7, q8, q9, -, -, q10⟩ := HQ.out
          refine ⟨i + 1, S2, D2, by simp, c0, c1, q10, by omega, HU.out.1, HU.out.2, by rw [HD2.out]; exact q6, by rw [q4]; exact q7, by omega, by rw [q9, q2]; simp, fun h => by omega⟩
      · go_wp2_with fail
        go_ret
        obtain ⟨q1, q2, q3, q4, q5, q6, q7, q8, q9, -, -, q10⟩ := HQ.out
        have he : eachD D B = (D2, 12) := by rw [q9, q2]; simp
        have hw : writesD D B = (D2, 12) := by unfold writesD; rw [he]; simp
        have hB : B ≠ [] := fun h => by rw [h] at HM; have := HM.out; simp at this; omega
        have hrun : RR = (D2, 12) := by
          rw [← HR2.out.1, if_neg hB, List.singleton_append, runP_cons, hw]
          simp
        rw [hrun]
        refine ⟨rfl, S2, HU.out.1, ?_, (HO.out _ _ HU.out.2).2, ?_⟩
        · show LogR w2 l p (afterL 12 L _)
          exact HL.out.1.chg HU.out.2.chg HL.out.2.1
        · refine ⟨HU.out.2.chg.mono (fun k hk => .inl (by simp [hk])), fun k hk => ?_⟩
          rcases List.mem_cons.1 hk with rfl | hk
          · simp
          · rcases HU.out.2.new k hk with h1 | h1
            · simp [h1]
            · exact .inr h1
    · obtain ⟨hi, hk1, hR, hU, hI1, hI2, hI3, hI4, hI5⟩ := HI.out
      have t1 : decide ((i : Int) < (m : Int)) = false := decide_eq_false (by omega)
      have t1' : decide (i < m) = false := decide_eq_false him
      have e : i = m := by omega
      subst e
      have he : eachD D B = (Di, 0) := by rw [hI4, List.drop_of_length_le (by rw [HM.out]; exact Nat.le_refl _)]; rfl
      by_cases hi0 : i = 0
      · have hB : B = [] := List.eq_nil_of_length_eq_zero (by rw [HM.out]; exact hi0)
        have hDi := hI5 hi0
        have hfin := FIN.out _ _ _ hR hU hI1 hI2 (by have := HB.out; omega) (by rw [← HR2.out.1, if_pos hB, List.nil_append, hDi])
        subst hi0
        clear hi hk1 hR hU hI1 hI2 hI3 hI4 hI5 him he hB hDi HI
        go_wp2_with fail
        refine hfin.mono ?_
        rintro e w3 hE
        have hE' := hE
        obtain ⟨rfl, -⟩ := hE'
        have HE := Lib.hid hE
        clear hE hfin
        go_wp2_with fail
        go_ret
        exact HE.out
      · have t2 : decide ((0 : Int) < (i : Int)) = true := decide_eq_true (by omega)
        have t2' : decide (0 < i) = true := decide_eq_true (by omega)
        have hB : B ≠ [] := fun h => by rw [h] at HM; have := HM.out; simp at this; omega
        have hfl := flush_ok wr S' p Di hR hI1 (by have := HB.out; omega)
        have hw : writesD D B = ((flushD Di).1, 0) := by
          unfold writesD; rw [he]; simp only [if_true]
          unfold flushD; rw [hI1]; rfl
        have hrun : RR = runP (flushD Di).1 (commitP L P) := by
          rw [← HR2.out.1, if_neg hB, List.singleton_append, runP_cons, hw]
          simp
        have hfd : (flushD Di).1.down = false ∧ (flushD Di).1.n = Di.n ∧ (flushD Di).1.pend = [] := by unfold flushD; simp [hI1]
        have HW := Lib.hid (And.intro hrun (And.intro hfd (And.intro hU hI2)))
        have hfo := (HO.out _ _ hU).1
        clear hi hk1 hR hU hI1 hI2 hI3 hI4 hI5 him he hB hi0 hw hrun hfd HI
        go_wp2_with fail
        refine hfl.mono ?_
        rintro e w2 ⟨rfl, S2, hR2, hU2⟩
        clear hfl
        have c1 := hU2.chg.cell_some c1 hfo
        have hfin := FIN.out _ _ _ hR2 (HW.out.2.2.1.trans hU2) HW.out.2.1.1 (by rw [HW.out.2.1.2.1]; exact HW.out.2.2.2) (by rw [HW.out.2.1.2.2]; simp) HW.out.1
        clear hR2 hU2 hfo
        go_wp2_with fail
        refine hfin.mono ?_
        rintro e w3 hE
        have hE' := hE
        obtain ⟨rfl, -⟩ := hE'
        have HE := Lib.hid hE
        clear hE hfin
        go_wp2_with fail
        go_ret
        exact HE.out
end Go.Proofs.YtgcmgcffndbpoaaGreatDoor

/- A list of changes in memory; what Do leans on. No statement of the seat is proved here. -/
namespace Go.Aq.Fy
open Go.Aq
theorem doF_err1 {F : FsD} {l : List ChangeD} {W : WorkD} {e : Nat} (h : allW F ⟨F.files, []⟩ l = (W, e)) (he : e ≠ 0) : doF F l = (F, e) := by
  have : prepF F l = (e, [], [], F.log) := by unfold prepF; simp only [h]; rw [if_pos he]
  unfold doF; simp only [this]; rw [if_pos he]
theorem doF_err2 {F : FsD} {l : List ChangeD} {W : WorkD} (h : allW F ⟨F.files, []⟩ l = (W, 0)) (he : (freeF F).length < needW W.fresh) : doF F l = (F, 8) := by
  have : prepF F l = (8, [], [], F.log) := by unfold prepF; simp only [h]; rw [if_neg (by simp), if_pos he]
  unfold doF; simp only [this]; rw [if_pos (by decide)]
theorem doF_err3 {F : FsD} {l : List ChangeD} {W : WorkD} (h : allW F ⟨F.files, []⟩ l = (W, 0)) (h2 : needW W.fresh ≤ (freeF F).length) (he : F.mt * 256 < (tableB (placeF W.fresh (freeF F) W.files)).length) : doF F l = (F, 8) := by
  have : prepF F l = (8, [], [], F.log) := by unfold prepF; simp only [h]; rw [if_neg (by simp), if_neg (by omega), if_pos he]
  unfold doF; simp only [this]; rw [if_pos (by decide)]
theorem doF_err4 {F : FsD} {l : List ChangeD} {W : WorkD} (h : allW F ⟨F.files, []⟩ l = (W, 0)) (h2 : needW W.fresh ≤ (freeF F).length) (h3 : (tableB (placeF W.fresh (freeF F) W.files)).length ≤ F.mt * 256) (he : F.log.ring < need (diffF F (placeF W.fresh (freeF F) W.files)).length) : doF F l = (F, 9) := by
  have : prepF F l = (9, [], [], F.log) := by unfold prepF; simp only [h]; unfold diffF at he; rw [if_neg (by simp), if_neg (by omega), if_neg (by omega), if_pos he]
  unfold doF; simp only [this]; rw [if_pos (by decide)]
theorem doF_run {F : FsD} {l : List ChangeD} {W : WorkD} {fs : Files} {bl t : Puts} {R : DiskD × Nat} (h : allW F ⟨F.files, []⟩ l = (W, 0)) (h2 : needW W.fresh ≤ (freeF F).length) (hfs : placeF W.fresh (freeF F) W.files = fs) (h3 : (tableB fs).length ≤ F.mt * 256) (ht : diffF F fs = t) (h4 : need t.length ≤ F.log.ring)
    (hbl : placeP (firstF F) W.fresh (freeF F) = bl) (hR : runP F.disk ((if bl = [] then [] else [bl]) ++ commitP F.log t) = R) : doF F l = if R.2 = 0 then (⟨R.1, if t = [] then F.log else nextL F.log t.length, F.mt, fs⟩, 0) else ({ F with disk := R.1 }, R.2) := by
  have : prepF F l = (0, (if bl = [] then [] else [bl]) ++ commitP F.log t, fs, if t = [] then F.log else nextL F.log t.length) := by
    subst hfs ht hbl
    unfold prepF
    simp only [h]
    rw [if_neg (by simp), if_neg (by omega), if_neg (by omega), if_neg (by unfold diffF at h4; omega)]
    rfl
  unfold doF
  simp only [this, hR]
  rw [if_neg (by simp)]
theorem doF_n {q : Nat} {F : FsD} (h : FInv q F) (hq : q < 2 ^ 47) (l : List ChangeD) : (doF F l).1.disk.n = F.disk.n := by
  rcases do_any h hq l with ⟨e, h1, -⟩ | ⟨-, bl, fs, -, -, -, (⟨D, h1, h2, -⟩ | ⟨D, h1, h2, -⟩)⟩
  · rw [h1]
  · rw [h1]; exact h2
  · rw [h1]; exact h2
theorem nameOk_len {s : Nm} (h : nameOk s = true) : s.length ≤ 80 := by
  unfold nameOk at h
  simp only [Bool.and_eq_true, decide_eq_true_eq] at h
  exact h.2
theorem FilesOk.facts {all : Nat} {L : Files} (h : FilesOk all L) (ha : all ≤ 4096) : (∀ p ∈ L, p.1.length ≤ 255 ∧ p.2.blocks.length ≤ 4096) ∧ (∀ p ∈ L, p.2.size < 4294967296 ∧ ∀ k ∈ p.2.blocks, k < 65536) ∧ (∀ p ∈ L, ∀ k ∈ p.2.blocks, k < all) := by
  refine ⟨fun p hp => ?_, fun p hp => ?_, fun p hp k hk => h.bound k (List.mem_flatMap.2 ⟨p, hp, hk⟩)⟩
  · have h1 := nameOk_len (h.name p hp)
    obtain ⟨h2, h3⟩ := h.size p hp
    rw [h3]
    unfold cnt
    omega
  · have h1 := (h.size p hp).1
    exact ⟨by omega, fun k hk => by have := h.bound k (List.mem_flatMap.2 ⟨p, hp, hk⟩); omega⟩
theorem diff_at {q : Nat} {F : FsD} (h : FInv q F) (fs : Files) : ((diffF F fs).map (·.1)).Nodup ∧ (diffF F fs).length ≤ 200 ∧ ∀ p ∈ diffF F fs, atHome F.disk F.log p.1 = true := by
  refine ⟨differ_nodup _ _ _, ?_, fun p hp => ?_⟩
  · have h1 := differ_len (homeL F.log + 1) (sectorsB F.mt F.files) (sectorsB F.mt fs)
    rw [sectors_len h.tlen] at h1
    have h2 := h.geo.mt
    unfold diffF
    omega
  · obtain ⟨i, h1, -, rfl⟩ := differ_mem.1 hp
    rw [sectors_len h.tlen] at h1
    have h2 := h.geo.first
    unfold atHome
    simp only [Bool.and_eq_true, decide_eq_true_eq]
    omega
theorem free_len (F : FsD) : (freeF F).length ≤ allF F := by
  unfold freeF
  exact Nat.le_trans (List.length_filter_le _ _) (by simp)
theorem len_le_of_sub {α : Type} [DecidableEq α] : ∀ {l m : List α}, l.Nodup → (∀ x ∈ l, x ∈ m) → l.length ≤ m.length
  | [], m, _, _ => Nat.zero_le _
  | a :: l, m, hn, hs => by
    obtain ⟨h1, h2⟩ := List.pairwise_cons.1 hn
    have ha := hs a (.head _)
    have h3 : ∀ x ∈ l, x ∈ m.erase a := fun x hx => (List.mem_erase_of_ne (fun e => h1 x hx e.symm)).2 (hs x (.tail _ hx))
    have h4 := len_le_of_sub h2 h3
    rw [List.length_erase_of_mem ha] at h4
    have h5 := List.length_pos_of_mem ha
    simp only [List.length_cons]
    omega
theorem fresh_le {used : List Nat} {W : WorkD} (h : WorkOk used W) : W.fresh.length ≤ W.files.length := by
  have h1 : (W.fresh.map (·.1)).Nodup := by
    have := h.asc2
    exact List.pairwise_map.2 (this.imp fun {a b} hab e => by rw [e] at hab; exact List.lt_irrefl _ hab)
  have h2 : W.fresh.map (·.1) ⊆ W.files.map (·.1) := fun s hs => by
    obtain ⟨p, hp, rfl⟩ := List.mem_map.1 hs
    have := (h.sub p.1 p.2 (look_of_mem h.asc2 hp)).1
    exact List.mem_map.2 ⟨_, look_mem this, rfl⟩
  have := len_le_of_sub h1 h2
  simpa using this
end Go.Aq.Fy
namespace Go.Proofs.YtgcmgcffndbpoaaGreatDoor
open Go.RowKit Go.Aq Go.Aq.Fy Go.Maps
/-- The cells of a list of changes. -/
inductive CellsC (w : World) : List ChangeD → List Value → Prop
  | nil : CellsC w [] []
  | cons {c : ChangeD} {cs : List ChangeD} {dv : Value} {xs : List Value} : Sees w 1 dv c.data.length (Bs c.data) → CellsC w cs xs → CellsC w (c :: cs) (.int .i64 c.kind :: .string (str c.name) :: .string (str c.tonm) :: dv :: xs)
theorem CellsC.get {w : World} : ∀ {cs : List ChangeD} {xs : List Value}, CellsC w cs xs → ∀ {i : Nat} {c : ChangeD}, cs[i]? = some c → ∃ dv, xs[4 * i]? = some (.int .i64 c.kind) ∧ xs[4 * i + 1]? = some (.string (str c.name)) ∧ xs[4 * i + 2]? = some (.string (str c.tonm)) ∧ xs[4 * i + 3]? = some dv ∧ Sees w 1 dv c.data.length (Bs c.data)
  | _, _, .nil, i, c, h => by simp at h
  | _, _, .cons h1 h2, 0, c, h => by
    simp only [List.getElem?_cons_zero, Option.some.injEq] at h
    subst h
    exact ⟨_, rfl, rfl, rfl, rfl, h1⟩
  | _, _, .cons h1 h2, i + 1, c, h => by
    simp only [List.getElem?_cons_succ] at h
    obtain ⟨dv, k1, k2, k3, k4, k5⟩ := h2.get h
    refine ⟨dv, ?_, ?_, ?_, ?_, k5⟩
    all_goals rw [show 4 * (i + 1) = 4 * i + 1 + 1 + 1 + 1 by omega]; simpa using by assumption
theorem CellsC.len {w : World} : ∀ {cs : List ChangeD} {xs : List Value}, CellsC w cs xs → xs.length = cs.length * 4
  | _, _, .nil => rfl
  | _, _, .cons h1 h2 => by simp [h2.len]; omega
theorem CellsC.chg0 {w w' : World} (c : Chg [] w w') : ∀ {cs : List ChangeD} {xs : List Value}, CellsC w cs xs → CellsC w' cs xs
  | _, _, .nil => .nil
  | _, _, .cons h1 h2 => .cons (h1.chg0 c) (h2.chg0 c)
theorem fclone_any (w : World) (S : List Nat) (b : Nat) (L : Files) (h : FilesR w S b L) :
    Calls Tryz.prog 32 #[.map (some b)] w fun e w' => e = .returned (.map (some w.heap.size)) ∧ (∀ T : List Nat, (∀ k ∈ T, k ∈ S ∨ w.heap.size ≤ k) → FilesR w' T w.heap.size L) ∧ Chg [] w w' ∧ w.heap.size < w'.heap.size := by
  obtain ⟨l, hM, hT⟩ := h
  have h0 := hM.owns
  obtain ⟨es, clock, hb, F, hs, hD⟩ := h0
  refine (AnyW.maps_Clone Tryz.mc32 b es clock w hb).mono fun e w' ⟨h1, h2⟩ => ?_
  subst h2
  have hc : Chg [] w (w.alloc (.map es clock)) := (Chg.refl [] w).alloc _
  exact ⟨h1, fun T hk => ⟨l, ⟨hM.asc, hM.short, es, clock, heap_alloc_new w _, F, hs, hD⟩, hT.imp fun _ _ _ k => (k.wide hk).chg hc (by simp)⟩, hc, by simp⟩
/-- The bytes of a file under change, whichever way. -/
theorem bytes_any {q : Nat} {f l bf : Nat} (w : World) (Sd X S0 : List Nat) (hS0 : ∀ k ∈ S0, k < w.heap.size) (hsub : ∀ k ∈ f :: l :: bf :: Sd, k ∈ S0) (g d bl br : Nat) (F : FsD) (W : WorkD) (h : WorkR w S0 g f bl br W) (hF : FsR w Sd X f d l bf F) (hI : FInv q F) (hW : WorkOk (blks F.files) W) (s : Nm) (hs : s.length ≤ 1048576) (hh : hasF W.files s = true) :
    (bytesW F W s).length ≤ 1000000 ∧ ∀ w', Chg [] w w' → Calls Tryz.prog 85 #[.pointer (some ⟨g, 0, none⟩), .string (str s)] w' (BytesEnd w' (bl :: br :: S0) (bytesW F W s)) := by
  obtain ⟨x, hx⟩ : ∃ x, lookK s W.files = some x := Option.isSome_iff_exists.1 hh
  cases hf : lookK s W.fresh with
  | some b =>
    have e1 : bytesW F W s = b := by unfold bytesW; rw [hf]
    refine ⟨by rw [e1]; have := (hW.sub s b hf).2; omega, fun w' c => ?_⟩
    exact bytes_fresh w' _ g f bl br F W (h.chg0 c) s hs b hf
  | none =>
    obtain ⟨h1, h2⟩ := hW.old s x hx hf
    have hbk : ∀ k ∈ x.blocks, k < allF F := fun k hk => hI.files.bound k (hW.used k (List.mem_flatMap.2 ⟨(s, x), look_mem hx, hk⟩))
    have e1 : bytesW F W s = bytesB F x := by unfold bytesW; rw [hf, hx]
    have hc : x.size ≤ 256 * x.blocks.length ∧ x.blocks.length ≤ 256 := by rw [h2]; unfold cnt; omega
    refine ⟨by rw [e1]; unfold bytesB; rw [List.length_take]; omega, fun w' c => ?_⟩
    exact bytes_file w' Sd X S0 g f d l bf bl br F W (h.chg0 c) (fun k hk => Nat.lt_of_lt_of_le (hS0 k hk) c.size) hsub (hF.chg0 c) hI.rest.up s hs hf x hx hc.1 (by omega) hbk fun k _ => hI.rest.len k
end Go.Proofs.YtgcmgcffndbpoaaGreatDoor

/- Changes done: Do. No statement of the seat is proved here. -/
namespace Go.Proofs.YtgcmgcffndbpoaaGreatDoor
open Go.RowKit Go.Aq Go.Aq.Fy Go.Maps
/-- How Do ends. -/
def DoEndX (w : World) (Sd X : List Nat) (f d l bf : Nat) (R : FsD × Nat) (e : Ending) (w' : World) : Prop :=
  e = .returned (.int .i64 R.2) ∧ ∃ Sd' bf', FsR w' Sd' X f d l bf' R.1 ∧ Upd (f :: l :: bf :: Sd) (f :: l :: bf' :: Sd') w w'
theorem DoEndX.same {w w' : World} {Sd X : List Nat} {f d l bf : Nat} {F : FsD} (h : FsR w Sd X f d l bf F) (c : Chg [] w w') (e : Nat) : DoEndX w Sd X f d l bf (F, e) (.returned (.int .i64 (e : Int))) w' :=
  ⟨rfl, Sd, bf, h.chg0 c, c.toS, fun _ h => .inl h⟩
theorem lin7 {i k m : Nat} (h : i + k = m) (hi : i < m) : i + 1 + (k - 1) = m ∧ k - 1 < k := by omega
/-- The files behind a write, with the files bf' (the old ones, or new ones that lie in w8 already). -/
theorem do_fsr {w w8 w9 w10 : World} {Sd S9 T X : List Nat} {f d l bf bf' : Nat} {F : FsD} {D2 : DiskD} {L9 : LogD} {fs : Files} (hF8 : FsR w8 Sd X f d l bf F) (hX : ∀ k ∈ X, k < w.heap.size) (c8 : Chg [] w w8) (hlt : In w (f :: l :: bf :: Sd)) (hD9 : DiskR w9 S9 d D2) (hL9 : LogR w9 l d L9) (hU9 : Upd (l :: Sd) (l :: S9) w8 w9) (hl9 : l ∉ S9)
    (hr : L9.ring = F.log.ring) (hn : D2.n = F.disk.n) (hfs : FilesR w8 T bf' fs) (hTX : ∀ k ∈ X, k ∈ T) (hT : ∀ k ∈ f :: l :: bf' :: Sd, k ∈ T) (hb : bf' = bf ∨ w.heap.size ≤ bf' ∧ bf' < w8.heap.size) (c10 : Chg [f] w9 w10) (hb10 : Blk w10 f #[.pointer (some ⟨d, 0, none⟩), .pointer (some ⟨l, 0, none⟩), .int .i64 F.mt, .map (some bf')] 75) :
    FsR w10 S9 X f d l bf' ⟨D2, L9, F.mt, fs⟩ ∧ Upd (f :: l :: bf :: Sd) (f :: l :: bf' :: S9) w w10 := by
  obtain ⟨n1, n2, n3, n4, n5, n6⟩ := hF8.ne
  have hs8 := c8.size
  have hfl := hlt f (by simp)
  have hll := hlt l (by simp)
  have hbl := hlt bf (by simp)
  have hf9 : f ∉ S9 := fun hh => by
    rcases hU9.new f (by simp [hh]) with h1 | h1
    · rcases List.mem_cons.1 h1 with h2 | h2
      · exact n1 h2
      · exact n4 h2
    · omega
  have hbS : bf' ∉ l :: Sd := fun hh => by
    rcases hb with rfl | ⟨h1, h2⟩
    · rcases List.mem_cons.1 hh with h3 | h3
      · exact n3 h3.symm
      · exact n6 h3
    · rcases List.mem_cons.1 hh with h3 | h3
      · omega
      · have := hlt bf' (by simp [h3]); omega
  have hb9 : bf' ∉ S9 := fun hh => by
    rcases hU9.new bf' (by simp [hh]) with h1 | h1
    · exact hbS h1
    · rcases hb with rfl | ⟨_, h2⟩ <;> omega
  have hbf : f ≠ bf' := by rcases hb with rfl | ⟨h1, h2⟩; (exact n2); omega
  have hbl' : l ≠ bf' := fun e => hbS (by simp [e])
  have hnew : ∀ k ∈ S9, k ∈ l :: Sd ∨ w8.heap.size ≤ k := fun k hk => hU9.new k (by simp [hk])
  have hblk9 := hF8.blk.chg hU9.chg (fun hh => by rcases List.mem_cons.1 hh with h | h; (exact n1 h); exact n4 h)
  have hD10 : DiskR w10 S9 d D2 := hD9.off1 hblk9 (fun i x => by rcases i with _ | _ | _ | _ | i <;> simp) c10 hf9
  have hL10 : LogR w10 l d L9 := hL9.chg c10 (by simpa using fun e => n1 e.symm)
  have hsm := hF8.small
  have hfi : firstF ⟨D2, L9, F.mt, fs⟩ = firstF F := by unfold firstF homeL; rw [hr]
  have haway : Disj X (f :: l :: bf' :: S9) := fun k hk hk' => by
    have h1 := hF8.away k hk
    have h2 := hX k hk
    simp only [List.mem_cons, not_or] at h1 hk'
    rcases hk' with h | h | h | h
    · exact h1.1 h
    · exact h1.2.1 h
    · rcases hb with rfl | ⟨h3, _⟩
      · exact h1.2.2.1 h
      · omega
    · rcases hnew k h with h3 | h3
      · rcases List.mem_cons.1 h3 with h4 | h4
        · exact h1.2.1 h4
        · exact h1.2.2.2 h4
      · omega
  refine ⟨⟨hb10, hD10, hL10, ?_, ⟨n1, hbf, hbl', hf9, hl9, hb9⟩, haway, ?_⟩, ?_, ?_⟩
  · have h1 := hfs.wide (T := T ++ S9) (fun k hk => by
      rcases List.mem_append.1 hk with h | h
      · exact .inl h
      · rcases hnew k h with h2 | h2
        · refine .inl (hT k ?_)
          simp only [List.mem_cons] at h2 ⊢
          rcases h2 with h2 | h2
          · exact .inr (.inl h2)
          · exact .inr (.inr (.inr h2))
        · exact .inr h2)
    have h2 := h1.chg hU9.chg (fun k hk => .inl (List.mem_append_left _ (hT k (by
      simp only [List.mem_cons] at hk ⊢
      rcases hk with h2 | h2
      · exact .inr (.inl h2)
      · exact .inr (.inr (.inr h2)))))) hbS
    have h3 := h2.chg c10 (fun k hk => .inl (by simp at hk; subst hk; exact List.mem_append_left _ (hT _ (by simp)))) (by simpa using fun e => hbf e.symm)
    exact h3.wide fun k hk => .inl (by
      simp only [List.mem_append, List.mem_cons] at hk
      rcases hk with h | h | h | h | h
      · exact List.mem_append_left _ (hTX k h)
      · exact List.mem_append_left _ (hT k (by simp [h]))
      · exact List.mem_append_left _ (hT k (by simp [h]))
      · exact List.mem_append_left _ (hT k (by simp [h]))
      · exact List.mem_append_right _ h)
  · rw [hfi]
    simp only [hr, hn]
    exact hsm
  · refine (c8.toS.tr (hU9.chg.mono (fun k hk => .inl ?_))).tr (c10.mono (fun k hk => .inl (by simp at hk; simp [hk])))
    simp only [List.mem_cons] at hk ⊢
    rcases hk with h | h
    · exact .inr (.inl h)
    · exact .inr (.inr (.inr h))
  · intro k hk
    simp only [List.mem_cons] at hk ⊢
    rcases hk with h | h | h | h
    · exact .inl (.inl h)
    · exact .inl (.inr (.inl h))
    · subst h
      rcases hb with rfl | ⟨h1, _⟩
      · exact .inl (.inr (.inr (.inl rfl)))
      · exact .inr h1
    · rcases hnew k h with h2 | h2
      · simp only [List.mem_cons] at h2
        rcases h2 with h2 | h2
        · exact .inl (.inr (.inl h2))
        · exact .inl (.inr (.inr (.inr h2)))
      · exact .inr (by omega)
set_option maxRecDepth 100000 in
theorem rows_nil (a : Option Addr) (n c : Nat) (w : World) : (binOp .eql 31 (.slice a n c) (.slice none 0 0)).run Tryz.prog w = .ok (.bool a.isNone) w := Lib.run_eql_slice_nil w _ _ _ _ _ _ _ Tryz.underlying31
set_option maxRecDepth 100000 in
set_option maxHeartbeats 8000000 in
theorem do_okX {q : Nat} (w : World) (Sd X : List Nat) (f d l bf : Nat) (F : FsD) (hF : FsR w Sd X f d l bf F) (hX : ∀ k ∈ X, k < w.heap.size) (hI : FInv q F) (hq : q < 2 ^ 47) (cs : List ChangeD) (hcs : ∀ c ∈ cs, c.name.length ≤ 1048576 ∧ c.tonm.length ≤ 1048576 ∧ c.data.length ≤ 1000000) (hcl : cs.length ≤ 1000) (v : Value) (xs : List Value) (hv : Sees w 4 v cs.length xs) (hx : CellsC w cs xs) :
    Calls Tryz.prog 11 #[.pointer (some ⟨f, 0, none⟩), v] w (DoEndX w Sd X f d l bf (doF F cs)) := by
  have HX0 := Lib.hid hX
  clear hX
  obtain ⟨⟨c0, c1, c2, c3⟩, -⟩ := Blk.c4b hF.blk
  have hcl0 := fclone_any w _ bf F.files hF.files
  obtain ⟨ao, cap, rfl, -⟩ := hv.shape
  obtain ⟨N, hN⟩ : ∃ N, cs.length = N := ⟨_, rfl⟩
  obtain ⟨R, hR⟩ : ∃ R, doF F cs = R := ⟨_, rfl⟩
  rw [hN] at hv hcl ⊢
  rw [hR]
  have hltF := hF.lt
  have HH := Lib.hid (And.intro hF (And.intro hI (And.intro hq (And.intro hcs (And.intro hcl (And.intro hv (And.intro hx (And.intro hN (And.intro hR hltF)))))))))
  clear hF hI hq hcs hcl hv hx hN hR hltF
  go_enter Tryz.func11, Tryz.ntmps11
  go_wp2_with fail
  refine hcl0.mono ?_
  rintro e w1 ⟨rfl, hL1, c1w, hlt1⟩
  clear hcl0
  obtain ⟨bl, hbl⟩ : ∃ bl, w.heap.size = bl := ⟨_, rfl⟩
  rw [hbl] at hL1 hlt1 ⊢
  obtain ⟨w2, hw2⟩ : ∃ w2, w1.alloc (.map #[] 0) = w2 := ⟨_, rfl⟩
  obtain ⟨br, hbr⟩ : ∃ br, w1.heap.size = br := ⟨_, rfl⟩
  have rm : (Instr.makeMap 76 none).run Tryz.prog w1 = .ok (.map (some br)) w2 := by rw [← hw2, ← hbr]; kernel_rfl
  have k2 : Chg [] w1 w2 := by rw [← hw2]; exact (Chg.refl [] w1).alloc _
  have hRm : MapS Tryz.prog 9 w2 br [] := by rw [← hw2, ← hbr]; exact MapS.made _ _ _
  have hsz2 := Lib.hid (show w2.heap.size = br + 1 by rw [← hw2, ← hbr]; simp)
  clear hw2
  go_upto_region 2 with (fail)
  obtain ⟨w3, hw3⟩ : ∃ w3, w2.alloc (.cells #[.pointer (some ⟨f, 0, none⟩), .map (some bl), .map (some br)] 78) = w3 := ⟨_, rfl⟩
  obtain ⟨g, hg⟩ : ∃ g, w2.heap.size = g := ⟨_, rfl⟩
  have hbg : Blk w3 g #[.pointer (some ⟨f, 0, none⟩), .map (some bl), .map (some br)] 78 := by rw [← hw3, ← hg]; exact Blk.new _ _ _
  have k3 : Chg [] w2 w3 := by rw [← hw3]; exact (Chg.refl [] w2).alloc _
  rw [hw3, hg]
  clear hw3
  have hlt := HH.out.2.2.2.2.2.2.2.2.2
  have hold : ∀ t ∈ f :: l :: bf :: Sd, t < bl := fun t ht => by have := hlt t ht; omega
  have holdX : ∀ t ∈ X ++ f :: l :: bf :: Sd, t < bl := fun t ht => by
    rcases List.mem_append.1 ht with h | h
    · have := HX0.out t h; omega
    · exact hold t h
  have HO := Lib.hid holdX
  have hW : WorkR w3 (X ++ f :: l :: bf :: Sd) g f bl br ⟨F.files, []⟩ := by
    have hsz2 := hsz2.out
    have h1 := hL1 (bl :: br :: (X ++ f :: l :: bf :: Sd)) (fun t ht => by
      rcases List.mem_cons.1 ht with h | ht
      · exact .inr (by omega)
      rcases List.mem_cons.1 ht with h | h
      · exact .inr (by omega)
      · exact .inl h)
    refine ⟨hbg, ((h1.chg k2 (by simp) (by simp)).chg k3 (by simp) (by simp)), ⟨[], hRm.chg0 k3, trivial⟩, by omega, fun hh => ?_, fun hh => ?_, fun hh => ?_⟩
    · rcases List.mem_cons.1 hh with h | hh
      · omega
      rcases List.mem_cons.1 hh with h | h
      · omega
      · have := holdX g h; omega
    · have := holdX bl hh; omega
    · have := holdX br hh; omega
  have H3 := Lib.hid (And.intro hW (And.intro ((c1w.nil k2).nil k3) (And.intro hbl (And.intro hold (show bl < br by omega)))))
  have HG := Lib.hid (show bl ≤ g by have := hsz2.out; omega)
  clear hW c1w k2 k3 hRm hbg hL1 hlt1 hbl hbr hg hsz2 hlt hold holdX rm c0 c1 c2 c3
  go_wp2_with fail
  go_loopg [7, 8, 25] N (fun k (v7 v8 v25 : Value) wr => ∃ (i : Nat) (W : WorkD), v25 = .int .i64 i ∧ Hid (i + k = N ∧ WorkR wr (X ++ f :: l :: bf :: Sd) g f bl br W ∧ WorkOk (blks F.files) W ∧ Chg [] w wr ∧ allW F ⟨F.files, []⟩ cs = allW F W (cs.drop i)))
  case atStart => exact ⟨0, ⟨F.files, []⟩, rfl, Nat.zero_add _, H3.out.1, WorkOk.start HH.out.2.1.files, H3.out.2.1, rfl⟩
  case round =>
    obtain ⟨i, W, rfl, HW⟩ := hrel
    by_cases hi : i < N
    · have t0 : decide ((i : Int) < (N : Int)) = true := by simp; omega
      have t0' : decide (i < N) = true := by simp; omega
      obtain ⟨hik, hW, hWo, cw, hall⟩ := HW.out
      have hil : i < cs.length := by rw [HH.out.2.2.2.2.2.2.2.1]; exact hi
      obtain ⟨g1, o1, cp1, e, -, -, hcell⟩ := (HH.out.2.2.2.2.2.1.chg0 cw).cells (by omega)
      cases e
      obtain ⟨c, hc⟩ : ∃ c, cs[i]'hil = c := ⟨_, rfl⟩
      have hget : cs[i]? = some c := by rw [List.getElem?_eq_getElem hil, hc]
      have hdrop : cs.drop i = c :: cs.drop (i + 1) := by rw [List.drop_eq_getElem_cons hil, hc]
      obtain ⟨dv, k0, k1, k2, k3, hdv⟩ := (HH.out.2.2.2.2.2.2.1).get hget
      have hdl : ∀ j ∈ eyes dv, j < w.heap.size := fun j hj => by
        by_cases h0 : c.data.length = 0
        · obtain ⟨ad, cd, rfl, -⟩ := hdv.shape
          rw [h0] at hj
          cases ad <;> simp [eyes] at hj
        · exact hdv.lt (by decide) j hj
      have hdv' := hdv.chg0 cw
      obtain ⟨ad, cd, rfl, -⟩ := hdv.shape
      have z0 := hcell (i * 4) (by omega)
      have z1 := hcell (i * 4 + 1) (by omega)
      have z2 := hcell (i * 4 + 2) (by omega)
      have z3 := hcell (i * 4 + 3) (by omega)
      rw [show i * 4 = 4 * i by omega] at z0 z1 z2 z3
      rw [k0] at z0
      rw [k1] at z1
      rw [k2] at z2
      rw [k3] at z3
      rw [show 4 * i = i * 4 by omega] at z0 z1 z2 z3
      rw [show o1 + (i * 4 + 1) = o1 + i * 4 + 1 by omega] at z1
      rw [show o1 + (i * 4 + 2) = o1 + i * 4 + 2 by omega] at z2
      rw [show o1 + (i * 4 + 3) = o1 + i * 4 + 3 by omega] at z3
      obtain ⟨hs, ht, hb⟩ := HH.out.2.2.2.1 c (by rw [← hc]; exact List.getElem_mem hil)
      have hdd : Disj (eyes (.slice ad c.data.length cd)) [bl, br] := fun j hj hj' => by
        have h1 := hdl j hj
        have h2 := H3.out.2.2.1
        have h3 := H3.out.2.2.2.2
        simp only [List.mem_cons, List.not_mem_nil, or_false] at hj'
        rcases hj' with rfl | rfl <;> omega
      have hsub : W.fresh.length ≤ 1000 := by
        have h1 := hWo.few
        have h2 : W.fresh.length ≤ W.files.length := fresh_le hWo
        omega
      have hone := fun w' (k : Chg [] wr w') => one_ok w' (X ++ f :: l :: bf :: Sd) g f bl br F W (hW.chg0 k) (fun t ht => by have h1 := HO.out t ht; have h2 := (cw.nil k).size; have h3 := H3.out.2.2.1; omega) c hs ht (.slice ad c.data.length cd) (hdv'.chg0 k) hdd hb (by have := hWo.few; omega) hsub
        (fun hh => bytes_any w' Sd X (X ++ f :: l :: bf :: Sd) (fun t ht => by have h1 := HO.out t ht; have h2 := (cw.nil k).size; have h3 := H3.out.2.2.1; omega) (fun t ht => List.mem_append_right _ ht) g d bl br F W (hW.chg0 k) (HH.out.1.chg0 (cw.nil k)) HH.out.2.1 hWo c.name hs hh)
      have hstep := one_step (F := F) hWo c
      have e2 : wrap64 ((i : Int) + 1) = ((i + 1 : Nat) : Int) := by unfold wrap64; have := HH.out.2.2.2.2.1; omega
      have e2w := wIq e2
      obtain ⟨nd, hnd⟩ : ∃ nd, c.data.length = nd := ⟨_, rfl⟩
      rw [hnd] at z3 hone
      obtain ⟨ck, hck⟩ : ∃ ck, c.kind = ck := ⟨_, rfl⟩
      obtain ⟨cn, hcn⟩ : ∃ cn, c.name = cn := ⟨_, rfl⟩
      obtain ⟨ct, hct⟩ : ∃ ct, c.tonm = ct := ⟨_, rfl⟩
      rw [hck] at z0 hone
      rw [hcn] at z1 hone
      rw [hct] at z2 hone
      have hall2 : allW F ⟨F.files, []⟩ cs = if (oneW F W c).2 = 0 then allW F (oneW F W c).1 (cs.drop (i + 1)) else oneW F W c := by rw [hall, hdrop]; rfl
      obtain ⟨R1, hR1⟩ : ∃ R1, oneW F W c = R1 := ⟨_, rfl⟩
      rw [hR1] at hone hall2 hstep
      obtain ⟨W1, e1⟩ := R1
      simp only at hall2
      obtain ⟨wA, hwA⟩ : ∃ wA, wr.alloc (.cells #[.int .i64 ck, .string (str cn), .string (str ct), .slice ad nd cd] 43) = wA := ⟨_, rfl⟩
      obtain ⟨K, hK⟩ : ∃ K, wr.heap.size = K := ⟨_, rfl⟩
      have hca : Chg [] wr wA := by rw [← hwA]; exact (Chg.refl [] wr).alloc _
      have hbx : Blk wA K #[.int .i64 ck, .string (str cn), .string (str ct), .slice ad nd cd] 43 := by rw [← hwA, ← hK]; exact Blk.new _ _ _
      obtain ⟨⟨b0, b1, b2, b3⟩, -⟩ := Blk.c4b hbx
      have hone1 := hone wA hca
      have HR := Lib.hid (And.intro (lin7 hik hi) (And.intro hall2 (And.intro hstep.1 (cw.nil hca))))
      clear hik hW hWo cw hall hil hcell hc hget hdrop k0 k1 k2 k3 hdv hdl hdv' hs ht hb hdd hsub hone hstep hnd hck hcn hct hall2 hR1 hbx hca HW
      go_wp2_with fail
      refine hone1.mono ?_
      rintro e w4 ⟨rfl, hW4, c4⟩
      have H4 := Lib.hid (And.intro hW4 (show Chg [] w w4 from HR.out.2.2.2.trans c4 (fun t ht => .inr (by have h2 := H3.out.2.2.1; have h3 := H3.out.2.2.2.2; simp at ht; omega))))
      clear hW4 c4 hone1 z0 z1 z2 z3 b0 b1 b2 b3 hwA hK
      by_cases he : e1 = 0
      · subst he
        go_wp2_with fail
        go_roundg (gk - 1)
        case measure => exact HR.out.1.2
        case rel => exact ⟨i + 1, W1, by simp, HR.out.1.1, H4.out.1, HR.out.2.2.1, H4.out.2, by have := HR.out.2.1; simpa using this⟩
      · have t5 : (((e1 : Nat) : Int) != 0) = true := by simp; omega
        have t5' : (e1 != 0) = true := by simp; omega
        have HE := Lib.hid he
        clear he
        go_wp2_with fail
        go_ret
        have h1 := HR.out.2.1
        rw [if_neg HE.out] at h1
        rw [← HH.out.2.2.2.2.2.2.2.2.1, doF_err1 h1 HE.out]
        exact DoEndX.same HH.out.1 H4.out.2 e1
    · have t0 : decide ((i : Int) < (N : Int)) = false := by simp; omega
      have t0' : decide (i < N) = false := by simp; omega
      obtain ⟨hik, hW, hWo, cw, hall⟩ := HW.out
      have hall2 : allW F ⟨F.files, []⟩ cs = (W, 0) := by rw [hall, List.drop_eq_nil_of_le (by rw [HH.out.2.2.2.2.2.2.2.1]; omega)]; rfl
      have HA := Lib.hid (And.intro hW (And.intro hWo (And.intro cw hall2)))
      clear hik hW hWo cw hall hall2 hi HW
      go_wp2_with fail
      have hks := (HH.out.2.1.files.facts (by have := HH.out.1.small; unfold allF; omega))
      have hpl := Go.Proofs.YtgcmgcffndbpoaaGreatDoor.place_ok wr Sd X (X ++ f :: l :: bf :: Sd) (fun t ht => by have h1 := HO.out t ht; have h2 := HA.out.2.2.1.size; have h3 := H3.out.2.2.1; omega) g f d l bf bl br F W HA.out.1 (fun w' c => HH.out.1.chg0 (HA.out.2.2.1.trans c (fun t ht => .inr (by have h2 := H3.out.2.2.1; have h3 := H3.out.2.2.2.2; simp at ht; omega)))) hks.2.2 (fun p hp => (hks.1 p hp).2)
        (fun p hp => by
          have h1 := HA.out.2.1.sub p.1 p.2 (look_of_mem HA.out.2.1.asc2 hp)
          have h2 := nameOk_len (HA.out.2.1.name _ (look_mem h1.1))
          simp only at h2
          exact ⟨by omega, h1.2⟩) (by have h1 := fresh_le HA.out.2.1; have h2 := HA.out.2.1.few; omega) HA.out.2.1.few
      clear hks
      refine hpl.mono ?_
      rintro e w5 (⟨hlt5, rfl, hW5, c5⟩ | ⟨hle5, v9, xs9, rfl, hO9, hP9, hW5, c5⟩)
      · have H5 := Lib.hid (And.intro hlt5 (HA.out.2.2.1.nil c5))
        clear hpl hlt5 hW5 c5
        go_wp2_with fail
        go_ret
        rw [← HH.out.2.2.2.2.2.2.2.2.1, doF_err2 HA.out.2.2.2 H5.out.1]
        exact DoEndX.same HH.out.1 H5.out.2 8
      clear hpl
      obtain ⟨ok1, -⟩ := Go.Aq.Fy.place_ok (first := firstF F) (PlaceOk.start HH.out.2.1.files HA.out.2.1 hle5)
      obtain ⟨fs, hfs⟩ : ∃ fs, placeF W.fresh (freeF F) W.files = fs := ⟨_, rfl⟩
      obtain ⟨B, hB⟩ : ∃ B, placeP (firstF F) W.fresh (freeF F) = B := ⟨_, rfl⟩
      rw [hfs] at hW5 ok1
      rw [hB] at hO9 hP9
      have hall4 : allF F ≤ 4096 := by have := HH.out.1.small; unfold allF; omega
      have hBl : B.length ≤ 4096 := by rw [← hB, placeP_len _ _ _ hle5]; have := free_len F; omega
      obtain ⟨m9, hm9⟩ : ∃ m9, B.length = m9 := ⟨_, rfl⟩
      rw [hm9] at hO9
      obtain ⟨a9, q9, rfl, -⟩ := hO9.shape
      have cw5 : Chg [] w w5 := HA.out.2.2.1.trans c5 (fun t ht => .inr (by have h2 := H3.out.2.2.1; simp at ht; omega))
      have hF5 := HH.out.1.chg0 cw5
      have hfx := ok1.facts hall4
      have hsx := sectors_ok' w5 f F.mt _ _ _ hF5.blk HH.out.2.1.geo.mt.1 HH.out.2.1.geo.mt.2 _ bl fs hW5.files ok1.few hfx.1 hfx.2.1
      obtain ⟨⟨y0, y1, y2⟩, -⟩ := hW5.blk.c3b
      have H5 := Lib.hid (And.intro hle5 (And.intro hfs (And.intro hB (And.intro hm9 (And.intro hO9 (And.intro hP9 (And.intro hW5 (And.intro cw5 (And.intro ok1 (And.intro hBl (And.intro hall4 hfx)))))))))))
      clear hle5 hfs hB hm9 hO9 hP9 hW5 c5 cw5 ok1 hBl hall4 hF5 hfx
      go_wp2_with fail
      refine hsx.mono ?_
      rintro e w6 ⟨c6, (⟨hno, rfl⟩ | ⟨hfit, ao6, cap6, g6, cg6, rfl, hO6, hao6, hg6, hB6⟩)⟩
      · have H6 := Lib.hid (And.intro hno (H5.out.2.2.2.2.2.2.2.1.nil c6))
        clear hsx hno c6
        have hnil := rows_nil none 0 0
        go_wp2_with fail
        go_ret
        rw [← HH.out.2.2.2.2.2.2.2.2.1, doF_err3 HA.out.2.2.2 H5.out.1 (by rw [H5.out.2.1]; exact H6.out.1)]
        exact DoEndX.same HH.out.1 H6.out.2 8
      clear hsx
      have H6 := Lib.hid (And.intro c6 (And.intro hfit (H5.out.2.2.2.2.2.2.2.1.nil c6)))
      have hg6S : g6 ∉ Sd := fun hh => by have h1 := HH.out.1.lt g6 (by simp [hh]); have h2 := H5.out.2.2.2.2.2.2.2.1.size; omega
      have hks := HH.out.2.1.files.facts H5.out.2.2.2.2.2.2.2.2.2.2.1
      have hdf := differ_ok w6 Sd X f d l bf F (HH.out.1.chg0 H6.out.2.2) HH.out.2.1.geo.mt.1 HH.out.2.1.files.few hks.1 hks.2.1 HH.out.2.1.tlen fs hfit ao6 cap6 g6 cg6 hO6.sees hB6 Sd hg6S
      clear c6 hfit hO6 hao6 hg6 hB6 hg6S hks y0 y1 y2
      have hnil := rows_nil (some ao6) F.mt cap6
      go_wp2_with fail
      refine hdf.mono ?_
      rintro e w7 ⟨v12, xs12, rfl, hF12, hP12⟩
      obtain ⟨t, ht⟩ : ∃ t, diffF F fs = t := ⟨_, rfl⟩
      obtain ⟨nt, hnt⟩ : ∃ nt, t.length = nt := ⟨_, rfl⟩
      rw [ht, hnt] at hF12
      rw [ht] at hP12
      obtain ⟨a12, q12, rfl, -⟩ := hF12.shape
      have hdl := (diff_at HH.out.2.1 fs).2.1
      rw [ht, hnt] at hdl
      have cw7 := H6.out.2.2.nil hF12.chg
      have hnd := fun w' => need_ok w' (.pointer (some ⟨l, 0, none⟩)) nt (by omega)
      have hrg := fun r => ring_ok (w7.drewN r) l d F.log ((HH.out.1.log.chg cw7 (by simp)).chg ((Chg.refl [] w7).drewN r) (by simp))
      obtain ⟨⟨-, c1, -, -⟩, -⟩ := Blk.c4b (HH.out.1.blk.chg0 cw7)
      have H7 := Lib.hid (And.intro ht (And.intro hnt (And.intro hF12 (And.intro hP12 (And.intro cw7 hdl)))))
      clear hdf ht hnt hF12 hP12 cw7 hdl
      obtain ⟨nn, hnn⟩ : ∃ nn, need nt = nn := ⟨_, rfl⟩
      obtain ⟨rg, hrg2⟩ : ∃ rg, F.log.ring = rg := ⟨_, rfl⟩
      rw [hnn] at hnd
      rw [hrg2] at hrg
      have HN := Lib.hid (And.intro hnn hrg2)
      clear hnn hrg2
      go_wp2_with fail
      go_quiet (first | (exact Calls.quiet_of_same (hnd _)) | (exact Calls.quiet_of_same (hrg _)))
      have c78 : Chg [] w7 (w7.drewN nq) := (Chg.refl _ _).drewN nq
      obtain ⟨w8, hw8⟩ : ∃ w8, w7.drewN nq = w8 := ⟨_, rfl⟩
      rw [hw8] at c78 ⊢
      clear hw8 hnd hrg c1 hnil
      have H8 := Lib.hid (And.intro c78 (H7.out.2.2.2.2.1.nil c78))
      clear c78
      by_cases hbig : rg < nn
      · have t1 : decide ((rg : Int) < (nn : Int)) = true := by simp; omega
        have t1' : decide (rg < nn) = true := by simp; omega
        have HB := Lib.hid hbig
        clear hbig
        go_wp2_with fail
        go_ret
        rw [← HH.out.2.2.2.2.2.2.2.2.1, doF_err4 HA.out.2.2.2 H5.out.1 (by rw [H5.out.2.1]; exact H6.out.2.1) (by rw [H5.out.2.1, H7.out.1, H7.out.2.1, HN.out.1, HN.out.2]; exact HB.out)]
        exact DoEndX.same HH.out.1 H8.out.2 9
      have t1 : decide ((rg : Int) < (nn : Int)) = false := by simp; omega
      have t1' : decide (rg < nn) = false := by simp; omega
      have hroom : need t.length ≤ F.log.ring := by rw [H7.out.2.1, HN.out.1, HN.out.2]; exact Nat.not_lt.1 hbig
      obtain ⟨RR, hRR⟩ : ∃ RR, runP F.disk ((if B = [] then [] else [B]) ++ commitP F.log t) = RR := ⟨_, rfl⟩
      have hrun := doF_run HA.out.2.2.2 H5.out.1 H5.out.2.1 H6.out.2.1 H7.out.1 hroom H5.out.2.2.1 hRR
      have hdn := doF_n HH.out.2.1 HH.out.2.2.1 cs
      have hF8 := HH.out.1.chg0 H8.out.2
      have hda := diff_at HH.out.2.1 fs
      rw [H7.out.1] at hda
      have c58 : Chg [] w5 w8 := ((H6.out.1).nil H7.out.2.2.1.chg).nil H8.out.1
      have hall4 := H5.out.2.2.2.2.2.2.2.2.2.2.1
      have hsm := HH.out.1.small
      have hseq := HH.out.2.1.seq
      have hq47 := HH.out.2.2.1
      have hpos := HH.out.2.1.geo.pos
      have hwr := fwrite_ok w8 Sd f F.mt bf l d F.disk F.log hF8.blk ⟨hF8.ne.2.2.2.1, hF8.ne.1⟩ hF8.disk hF8.log hF8.ne.2.2.2.2.1 HH.out.2.1.rest.up B (by rw [HH.out.2.1.rest.pend]; have := H5.out.2.2.2.2.2.2.2.2.2.1; simp only [List.length_nil]; omega)
        (fun p hp => by
          have h1 := placeP_ok (first := firstF F) (all := allF F) (r := W.fresh) (free := freeF F) (fun k hk => by unfold freeF at hk; exact List.mem_range.1 (List.mem_filter.1 hk).1)
          rw [H5.out.2.2.1] at h1
          have h2 := (h1 p hp).1
          have h3 := firstF_le HH.out.2.1
          omega)
        (.slice a9 m9 q9) xs9 (by rw [H5.out.2.2.2.1]; exact H5.out.2.2.2.2.1.own.sees.chg0 c58) (H5.out.2.2.2.2.2.1.upd ⟨c58.toS, fun k hk => .inl (by simp [hk])⟩)
        (fun k hk hk' => by have h1 := H5.out.2.2.2.2.1.new k (eyes_own _ k hk); have h2 := HH.out.1.lt k (by simp [hk']); have h3 := HA.out.2.2.1.size; omega)
        hsm.2.1 hsm.1 (by omega) (by omega) t nt H7.out.2.1 (.slice a12 nt q12) xs12 (H7.out.2.2.1.own.sees.chg0 H8.out.1) (H7.out.2.2.2.1.upd ⟨H8.out.1.toS, fun k hk => .inl (List.mem_append_right _ hk)⟩)
        (fun k hk hk' => by have h1 := H7.out.2.2.1.new k (eyes_own _ k hk); have h2 := HH.out.1.lt k (by simp [hk']); have h3 := H6.out.2.2.size; omega)
        (by have := H7.out.2.2.2.2.2; omega) hda.2.2 hda.1 (by rw [← H7.out.2.1]; exact hroom)
      rw [hRR] at hwr
      have hLN : (if t = [] then F.log else nextL F.log nt) = (if t = [] then F.log else nextL F.log t.length) := by rw [H7.out.2.1]
      rw [hLN] at hwr
      have HX := Lib.hid (And.intro hrun (And.intro hdn (And.intro hF8 (And.intro c58 hsm))))
      obtain ⟨⟨-, y1, -⟩, -⟩ := (H5.out.2.2.2.2.2.2.1.chg0 c58).blk.c3b
      clear hbig hroom hrun hdn hF8 hda c58 hall4 hsm hseq hq47 hpos hRR hLN
      obtain ⟨D2, e9⟩ := RR
      rw [t1']
      go_wp2_with fail
      refine hwr.mono ?_
      rintro e w9 ⟨rfl, S9, hD9, hL9, hl9, hU9⟩
      simp only at hD9 hL9
      have hoff9 : ∀ k ∈ f :: bf :: bl :: br :: g :: [], k ∉ l :: Sd := fun k hk hk' => by
        have hne := HX.out.2.2.1.ne
        have hg0 := H5.out.2.2.2.2.2.2.1.offg
        have hd1 := H3.out.2.2.2.1
        have hd2 := H3.out.2.2.2.2
        have hkl : k < bl := hd1 k (by rcases List.mem_cons.1 hk' with h | h <;> simp [h])
        have hgl : bl ≤ g := by have h1 := H5.out.2.2.2.2.2.2.1; have := H3.out.1.blk.lt; have h2 := HG.out; omega
        simp only [List.mem_cons, List.not_mem_nil, or_false] at hk
        rcases hk with rfl | rfl | rfl | rfl | rfl
        · rcases List.mem_cons.1 hk' with h | h
          · exact hne.1 h
          · exact hne.2.2.2.1 h
        · rcases List.mem_cons.1 hk' with h | h
          · exact hne.2.2.1 h.symm
          · exact hne.2.2.2.2.2 h
        · omega
        · omega
        · omega
      have hU9' := hU9
      have y1 := hU9.chg.cell_some y1 (hoff9 g (by simp))
      have hb9 := HX.out.2.2.1.blk.chg hU9.chg (hoff9 f (by simp))
      obtain ⟨⟨-, -, -, x3⟩, -, -, -, f3⟩ := Blk.c4b hb9
      have H9 := Lib.hid (And.intro hD9 (And.intro hL9 (And.intro hl9 (And.intro hU9 (And.intro hb9 hoff9)))))
      clear hD9 hL9 hl9 hU9 hU9' hb9 hoff9 hwr
      by_cases he9 : e9 = 0
      · subst he9
        go_wp2_with fail
        go_ret
        have hrun := HX.out.1
        simp only [if_true] at hrun
        rw [← HH.out.2.2.2.2.2.2.2.2.1, hrun]
        have hdn := HX.out.2.1
        rw [hrun] at hdn
        have hbs := H9.out.2.2.2.2.1.set 3 (.map (some bl))
        simp only [List.setIfInBounds_toArray, List.set_cons_zero, List.set_cons_succ] at hbs
        have hblw := H3.out.2.2.1
        obtain ⟨r1, r2⟩ := do_fsr HX.out.2.2.1 HX0.out H8.out.2 HH.out.2.2.2.2.2.2.2.2.2 H9.out.1 H9.out.2.1 H9.out.2.2.2.1 H9.out.2.2.1 (by show (afterL 0 F.log _).ring = _; unfold afterL; rw [if_pos rfl]; split <;> rfl) hdn (H5.out.2.2.2.2.2.2.1.files.chg0 HX.out.2.2.2.1) (fun k hk => by simp [hk]) (fun k hk => by
          simp only [List.mem_cons, List.mem_append] at hk ⊢
          rcases hk with h | h | h | h
          · exact .inr (.inr (.inr (.inl h)))
          · exact .inr (.inr (.inr (.inr (.inl h))))
          · exact .inl h
          · exact .inr (.inr (.inr (.inr (.inr (.inr h)))))) (.inr ⟨by omega, by have h1 := (H5.out.2.2.2.2.2.2.1.files.chg0 HX.out.2.2.2.1).lt; exact h1⟩) ((Chg.refl [f] _).setCell (by simp) _) hbs
        exact ⟨rfl, S9, bl, r1, r2⟩
      · have t5 : (((e9 : Nat) : Int) != 0) = true := by simp; omega
        have t5' : (e9 != 0) = true := by simp; omega
        have HE := Lib.hid he9
        clear he9
        go_wp2_with fail
        go_ret
        have hrun := HX.out.1
        rw [if_neg HE.out] at hrun
        rw [← HH.out.2.2.2.2.2.2.2.2.1, hrun]
        have hdn := HX.out.2.1
        rw [hrun] at hdn
        obtain ⟨r1, r2⟩ := do_fsr HX.out.2.2.1 HX0.out H8.out.2 HH.out.2.2.2.2.2.2.2.2.2 H9.out.1 H9.out.2.1 H9.out.2.2.2.1 H9.out.2.2.1 (by show (afterL e9 F.log _).ring = _; unfold afterL; rw [if_neg HE.out]) hdn HX.out.2.2.1.files (fun k hk => List.mem_append_left _ hk) (fun k hk => List.mem_append_right _ hk) (.inl rfl) (Chg.refl [f] _) H9.out.2.2.2.2.1
        have ea : afterL e9 F.log (if t = [] then F.log else nextL F.log t.length) = F.log := by unfold afterL; rw [if_neg HE.out]
        rw [ea] at r1
        exact ⟨rfl, S9, bf, r1, r2⟩
/-- How Do ends, with nobody else about. -/
abbrev DoEnd (w : World) (Sd : List Nat) (f d l bf : Nat) (R : FsD × Nat) (e : Ending) (w' : World) : Prop := DoEndX w Sd [] f d l bf R e w'
theorem do_ok {q : Nat} (w : World) (Sd : List Nat) (f d l bf : Nat) (F : FsD) (hF : FsR w Sd [] f d l bf F) (hI : FInv q F) (hq : q < 2 ^ 47) (cs : List ChangeD) (hcs : ∀ c ∈ cs, c.name.length ≤ 1048576 ∧ c.tonm.length ≤ 1048576 ∧ c.data.length ≤ 1000000) (hcl : cs.length ≤ 1000) (v : Value) (xs : List Value) (hv : Sees w 4 v cs.length xs) (hx : CellsC w cs xs) :
    Calls Tryz.prog 11 #[.pointer (some ⟨f, 0, none⟩), v] w (DoEnd w Sd f d l bf (doF F cs)) :=
  do_okX w Sd [] f d l bf F hF (fun _ h => absurd h (by simp)) hI hq cs hcs hcl v xs hv hx
end Go.Proofs.YtgcmgcffndbpoaaGreatDoor

