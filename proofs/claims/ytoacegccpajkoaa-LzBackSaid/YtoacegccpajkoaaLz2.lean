/- Contracts of package lz: how many bytes are the same, the match at a place, Find. No statement of the seat is proved here. -/
import Derived.Test.YtoacegccpajkoaaLz
namespace Go.Proofs.Ytoacegccpajkoaa
open Go.RowKit Go.Aq Go.Maps
attribute [local go_sem ↓] Go.wp_at_zero Go.wp_at_succ

theorem commF_succ (b : List UInt8) (i k f n : Nat) : commF b i k (f + 1) n = if k + n < b.length ∧ b.getD (i + n) 0 = b.getD (k + n) 0 then commF b i k f (n + 1) else n := rfl

set_option maxHeartbeats 800000 in
theorem common_any (w : World) (vb : Value) (b : List UInt8) (i k : Nat) (hb : Sees w 1 vb b.length (Bs b)) (hbl : b.length ≤ 1000000) (hik : i ≤ k) (hk : k ≤ 1000000) :
    Calls Try.prog 51 #[vb, .int .i64 i, .int .i64 k] w fun e w' => e = .returned (.int .i64 (comm b i k)) ∧ ∃ q, w' = w.drewN q := by
  obtain ⟨nb, HB⟩ : ∃ n, Hid (b.length = n) := ⟨_, rfl⟩
  rw [HB.out] at hb hbl
  obtain ⟨ao, cap, rfl, hcap, hno⟩ := hb.shape
  have HNO := Lib.hid hno; clear hno
  go_enter Try.func51, Try.ntmps51
  go_wp2
  go_loopg [7] 258 (fun f v wr => ∃ j, j + f = 258 ∧ v = .int .i64 j ∧ comm b i k = commF b i k f j ∧ ∃ q, wr = w.drewN q)
  case atStart => exact ⟨0, by omega, rfl, rfl, 0, rfl⟩
  case round =>
    obtain ⟨j, hj, rfl, hcm, q, rfl⟩ := hrel
    have HJ := Lib.hid hj; clear hj
    have HC := Lib.hid hcm; clear hcm
    have hj258 : j ≤ 258 := by have := HJ.out; omega
    by_cases h1 : j < 258
    · have t1 : decide ((j : Int) < 258) = true := by simp; omega
      obtain ⟨f, hf⟩ : ∃ f, gk = f + 1 := ⟨gk - 1, by have := HJ.out; omega⟩
      have HF := Lib.hid hf; clear hf
      by_cases h2 : k + j < nb
      · have t2 : decide (((k : Int) + (j : Int)) < (nb : Int)) = true := by simp; omega
        have t2' : decide (k + j < nb) = true := by simp; omega
        obtain ⟨g, off, cap', hs, -, hgl, hcell⟩ := hb.cells (by omega)
        simp only [Value.slice.injEq, true_and] at hs
        obtain ⟨rfl, rfl⟩ := hs
        have x0 : w.cell? ⟨g, off + (i + j), none⟩ = some (.int .u8 (b.getD (i + j) 0).toNat) := by
          rw [hcell (i + j) (by omega), Bs_get _ _ (by rw [HB.out]; omega)]; simp [List.getD, show i + j < b.length by rw [HB.out]; omega]
        have x1 : w.cell? ⟨g, off + (k + j), none⟩ = some (.int .u8 (b.getD (k + j) 0).toNat) := by
          rw [hcell (k + j) (by omega), Bs_get _ _ (by rw [HB.out]; omega)]; simp [List.getD, show k + j < b.length by rw [HB.out]; omega]
        clear hcell
        have i0 : (0 : Int) ≤ (i : Int) + j := by omega
        have i1 : (i : Int) + j < nb := by omega
        have i2 : (0 : Int) ≤ (k : Int) + j := by omega
        have i3 : (k : Int) + j < nb := by omega
        have HS := Lib.hid (commF_succ b i k f j)
        generalize b.getD (i + j) 0 = y0 at *
        generalize b.getD (k + j) 0 = y1 at *
        by_cases h3 : y0 = y1
        · subst h3
          go_wp2_with fail
          go_quiet (fail)
          go_wp2_with fail
          go_roundg (gk - 1)
          case measure => have := HF.out; omega
          case rel =>
            have e := HS.out
            rw [if_pos ⟨by rw [HB.out]; exact h2, trivial⟩] at e
            refine ⟨j + 1, by have := HJ.out; omega, by go_num, ?_, q + nq, rfl⟩
            rw [HC.out, HF.out, e, Nat.add_sub_cancel]
        · have t3 : (((y0.toNat : Nat) : Int) == ((y1.toNat : Nat) : Int)) = false := by simp; intro h; exact h3 (UInt8.toNat_inj.1 (by omega))
          go_wp2_with fail
          go_quiet (fail)
          go_wp2_with fail
          go_ret
          have e := HS.out
          rw [if_neg (fun h => h3 h.2)] at e
          refine ⟨?_, q + nq, World.drewN_drewN _ _ _⟩
          rw [HC.out, HF.out, e]
          rfl
      · have t2 : decide (((k : Int) + (j : Int)) < (nb : Int)) = false := by simp; omega
        have t2' : decide (k + j < nb) = false := by simp; omega
        go_wp2_with fail
        go_quiet (fail)
        go_wp2_with fail
        go_ret
        have e := commF_succ b i k f j
        rw [if_neg (fun h => h2 (by have := HB.out; omega))] at e
        refine ⟨?_, q + nq, World.drewN_drewN _ _ _⟩
        rw [HC.out, HF.out, e]
        rfl
    · have t1 : decide ((j : Int) < 258) = false := by simp; omega
      go_wp2_with fail
      go_quiet (fail)
      go_wp2_with fail
      go_ret
      have e : gk = 0 := by have := HJ.out; omega
      refine ⟨?_, q + nq, World.drewN_drewN _ _ _⟩
      rw [HC.out, e]
      rfl

set_option maxHeartbeats 400000 in
theorem match_end (w : World) (p : Nat) (vb : Value) (b : List UInt8) (k : Nat) (hb : Sees w 1 vb b.length (Bs b)) (hk : b.length < k + 3) (hk2 : k ≤ 1000000) :
    Calls Try.prog 47 #[.pointer (some ⟨p, 0, none⟩), vb, .int .i64 k] w fun e w' => e = .returned (.tuple #[.int .i64 (matchAt b k).1, .int .i64 (matchAt b k).2]) ∧ ∃ q, w' = w.drewN q := by
  have e0 : matchAt b k = (0, 0) := scan_none b k hk k 64 (0, 0)
  rw [e0]
  obtain ⟨nb, HB⟩ : ∃ n, Hid (b.length = n) := ⟨_, rfl⟩
  rw [HB.out] at hb hk
  obtain ⟨ao, cap, rfl, hcap, hno⟩ := hb.shape
  have HNO := Lib.hid hno; clear hno e0
  go_enter Try.func47, Try.ntmps47
  go_wp2_with fail
  go_ret2
  exact ⟨rfl, 0, rfl⟩

set_option maxHeartbeats 1000000 in
theorem match_in (w : World) (S : List Nat) (p : Nat) (vb : Value) (b : List UInt8) (k : Nat) (hb : Sees w 1 vb b.length (Bs b)) (hbl : b.length ≤ 1000000) (hk : k + 3 ≤ b.length) (h : Ch w S p b k) :
    Calls Try.prog 47 #[.pointer (some ⟨p, 0, none⟩), vb, .int .i64 k] w fun e w' => e = .returned (.tuple #[.int .i64 (matchAt b k).1, .int .i64 (matchAt b k).2]) ∧ ∃ q, w' = w.drewN q := by
  obtain ⟨m, v, hp, hm, ho, rfl⟩ := h
  obtain ⟨nb, HB⟩ : ∃ n, Hid (b.length = n) := ⟨_, rfl⟩
  have hk' := Lib.hid hk
  have hb0 := Lib.hid hb
  have hbl0 := Lib.hid hbl
  rw [HB.out] at hb hbl hk
  obtain ⟨g, off, cap, rfl, hcap, hgl, hcell⟩ := hb.cells (by omega)
  have b0 : w.cell? ⟨g, off + k, none⟩ = some (.int .u8 (b.getD k 0).toNat) := by rw [hcell k (by omega), Bs_get _ _ (by rw [HB.out]; omega)]; simp [List.getD, show k < b.length by rw [HB.out]; omega]
  have b1 : w.cell? ⟨g, off + k + 1, none⟩ = some (.int .u8 (b.getD (k + 1) 0).toNat) := by rw [Nat.add_assoc, hcell (k + 1) (by omega), Bs_get _ _ (by rw [HB.out]; omega)]; simp [List.getD, show k + 1 < b.length by rw [HB.out]; omega]
  have b2 : w.cell? ⟨g, off + k + 2, none⟩ = some (.int .u8 (b.getD (k + 2) 0).toNat) := by rw [Nat.add_assoc, hcell (k + 2) (by omega), Bs_get _ _ (by rw [HB.out]; omega)]; simp [List.getD, show k + 2 < b.length by rw [HB.out]; omega]
  have h3 : at3 b k = some (b.getD k 0, b.getD (k + 1) 0, b.getD (k + 2) 0) := by unfold at3; rw [if_pos hk'.out]
  have H3 := Lib.hid h3; clear h3 hcell
  generalize b.getD k 0 = x0 at *
  generalize b.getD (k + 1) 0 = x1 at *
  generalize b.getD (k + 2) 0 = x2 at *
  obtain ⟨aov, capv, rfl, hcapv, hnov⟩ := ho.sees.shape
  have HNOv := Lib.hid hnov; clear hnov
  obtain ⟨⟨c0, c1⟩, f0, f1⟩ := hp.c2
  have hat : ∀ (w : World) (a : Option Addr) (c : Nat), (Instr.arrayAt 64 (.slice a 3 c)).run Try.prog w = .ok (.pointer a) w := fun w a c => run_arrayAt w _ _ 3 a 3 c Try.underlying64 (Nat.le_refl _)
  have hlk : ∀ q, Sem.run Try.prog (Instr.lookup 63 (Value.map (some m)) (.agg #[.int .u8 x0.toNat, .int .u8 x1.toNat, .int .u8 x2.toNat]) false) (w.drewN q) = .ok (.int .i64 (prevOcc b (x0, x1, x2) k)) (w.drewN q) := fun q => by
    have h := (hm.chg ⟨rfl, rfl, rfl, Nat.le_refl _, fun _ _ _ => rfl⟩ (by simp : m ∉ [])).look (w := w.drewN q) key_law Try.underlying63 (z := .int .i64 0) (by kernel_rfl) (key3V_good (x0, x1, x2)) |>.1
    rw [lastF_key] at h
    exact h
  have hwk : IntKind.i64.wrap ((k : Int) + 3) = (k : Int) + 3 := by
    rw [show ((k : Int) + 3) = ((k + 3 : Nat) : Int) from rfl, wrap_i64_nat _ (by omega)]
  obtain ⟨r, hr⟩ : ∃ r, prevOcc b (x0, x1, x2) k = r := ⟨_, rfl⟩
  rw [hr] at hlk
  have HR := Lib.hid hr; clear hr
  have i0 : (0 : Int) ≤ (k : Int) := by omega
  have i1 : (k : Int) + 3 ≤ (cap : Int) := by omega
  have i2 : (k : Int) ≤ (k : Int) + 3 := by omega
  go_enter Try.func47, Try.ntmps47
  go_wp2_with fail
  go_quiet (fail)
  clear hwk hlk hat b0 b1 b2
  go_wp2_with fail
  rw [show k + 3 - k = 3 by omega]
  go_loopg [8, 9, 10, 29] 64 (fun kk vb vd vp vc wr => ∃ (t i B D : Nat), t + kk = 64 ∧ vc = .int .i64 t ∧ i ≤ k ∧ vp = .int .i64 (prevOcc b (x0, x1, x2) i) ∧ vb = .int .i64 B ∧ vd = .int .i64 D ∧ B ≤ 258 ∧ D ≤ k ∧ scan b k i kk (B, D) = matchAt b k ∧ ∃ q, wr = w.drewN q)
  case atStart => exact ⟨0, k, 0, 0, by omega, rfl, Nat.le_refl _, by rw [HR.out], rfl, rfl, by omega, by omega, rfl, nq, rfl⟩
  case round =>
    obtain ⟨t, i, B, D, ht, rfl, hik, rfl, rfl, rfl, hB, hD, hsc, q, rfl⟩ := hrel
    have HT := Lib.hid ht; clear ht
    have ht64 : t ≤ 64 := by have := HT.out; omega
    have HCH := Lib.hid (scan_chain b k (x0, x1, x2) hk'.out H3.out i gk (B, D) hik)
    have HSC := Lib.hid hsc; clear hsc
    have hple := prevOcc_le b (x0, x1, x2) i
    have HAT := Lib.hid (prevOcc_at b (x0, x1, x2) i)
    generalize prevOcc b (x0, x1, x2) i = P at *
    by_cases h64 : t < 64
    · by_cases hP : P = 0
      · subst hP
        have e := HCH.out
        rw [if_pos (.inl rfl), HSC.out] at e
        have HE := Lib.hid e; clear e
        go_wp2_with fail
        go_ret2
        refine ⟨?_, q, rfl⟩
        rw [HE.out]
        rfl
      · obtain ⟨P', rfl⟩ : ∃ P', P = P' + 1 := ⟨P - 1, by omega⟩
        have tP : (((P' : Int) + 1) == 0) = false := by simp; omega
        by_cases hfar : 32768 < k - P'
        · have e := HCH.out
          rw [if_pos (.inr (.inl (by simpa using hfar))), HSC.out] at e
          have HE := Lib.hid e; clear e
          have tf : (32768 : Int) < (k : Int) - (P' : Int) := by omega
          go_wp2_with fail
          go_ret2
          refine ⟨?_, q, rfl⟩
          rw [HE.out]
          rfl
        · have tf : (k : Int) - (P' : Int) ≤ 32768 := by omega
          have e := HCH.out
          rw [if_neg (by have := HT.out; simp; omega), HSC.out, Nat.add_sub_cancel] at e
          have HE := Lib.hid e; clear e
          have hPk : P' < k := by omega
          have HA3 : Hid (at3 b P' = some (x0, x1, x2)) := Lib.hid (by have := HAT.out (by omega); simpa using this)
          have hprev : prevAt b P' = prevOcc b (x0, x1, x2) P' := by unfold prevAt; rw [HA3.out]
          obtain ⟨gv, cap', hs, -, -, -⟩ := ho.pos (by omega)
          simp only [Value.slice.injEq, true_and] at hs
          obtain ⟨rfl, rfl⟩ := hs
          have xp : w.cell? ⟨gv, P', none⟩ = some (.int .i64 (prevOcc b (x0, x1, x2) P')) := by
            rw [ho.cellAt P' (by omega)]
            simp only [prevL, List.getElem?_map, List.getElem?_range hPk, Option.map_some, hprev]
          have HP := Lib.hid hprev; clear hprev
          have hcl := comm_le b P' k
          go_wp2_with fail
          refine (common_any _ _ b P' k (hb0.out.chg0 ((Chg.refl [] w).drewN q)) hbl0.out (by omega) (by omega)).mono ?_
          rintro e w2 ⟨rfl, q2, rfl⟩
          have HU : Hid (upd b k (B, D) P' = if B < comm b P' k then (comm b P' k, k - P') else (B, D)) := rfl
          obtain ⟨cm, hcm⟩ : ∃ cm, comm b P' k = cm := ⟨_, rfl⟩
          rw [hcm] at hcl HU ⊢
          clear hcm
          by_cases hgt : B < cm
          · have hu := HU.out
            rw [if_pos hgt] at hu
            have HV := Lib.hid hu; clear hu HU
            go_wp2_with fail
            go_roundg (gk - 1)
            case measure => have := HT.out; omega
            case rel => exact ⟨t + 1, P', cm, k - P', by have := HT.out; omega, by go_num, by omega, rfl, rfl, by go_num, hcl, by omega, by rw [HE.out, HV.out], q + q2, rfl⟩
          · have hu := HU.out
            rw [if_neg hgt] at hu
            have HV := Lib.hid hu; clear hu HU
            go_wp2_with fail
            go_roundg (gk - 1)
            case measure => have := HT.out; omega
            case rel => exact ⟨t + 1, P', B, D, by have := HT.out; omega, by go_num, by omega, rfl, rfl, rfl, hB, by omega, by rw [HE.out, HV.out], q + q2, rfl⟩
    · have e0 : gk = 0 := by have := HT.out; omega
      have e := HSC.out
      rw [e0, scan_zero] at e
      have HE := Lib.hid e; clear e
      go_wp2_with fail
      go_ret2
      refine ⟨?_, q, rfl⟩
      rw [← HE.out]
      rfl

theorem match_any (w : World) (S : List Nat) (p : Nat) (vb : Value) (b : List UInt8) (k : Nat) (hb : Sees w 1 vb b.length (Bs b)) (hbl : b.length ≤ 1000000) (hk : k ≤ b.length) (h : Ch w S p b k) :
    Calls Try.prog 47 #[.pointer (some ⟨p, 0, none⟩), vb, .int .i64 k] w fun e w' => e = .returned (.tuple #[.int .i64 (matchAt b k).1, .int .i64 (matchAt b k).2]) ∧ ∃ q, w' = w.drewN q := by
  by_cases h3 : k + 3 ≤ b.length
  · exact match_in w S p vb b k hb hbl h3 h
  · exact match_end w p vb b k hb (by omega) (by omega)

def tokCells (t : TokD) : List Value := [.int .i64 t.len, .int .i64 t.dist, .int .i64 t.byte]

set_option maxHeartbeats 400000 in
theorem find_large (w : World) (vb : Value) (n : Nat) (xs : List Value) (hb : Sees w 1 vb n xs) (hbl : 40000 < n) :
    Calls Try.prog 37 #[vb] w fun e w' => e = .returned (.tuple #[.slice none 0 0, .int .i64 10]) ∧ w = w' := by
  obtain ⟨ao, cap, rfl, hcap, hno⟩ := hb.shape
  have HNO := Lib.hid hno; clear hno
  go_enter Try.func37, Try.ntmps37
  go_wp2_with fail
  go_ret2
  exact ⟨rfl, rfl⟩

set_option maxHeartbeats 2000000 in
theorem find_any (w : World) (vb : Value) (b : List UInt8) (hb : Sees w 1 vb b.length (Bs b)) (hbl : b.length ≤ 40000) :
    Calls Try.prog 37 #[vb] w fun e w' => ∃ v', e = .returned (.tuple #[v', .int .i64 0]) ∧ Own w' 61 3 v' (toks b).length ((toks b).flatMap tokCells) ∧ Chg [] w w' ∧ ∀ k ∈ v'.ownBlock.toList, w.heap.size ≤ k := by
  obtain ⟨nb, HB⟩ : ∃ n, Hid (b.length = n) := ⟨_, rfl⟩
  have hb0 := Lib.hid hb
  rw [HB.out] at hb hbl
  obtain ⟨ao, cap, rfl, hcap, hno⟩ := hb.shape
  have HNO := Lib.hid hno; clear hno
  have hmm := @run_makeMap Try.prog
  go_enter Try.func37, Try.ntmps37
  go_wp2_with fail
  have hmp := (MapF.new Try.prog 64 w).chg ((Chg.refl [] (w.alloc (Obj.map #[] 0))).alloc (Obj.cells #[Value.map (some w.heap.size), Value.slice none 0 0] 80)) (by simp)
  have hbp := Blk.new (w.alloc (Obj.map #[] 0)) #[Value.map (some w.heap.size), Value.slice none 0 0] 80
  have C1 : Chg [] w ((w.alloc (Obj.map #[] 0)).alloc (Obj.cells #[Value.map (some w.heap.size), Value.slice none 0 0] 80)) := ((Chg.refl [] w).alloc _).alloc _
  have hsz : (w.alloc (Obj.map #[] 0)).heap.size = w.heap.size + 1 := by simp
  rw [hsz] at hbp
  generalize (w.alloc (Obj.map #[] 0)).alloc (Obj.cells #[Value.map (some w.heap.size), Value.slice none 0 0] 80) = w1 at *
  have hch : Ch w1 [w.heap.size + 1, w.heap.size] (w.heap.size + 1) b 0 := ⟨w.heap.size, .slice none 0 0, hbp, by rw [lastF_zero]; exact hmp, Own.nil _ _ _, rfl⟩
  clear hsz hmm hbp hmp
  have hS0 : ∀ k ∈ [w.heap.size + 1, w.heap.size], w.heap.size ≤ k := by simp
  generalize [w.heap.size + 1, w.heap.size] = S0 at hch hS0
  obtain ⟨p, hp⟩ : ∃ p, w.heap.size + 1 = p := ⟨_, rfl⟩
  rw [hp] at hch ⊢
  clear hp
  go_loopg [5, 6] nb (fun f vl va wr => ∃ (k : Nat) (L : List TokD) (S : List Nat), va = .int .i64 k ∧ k ≤ nb ∧ nb ≤ k + f ∧ toks b = L ++ tokF b f k ∧ L.length ≤ k ∧ Own wr 61 3 vl L.length (L.flatMap tokCells) ∧ Ch wr S p b k ∧ Disj S vl.ownBlock.toList ∧ Chg [] w wr ∧ (∀ k ∈ S, w.heap.size ≤ k) ∧ (∀ k ∈ vl.ownBlock.toList, w.heap.size ≤ k))
  case atStart => exact ⟨0, [], S0, rfl, by omega, by omega, by rw [← HB.out]; rfl, by simp, Own.nil _ _ _, hch, fun _ _ => by simp [Value.ownBlock], C1, hS0, by simp [Value.ownBlock]⟩
  case round =>
    obtain ⟨k, L, S, rfl, hkn, hkf, htk, hLk, hO, hC, hD, hCh, hS, hSl⟩ := hrel
    clear hch C1
    have HTK := Lib.hid htk; clear htk
    by_cases hlt : k < nb
    · obtain ⟨f, hf⟩ : ∃ f, gk = f + 1 := ⟨gk - 1, by omega⟩
      have HF := Lib.hid hf; clear hf
      have hb1 := hb0.out.chg0 hCh
      have hmo := matchAt_ok b k (by rw [HB.out]; exact hkn)
      go_wp2_with fail
      refine (match_any _ S p _ b k hb1 (by rw [HB.out]; omega) (by rw [HB.out]; exact hkn) hC).mono ?_
      rintro e w2 ⟨rfl, q, rfl⟩
      have HTF : Hid (tokF b (f + 1) k = if k < b.length then (if (matchAt b k).1 = 0 then ⟨0, 0, (b.getD k 0).toNat⟩ :: tokF b f (k + 1) else ⟨(matchAt b k).1, (matchAt b k).2, 0⟩ :: tokF b f (k + (matchAt b k).1)) else []) := rfl
      have htf := HTF.out
      rw [if_pos (by rw [HB.out]; exact hlt)] at htf
      have HTF2 := Lib.hid htf; clear htf HTF
      obtain ⟨⟨M, Dd⟩, hM⟩ : ∃ r, matchAt b k = r := ⟨_, rfl⟩
      rw [hM] at HTF2 hmo ⊢
      clear hM
      simp only at HTF2 ⊢
      have cq : Chg [] wr (wr.drewN q) := (Chg.refl _ _).drewN q
      have hO2 := hO.chg cq (fun _ _ => by simp)
      have hC2 := hC.chg cq (fun _ _ => by simp)
      have hb2 := hb1.chg0 cq
      have hCh2 := hCh.nil cq
      generalize wr.drewN q = wq at *
      clear cq
      by_cases hM0 : M = 0
      · subst hM0
        obtain ⟨g, off, cap', hs, -, hgl, hcell⟩ := hb.cells (by omega)
        simp only [Value.slice.injEq, true_and] at hs
        obtain ⟨rfl, rfl⟩ := hs
        have x0 : wq.cell? ⟨g, off + k, none⟩ = some (.int .u8 (b.getD k 0).toNat) := by
          refine hCh2.cell_some ?_ (by simp)
          rw [hcell k (by omega), Bs_get _ _ (by rw [HB.out]; omega)]; simp [List.getD, show k < b.length by rw [HB.out]; omega]
        clear hcell
        have hyl := (b.getD k 0).toNat_lt
        have hgq : g < wq.heap.size := by have := hCh2.size; omega
        generalize b.getD k 0 = y at *
        go_wp2_with (at_builtin; refine wpList_app (v := u5) rfl _ _ 51 rfl sl_tok (by exact (hO2.alloc (.cells #[.int .i64 0, .int .i64 0, .int .i64 y.toNat] 61)).alloc (.cells #[.int .i64 0, .int .i64 0, .int .i64 y.toNat] 61)) rfl (Sees.blk (cs := #[.int .i64 0, .int .i64 0, .int .i64 y.toNat]) (by exact Blk.new_at (wq.alloc (.cells #[.int .i64 0, .int .i64 0, .int .i64 y.toNat] 61)) _ 61 (by simp))) rfl (by simp [Value.oneCell']) (by omega) (by omega) ?_; intro v3 w3 hO3 c3 n3)
        have ce : Chg [] wq ((wq.alloc (.cells #[.int .i64 0, .int .i64 0, .int .i64 y.toNat] 61)).alloc (.cells #[.int .i64 0, .int .i64 0, .int .i64 y.toNat] 61)) := ((Chg.refl _ _).alloc _).alloc _
        have hC3 := (hC2.chg ce (fun _ _ => by simp)).chg c3 hD
        have hb3 := (hb2.chg0 ce).chg c3 (fun j hj h => by have := hb0.out.lt (by decide) j hj; have := hSl j h; omega)
        have hCh3 := (hCh2.nil ce).trans c3 fun i hi => .inr (hSl i hi)
        have hD3 : Disj S v3.ownBlock.toList := fun j hj h => by
          rcases n3 j h with h1 | h1
          · exact hD j hj h1
          · have := hC2.lt j hj; simp at h1; omega
        have hSl3 : ∀ j ∈ v3.ownBlock.toList, w.heap.size ≤ j := fun j h => by
          rcases n3 j h with h1 | h1
          · exact hSl j h1
          · have := hCh2.size; simp at h1; omega
        have hIn3 := hO3.lt
        clear ce c3 n3 hO2 hC2 hb2 hCh2 hO hC hD hCh hb1 hmo
        obtain ⟨G, rfl⟩ : ∃ G, G = gk := ⟨_, rfl⟩
        obtain ⟨wo, rfl⟩ : ∃ wo, wo = wr := ⟨_, rfl⟩
        go_loopg [43] 1 (fun kk vc wr => ∃ (j : Nat) (S' : List Nat), j + kk = 1 ∧ vc = .int .i64 j ∧ Ch wr S' p b (k + j) ∧ Upd S S' w3 wr)
        case atStart => exact ⟨0, S, by omega, rfl, hC3, Upd.refl _ _⟩
        case round =>
          obtain ⟨j, S', hj, rfl, hC4, hU⟩ := hrel
          have HJ := Lib.hid hj; clear hj
          have hjM : j ≤ 1 := by have := HJ.out; omega
          have hCh4 := hCh3.trans hU.chg fun i hi => .inr (hS i hi)
          have hS4 := hU.above hCh3.size hS
          have hb4 := hb3.chg hU.chg (fun j hj h => by have := hb0.out.lt (by decide) j hj; have := hS j h; omega)
          by_cases hlt2 : j < 1
          · go_wp2_with fail
            refine (adds_any _ S' p b (k + j) _ hb4 (by rw [HB.out]; omega) (by rw [HB.out]; omega) hC4).mono ?_
            rintro e w4 ⟨rfl, S5, hC5, hU5⟩
            go_wp2_with fail
            go_roundg (gk - 1)
            case measure => have := HJ.out; omega
            case rel => exact ⟨j + 1, S5, by have := HJ.out; omega, by go_num, by rw [← Nat.add_assoc]; exact hC5, hU.trans hU5⟩
          · obtain rfl : j = 1 := by omega
            go_wp2_with fail
            go_roundg (G - 1)
            case measure => have := HF.out; omega
            case rel =>
              refine ⟨k + 1, L ++ [⟨0, 0, y.toNat⟩], S', by go_num, by omega, by have := HF.out; omega, ?_, by simp; omega, ?_, hC4, (hD3.symm.upd hU hIn3).symm, hCh4, hS4, hSl3⟩
              · rw [HTK.out, HF.out, HTF2.out, if_pos trivial, Nat.add_sub_cancel, List.append_assoc]
                rfl
              · rw [List.length_append, List.flatMap_append]
                exact (hO3.chg hU.chg hD3.symm)
      · have hmo2 : 3 ≤ M ∧ M ≤ 258 ∧ k + M ≤ nb ∧ 1 ≤ Dd ∧ Dd ≤ k ∧ Dd ≤ 32768 := by
          rcases hmo with h | h
          · simp at h; omega
          · have := HB.out; simp only at h; omega
        have tM : ((M : Int) == 0) = false := by simp; omega
        go_wp2_with (at_builtin; refine wpList_app (v := u5) rfl _ _ 51 rfl sl_tok (by exact (hO2.alloc (.cells #[.int .i64 M, .int .i64 Dd, .int .i64 0] 61)).alloc (.cells #[.int .i64 M, .int .i64 Dd, .int .i64 0] 61)) rfl (Sees.blk (cs := #[.int .i64 M, .int .i64 Dd, .int .i64 0]) (by exact Blk.new_at (wq.alloc (.cells #[.int .i64 M, .int .i64 Dd, .int .i64 0] 61)) _ 61 (by simp))) rfl (by simp [Value.oneCell']) (by omega) (by omega) ?_; intro v3 w3 hO3 c3 n3)
        have ce : Chg [] wq ((wq.alloc (.cells #[.int .i64 M, .int .i64 Dd, .int .i64 0] 61)).alloc (.cells #[.int .i64 M, .int .i64 Dd, .int .i64 0] 61)) := ((Chg.refl _ _).alloc _).alloc _
        have hC3 := (hC2.chg ce (fun _ _ => by simp)).chg c3 hD
        have hb3 := (hb2.chg0 ce).chg c3 (fun j hj h => by have := hb0.out.lt (by decide) j hj; have := hSl j h; omega)
        have hCh3 := (hCh2.nil ce).trans c3 fun i hi => .inr (hSl i hi)
        have hD3 : Disj S v3.ownBlock.toList := fun j hj h => by
          rcases n3 j h with h1 | h1
          · exact hD j hj h1
          · have := hC2.lt j hj; simp at h1; omega
        have hSl3 : ∀ j ∈ v3.ownBlock.toList, w.heap.size ≤ j := fun j h => by
          rcases n3 j h with h1 | h1
          · exact hSl j h1
          · have := hCh2.size; simp at h1; omega
        have hIn3 := hO3.lt
        clear ce c3 n3 hO2 hC2 hb2 hCh2 hO hC hD hCh hb1 hmo
        obtain ⟨G, rfl⟩ : ∃ G, G = gk := ⟨_, rfl⟩
        obtain ⟨wo, rfl⟩ : ∃ wo, wo = wr := ⟨_, rfl⟩
        go_loopg [43] M (fun kk vc wr => ∃ (j : Nat) (S' : List Nat), j + kk = M ∧ vc = .int .i64 j ∧ Ch wr S' p b (k + j) ∧ Upd S S' w3 wr)
        case atStart => exact ⟨0, S, by omega, rfl, hC3, Upd.refl _ _⟩
        case round =>
          obtain ⟨j, S', hj, rfl, hC4, hU⟩ := hrel
          have HJ := Lib.hid hj; clear hj
          have hjM : j ≤ M := by have := HJ.out; omega
          have hCh4 := hCh3.trans hU.chg fun i hi => .inr (hS i hi)
          have hS4 := hU.above hCh3.size hS
          have hb4 := hb3.chg hU.chg (fun j hj h => by have := hb0.out.lt (by decide) j hj; have := hS j h; omega)
          by_cases hlt2 : j < M
          · go_wp2_with fail
            refine (adds_any _ S' p b (k + j) _ hb4 (by rw [HB.out]; omega) (by rw [HB.out]; omega) hC4).mono ?_
            rintro e w4 ⟨rfl, S5, hC5, hU5⟩
            go_wp2_with fail
            go_roundg (gk - 1)
            case measure => have := HJ.out; omega
            case rel => exact ⟨j + 1, S5, by have := HJ.out; omega, by go_num, by rw [← Nat.add_assoc]; exact hC5, hU.trans hU5⟩
          · obtain rfl : M = j := by omega
            go_wp2_with fail
            go_roundg (G - 1)
            case measure => have := HF.out; omega
            case rel =>
              refine ⟨k + M, L ++ [⟨M, Dd, 0⟩], S', by go_num, by omega, by have := HF.out; omega, ?_, by simp; omega, ?_, hC4, (hD3.symm.upd hU hIn3).symm, hCh4, hS4, hSl3⟩
              · rw [HTK.out, HF.out, HTF2.out, if_neg hM0, Nat.add_sub_cancel, List.append_assoc]
                rfl
              · rw [List.length_append, List.flatMap_append]
                exact (hO3.chg hU.chg hD3.symm)
    · have hkn' : k = nb := by omega
      go_wp2_with fail
      go_ret2
      have htf : tokF b gk k = [] := by
        cases gk with
        | zero => rfl
        | succ f => unfold tokF; rw [if_neg (by rw [HB.out]; omega)]
      have htk := HTK.out
      rw [htf, List.append_nil] at htk
      rw [htk]
      exact ⟨u5, rfl, hO, hCh, hSl⟩
end Go.Proofs.Ytoacegccpajkoaa
