/- BitsReads: any bytes, any calls of a reader: what is got, the errors, how far it is are the document's: the law's function returns true at all arguments. -/
import Derived.Test.YtoacegccpajkoaaOps
import Derived.Test.YtoacegccpajkoaaLaw4
import Derived.Test.YtoacegccpajkoaaRead
import Derived.Deep.RegionHeld3
import Derived.Deep.DrawnRows
namespace Go.Proofs.Ytoacegccpajkoaa
open Go.RowKit Go.Aq
attribute [local go_sem ↓] Go.wp_at_zero Go.wp_at_succ

/-- The cells of op i. -/
theorem ops_at2 {w : World} {g off n : Nat} {ops : List OpD} (hn : ops.length = n) (h : ∀ j, j < n * 3 → w.cell? ⟨g, off + j, none⟩ = (ops.flatMap opCells)[j]?) (i : Nat) (hi : i < ops.length) :
    w.cell? ⟨g, off + i * 3, none⟩ = some (.int .i64 (ops[i]'hi).kind) ∧ w.cell? ⟨g, off + i * 3 + 1, none⟩ = some (.int .i64 (ops[i]'hi).count) ∧ w.cell? ⟨g, off + i * 3 + 2, none⟩ = some (.int .u32 (ops[i]'hi).n) := by
  have key : ∀ j, j < 3 → w.cell? ⟨g, off + i * 3 + j, none⟩ = (opCells (ops[i]'hi))[j]? := fun j hj => by
    rw [Nat.add_assoc, h (i * 3 + j) (by omega), flatMap_get opCells 3 (fun _ => rfl) (by decide) ops (i * 3 + j) (by omega)]
    rw [show (i * 3 + j) / 3 = i by omega, show (i * 3 + j) % 3 = j by omega, List.getElem?_eq_getElem hi]
    rfl
  exact ⟨key 0 (by decide), key 1 (by decide), key 2 (by decide)⟩

set_option maxRecDepth 100000 in
set_option maxHeartbeats 2000000 in
theorem reads_in (vb : Value) (bs : List UInt8) (v : Value) (ops : List OpD) (w : World) (hb : Sees w 1 vb bs.length (Bs bs)) (h8000 : bs.length ≤ 8000) (hv : Sees w 3 v ops.length (ops.flatMap opCells)) (h500 : ops.length ≤ 500) :
    Calls Try.prog 5 #[vb, v] w fun e w' => e = .returned (.bool true) ∧ Chg [] w w' := by
  obtain ⟨n, HN⟩ : ∃ n, Hid (ops.length = n) := ⟨_, rfl⟩
  rw [HN.out] at hv h500
  obtain ⟨nb, HB⟩ : ∃ n, Hid (bs.length = n) := ⟨_, rfl⟩
  rw [HB.out] at hb h8000
  have hb9 : bs.length ≤ 8000 := by rw [HB.out]; exact h8000
  obtain ⟨ao, cap, rfl, hcap, hno⟩ := hv.shape
  have HNO := Lib.hid hno; clear hno
  obtain ⟨aob, capb, rfl, hcapb, hnob⟩ := hb.shape
  have HNOb := Lib.hid hnob; clear hnob
  go_enter Try.func5, Try.ntmps5
  go_wp2_with fail
  refine (first4 _).mono ?_
  rintro e w0 ⟨rfl, c0⟩
  go_wp2_with fail
  refine (copy_any _ _ _ bs (hb.chg0 c0) (by omega) sl_u8).mono ?_
  rintro e w1 ⟨vi, rfl, o1, c1, n1⟩
  go_wp2_with fail
  refine (newReader_any _ _ bs (by rw [HB.out]; exact o1.sees) (by omega)).mono ?_
  rintro e w2 ⟨a, Sa, rfl, ha, c2, la⟩
  go_wp2_with fail
  have C2 : Chg [] w w2 := (c0.nil c1).nil c2
  have hb2 := hb.chg0 C2
  have blk := Blk.new w2 #[.slice aob nb capb, .int .i64 0] 46
  obtain ⟨b, hbb⟩ : ∃ b, w2.heap.size = b := ⟨_, rfl⟩
  obtain ⟨w3, hw3⟩ : ∃ w3, w2.alloc (.cells #[.slice aob nb capb, .int .i64 0] 46) = w3 := ⟨_, rfl⟩
  have c3 : Chg [] w2 w3 := by rw [← hw3]; exact Chg.alloc (Chg.refl _ _) _
  rw [hbb, hw3] at blk
  rw [hw3, hbb]
  have hbl : b ∉ eyes (.slice aob nb capb) := fun h => by
    have := hb.lt (by decide) b h; have := C2.size; omega
  have hB3 : RRd w3 b (.slice aob nb capb) bs 0 := ⟨blk, by rw [HB.out]; exact hb2.chg0 c3, hbl⟩
  have hA3 := ha.chg c3 (fun _ _ => by simp)
  have oi : Sees w3 1 vi nb (Bs bs) := (o1.sees.chg0 c2).chg0 c3
  have aSb : b ∉ Sa := fun h => by have := ha.lt b h; omega
  have eSa : Disj (eyes (.slice aob nb capb)) Sa := fun k h h2 => by
    have := hb.lt (by decide) k h; have := la k h2; have := c0.size; have := c1.size; omega
  have iSa : Disj (eyes vi) Sa := fun k h h2 => by
    have := o1.lt k (eyes_own vi k h); have := la k h2; omega
  have iSb : b ∉ eyes vi := fun h => by
    have := o1.lt b (eyes_own vi b h); have := c2.size; omega
  have C3 : Chg [] w w3 := C2.nil c3
  have hSa : ∀ k ∈ Sa, w.heap.size ≤ k := fun k hk => by have := la k hk; have := c0.size; have := c1.size; omega
  have hSb : w.heap.size ≤ b := by have := C2.size; omega
  obtain ⟨aoi, capi, rfl, hcapi, hnoi⟩ := oi.shape
  have HNOi := Lib.hid hnoi; clear hnoi
  clear hw3 hbb c3 c2 c1 c0 ha la blk o1 n1 hb2 C2
  go_loopg [8] n (fun k i wr => ∃ j, j + k = n ∧ i = .int .i64 j ∧ ∃ P, P ≤ 8 * bs.length ∧ Rd wr Sa a bs P ∧ RRd wr b (.slice aob nb capb) bs P ∧ Sees wr 1 (.slice aoi nb capi) nb (Bs bs) ∧ Chg [] w wr)
  case atStart => exact ⟨0, by omega, rfl, 0, by omega, hA3, hB3, oi, C3⟩
  case round =>
    obtain ⟨j, hj, rfl, p, hp, hA, hB, hI, hC⟩ := hrel
    clear hA3 hB3 C3 oi
    have HJ := Lib.hid hj; clear hj
    have hjn : j ≤ n := by have := HJ.out; omega
    have dSa : Disj (b :: eyes (.slice aob nb capb)) Sa := fun k hk => by
      rcases List.mem_cons.1 hk with rfl | hk
      · exact aSb
      · exact eSa k hk
    by_cases hlt : j < n
    · have hlo : j < ops.length := by rw [HN.out]; exact hlt
      obtain ⟨g, off, cap', hs, -, hgl, hcell⟩ := hv.cells (by omega)
      simp only [Value.slice.injEq, true_and] at hs
      obtain ⟨rfl, rfl⟩ := hs
      obtain ⟨k0, k1, k2⟩ := ops_at2 HN.out hcell j hlo
      clear hcell
      obtain ⟨o, ho⟩ : ∃ o, o = ops[j]'hlo := ⟨_, rfl⟩
      rw [← ho] at k0 k1 k2
      clear ho
      obtain ⟨kind, count, N, hN⟩ := o
      simp only at k0 k1 k2
      clear k2
      replace k0 := hC.cell_some k0 (by simp)
      replace k1 := hC.cell_some k1 (by simp)
      have gSa : g ∉ Sa := fun h => by have := hSa g h; omega
      have gb : g ≠ b := by omega
      by_cases hk : kind = 2
      · subst hk
        go_wp2_with fail
        refine (ralign_any _ Sa a bs p (by omega) hA).mono ?_
        rintro e w4 ⟨rfl, hA4, uA⟩
        have hB4 := hB.chg uA.chg dSa
        have hI4 := hI.chg uA.chg iSa
        have C4 := hC.trans uA.chg fun i hi => .inr (hSa i hi)
        go_wp2_with fail
        refine (rralign_any _ b _ bs p (by omega) hB4).mono ?_
        rintro e w5 ⟨rfl, hB5, cB⟩
        have hA5 := hA4.chg cB (fun k hk => by simp; rintro rfl; exact aSb hk)
        have hI5 := hI4.chg cB (fun k hk => by simp; rintro rfl; exact iSb hk)
        have C5 := C4.trans cB (by simp; exact hSb)
        have hpz : 8 * ((p + 7) / 8) ≤ 8 * bs.length := by omega
        obtain ⟨pz, hz⟩ : ∃ pz, pz = 8 * ((p + 7) / 8) := ⟨_, rfl⟩
        rw [← hz] at hA5 hB5 hpz
        clear hz hA4 hB4 hI4 C4 uA cB hA hB hI hC k0 k1 hp
        go_wp2_with fail
        obtain ⟨e0, e1⟩ : w5.cell? ⟨b, 0, none⟩ = some (.slice aob nb capb) ∧ w5.cell? ⟨b, 1, none⟩ = some (.int .i64 pz) := ⟨hB5.1.cell 0, hB5.1.cell 1⟩
        go_quiet (first
          | (go_at_call 33; exact quiet_left (at_any _ Sa a bs pz (hA5.drewN _)))
          | (go_at_call 34; exact Calls.quiet_of (left_any _ Sa a bs pz (by omega) hpz (hA5.drewN _)))
          | (go_at_call 35; exact Calls.quiet_of (rleft_any _ b _ bs pz (by omega) hpz (hB5.drewN _))))
        go_wp2_with fail
        go_roundg (gk - 1)
        case measure => have := HJ.out; omega
        case rel => exact ⟨j + 1, by have := HJ.out; omega, by go_num, pz, hpz, hA5.drewN _, hB5.drewN _, hI5.chg0 ((Chg.refl _ _).drewN _), C5.drewN _⟩
      · have hk2 : (kind == 2) = false := by simpa using hk
        clear hk
        go_wp2_with fail
        refine (get_any _ Sa a bs p count (by omega) hp hA).mono ?_
        rintro e w4 ⟨rfl, hA4, uA⟩
        have hB4 := hB.chg uA.chg dSa
        have hI4 := hI.chg uA.chg iSa
        have C4 := hC.trans uA.chg fun i hi => .inr (hSa i hi)
        have k1' := uA.chg.cell_some k1 gSa
        clear k1
        go_wp2_with fail
        refine (rget_any _ b _ bs p count (by omega) hp hB4).mono ?_
        rintro e w5 ⟨rfl, hB5, cB⟩
        have hA5 := hA4.chg cB (fun k hk => by simp; rintro rfl; exact aSb hk)
        have hI5 := hI4.chg cB (fun k hk => by simp; rintro rfl; exact iSb hk)
        have C5 := C4.trans cB (by simp; exact hSb)
        have hpz : getP bs.length p count ≤ 8 * bs.length := getP_le hp
        obtain ⟨pz, hz⟩ : ∃ pz, pz = getP bs.length p count := ⟨_, rfl⟩
        rw [← hz] at hA5 hB5 hpz
        clear hz hA4 hB4 hI4 C4 uA cB hA hB hI hC k0 k1' hp
        generalize getV bs p count = gv
        generalize getE bs.length p count = ge
        go_wp2_with fail
        obtain ⟨e0, e1⟩ : w5.cell? ⟨b, 0, none⟩ = some (.slice aob nb capb) ∧ w5.cell? ⟨b, 1, none⟩ = some (.int .i64 pz) := ⟨hB5.1.cell 0, hB5.1.cell 1⟩
        go_quiet (first
          | (go_at_call 33; exact quiet_left (at_any _ Sa a bs pz (hA5.drewN _)))
          | (go_at_call 34; exact Calls.quiet_of (left_any _ Sa a bs pz (by omega) hpz (hA5.drewN _)))
          | (go_at_call 35; exact Calls.quiet_of (rleft_any _ b _ bs pz (by omega) hpz (hB5.drewN _))))
        go_wp2_with fail
        go_roundg (gk - 1)
        case measure => have := HJ.out; omega
        case rel => exact ⟨j + 1, by have := HJ.out; omega, by go_num, pz, hpz, hA5.drewN _, hB5.drewN _, hI5.chg0 ((Chg.refl _ _).drewN _), C5.drewN _⟩
    · have hjn' : j = n := by omega
      clear hjn hlt
      go_wp2_with fail
      refine (first4 _).mono ?_
      rintro e w4 ⟨rfl, c4⟩
      go_wp2_with fail
      refine (same_yes _ _ _ _ _ _ _ (hI.chg0 c4) ((hb.chg0 hC).chg0 c4) rfl).mono ?_
      rintro e w5 ⟨rfl, rfl⟩
      go_wp2_with fail
      go_ret
      exact ⟨rfl, hC.nil c4⟩

set_option maxRecDepth 100000 in
set_option maxHeartbeats 400000 in
theorem reads_out (vb : Value) (nb : Nat) (bs : List Value) (v : Value) (n : Nat) (xs : List Value) (w : World) (hb : Sees w 1 vb nb bs) (hv : Sees w 3 v n xs) (h : 8000 < nb ∨ (nb ≤ 8000 ∧ 500 < n)) :
    Calls Try.prog 5 #[vb, v] w fun e w' => e = .returned (.bool true) ∧ Chg [] w w' := by
  obtain ⟨ao, cap, rfl, hcap, hno⟩ := hv.shape
  have HNO := Lib.hid hno; clear hno
  obtain ⟨aob, capb, rfl, hcapb, hnob⟩ := hb.shape
  have HNOb := Lib.hid hnob; clear hnob
  rcases h with h | ⟨h1, h⟩
  all_goals
    go_enter Try.func5, Try.ntmps5
    go_wp2_with fail
    refine (first4 _).mono ?_
    rintro e w0 ⟨rfl, c0⟩
    go_wp2_with fail
    refine (first4 _).mono ?_
    rintro e w1 ⟨rfl, c1⟩
    go_wp2_with fail
    go_ret
    exact ⟨rfl, c0.nil c1⟩

theorem readsTop (vb : Value) (nb : Nat) (bs : List UInt8) {w : World} (hb : Sees w 1 vb nb (Bs bs) ∧ nb ≤ 9223372036854775807) (v : Value) (ops : List OpD) (h : Sees w 3 v ops.length (ops.flatMap opCells) ∧ ops.length ≤ 9223372036854775807) :
    Calls Try.prog 5 #[vb, v] w fun e w' => e = .returned (.bool true) ∧ Chg [] w w' := by
  have hl : nb = bs.length := by have := hb.1.len; simp [Bs] at this; omega
  subst hl
  by_cases h8 : bs.length ≤ 8000
  · by_cases h5 : ops.length ≤ 500
    · exact reads_in vb bs v ops w hb.1 h8 h.1 h5
    · exact reads_out vb _ _ v _ _ w hb.1 h.1 (by omega)
  · exact reads_out vb _ _ v _ _ w hb.1 h.1 (by omega)
end Go.Proofs.Ytoacegccpajkoaa
