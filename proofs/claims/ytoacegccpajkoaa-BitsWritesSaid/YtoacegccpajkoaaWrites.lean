/- BitsWrites: any calls of a writer: their errors, the bits, the bytes are the document's: the law's function returns true at all arguments. -/
import Derived.Test.YtoacegccpajkoaaOps
import Derived.Test.YtoacegccpajkoaaLaw4
import Derived.Deep.RegionHeld3
import Derived.Deep.DrawnRows
namespace Go.Proofs.Ytoacegccpajkoaa
open Go.RowKit Go.Aq
attribute [local go_sem ↓] Go.wp_at_zero Go.wp_at_succ

/-- The cells of op i. -/
theorem ops_at {w : World} {g off n : Nat} {ops : List OpD} (hn : ops.length = n) (h : ∀ j, j < n * 3 → w.cell? ⟨g, off + j, none⟩ = (ops.flatMap opCells)[j]?) (i : Nat) (hi : i < ops.length) :
    w.cell? ⟨g, off + i * 3, none⟩ = some (.int .i64 (ops[i]'hi).kind) ∧ w.cell? ⟨g, off + i * 3 + 1, none⟩ = some (.int .i64 (ops[i]'hi).count) ∧ w.cell? ⟨g, off + i * 3 + 2, none⟩ = some (.int .u32 (ops[i]'hi).n) := by
  have key : ∀ j, j < 3 → w.cell? ⟨g, off + i * 3 + j, none⟩ = (opCells (ops[i]'hi))[j]? := fun j hj => by
    rw [Nat.add_assoc, h (i * 3 + j) (by omega), flatMap_get opCells 3 (fun _ => rfl) (by decide) ops (i * 3 + j) (by omega)]
    rw [show (i * 3 + j) / 3 = i by omega, show (i * 3 + j) % 3 = j by omega, List.getElem?_eq_getElem hi]
    rfl
  exact ⟨key 0 (by decide), key 1 (by decide), key 2 (by decide)⟩

set_option maxRecDepth 100000 in
set_option maxHeartbeats 2000000 in
theorem writes_in (v : Value) (ops : List OpD) (w : World) (hv : Sees w 3 v ops.length (ops.flatMap opCells)) (h500 : ops.length ≤ 500) :
    Calls Try.prog 4 #[v] w fun e w' => e = .returned (.bool true) ∧ Chg [] w w' := by
  obtain ⟨n, HN⟩ : ∃ n, Hid (ops.length = n) := ⟨_, rfl⟩
  rw [HN.out] at hv h500
  obtain ⟨ao, cap, rfl, hcap, hno⟩ := hv.shape
  have HNO := Lib.hid hno; clear hno
  go_enter Try.func4, Try.ntmps4
  go_wp2_with fail
  refine (first4 _).mono ?_
  rintro e w0 ⟨rfl, c0⟩
  go_wp2_with fail
  refine (newWriter_any _).mono ?_
  rintro e wa ⟨a, rfl, ha, ca, la⟩
  go_wp2_with fail
  have hb := RWr.new wa
  obtain ⟨b, hbb⟩ : ∃ b, wa.heap.size = b := ⟨_, rfl⟩
  obtain ⟨w1, hw1⟩ : ∃ w1, wa.alloc (.cells #[.slice none 0 0] 37) = w1 := ⟨_, rfl⟩
  have c1 : Chg [] wa w1 := by rw [← hw1]; exact Chg.alloc (Chg.refl _ _) _
  rw [hbb, hw1] at hb
  rw [hw1, hbb]
  have la' := ha.lt a (by simp)
  have lb' : w.heap.size ≤ b := by have := c0.size; have := ca.size; omega
  have la2 : w.heap.size ≤ a := by have := c0.size; omega
  have dab : Disj [a] [b] := fun k hk => by simp at hk ⊢; omega
  have ha1 := ha.chg c1 (fun _ _ => by simp)
  have C1 : Chg [] w w1 := (c0.nil ca).nil c1
  clear hw1 hbb c1 ca c0 ha la la'
  go_loopg [5] n (fun k i wr => ∃ j, j + k = n ∧ i = .int .i64 j ∧ ∃ L Sa Sb, L.length ≤ 32 * j ∧ Wr wr Sa a L ∧ RWr wr Sb b L ∧ Disj Sa Sb ∧ Chg [] w wr ∧ (∀ k ∈ Sa, w.heap.size ≤ k) ∧ (∀ k ∈ Sb, w.heap.size ≤ k))
  case atStart => exact ⟨0, by omega, rfl, [], [a], [b], by simp, ha1, hb, dab, C1, by simpa using la2, by simpa using lb'⟩
  case round =>
    obtain ⟨j, hj, rfl, L, Sa, Sb, hL, hA, hB, hD, hC, hSa, hSb⟩ := hrel
    have HJ := Lib.hid hj; clear hj
    have hjn : j ≤ n := by have := HJ.out; omega
    clear dab ha1 hb C1
    by_cases hlt : j < n
    · have hlo : j < ops.length := by rw [HN.out]; exact hlt
      obtain ⟨g, off, cap', hs, -, hgl, hcell⟩ := hv.cells (by omega)
      simp only [Value.slice.injEq, true_and] at hs
      obtain ⟨rfl, rfl⟩ := hs
      obtain ⟨k0, k1, k2⟩ := ops_at HN.out hcell j hlo
      clear hcell
      obtain ⟨o, ho⟩ : ∃ o, o = ops[j]'hlo := ⟨_, rfl⟩
      rw [← ho] at k0 k1 k2
      clear ho
      obtain ⟨kind, count, N, hN⟩ := o
      simp only at k0 k1 k2
      replace k0 := hC.cell_some k0 (by simp)
      replace k1 := hC.cell_some k1 (by simp)
      replace k2 := hC.cell_some k2 (by simp)
      have gSa : g ∉ Sa := fun h => by have := hSa g h; omega
      have gSb : g ∉ Sb := fun h => by have := hSb g h; omega
      have ij0 : (0 : Int) ≤ (j : Int) := by omega
      have ijn : (j : Int) < (n : Int) := by omega
      rcases (show kind = 0 ∨ kind = 1 ∨ kind = 2 ∨ (kind ≠ 0 ∧ kind ≠ 1 ∧ kind ≠ 2) by omega) with h | h | h | h
      · subst h
        go_wp2_with fail
        go_region_held3 (fun w' => w'.cell? ⟨g, off + j * 3 + 2, none⟩ = some (.int .u32 N) ∧ w'.cell? ⟨g, off + j * 3 + 1, none⟩ = some (.int .i64 count)) (first | exact ⟨k2, k1⟩ | exact ⟨m2, m1⟩ | exact ⟨q2, q1⟩)
          (first
            | (go_at_call 16; refine (put_any _ Sa a L N count hN (by omega) hA.drew).mono ?_; rintro e w2 ⟨rfl, Sa2, hA2, uA⟩; have m2 := uA.chg.cell_some k2 gSa; have m1 := uA.chg.cell_some k1 gSa)
            | (go_at_call 21; refine (rPut_any _ Sb b L N count hN (by omega) (hB.drew.chg uA.chg hD.symm)).mono ?_; rintro e w3 ⟨rfl, Sb3, hB3, uB⟩; have q2 := uB.chg.cell_some m2 gSb; have q1 := uB.chg.cell_some m1 gSb))
        have hB2 := hB.drew.chg uA.chg hD.symm
        have dA2 := (hD.symm.upd uA hB.lt).symm
        have hA3 := hA2.chg uB.chg dA2
        have dA3 := dA2.upd uB hA2.lt
        have C3 := (hC.drew.trans uA.chg fun i hi => .inr (hSa i hi)).trans uB.chg fun i hi => .inr (hSb i hi)
        have hSa3 := uA.above hC.size hSa
        have hSb3 := uB.above (hC.drew.trans uA.chg fun i hi => .inr (hSa i hi)).size hSb
        have hLz : (putL L N count).length ≤ 32 * (j + 1) := by have := putL_length L N count; omega
        clear k0 k1 k2 m1 m2 q1 q2 hA2 hB2 dA2 uA uB hA hB hD hC hSa hSb gSa gSb
        obtain ⟨Lz, hz⟩ : ∃ Lz, Lz = putL L N count := ⟨_, rfl⟩
        rw [← hz] at hA3 hB3 hLz
        clear hz
        go_wp2_with fail
        refine (bits_any _ _ _ _ hA3).mono ?_
        rintro e w4 ⟨rfl, rfl⟩
        go_wp2_with fail
        refine (rBits_any _ _ _ _ hB3).mono ?_
        rintro e w4 ⟨rfl, rfl⟩
        go_wp2_with fail
        go_roundg (gk - 1)
        case measure => have := HJ.out; omega
        case rel => exact ⟨j + 1, by have := HJ.out; omega, by go_num, Lz, _, _, hLz, hA3, hB3, dA3, C3, hSa3, hSb3⟩
      · subst h
        go_wp2_with fail
        go_region_held3 (fun w' => w'.cell? ⟨g, off + j * 3 + 2, none⟩ = some (.int .u32 N) ∧ w'.cell? ⟨g, off + j * 3 + 1, none⟩ = some (.int .i64 count)) (first | exact ⟨k2, k1⟩ | exact ⟨m2, m1⟩ | exact ⟨q2, q1⟩)
          (first
            | (go_at_call 17; refine (code_any _ Sa a L N count hN (by omega) hA.drew).mono ?_; rintro e w2 ⟨rfl, Sa2, hA2, uA⟩; have m2 := uA.chg.cell_some k2 gSa; have m1 := uA.chg.cell_some k1 gSa)
            | (go_at_call 22; refine (rCode_any _ Sb b L N count hN (by omega) (hB.drew.chg uA.chg hD.symm)).mono ?_; rintro e w3 ⟨rfl, Sb3, hB3, uB⟩; have q2 := uB.chg.cell_some m2 gSb; have q1 := uB.chg.cell_some m1 gSb))
        have hB2 := hB.drew.chg uA.chg hD.symm
        have dA2 := (hD.symm.upd uA hB.lt).symm
        have hA3 := hA2.chg uB.chg dA2
        have dA3 := dA2.upd uB hA2.lt
        have C3 := (hC.drew.trans uA.chg fun i hi => .inr (hSa i hi)).trans uB.chg fun i hi => .inr (hSb i hi)
        have hSa3 := uA.above hC.size hSa
        have hSb3 := uB.above (hC.drew.trans uA.chg fun i hi => .inr (hSa i hi)).size hSb
        have hLz : (codeL L N count).length ≤ 32 * (j + 1) := by have := codeL_length L N count; omega
        clear k0 k1 k2 m1 m2 q1 q2 hA2 hB2 dA2 uA uB hA hB hD hC hSa hSb gSa gSb
        obtain ⟨Lz, hz⟩ : ∃ Lz, Lz = codeL L N count := ⟨_, rfl⟩
        rw [← hz] at hA3 hB3 hLz
        clear hz
        go_wp2_with fail
        refine (bits_any _ _ _ _ hA3).mono ?_
        rintro e w4 ⟨rfl, rfl⟩
        go_wp2_with fail
        refine (rBits_any _ _ _ _ hB3).mono ?_
        rintro e w4 ⟨rfl, rfl⟩
        go_wp2_with fail
        go_roundg (gk - 1)
        case measure => have := HJ.out; omega
        case rel => exact ⟨j + 1, by have := HJ.out; omega, by go_num, Lz, _, _, hLz, hA3, hB3, dA3, C3, hSa3, hSb3⟩
      · subst h
        go_wp2_with fail
        refine (align_any _ Sa a L (by omega) hA).mono ?_
        rintro e w2 ⟨rfl, hA2, uA⟩
        have hB2 := hB.chg uA.chg hD.symm
        go_wp2_with fail
        refine (rAlign_any _ Sb b L (by omega) hB2).mono ?_
        rintro e w3 ⟨rfl, Sb3, hB3, uB⟩
        have hA3 := hA2.chg uB.chg hD
        have dA3 := hD.upd uB hA2.lt
        have C3 := (hC.trans uA.chg fun i hi => .inr (hSa i hi)).trans uB.chg fun i hi => .inr (hSb i hi)
        have hSa3 := hSa
        have hSb3 := uB.above (hC.trans uA.chg fun i hi => .inr (hSa i hi)).size hSb
        have hLz : (aligned L).length ≤ 32 * (j + 1) := by rw [aligned_length]; omega
        clear k0 k1 k2 hA2 hB2 uA uB hA hB hD hC hSa hSb gSa gSb
        obtain ⟨Lz, hz⟩ : ∃ Lz, Lz = aligned L := ⟨_, rfl⟩
        rw [← hz] at hA3 hB3 hLz
        clear hz
        go_wp2_with fail
        refine (bits_any _ _ _ _ hA3).mono ?_
        rintro e w4 ⟨rfl, rfl⟩
        go_wp2_with fail
        refine (rBits_any _ _ _ _ hB3).mono ?_
        rintro e w4 ⟨rfl, rfl⟩
        go_wp2_with fail
        go_roundg (gk - 1)
        case measure => have := HJ.out; omega
        case rel => exact ⟨j + 1, by have := HJ.out; omega, by go_num, Lz, _, _, hLz, hA3, hB3, dA3, C3, hSa3, hSb3⟩
      · have t0 : (kind == 0) = false := by simp; exact h.1
        have t1 : (kind == 1) = false := by simp; exact h.2.1
        have t2 : (kind == 2) = false := by simp; exact h.2.2
        clear h
        obtain ⟨Lz, hz⟩ : ∃ Lz, Lz = L := ⟨_, rfl⟩
        have hLz : Lz.length ≤ 32 * (j + 1) := by rw [hz]; omega
        have hA3 := hA
        have hB3 := hB
        have dA3 := hD
        have C3 := hC
        have hSa3 := hSa
        have hSb3 := hSb
        rw [← hz] at hA3 hB3
        clear hz hA hB hD hC hSa hSb gSa gSb
        go_wp2_with fail
        refine (bits_any _ _ _ _ hA3).mono ?_
        rintro e w4 ⟨rfl, rfl⟩
        go_wp2_with fail
        refine (rBits_any _ _ _ _ hB3).mono ?_
        rintro e w4 ⟨rfl, rfl⟩
        go_wp2_with fail
        go_roundg (gk - 1)
        case measure => have := HJ.out; omega
        case rel => exact ⟨j + 1, by have := HJ.out; omega, by go_num, Lz, _, _, hLz, hA3, hB3, dA3, C3, hSa3, hSb3⟩
    · have hjn' : j = n := by omega
      clear hjn hlt
      go_wp2_with fail
      refine (bytes_any _ _ _ _ (by omega) hA).mono ?_
      rintro e w2 ⟨vb, rfl, o2, c2, n2⟩
      have hA2 := hA.chg c2 (fun _ _ => by simp)
      have hB2 := hB.chg c2 (fun _ _ => by simp)
      have C2 := hC.nil c2
      go_wp2_with fail
      refine (rBytes_any _ _ _ _ (by omega) hB2).mono ?_
      rintro e w3 ⟨v3, rfl, o3, c3, -⟩
      have hA3 := hA2.chg c3 (fun _ _ => by simp)
      have hB3 := hB2.chg c3 (fun _ _ => by simp)
      have o2' := o2.chg c3 (fun _ _ => by simp)
      have C3 := C2.nil c3
      go_wp2_with fail
      refine (same_yes _ _ _ _ _ _ _ o2'.sees o3.sees rfl).mono ?_
      rintro e w4 ⟨rfl, rfl⟩
      have hdv : Disj Sa vb.ownBlock.toList := fun k hk h => by have := n2 k h; have := hA.lt k hk; omega
      have hdw : Disj Sb vb.ownBlock.toList := fun k hk h => by have := n2 k h; have := hB.lt k hk; omega
      have hvo : ∀ k ∈ vb.ownBlock.toList, w.heap.size ≤ k := fun k h => by have := n2 k h; have := hC.size; omega
      clear c2 c3 o3 n2 o2 hA hB hC hA2 hB2 C2
      obtain ⟨m, HM⟩ : ∃ m, Hid ((pack L).length = m) := ⟨_, rfl⟩
      have hm : m ≤ 100000 := by have := HM.out; rw [pack_length] at this; omega
      rw [HM.out] at o2'
      obtain ⟨ao2, cap2, rfl, hcap2, hno2⟩ := o2'.sees.shape
      have HNO2 := Lib.hid hno2; clear hno2
      go_wp2_with fail
      go_loopg [8] m (fun k i wr => ∃ j, j + k = m ∧ i = .int .i64 j ∧ ∃ xs : List UInt8, Own wr 5 1 (.slice ao2 m cap2) m (Bs xs) ∧ Chg (Value.slice ao2 m cap2).ownBlock.toList w3 wr)
      case atStart => exact ⟨0, by omega, rfl, _, o2', Chg.refl _ _⟩
      case round =>
        obtain ⟨i, hi, rfl, xs, ho, hc⟩ := hrel
        by_cases hlt : i < m
        · obtain ⟨g, cap', hs, -, -, hgl⟩ := ho.pos (by omega)
          simp only [Value.slice.injEq, true_and] at hs
          obtain ⟨rfl, rfl⟩ := hs
          have hxl : i < xs.length := by have := ho.len; simp [Bs] at this; omega
          have x0 : wr.cell? ⟨g, i, none⟩ = some (.int .u8 (xs[i]'hxl).toNat) := by rw [ho.cellAt i (by omega), Bs_get]
          have x1 : wr.frozen? ⟨g, i, none⟩ = false := ho.frozenAt _
          go_wp2_with fail
          go_roundg (gk - 1)
          case measure => omega
          case rel =>
            have e : ((((xs[i]'hxl).toNat : Int) + 1) % 256) = ((UInt8.ofNat (((xs[i]'hxl).toNat + 1) % 256)).toNat : Int) := by
              rw [UInt8.toNat_ofNat']; omega
            refine ⟨i + 1, by omega, by go_num, xs.set i (UInt8.ofNat (((xs[i]'hxl).toNat + 1) % 256)), ?_, hc.setCell (by simp [Value.ownBlock]) _⟩
            rw [e, ← Bs_set]
            exact ho.set i _
        · have hA4 := hA3.chg hc hdv
          have hB4 := hB3.chg hc hdw
          have C4 := C3.trans hc fun i hi => .inr (hvo i hi)
          clear hA3 hB3 C3 hc ho o2' hdv hdw
          go_wp2_with fail
          refine (first4 _).mono ?_
          rintro e w5 ⟨rfl, c5⟩
          have hA5 := hA4.chg c5 (fun _ _ => by simp)
          have hB5 := hB4.chg c5 (fun _ _ => by simp)
          have C5 := C4.nil c5
          go_wp2_with fail
          refine (bytes_any _ _ _ _ (by omega) hA5).mono ?_
          rintro e w6 ⟨v6, rfl, o6, c6, -⟩
          have hB6 := hB5.chg c6 (fun _ _ => by simp)
          have C6 := C5.nil c6
          go_wp2_with fail
          refine (rBytes_any _ _ _ _ (by omega) hB6).mono ?_
          rintro e w7 ⟨v7, rfl, o7, c7, -⟩
          have o6' := o6.chg c7 (fun _ _ => by simp)
          have C7 := C6.nil c7
          go_wp2_with fail
          refine (same_yes _ _ _ _ _ _ _ o6'.sees o7.sees rfl).mono ?_
          rintro e w8 ⟨rfl, rfl⟩
          go_wp2_with fail
          go_ret
          exact ⟨rfl, C7⟩

set_option maxRecDepth 100000 in
set_option maxHeartbeats 400000 in
theorem writes_out (v : Value) (n : Nat) (xs : List Value) (w : World) (hv : Sees w 3 v n xs) (h500 : 500 < n) :
    Calls Try.prog 4 #[v] w fun e w' => e = .returned (.bool true) ∧ Chg [] w w' := by
  obtain ⟨ao, cap, rfl, hcap, hno⟩ := hv.shape
  have HNO := Lib.hid hno; clear hno
  go_enter Try.func4, Try.ntmps4
  go_wp2_with fail
  refine (first4 _).mono ?_
  rintro e w0 ⟨rfl, c0⟩
  go_wp2_with fail
  refine (newWriter_any _).mono ?_
  rintro e wa ⟨a, rfl, ha, ca, la⟩
  go_wp2_with fail
  refine (first4 _).mono ?_
  rintro e w1 ⟨rfl, c1⟩
  go_wp2_with fail
  go_ret
  exact ⟨rfl, ((c0.nil ca).alloc _).nil c1⟩

theorem writesTop (v : Value) (ops : List OpD) {w : World} (h : Sees w 3 v ops.length (ops.flatMap opCells) ∧ ops.length ≤ 9223372036854775807) :
    Calls Try.prog 4 #[v] w fun e w' => e = .returned (.bool true) ∧ Chg [] w w' := by
  by_cases h5 : ops.length ≤ 500
  · exact writes_in v ops w h.1 h5
  · exact writes_out v _ _ w h.1 (by omega)
end Go.Proofs.Ytoacegccpajkoaa
