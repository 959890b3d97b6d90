/- BitsBack: what is put is got, in order; a code comes with its greatest bit first: the law's function returns true at all arguments. -/
import Derived.Test.YtoacegccpajkoaaBackPlain
import Derived.Test.YtoacegccpajkoaaLaw4
import Derived.Deep.RegionHeld3
import Derived.Deep.DrawnRows
namespace Go.Proofs.Ytoacegccpajkoaa
open Go.RowKit Go.Aq
attribute [local go_sem ↓] Go.wp_at_zero Go.wp_at_succ

theorem sl_op : SliceTy Try.prog 34 39 (.agg #[.int .i64 0, .int .i64 0, .int .u32 0]) 3 24 := ⟨Try.underlying34, by kernel_rfl, rfl, by decide⟩
/-- The cells of op i. -/
theorem ops_at3 {w : World} {g off n : Nat} {ops : List OpD} (hn : ops.length = n) (h : ∀ j, j < n * 3 → w.cell? ⟨g, off + j, none⟩ = (ops.flatMap opCells)[j]?) (i : Nat) (hi : i < ops.length) :
    w.cell? ⟨g, off + i * 3, none⟩ = some (.int .i64 (ops[i]'hi).kind) ∧ w.cell? ⟨g, off + i * 3 + 1, none⟩ = some (.int .i64 (ops[i]'hi).count) ∧ w.cell? ⟨g, off + i * 3 + 2, none⟩ = some (.int .u32 (ops[i]'hi).n) := by
  have key : ∀ j, j < 3 → w.cell? ⟨g, off + i * 3 + j, none⟩ = (opCells (ops[i]'hi))[j]? := fun j hj => by
    rw [Nat.add_assoc, h (i * 3 + j) (by omega), flatMap_get opCells 3 (fun _ => rfl) (by decide) ops (i * 3 + j) (by omega)]
    rw [show (i * 3 + j) / 3 = i by omega, show (i * 3 + j) % 3 = j by omega, List.getElem?_eq_getElem hi]
    rfl
  exact ⟨key 0 (by decide), key 1 (by decide), key 2 (by decide)⟩

theorem cell_alloc {w : World} {a : Addr} {u : Value} (h : w.cell? a = some u) (q : Nat) (o : Obj) : ((w.drewN q).alloc o).cell? a = some u :=
  (((Chg.refl [] w).drewN q).alloc o).cell_some h (by simp)

set_option maxRecDepth 100000 in
set_option maxHeartbeats 4000000 in
theorem back_in (v : Value) (ops : List OpD) (w : World) (hv : Sees w 3 v ops.length (ops.flatMap opCells)) (h500 : ops.length ≤ 500) :
    Calls Try.prog 6 #[v] w fun e w' => e = .returned (.bool true) ∧ Chg [] w w' := by
  obtain ⟨n, HN⟩ : ∃ n, Hid (ops.length = n) := ⟨_, rfl⟩
  rw [HN.out] at hv h500
  obtain ⟨ao, cap, rfl, hcap, hno⟩ := hv.shape
  have HNO := Lib.hid hno; clear hno
  go_enter Try.func6, Try.ntmps6
  go_wp2_with fail
  refine (first4 _).mono ?_
  rintro e w0 ⟨rfl, c0⟩
  go_wp2_with fail
  refine (newWriter_any _).mono ?_
  rintro e wa ⟨a, rfl, ha, ca, la⟩
  go_wp2_with fail
  have la2 : w.heap.size ≤ a := by have := c0.size; omega
  have Ca : Chg [] w wa := c0.nil ca
  go_loopg [4, 5, 6] n (fun k vd vn vi wr => ∃ (j : Nat) (D : List OpD) (Sa : List Nat), j + k = n ∧ vi = .int .i64 j ∧ D.length ≤ j ∧ (∀ o ∈ D, good o) ∧ vn = .int .i64 (D.flatMap enc).length ∧ Own wr 39 3 vd D.length (D.flatMap opCells) ∧ Wr wr Sa a (D.flatMap enc) ∧ Disj Sa vd.ownBlock.toList ∧ Chg [] w wr ∧ (∀ k ∈ Sa, w.heap.size ≤ k) ∧ (∀ k ∈ vd.ownBlock.toList, w.heap.size ≤ k))
  case atStart => exact ⟨0, [], [a], by omega, rfl, by simp, by simp, rfl, Own.nil _ _ _, ha, fun _ _ => by simp [Value.ownBlock], Ca, by simpa using la2, by simp [Value.ownBlock]⟩
  case round =>
    obtain ⟨j, D, Sa, hj, rfl, hDj, hgood, rfl, hO, hA, hD, hC, hSa, hSd⟩ := hrel
    have HJ := Lib.hid hj; clear hj
    have hjn : j ≤ n := by have := HJ.out; omega
    have HG := Lib.hid hgood; clear hgood
    have hEl := flatMap_enc_le D HG.out
    clear ha Ca
    obtain ⟨E, HE⟩ : ∃ E, Hid ((D.flatMap enc).length = E) := ⟨_, rfl⟩
    rw [HE.out] at hEl ⊢
    by_cases hlt : j < n
    · have hlo : j < ops.length := by rw [HN.out]; exact hlt
      obtain ⟨g, off, cap', hs, -, hgl, hcell⟩ := hv.cells (by omega)
      simp only [Value.slice.injEq, true_and] at hs
      obtain ⟨rfl, rfl⟩ := hs
      obtain ⟨k0, k1, k2⟩ := ops_at3 HN.out hcell j hlo
      clear hcell
      obtain ⟨o, ho⟩ : ∃ o, o = ops[j]'hlo := ⟨_, rfl⟩
      rw [← ho] at k0 k1 k2
      clear ho
      obtain ⟨kind, count, N, hN⟩ := o
      simp only at k0 k1 k2
      replace k0 := hC.cell_some k0 (by simp)
      replace k1 := hC.cell_some k1 (by simp)
      replace k2 := hC.cell_some k2 (by simp)
      have gSa : g ∉ Sa := fun h => by have := hSa g h; omega
      have gSd : g ∉ u4.ownBlock.toList := fun h => by have := hSd g h; omega
      have ij0 : (0 : Int) ≤ (j : Int) := by omega
      have ijn : (j : Int) < (n : Int) := by omega
      by_cases hk01 : kind = 0 ∨ kind = 1
      · by_cases hwr : wrongB N count = false
        · have hg := good_range (o := ⟨kind, count, N, hN⟩) ⟨hk01, hwr⟩
          simp only at hg
          obtain ⟨c, rfl⟩ := Int.eq_ofNat_of_zero_le hg.1
          have hc24 : c ≤ 24 := by omega
          have hNc : N < 2 ^ c := by simpa using hg.2.2
          have hdiv : ((N : Int) / 2 ^ c == 0) = true := by rw [natdiv_cast, Nat.div_eq_of_lt hNc]; rfl
          have t24 : decide ((c : Int) ≤ 24) = true := by simp; omega
          have t25 : ((c : Int) ≤ 24) := by omega
          have HW := Lib.hid hwr; clear hwr hg
          rcases hk01 with rfl | rfl
          · go_wp2_with fail
            go_region_held3 (fun w' => w'.cell? ⟨g, off + j * 3 + 2, none⟩ = some (.int .u32 N) ∧ w'.cell? ⟨g, off + j * 3 + 1, none⟩ = some (.int .i64 c)) (first | exact ⟨k2, k1⟩ | exact ⟨m2, m1⟩)
              (first
                | (go_at_call 16; refine (put_right _ Sa a _ N c hN HW.out (by rw [HE.out]; omega) hA.drew).mono ?_; rintro e w2 ⟨rfl, Sa2, hA2, uA⟩; have m2 := uA.chg.cell_some k2 gSa; have m1 := uA.chg.cell_some k1 gSa; have m0 := uA.chg.cell_some k0 gSa))
            clear k0 k1 k2
            have hO2 := (hO.chg (Chg.refl [] wr).drew (fun _ _ => by simp)).chg uA.chg hD.symm
            have dD := (hD.symm.upd uA (hO.lt)).symm
            have C2 := hC.drew.trans uA.chg fun i hi => .inr (hSa i hi)
            have hSa2 := uA.above hC.size hSa
            go_wp2_with fail
            go_quiet (fail)
            go_wp2_with fail
            go_region_held3 (fun w' => w'.cell? ⟨g, off + j * 3, none⟩ = some (.int .i64 0) ∧ w'.cell? ⟨g, off + j * 3 + 1, none⟩ = some (.int .i64 c) ∧ w'.cell? ⟨g, off + j * 3 + 2, none⟩ = some (.int .u32 N)) (first | exact ⟨m0, m1, m2⟩ | go_keep | exact ⟨q0, q1, q2⟩)
              ((refine step_app (by rfl) _ _ 34 (by rfl) sl_op (by exact hO2.alloc (.cells #[.int .i64 0, .int .i64 c, .int .u32 N] 39)) (by rfl) (Sees.blk (cs := #[.int .i64 0, .int .i64 c, .int .u32 N]) (by exact Blk.new w2 _ 39)) (by rfl) (by simp [Value.oneCell']) (by omega) (by omega) ?_; intro v3 w3 hO3 c3 n3; have q0 := c3.cell_some (cell_alloc m0 _ _) gSd; have q1 := c3.cell_some (cell_alloc m1 _ _) gSd; have q2 := c3.cell_some (cell_alloc m2 _ _) gSd))
            go_wp2_with fail
            have ce : Chg [] w2 ((w2.drewN (nq + 1)).alloc (Obj.cells #[Value.int IntKind.i64 0, Value.int IntKind.i64 ↑c, Value.int IntKind.u32 ↑N] 39)) := ((Chg.refl _ _).drewN _).alloc _
            have hA3 := (hA2.chg ce (fun _ _ => by simp)).chg c3 dD
            have C3 := (C2.nil ce).trans c3 fun i hi => .inr (hSd i hi)
            go_roundg (gk - 1)
            case measure => have := HJ.out; omega
            case rel =>
              refine ⟨j + 1, D ++ [⟨0, c, N, hN⟩], Sa2, by have := HJ.out; omega, by go_num, by simp; omega, ?_, ?_, ?_, ?_, ?_, C3, hSa2, ?_⟩
              · intro o ho
                rcases List.mem_append.1 ho with h | h
                · exact HG.out o h
                · obtain rfl := List.mem_singleton.1 h
                  exact ⟨by simp, HW.out⟩
              · rw [List.flatMap_append, List.length_append, HE.out]
                simp only [List.flatMap_cons, List.flatMap_nil, List.append_nil, enc_length, Int.toNat_natCast]
                rw [show ((E : Int) + (c : Int)) = ((E + c : Nat) : Int) from rfl, wrap_i64_nat _ (by omega)]
              · rw [List.length_append, List.flatMap_append]
                simpa [opCells] using hO3
              · rw [List.flatMap_append]
                simpa [enc] using hA3
              · intro k hk h3
                rcases n3 k h3 with h | h
                · exact dD k hk h
                · have := hA2.lt k hk; simp at h; omega
              · intro k hk
                rcases n3 k hk with h | h
                · exact hSd k h
                · have := C2.size; simp at h; omega
          · go_wp2_with fail
            go_region_held3 (fun w' => w'.cell? ⟨g, off + j * 3 + 2, none⟩ = some (.int .u32 N) ∧ w'.cell? ⟨g, off + j * 3 + 1, none⟩ = some (.int .i64 c)) (first | exact ⟨k2, k1⟩ | exact ⟨m2, m1⟩)
              (first
                | (go_at_call 17; refine (code_right _ Sa a _ N c hN HW.out (by rw [HE.out]; omega) hA.drew).mono ?_; rintro e w2 ⟨rfl, Sa2, hA2, uA⟩; have m2 := uA.chg.cell_some k2 gSa; have m1 := uA.chg.cell_some k1 gSa; have m0 := uA.chg.cell_some k0 gSa))
            clear k0 k1 k2
            have hO2 := (hO.chg (Chg.refl [] wr).drew (fun _ _ => by simp)).chg uA.chg hD.symm
            have dD := (hD.symm.upd uA (hO.lt)).symm
            have C2 := hC.drew.trans uA.chg fun i hi => .inr (hSa i hi)
            have hSa2 := uA.above hC.size hSa
            go_wp2_with fail
            go_quiet (fail)
            go_wp2_with fail
            go_region_held3 (fun w' => w'.cell? ⟨g, off + j * 3, none⟩ = some (.int .i64 1) ∧ w'.cell? ⟨g, off + j * 3 + 1, none⟩ = some (.int .i64 c) ∧ w'.cell? ⟨g, off + j * 3 + 2, none⟩ = some (.int .u32 N)) (first | exact ⟨m0, m1, m2⟩ | go_keep | exact ⟨q0, q1, q2⟩)
              ((refine step_app (by rfl) _ _ 34 (by rfl) sl_op (by exact hO2.alloc (.cells #[.int .i64 1, .int .i64 c, .int .u32 N] 39)) (by rfl) (Sees.blk (cs := #[.int .i64 1, .int .i64 c, .int .u32 N]) (by exact Blk.new w2 _ 39)) (by rfl) (by simp [Value.oneCell']) (by omega) (by omega) ?_; intro v3 w3 hO3 c3 n3; have q0 := c3.cell_some (cell_alloc m0 _ _) gSd; have q1 := c3.cell_some (cell_alloc m1 _ _) gSd; have q2 := c3.cell_some (cell_alloc m2 _ _) gSd))
            go_wp2_with fail
            have ce : Chg [] w2 ((w2.drewN (nq + 1)).alloc (Obj.cells #[Value.int IntKind.i64 1, Value.int IntKind.i64 ↑c, Value.int IntKind.u32 ↑N] 39)) := ((Chg.refl _ _).drewN _).alloc _
            have hA3 := (hA2.chg ce (fun _ _ => by simp)).chg c3 dD
            have C3 := (C2.nil ce).trans c3 fun i hi => .inr (hSd i hi)
            go_roundg (gk - 1)
            case measure => have := HJ.out; omega
            case rel =>
              refine ⟨j + 1, D ++ [⟨1, c, N, hN⟩], Sa2, by have := HJ.out; omega, by go_num, by simp; omega, ?_, ?_, ?_, ?_, ?_, C3, hSa2, ?_⟩
              · intro o ho
                rcases List.mem_append.1 ho with h | h
                · exact HG.out o h
                · obtain rfl := List.mem_singleton.1 h
                  exact ⟨by simp, HW.out⟩
              · rw [List.flatMap_append, List.length_append, HE.out]
                simp only [List.flatMap_cons, List.flatMap_nil, List.append_nil, enc_length, Int.toNat_natCast]
                rw [show ((E : Int) + (c : Int)) = ((E + c : Nat) : Int) from rfl, wrap_i64_nat _ (by omega)]
              · rw [List.length_append, List.flatMap_append]
                simpa [opCells] using hO3
              · rw [List.flatMap_append]
                simpa [enc] using hA3
              · intro k hk h3
                rcases n3 k h3 with h | h
                · exact dD k hk h
                · have := hA2.lt k hk; simp at h; omega
              · intro k hk
                rcases n3 k hk with h | h
                · exact hSd k h
                · have := C2.size; simp at h; omega
        · have HW := Lib.hid (show wrongB N count = true by simpa using hwr); clear hwr
          have hcs : count < 0 ∨ 24 < count ∨ (0 ≤ count ∧ count ≤ 24 ∧ ¬ N / 2 ^ count.toNat = 0) := by
            have h := HW.out
            simp only [wrongB, decide_eq_true_eq] at h
            omega
          rcases hk01 with rfl | rfl <;> rcases hcs with hc | hc | ⟨hc, hc2, hc3⟩
          · have t1 : decide (0 ≤ count) = false := by simp; omega
            go_wp2_with fail
            go_region_held3 (fun w' => w'.cell? ⟨g, off + j * 3 + 2, none⟩ = some (.int .u32 N) ∧ w'.cell? ⟨g, off + j * 3 + 1, none⟩ = some (.int .i64 count)) (first | exact ⟨k2, k1⟩)
              (first
                | (go_at_call 16; refine (put_wrong _ a N count hN HW.out).mono ?_; rintro e w2 ⟨rfl, rfl⟩))
            go_wp2_with fail
            go_quiet (fail)
            go_wp2_with fail
            go_roundg (gk - 1)
            case measure => have := HJ.out; omega
            case rel => exact ⟨j + 1, D, Sa, by have := HJ.out; omega, by go_num, by omega, HG.out, by rw [HE.out], hO, hA, hD, ⟨hC.os, hC.tape, hC.output, hC.size, hC.block⟩, hSa, hSd⟩
          · have t1 : decide (count ≤ 24) = false := by simp; omega
            have t2 : decide (0 ≤ count) = true := by simp; omega
            have t3 : 0 ≤ count := by omega
            go_wp2_with fail
            go_region_held3 (fun w' => w'.cell? ⟨g, off + j * 3 + 2, none⟩ = some (.int .u32 N) ∧ w'.cell? ⟨g, off + j * 3 + 1, none⟩ = some (.int .i64 count)) (first | exact ⟨k2, k1⟩)
              (first
                | (go_at_call 16; refine (put_wrong _ a N count hN HW.out).mono ?_; rintro e w2 ⟨rfl, rfl⟩))
            go_wp2_with fail
            go_quiet (fail)
            go_wp2_with fail
            go_roundg (gk - 1)
            case measure => have := HJ.out; omega
            case rel => exact ⟨j + 1, D, Sa, by have := HJ.out; omega, by go_num, by omega, HG.out, by rw [HE.out], hO, hA, hD, ⟨hC.os, hC.tape, hC.output, hC.size, hC.block⟩, hSa, hSd⟩
          · obtain ⟨c, rfl⟩ := Int.eq_ofNat_of_zero_le hc
            have t1 : decide ((c : Int) ≤ 24) = true := by simp; omega
            have hdiv : ((N : Int) / 2 ^ c == 0) = false := by rw [natdiv_cast]; simp only [Int.toNat_natCast] at hc3; generalize N / 2 ^ c = q at hc3; simp; omega
            clear hc3
            go_wp2_with fail
            go_region_held3 (fun w' => w'.cell? ⟨g, off + j * 3 + 2, none⟩ = some (.int .u32 N) ∧ w'.cell? ⟨g, off + j * 3 + 1, none⟩ = some (.int .i64 c)) (first | exact ⟨k2, k1⟩)
              (first
                | (go_at_call 16; refine (put_wrong _ a N c hN HW.out).mono ?_; rintro e w2 ⟨rfl, rfl⟩))
            go_wp2_with fail
            go_quiet (fail)
            go_wp2_with fail
            go_roundg (gk - 1)
            case measure => have := HJ.out; omega
            case rel => exact ⟨j + 1, D, Sa, by have := HJ.out; omega, by go_num, by omega, HG.out, by rw [HE.out], hO, hA, hD, ⟨hC.os, hC.tape, hC.output, hC.size, hC.block⟩, hSa, hSd⟩
          · have t1 : decide (0 ≤ count) = false := by simp; omega
            go_wp2_with fail
            go_region_held3 (fun w' => w'.cell? ⟨g, off + j * 3 + 2, none⟩ = some (.int .u32 N) ∧ w'.cell? ⟨g, off + j * 3 + 1, none⟩ = some (.int .i64 count)) (first | exact ⟨k2, k1⟩)
              (first
                | (go_at_call 17; refine (code_wrong _ a N count hN HW.out).mono ?_; rintro e w2 ⟨rfl, rfl⟩))
            go_wp2_with fail
            go_quiet (fail)
            go_wp2_with fail
            go_roundg (gk - 1)
            case measure => have := HJ.out; omega
            case rel => exact ⟨j + 1, D, Sa, by have := HJ.out; omega, by go_num, by omega, HG.out, by rw [HE.out], hO, hA, hD, ⟨hC.os, hC.tape, hC.output, hC.size, hC.block⟩, hSa, hSd⟩
          · have t1 : decide (count ≤ 24) = false := by simp; omega
            have t2 : decide (0 ≤ count) = true := by simp; omega
            have t3 : 0 ≤ count := by omega
            go_wp2_with fail
            go_region_held3 (fun w' => w'.cell? ⟨g, off + j * 3 + 2, none⟩ = some (.int .u32 N) ∧ w'.cell? ⟨g, off + j * 3 + 1, none⟩ = some (.int .i64 count)) (first | exact ⟨k2, k1⟩)
              (first
                | (go_at_call 17; refine (code_wrong _ a N count hN HW.out).mono ?_; rintro e w2 ⟨rfl, rfl⟩))
            go_wp2_with fail
            go_quiet (fail)
            go_wp2_with fail
            go_roundg (gk - 1)
            case measure => have := HJ.out; omega
            case rel => exact ⟨j + 1, D, Sa, by have := HJ.out; omega, by go_num, by omega, HG.out, by rw [HE.out], hO, hA, hD, ⟨hC.os, hC.tape, hC.output, hC.size, hC.block⟩, hSa, hSd⟩
          · obtain ⟨c, rfl⟩ := Int.eq_ofNat_of_zero_le hc
            have t1 : decide ((c : Int) ≤ 24) = true := by simp; omega
            have hdiv : ((N : Int) / 2 ^ c == 0) = false := by rw [natdiv_cast]; simp only [Int.toNat_natCast] at hc3; generalize N / 2 ^ c = q at hc3; simp; omega
            clear hc3
            go_wp2_with fail
            go_region_held3 (fun w' => w'.cell? ⟨g, off + j * 3 + 2, none⟩ = some (.int .u32 N) ∧ w'.cell? ⟨g, off + j * 3 + 1, none⟩ = some (.int .i64 c)) (first | exact ⟨k2, k1⟩)
              (first
                | (go_at_call 17; refine (code_wrong _ a N c hN HW.out).mono ?_; rintro e w2 ⟨rfl, rfl⟩))
            go_wp2_with fail
            go_quiet (fail)
            go_wp2_with fail
            go_roundg (gk - 1)
            case measure => have := HJ.out; omega
            case rel => exact ⟨j + 1, D, Sa, by have := HJ.out; omega, by go_num, by omega, HG.out, by rw [HE.out], hO, hA, hD, ⟨hC.os, hC.tape, hC.output, hC.size, hC.block⟩, hSa, hSd⟩
      · have t0 : (kind == 0) = false := by simp; omega
        have t1 : (kind == 1) = false := by simp; omega
        go_wp2_with fail
        go_roundg (gk - 1)
        case measure => have := HJ.out; omega
        case rel => exact ⟨j + 1, D, Sa, by have := HJ.out; omega, by go_num, by omega, HG.out, by rw [HE.out], hO, hA, hD, hC, hSa, hSd⟩
    · have hjn' : j = n := by omega
      clear hjn hlt
      obtain ⟨d, HDL⟩ : ∃ d, Hid (D.length = d) := ⟨_, rfl⟩
      rw [HDL.out] at hO hDj hEl
      obtain ⟨aod, capd, rfl, hcapd, hnod⟩ := hO.sees.shape
      have HNOd := Lib.hid hnod; clear hnod
      go_wp2_with fail
      refine (bits_any _ _ _ _ hA).mono ?_
      rintro e w2 ⟨rfl, rfl⟩
      rw [HE.out]
      go_wp2_with fail
      refine (bytes_any _ _ _ _ (by rw [HE.out]; omega) hA).mono ?_
      rintro e w2 ⟨v2, rfl, o2, c2, -⟩
      rw [pack_length, HE.out] at o2
      obtain ⟨ao2, cap2, rfl, hcap2, -⟩ := o2.sees.shape
      have hA2 := hA.chg c2 (fun _ _ => by simp)
      have hO2 := hO.chg c2 (fun _ _ => by simp)
      have C2 := hC.nil c2
      clear hA hO hC o2 c2
      go_wp2_with fail
      refine (bytes_any _ _ _ _ (by rw [HE.out]; omega) hA2).mono ?_
      rintro e w3 ⟨v3, rfl, o3, c3, -⟩
      have hO3 := hO2.chg c3 (fun _ _ => by simp)
      have C3 := C2.nil c3
      clear hA2 hO2 C2 c3
      have hpl : (pack (D.flatMap enc)).length = (E + 7) / 8 := by rw [pack_length, HE.out]
      go_wp2_with fail
      refine (newReader_any _ _ _ o3.sees (by rw [hpl]; omega)).mono ?_
      rintro e w4 ⟨r, Sr, rfl, hR, c4, lr⟩
      have hO4 := hO3.chg c4 (fun _ _ => by simp)
      have C4 := C3.nil c4
      have hSr : ∀ k ∈ Sr, w.heap.size ≤ k := fun k hk => by have := lr k hk; have := C3.size; omega
      have hDr : Disj (eyes (.slice aod d capd)) Sr := fun k hk h => by have := hO3.lt k (eyes_own _ k hk); have := lr k h; omega
      have HPL := Lib.hid hpl; clear hpl
      clear hO3 C3 c4 o3 lr HJ hSa hSd hD
      go_wp2_with fail
      go_loopg [10] d (fun k vi wr => ∃ i, i + k = d ∧ vi = .int .i64 i ∧ Rd wr Sr r (pack (D.flatMap enc)) (pos D i) ∧ Sees wr 3 (.slice aod d capd) d (D.flatMap opCells) ∧ Chg [] w wr)
      case atStart => exact ⟨0, by omega, rfl, hR, hO4.sees, C4⟩
      case round =>
        obtain ⟨i, hi, rfl, hR2, hS2, hC2⟩ := hrel
        have HI := Lib.hid hi; clear hi
        have hid : i ≤ d := by have := HI.out; omega
        clear hR hO4 C4
        by_cases hlt : i < d
        · have hlo : i < D.length := by rw [HDL.out]; exact hlt
          obtain ⟨g, off, cap', hs, -, hgl, hcell⟩ := hS2.cells (by omega)
          simp only [Value.slice.injEq, true_and] at hs
          obtain ⟨rfl, rfl⟩ := hs
          have gSr : g ∉ Sr := hDr g (by simp [eyes]; omega)
          obtain ⟨k0, k1, k2⟩ := ops_at3 HDL.out hcell i hlo
          clear hcell
          have hgd := HG.out _ (List.getElem_mem hlo)
          have hgr := good_range hgd
          have HB := Lib.hid (drop_pos D i hlo)
          have hple := pos_le D i hlo
          have hps := pos_succ D i hlo
          rw [HE.out] at hple
          obtain ⟨p, hp0⟩ : ∃ p, pos D i = p := ⟨_, rfl⟩
          obtain ⟨p', hp1⟩ : ∃ p', pos D (i + 1) = p' := ⟨_, rfl⟩
          rw [hp0] at HB hple hps hR2
          rw [hp1] at hps
          have HP1 := Lib.hid hp1; clear hp0 hp1
          generalize hog : D[i]'hlo = o at *
          clear hog
          obtain ⟨kind, count, N, hN⟩ := o
          simp only at k0 k1 k2 hgr hple hps HB
          obtain ⟨c, rfl⟩ := Int.eq_ofNat_of_zero_le hgr.1
          rw [Int.toNat_natCast] at hple hps HB hgr
          have hc24 : c ≤ 24 := by omega
          have hNc : N < 2 ^ c := hgr.2.2
          have hrange : p + c ≤ (D.flatMap enc).length := by rw [HE.out]; exact hple
          have hrange8 : p + c ≤ 8 * (pack (D.flatMap enc)).length := by rw [HPL.out]; omega
          have HS := Lib.hid hps; clear hps hgr
          obtain ⟨hk01, -⟩ := hgd
          simp only at hk01
          rcases hk01 with rfl | rfl
          · have hval : bval (bitsFrom (pack (D.flatMap enc)) p c) = N := by
              rw [bitsFrom_pack _ _ _ hrange, HB.out]
              simp only [enc, if_true, Int.toNat_natCast]
              exact bval_lowBits N c hNc
            go_wp2_with fail
            refine (get_right _ Sr r _ p c (by rw [HPL.out]; omega) hR2 hc24 hrange8).mono ?_
            rintro e w5 ⟨rfl, hR5, u5⟩
            rw [hval]
            have m0 := u5.chg.cell_some k0 gSr
            have m1 := u5.chg.cell_some k1 gSr
            have m2 := u5.chg.cell_some k2 gSr
            have hS5 := hS2.chg u5.chg hDr
            have hC5 := hC2.trans u5.chg fun i hi => .inr (hSr i hi)
            rw [← HS.out] at hR5
            clear k0 k1 k2 hval hrange hrange8 hple hR2 hS2 hC2 u5 HB
            go_wp2_with fail
            refine wp_loop_rounds 1 ?_
            rw [rounds_succ]
            by_cases hc0 : c = 0
            · have tc : decide ((0 : Int) < (c : Int)) = false := by simp; omega
              have tc2 : ¬ 0 < c := by omega
              go_wp2_with fail
              go_roundg (gk - 1)
              case measure => have := HI.out; omega
              case rel => exact ⟨i + 1, by have := HI.out; omega, by go_num, by rw [HP1.out]; exact hR5, hS5, hC5⟩
            · have tc : decide ((0 : Int) < (c : Int)) = true := by simp; omega
              have tc2 : 0 < c := by omega
              go_wp2_with fail
              go_roundg (gk - 1)
              case measure => have := HI.out; omega
              case rel => exact ⟨i + 1, by have := HI.out; omega, by go_num, by rw [HP1.out]; exact hR5, hS5, hC5⟩
          · obtain ⟨G, rfl⟩ : ∃ G, G = gk := ⟨_, rfl⟩
            obtain ⟨wo, rfl⟩ : ∃ wo, wo = wr := ⟨_, rfl⟩
            go_wp2_with fail
            go_loopg [11, 14] c (fun kk vv vk wr => ∃ k, k + kk = c ∧ vk = .int .i64 k ∧ vv = .int .u32 ((N / 2 ^ (c - k) : Nat) : Int) ∧ Rd wr Sr r (pack (D.flatMap enc)) (p + k) ∧ Chg Sr wo wr)
            case atStart => exact ⟨0, by omega, rfl, by rw [Nat.sub_zero, Nat.div_eq_of_lt hNc]; rfl, hR2, Chg.refl _ _⟩
            case round =>
              obtain ⟨k, hk, rfl, rfl, hR3, hc3⟩ := hrel
              have HK := Lib.hid hk; clear hk
              have hkc : k ≤ c := by have := HK.out; omega
              have m0 := hc3.cell_some k0 gSr
              have m1 := hc3.cell_some k1 gSr
              have m2 := hc3.cell_some k2 gSr
              have hq : N / 2 ^ (c - k) < 4294967296 := Nat.lt_of_le_of_lt (Nat.div_le_self _ _) hN
              by_cases hlk : k < c
              · have tk : decide ((k : Int) < (c : Int)) = true := by simp; omega
                have hval : bval (bitsFrom (pack (D.flatMap enc)) (p + k) 1) = (N.testBit (c - 1 - k)).toNat := by
                  rw [bitsFrom_pack _ _ _ (by omega), ← List.drop_drop, ← take_drop_one _ c k hlk, HB.out]
                  simp only [enc]
                  rw [if_neg (by decide), Int.toNat_natCast, high_get N c k hlk]
                  simp [bval]
                have hcs := Lib.hid (code_step N c k hlk hc24 hNc)
                obtain ⟨q, hqq⟩ : ∃ q, N / 2 ^ (c - k) = q := ⟨_, rfl⟩
                rw [hqq] at hcs hq ⊢
                clear hqq
                go_wp2_with fail
                refine (get_right _ Sr r _ (p + k) 1 (by rw [HPL.out]; omega) hR3 (by omega) (by omega)).mono ?_
                rintro e w5 ⟨rfl, hR5, u5⟩
                rw [hval]
                go_wp2_with fail
                go_roundg (gk - 1)
                case measure => have := HK.out; omega
                case rel => exact ⟨k + 1, by have := HK.out; omega, by go_num, by rw [hcs.out], hR5, hc3.tr u5.chg⟩
              · obtain rfl : k = c := by omega
                have tk : decide ((k : Int) < (k : Int)) = false := by simp
                have e1 : N / 2 ^ (k - k) = N := by simp
                rw [e1]
                have hR5 := hR3
                rw [← HS.out] at hR5
                have hS5 := hS2.chg hc3 hDr
                have hC5 := hC2.trans hc3 fun i hi => .inr (hSr i hi)
                clear hR3 hS2 hC2 hc3 k0 k1 k2 HB e1 hq
                go_wp2_with fail
                go_roundg (G - 1)
                case measure => have := HI.out; omega
                case rel => exact ⟨i + 1, by have := HI.out; omega, by go_num, by rw [HP1.out]; exact hR5, hS5, hC5⟩
        · obtain rfl : i = d := by omega
          have hpE : pos D i = E := by rw [← HDL.out, pos_all, HE.out]
          rw [hpE] at hR2
          clear hS2 hpE
          go_wp2_with fail
          refine (first4 _).mono ?_
          rintro e w5 ⟨rfl, c5⟩
          have hR5 := hR2.chg c5 (fun _ _ => by simp)
          have hC5 := hC2.nil c5
          go_wp2_with fail
          refine (at_any _ Sr r _ E hR5).mono ?_
          rintro e w6 ⟨rfl, rfl⟩
          go_wp2_with fail
          refine (left_any _ Sr r _ E (by rw [HPL.out]; omega) (by rw [HPL.out]; omega) hR5).mono ?_
          rintro e w6 ⟨rfl, z, rfl⟩
          rw [HPL.out]
          have t8 : decide (8 * (((E : Int) + 7) / 8) - (E : Int) < 8) = true := by simp; omega
          go_wp2_with fail
          go_ret
          exact ⟨rfl, hC5.drewN z⟩

set_option maxRecDepth 100000 in
set_option maxHeartbeats 400000 in
theorem back_out (v : Value) (n : Nat) (xs : List Value) (w : World) (hv : Sees w 3 v n xs) (h500 : 500 < n) :
    Calls Try.prog 6 #[v] w fun e w' => e = .returned (.bool true) ∧ Chg [] w w' := by
  obtain ⟨ao, cap, rfl, hcap, hno⟩ := hv.shape
  have HNO := Lib.hid hno; clear hno
  go_enter Try.func6, Try.ntmps6
  go_wp2_with fail
  refine (first4 _).mono ?_
  rintro e w0 ⟨rfl, c0⟩
  go_wp2_with fail
  refine (newWriter_any _).mono ?_
  rintro e wa ⟨a, rfl, ha, ca, la⟩
  go_wp2_with fail
  refine (first4 _).mono ?_
  rintro e w1 ⟨rfl, c1⟩
  go_wp2_with fail
  go_ret
  exact ⟨rfl, (c0.nil ca).nil c1⟩

theorem backTop (v : Value) (ops : List OpD) {w : World} (h : Sees w 3 v ops.length (ops.flatMap opCells) ∧ ops.length ≤ 9223372036854775807) :
    Calls Try.prog 6 #[v] w fun e w' => e = .returned (.bool true) ∧ Chg [] w w' := by
  by_cases h5 : ops.length ≤ 500
  · exact back_in v ops w h.1 h5
  · exact back_out v _ _ w h.1 (by omega)
end Go.Proofs.Ytoacegccpajkoaa
