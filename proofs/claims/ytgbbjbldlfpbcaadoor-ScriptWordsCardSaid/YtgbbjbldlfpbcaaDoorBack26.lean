/- Contracts of script.back and aquref24.later. No statement of the seat is proved here. -/
import Derived.Test.YtgbbjbldlfpbcaaDoorFront
set_option linter.unusedVariables false
namespace Go.Aq
open Go.RowKit
theorem actR_mask {w w2 w5 : World} {K m : Nat} {mv : Value} {a : ActD} (hK : w.heap.size = K) (hsee : Sees w2 1 mv m (Bs a.mask)) (hnew : ∀ k ∈ eyes mv, K < k) (hc1 : Chg [] w w2) (hc5 : Chg [K] w2 w5) (hp : a.pix = []) (hl : a.mask.length = m) :
    ActR w w5 a (.slice none 0 0) mv ∧ Chg [] w w5 := by
  subst hl
  refine ⟨⟨?_, hsee.chg hc5 fun k hk => ?_, by simp [eyes], fun k hk => ?_⟩, hc1.trans hc5 fun k hk => ?_⟩
  · rw [hp]; exact Sees.nil _ _
  · have := hnew k hk; simp; omega
  · have := hnew k hk; omega
  · simp at hk; right; omega
end Go.Aq
namespace Go.Proofs.YtgbbjbldlfpbcaaDoor
open Go.RowKit Go.Aq Go.Aq.Wd
theorem ract_ty : ArrTy Tryd.prog 39 13 := ⟨⟨_, Tryd.underlying39, rfl⟩, by kernel_rfl⟩
set_option maxRecDepth 100000 in
set_option maxHeartbeats 4000000 in
theorem back0 (k x y z : Nat) (hk : k = 11) (ho : z % 2 = 1) (hx : x < 256) (hy : y < 256) (hz : z < 256) (w : World) :
    Calls Tryd.prog 22 #[.int .i64 k, .int .i64 x, .int .i64 y, .int .i64 z] w fun e w' => ∃ pv mv, e = .returned (actV (backA k x y z) pv mv) ∧ ActR w w' (backA k x y z) pv mv ∧ Chg [] w w' := by
  obtain ⟨K, hK⟩ : ∃ K, w.heap.size = K := ⟨_, rfl⟩
  have hF : backA k x y z = { actZ with kind := 7, n := ((x % 8 : Nat) : Int), m := ((y % 8 : Nat) : Int) } := by unfold backA; rw [if_pos hk, if_pos ho]
  rw [hF]
  clear hF
  have t11 : ((k : Int) == 11) = true := by simp; omega
  have tod : ((z : Int) % 2 == 1) = true := by simp; omega
  have hmxa : (x : Int) % 8 = ((x % 8 : Nat) : Int) := by omega
  generalize x % 8 = xa at *
  have hmya : (y : Int) % 8 = ((y % 8 : Nat) : Int) := by omega
  generalize y % 8 = ya at *
  have aT : ArrTy Tryd.prog 38 (#[Value.int .i64 7, .int .i64 (xa : Int), .int .i64 (ya : Int), .string ⟨#[]⟩, .string ⟨#[]⟩, .string ⟨#[]⟩, .int .i64 0, .int .i64 0, .int .i64 0, .int .i64 0, .int .i64 0, .slice none 0 0, .slice none 0 0]).size := act_ty
  have hss : (#[.int .i64 0, .int .i64 0, .int .i64 0, .string ⟨#[]⟩, .string ⟨#[]⟩, .string ⟨#[]⟩, .int .i64 0, .int .i64 0, .int .i64 0, .int .i64 0, .int .i64 0, .slice none 0 0, .slice none 0 0] : Array Value).size = (#[Value.int .i64 7, .int .i64 (xa : Int), .int .i64 (ya : Int), .string ⟨#[]⟩, .string ⟨#[]⟩, .string ⟨#[]⟩, .int .i64 0, .int .i64 0, .int .i64 0, .int .i64 0, .int .i64 0, .slice none 0 0, .slice none 0 0]).size := rfl
  have hone : ∀ v ∈ (#[Value.int .i64 7, .int .i64 (xa : Int), .int .i64 (ya : Int), .string ⟨#[]⟩, .string ⟨#[]⟩, .string ⟨#[]⟩, .int .i64 0, .int .i64 0, .int .i64 0, .int .i64 0, .int .i64 0, .slice none 0 0, .slice none 0 0]).toList, v.oneCell' = true := by simp [Value.oneCell']
  have hbK : Blk (w.alloc (.cells #[.int .i64 0, .int .i64 0, .int .i64 0, .string ⟨#[]⟩, .string ⟨#[]⟩, .string ⟨#[]⟩, .int .i64 0, .int .i64 0, .int .i64 0, .int .i64 0, .int .i64 0, .slice none 0 0, .slice none 0 0] 38)) K #[.int .i64 0, .int .i64 0, .int .i64 0, .string ⟨#[]⟩, .string ⟨#[]⟩, .string ⟨#[]⟩, .int .i64 0, .int .i64 0, .int .i64 0, .int .i64 0, .int .i64 0, .slice none 0 0, .slice none 0 0] 38 := Blk.new_at w _ _ hK
  have hc1 : Chg [] w (w.alloc (.cells #[.int .i64 0, .int .i64 0, .int .i64 0, .string ⟨#[]⟩, .string ⟨#[]⟩, .string ⟨#[]⟩, .int .i64 0, .int .i64 0, .int .i64 0, .int .i64 0, .int .i64 0, .slice none 0 0, .slice none 0 0] 38)) := (Chg.refl [] w).alloc _
  go_enter Tryd.func22, Tryd.ntmps22
  go_wp2_with (with_reducible refine wpList_stA rfl 38 _ _ rfl hbK aT hss hone rfl rfl ?_; intro w5 hb5 hc5 hs5)
  refine bodyPost_ret (results_A rfl _ _ hb5 aT rfl) rfl ⟨.slice none 0 0, .slice none 0 0, rfl, ?_⟩
  exact actR_nil hK hc1 hc5 rfl rfl
set_option maxRecDepth 100000 in
set_option maxHeartbeats 4000000 in
theorem back1 (k x y z : Nat) (hk : k = 11) (ho : ¬ z % 2 = 1) (hx : x < 256) (hy : y < 256) (hz : z < 256) (w : World) :
    Calls Tryd.prog 22 #[.int .i64 k, .int .i64 x, .int .i64 y, .int .i64 z] w fun e w' => ∃ pv mv, e = .returned (actV (backA k x y z) pv mv) ∧ ActR w w' (backA k x y z) pv mv ∧ Chg [] w w' := by
  obtain ⟨K, hK⟩ : ∃ K, w.heap.size = K := ⟨_, rfl⟩
  have hF : backA k x y z = { actZ with kind := 6, name := [97] } := by unfold backA; rw [if_pos hk, if_neg ho]
  rw [hF]
  clear hF
  have t11 : ((k : Int) == 11) = true := by simp; omega
  have tod : ((z : Int) % 2 == 1) = false := by simp; omega
  have aT : ArrTy Tryd.prog 38 (#[Value.int .i64 6, .int .i64 0, .int .i64 0, .string ⟨#[97]⟩, .string ⟨#[]⟩, .string ⟨#[]⟩, .int .i64 0, .int .i64 0, .int .i64 0, .int .i64 0, .int .i64 0, .slice none 0 0, .slice none 0 0]).size := act_ty
  have hss : (#[.int .i64 0, .int .i64 0, .int .i64 0, .string ⟨#[]⟩, .string ⟨#[]⟩, .string ⟨#[]⟩, .int .i64 0, .int .i64 0, .int .i64 0, .int .i64 0, .int .i64 0, .slice none 0 0, .slice none 0 0] : Array Value).size = (#[Value.int .i64 6, .int .i64 0, .int .i64 0, .string ⟨#[97]⟩, .string ⟨#[]⟩, .string ⟨#[]⟩, .int .i64 0, .int .i64 0, .int .i64 0, .int .i64 0, .int .i64 0, .slice none 0 0, .slice none 0 0]).size := rfl
  have hone : ∀ v ∈ (#[Value.int .i64 6, .int .i64 0, .int .i64 0, .string ⟨#[97]⟩, .string ⟨#[]⟩, .string ⟨#[]⟩, .int .i64 0, .int .i64 0, .int .i64 0, .int .i64 0, .int .i64 0, .slice none 0 0, .slice none 0 0]).toList, v.oneCell' = true := by simp [Value.oneCell']
  have hbK : Blk (w.alloc (.cells #[.int .i64 0, .int .i64 0, .int .i64 0, .string ⟨#[]⟩, .string ⟨#[]⟩, .string ⟨#[]⟩, .int .i64 0, .int .i64 0, .int .i64 0, .int .i64 0, .int .i64 0, .slice none 0 0, .slice none 0 0] 38)) K #[.int .i64 0, .int .i64 0, .int .i64 0, .string ⟨#[]⟩, .string ⟨#[]⟩, .string ⟨#[]⟩, .int .i64 0, .int .i64 0, .int .i64 0, .int .i64 0, .int .i64 0, .slice none 0 0, .slice none 0 0] 38 := Blk.new_at w _ _ hK
  have hc1 : Chg [] w (w.alloc (.cells #[.int .i64 0, .int .i64 0, .int .i64 0, .string ⟨#[]⟩, .string ⟨#[]⟩, .string ⟨#[]⟩, .int .i64 0, .int .i64 0, .int .i64 0, .int .i64 0, .int .i64 0, .slice none 0 0, .slice none 0 0] 38)) := (Chg.refl [] w).alloc _
  go_enter Tryd.func22, Tryd.ntmps22
  go_wp2_with (with_reducible refine wpList_stA rfl 38 _ _ rfl hbK aT hss hone rfl rfl ?_; intro w5 hb5 hc5 hs5)
  refine bodyPost_ret (results_A rfl _ _ hb5 aT rfl) rfl ⟨.slice none 0 0, .slice none 0 0, rfl, ?_⟩
  exact actR_nil hK hc1 hc5 rfl rfl
set_option maxRecDepth 100000 in
set_option maxHeartbeats 4000000 in
theorem back2 (k x y z : Nat) (hk : k = 12) (ho : z % 2 = 1) (hx : x < 256) (hy : y < 256) (hz : z < 256) (w : World) :
    Calls Tryd.prog 22 #[.int .i64 k, .int .i64 x, .int .i64 y, .int .i64 z] w fun e w' => ∃ pv mv, e = .returned (actV (backA k x y z) pv mv) ∧ ActR w w' (backA k x y z) pv mv ∧ Chg [] w w' := by
  obtain ⟨K, hK⟩ : ∃ K, w.heap.size = K := ⟨_, rfl⟩
  have hF : backA k x y z = { actZ with kind := 9, n := ((x % 6 : Nat) : Int) } := by unfold backA; rw [if_neg (by omega), if_pos hk, if_pos ho]
  rw [hF]
  clear hF
  have t11 : ((k : Int) == 11) = false := by simp; omega
  have t12 : ((k : Int) == 12) = true := by simp; omega
  have tod : ((z : Int) % 2 == 1) = true := by simp; omega
  have hmxa : (x : Int) % 6 = ((x % 6 : Nat) : Int) := by omega
  generalize x % 6 = xa at *
  have aT : ArrTy Tryd.prog 38 (#[Value.int .i64 9, .int .i64 (xa : Int), .int .i64 0, .string ⟨#[]⟩, .string ⟨#[]⟩, .string ⟨#[]⟩, .int .i64 0, .int .i64 0, .int .i64 0, .int .i64 0, .int .i64 0, .slice none 0 0, .slice none 0 0]).size := act_ty
  have hss : (#[.int .i64 0, .int .i64 0, .int .i64 0, .string ⟨#[]⟩, .string ⟨#[]⟩, .string ⟨#[]⟩, .int .i64 0, .int .i64 0, .int .i64 0, .int .i64 0, .int .i64 0, .slice none 0 0, .slice none 0 0] : Array Value).size = (#[Value.int .i64 9, .int .i64 (xa : Int), .int .i64 0, .string ⟨#[]⟩, .string ⟨#[]⟩, .string ⟨#[]⟩, .int .i64 0, .int .i64 0, .int .i64 0, .int .i64 0, .int .i64 0, .slice none 0 0, .slice none 0 0]).size := rfl
  have hone : ∀ v ∈ (#[Value.int .i64 9, .int .i64 (xa : Int), .int .i64 0, .string ⟨#[]⟩, .string ⟨#[]⟩, .string ⟨#[]⟩, .int .i64 0, .int .i64 0, .int .i64 0, .int .i64 0, .int .i64 0, .slice none 0 0, .slice none 0 0]).toList, v.oneCell' = true := by simp [Value.oneCell']
  have hbK : Blk (w.alloc (.cells #[.int .i64 0, .int .i64 0, .int .i64 0, .string ⟨#[]⟩, .string ⟨#[]⟩, .string ⟨#[]⟩, .int .i64 0, .int .i64 0, .int .i64 0, .int .i64 0, .int .i64 0, .slice none 0 0, .slice none 0 0] 38)) K #[.int .i64 0, .int .i64 0, .int .i64 0, .string ⟨#[]⟩, .string ⟨#[]⟩, .string ⟨#[]⟩, .int .i64 0, .int .i64 0, .int .i64 0, .int .i64 0, .int .i64 0, .slice none 0 0, .slice none 0 0] 38 := Blk.new_at w _ _ hK
  have hc1 : Chg [] w (w.alloc (.cells #[.int .i64 0, .int .i64 0, .int .i64 0, .string ⟨#[]⟩, .string ⟨#[]⟩, .string ⟨#[]⟩, .int .i64 0, .int .i64 0, .int .i64 0, .int .i64 0, .int .i64 0, .slice none 0 0, .slice none 0 0] 38)) := (Chg.refl [] w).alloc _
  go_enter Tryd.func22, Tryd.ntmps22
  go_wp2_with (with_reducible refine wpList_stA rfl 38 _ _ rfl hbK aT hss hone rfl rfl ?_; intro w5 hb5 hc5 hs5)
  refine bodyPost_ret (results_A rfl _ _ hb5 aT rfl) rfl ⟨.slice none 0 0, .slice none 0 0, rfl, ?_⟩
  exact actR_nil hK hc1 hc5 rfl rfl
set_option maxRecDepth 100000 in
set_option maxHeartbeats 4000000 in
theorem back3 (k x y z : Nat) (hk : k = 12) (ho : ¬ z % 2 = 1) (hx : x < 256) (hy : y < 256) (hz : z < 256) (w : World) :
    Calls Tryd.prog 22 #[.int .i64 k, .int .i64 x, .int .i64 y, .int .i64 z] w fun e w' => ∃ pv mv, e = .returned (actV (backA k x y z) pv mv) ∧ ActR w w' (backA k x y z) pv mv ∧ Chg [] w w' := by
  obtain ⟨K, hK⟩ : ∃ K, w.heap.size = K := ⟨_, rfl⟩
  have hF : backA k x y z = { actZ with kind := 8, key := ((x % 8 : Nat) : Int) } := by unfold backA; rw [if_neg (by omega), if_pos hk, if_neg ho]
  rw [hF]
  clear hF
  have t11 : ((k : Int) == 11) = false := by simp; omega
  have t12 : ((k : Int) == 12) = true := by simp; omega
  have tod : ((z : Int) % 2 == 1) = false := by simp; omega
  have hmxa : (x : Int) % 8 = ((x % 8 : Nat) : Int) := by omega
  generalize x % 8 = xa at *
  have aT : ArrTy Tryd.prog 38 (#[Value.int .i64 8, .int .i64 0, .int .i64 0, .string ⟨#[]⟩, .string ⟨#[]⟩, .string ⟨#[]⟩, .int .i64 (xa : Int), .int .i64 0, .int .i64 0, .int .i64 0, .int .i64 0, .slice none 0 0, .slice none 0 0]).size := act_ty
  have hss : (#[.int .i64 0, .int .i64 0, .int .i64 0, .string ⟨#[]⟩, .string ⟨#[]⟩, .string ⟨#[]⟩, .int .i64 0, .int .i64 0, .int .i64 0, .int .i64 0, .int .i64 0, .slice none 0 0, .slice none 0 0] : Array Value).size = (#[Value.int .i64 8, .int .i64 0, .int .i64 0, .string ⟨#[]⟩, .string ⟨#[]⟩, .string ⟨#[]⟩, .int .i64 (xa : Int), .int .i64 0, .int .i64 0, .int .i64 0, .int .i64 0, .slice none 0 0, .slice none 0 0]).size := rfl
  have hone : ∀ v ∈ (#[Value.int .i64 8, .int .i64 0, .int .i64 0, .string ⟨#[]⟩, .string ⟨#[]⟩, .string ⟨#[]⟩, .int .i64 (xa : Int), .int .i64 0, .int .i64 0, .int .i64 0, .int .i64 0, .slice none 0 0, .slice none 0 0]).toList, v.oneCell' = true := by simp [Value.oneCell']
  have hbK : Blk (w.alloc (.cells #[.int .i64 0, .int .i64 0, .int .i64 0, .string ⟨#[]⟩, .string ⟨#[]⟩, .string ⟨#[]⟩, .int .i64 0, .int .i64 0, .int .i64 0, .int .i64 0, .int .i64 0, .slice none 0 0, .slice none 0 0] 38)) K #[.int .i64 0, .int .i64 0, .int .i64 0, .string ⟨#[]⟩, .string ⟨#[]⟩, .string ⟨#[]⟩, .int .i64 0, .int .i64 0, .int .i64 0, .int .i64 0, .int .i64 0, .slice none 0 0, .slice none 0 0] 38 := Blk.new_at w _ _ hK
  have hc1 : Chg [] w (w.alloc (.cells #[.int .i64 0, .int .i64 0, .int .i64 0, .string ⟨#[]⟩, .string ⟨#[]⟩, .string ⟨#[]⟩, .int .i64 0, .int .i64 0, .int .i64 0, .int .i64 0, .int .i64 0, .slice none 0 0, .slice none 0 0] 38)) := (Chg.refl [] w).alloc _
  go_enter Tryd.func22, Tryd.ntmps22
  go_wp2_with (with_reducible refine wpList_stA rfl 38 _ _ rfl hbK aT hss hone rfl rfl ?_; intro w5 hb5 hc5 hs5)
  refine bodyPost_ret (results_A rfl _ _ hb5 aT rfl) rfl ⟨.slice none 0 0, .slice none 0 0, rfl, ?_⟩
  exact actR_nil hK hc1 hc5 rfl rfl
set_option maxRecDepth 100000 in
set_option maxHeartbeats 4000000 in
theorem back4 (k x y z : Nat) (hk : k = 13) (ho : z % 2 = 1) (hx : x < 256) (hy : y < 256) (hz : z < 256) (w : World) :
    Calls Tryd.prog 22 #[.int .i64 k, .int .i64 x, .int .i64 y, .int .i64 z] w fun e w' => ∃ pv mv, e = .returned (actV (backA k x y z) pv mv) ∧ ActR w w' (backA k x y z) pv mv ∧ Chg [] w w' := by
  obtain ⟨K, hK⟩ : ∃ K, w.heap.size = K := ⟨_, rfl⟩
  have hF : backA k x y z = { actZ with kind := 11 } := by unfold backA; rw [if_neg (by omega), if_neg (by omega), if_pos hk, if_pos ho]
  rw [hF]
  clear hF
  have t11 : ((k : Int) == 11) = false := by simp; omega
  have t12 : ((k : Int) == 12) = false := by simp; omega
  have t13 : ((k : Int) == 13) = true := by simp; omega
  have tod : ((z : Int) % 2 == 1) = true := by simp; omega
  have aT : ArrTy Tryd.prog 38 (#[Value.int .i64 11, .int .i64 0, .int .i64 0, .string ⟨#[]⟩, .string ⟨#[]⟩, .string ⟨#[]⟩, .int .i64 0, .int .i64 0, .int .i64 0, .int .i64 0, .int .i64 0, .slice none 0 0, .slice none 0 0]).size := act_ty
  have hss : (#[.int .i64 0, .int .i64 0, .int .i64 0, .string ⟨#[]⟩, .string ⟨#[]⟩, .string ⟨#[]⟩, .int .i64 0, .int .i64 0, .int .i64 0, .int .i64 0, .int .i64 0, .slice none 0 0, .slice none 0 0] : Array Value).size = (#[Value.int .i64 11, .int .i64 0, .int .i64 0, .string ⟨#[]⟩, .string ⟨#[]⟩, .string ⟨#[]⟩, .int .i64 0, .int .i64 0, .int .i64 0, .int .i64 0, .int .i64 0, .slice none 0 0, .slice none 0 0]).size := rfl
  have hone : ∀ v ∈ (#[Value.int .i64 11, .int .i64 0, .int .i64 0, .string ⟨#[]⟩, .string ⟨#[]⟩, .string ⟨#[]⟩, .int .i64 0, .int .i64 0, .int .i64 0, .int .i64 0, .int .i64 0, .slice none 0 0, .slice none 0 0]).toList, v.oneCell' = true := by simp [Value.oneCell']
  have hbK : Blk (w.alloc (.cells #[.int .i64 0, .int .i64 0, .int .i64 0, .string ⟨#[]⟩, .string ⟨#[]⟩, .string ⟨#[]⟩, .int .i64 0, .int .i64 0, .int .i64 0, .int .i64 0, .int .i64 0, .slice none 0 0, .slice none 0 0] 38)) K #[.int .i64 0, .int .i64 0, .int .i64 0, .string ⟨#[]⟩, .string ⟨#[]⟩, .string ⟨#[]⟩, .int .i64 0, .int .i64 0, .int .i64 0, .int .i64 0, .int .i64 0, .slice none 0 0, .slice none 0 0] 38 := Blk.new_at w _ _ hK
  have hc1 : Chg [] w (w.alloc (.cells #[.int .i64 0, .int .i64 0, .int .i64 0, .string ⟨#[]⟩, .string ⟨#[]⟩, .string ⟨#[]⟩, .int .i64 0, .int .i64 0, .int .i64 0, .int .i64 0, .int .i64 0, .slice none 0 0, .slice none 0 0] 38)) := (Chg.refl [] w).alloc _
  go_enter Tryd.func22, Tryd.ntmps22
  go_wp2_with (with_reducible refine wpList_stA rfl 38 _ _ rfl hbK aT hss hone rfl rfl ?_; intro w5 hb5 hc5 hs5)
  refine bodyPost_ret (results_A rfl _ _ hb5 aT rfl) rfl ⟨.slice none 0 0, .slice none 0 0, rfl, ?_⟩
  exact actR_nil hK hc1 hc5 rfl rfl
set_option maxRecDepth 100000 in
set_option maxHeartbeats 4000000 in
theorem back5 (k x y z : Nat) (hk : k = 13) (ho : ¬ z % 2 = 1) (hx : x < 256) (hy : y < 256) (hz : z < 256) (w : World) :
    Calls Tryd.prog 22 #[.int .i64 k, .int .i64 x, .int .i64 y, .int .i64 z] w fun e w' => ∃ pv mv, e = .returned (actV (backA k x y z) pv mv) ∧ ActR w w' (backA k x y z) pv mv ∧ Chg [] w w' := by
  obtain ⟨K, hK⟩ : ∃ K, w.heap.size = K := ⟨_, rfl⟩
  have hF : backA k x y z = { actZ with kind := 10 } := by unfold backA; rw [if_neg (by omega), if_neg (by omega), if_pos hk, if_neg ho]
  rw [hF]
  clear hF
  have t11 : ((k : Int) == 11) = false := by simp; omega
  have t12 : ((k : Int) == 12) = false := by simp; omega
  have t13 : ((k : Int) == 13) = true := by simp; omega
  have tod : ((z : Int) % 2 == 1) = false := by simp; omega
  have aT : ArrTy Tryd.prog 38 (#[Value.int .i64 10, .int .i64 0, .int .i64 0, .string ⟨#[]⟩, .string ⟨#[]⟩, .string ⟨#[]⟩, .int .i64 0, .int .i64 0, .int .i64 0, .int .i64 0, .int .i64 0, .slice none 0 0, .slice none 0 0]).size := act_ty
  have hss : (#[.int .i64 0, .int .i64 0, .int .i64 0, .string ⟨#[]⟩, .string ⟨#[]⟩, .string ⟨#[]⟩, .int .i64 0, .int .i64 0, .int .i64 0, .int .i64 0, .int .i64 0, .slice none 0 0, .slice none 0 0] : Array Value).size = (#[Value.int .i64 10, .int .i64 0, .int .i64 0, .string ⟨#[]⟩, .string ⟨#[]⟩, .string ⟨#[]⟩, .int .i64 0, .int .i64 0, .int .i64 0, .int .i64 0, .int .i64 0, .slice none 0 0, .slice none 0 0]).size := rfl
  have hone : ∀ v ∈ (#[Value.int .i64 10, .int .i64 0, .int .i64 0, .string ⟨#[]⟩, .string ⟨#[]⟩, .string ⟨#[]⟩, .int .i64 0, .int .i64 0, .int .i64 0, .int .i64 0, .int .i64 0, .slice none 0 0, .slice none 0 0]).toList, v.oneCell' = true := by simp [Value.oneCell']
  have hbK : Blk (w.alloc (.cells #[.int .i64 0, .int .i64 0, .int .i64 0, .string ⟨#[]⟩, .string ⟨#[]⟩, .string ⟨#[]⟩, .int .i64 0, .int .i64 0, .int .i64 0, .int .i64 0, .int .i64 0, .slice none 0 0, .slice none 0 0] 38)) K #[.int .i64 0, .int .i64 0, .int .i64 0, .string ⟨#[]⟩, .string ⟨#[]⟩, .string ⟨#[]⟩, .int .i64 0, .int .i64 0, .int .i64 0, .int .i64 0, .int .i64 0, .slice none 0 0, .slice none 0 0] 38 := Blk.new_at w _ _ hK
  have hc1 : Chg [] w (w.alloc (.cells #[.int .i64 0, .int .i64 0, .int .i64 0, .string ⟨#[]⟩, .string ⟨#[]⟩, .string ⟨#[]⟩, .int .i64 0, .int .i64 0, .int .i64 0, .int .i64 0, .int .i64 0, .slice none 0 0, .slice none 0 0] 38)) := (Chg.refl [] w).alloc _
  go_enter Tryd.func22, Tryd.ntmps22
  go_wp2_with (with_reducible refine wpList_stA rfl 38 _ _ rfl hbK aT hss hone rfl rfl ?_; intro w5 hb5 hc5 hs5)
  refine bodyPost_ret (results_A rfl _ _ hb5 aT rfl) rfl ⟨.slice none 0 0, .slice none 0 0, rfl, ?_⟩
  exact actR_nil hK hc1 hc5 rfl rfl
set_option maxRecDepth 100000 in
set_option maxHeartbeats 4000000 in
theorem back6 (k x y z : Nat) (hk : k = 14) (ho : 199 < z) (hx : x < 256) (hy : y < 256) (hz : z < 256) (w : World) :
    Calls Tryd.prog 22 #[.int .i64 k, .int .i64 x, .int .i64 y, .int .i64 z] w fun e w' => ∃ pv mv, e = .returned (actV (backA k x y z) pv mv) ∧ ActR w w' (backA k x y z) pv mv ∧ Chg [] w w' := by
  obtain ⟨K, hK⟩ : ∃ K, w.heap.size = K := ⟨_, rfl⟩
  have hF : backA k x y z = { actZ with kind := 12, mask := [UInt8.ofNat y] } := by unfold backA; rw [if_neg (by omega), if_neg (by omega), if_neg (by omega), if_pos hk, if_pos ho]
  rw [hF]
  clear hF
  have t11 : ((k : Int) == 11) = false := by simp; omega
  have t12 : ((k : Int) == 12) = false := by simp; omega
  have t13 : ((k : Int) == 13) = false := by simp; omega
  have t14 : ((k : Int) == 14) = true := by simp; omega
  have tz : decide (199 < (z : Int)) = true := by simp; omega
  have tz' : decide (199 < z) = true := by simp; omega
  have hy256 : (y : Int) % 256 = (y : Int) := by omega
  have hz256 : (z : Int) % 256 = (z : Int) := by omega
  have aT : ArrTy Tryd.prog 38 (#[Value.int .i64 12, .int .i64 0, .int .i64 0, .string ⟨#[]⟩, .string ⟨#[]⟩, .string ⟨#[]⟩, .int .i64 0, .int .i64 0, .int .i64 0, .int .i64 0, .int .i64 0, .slice none 0 0, .slice (some ⟨K + 1, 0, none⟩) 1 1]).size := act_ty
  have hss : (#[.int .i64 0, .int .i64 0, .int .i64 0, .string ⟨#[]⟩, .string ⟨#[]⟩, .string ⟨#[]⟩, .int .i64 0, .int .i64 0, .int .i64 0, .int .i64 0, .int .i64 0, .slice none 0 0, .slice none 0 0] : Array Value).size = (#[Value.int .i64 12, .int .i64 0, .int .i64 0, .string ⟨#[]⟩, .string ⟨#[]⟩, .string ⟨#[]⟩, .int .i64 0, .int .i64 0, .int .i64 0, .int .i64 0, .int .i64 0, .slice none 0 0, .slice (some ⟨K + 1, 0, none⟩) 1 1]).size := rfl
  have hone : ∀ v ∈ (#[Value.int .i64 12, .int .i64 0, .int .i64 0, .string ⟨#[]⟩, .string ⟨#[]⟩, .string ⟨#[]⟩, .int .i64 0, .int .i64 0, .int .i64 0, .int .i64 0, .int .i64 0, .slice none 0 0, .slice (some ⟨K + 1, 0, none⟩) 1 1]).toList, v.oneCell' = true := by simp [Value.oneCell']
  have hs1 : (w.alloc (.cells #[.int .i64 0, .int .i64 0, .int .i64 0, .string ⟨#[]⟩, .string ⟨#[]⟩, .string ⟨#[]⟩, .int .i64 0, .int .i64 0, .int .i64 0, .int .i64 0, .int .i64 0, .slice none 0 0, .slice none 0 0] 38)).heap.size = K + 1 := by simp [hK]
  have hbK : Blk ((w.alloc (.cells #[.int .i64 0, .int .i64 0, .int .i64 0, .string ⟨#[]⟩, .string ⟨#[]⟩, .string ⟨#[]⟩, .int .i64 0, .int .i64 0, .int .i64 0, .int .i64 0, .int .i64 0, .slice none 0 0, .slice none 0 0] 38)).alloc (.cells #[.int .u8 (y : Int)] 5)) K #[.int .i64 0, .int .i64 0, .int .i64 0, .string ⟨#[]⟩, .string ⟨#[]⟩, .string ⟨#[]⟩, .int .i64 0, .int .i64 0, .int .i64 0, .int .i64 0, .int .i64 0, .slice none 0 0, .slice none 0 0] 38 := (Blk.new_at w _ _ hK).alloc _
  have hbM : Blk ((w.alloc (.cells #[.int .i64 0, .int .i64 0, .int .i64 0, .string ⟨#[]⟩, .string ⟨#[]⟩, .string ⟨#[]⟩, .int .i64 0, .int .i64 0, .int .i64 0, .int .i64 0, .int .i64 0, .slice none 0 0, .slice none 0 0] 38)).alloc (.cells #[.int .u8 (y : Int)] 5)) (K + 1) #[.int .u8 (y : Int)] 5 := Blk.new_at _ _ _ hs1
  have hsM : Sees ((w.alloc (.cells #[.int .i64 0, .int .i64 0, .int .i64 0, .string ⟨#[]⟩, .string ⟨#[]⟩, .string ⟨#[]⟩, .int .i64 0, .int .i64 0, .int .i64 0, .int .i64 0, .int .i64 0, .slice none 0 0, .slice none 0 0] 38)).alloc (.cells #[.int .u8 (y : Int)] 5)) 1 (.slice (some ⟨K + 1, 0, none⟩) 1 1) 1 (Bs [UInt8.ofNat y]) := by
    have h := Sees.row hbM (m := 1) rfl
    simp only [Bs, Bc, List.map_cons, List.map_nil]
    rw [u8n y (by omega)]
    exact h
  have hc1 : Chg [] w ((w.alloc (.cells #[.int .i64 0, .int .i64 0, .int .i64 0, .string ⟨#[]⟩, .string ⟨#[]⟩, .string ⟨#[]⟩, .int .i64 0, .int .i64 0, .int .i64 0, .int .i64 0, .int .i64 0, .slice none 0 0, .slice none 0 0] 38)).alloc (.cells #[.int .u8 (y : Int)] 5)) := ((Chg.refl [] w).alloc _).alloc _
  have HO := Lib.hid (And.intro hsM hc1)
  clear hsM hc1 hbM
  go_enter Tryd.func22, Tryd.ntmps22
  go_wp2_with (with_reducible refine wpList_stA rfl 38 _ _ rfl hbK aT hss hone rfl rfl ?_; intro w5 hb5 hc5 hs5)
  refine bodyPost_ret (results_A rfl _ _ hb5 aT rfl) rfl ⟨.slice none 0 0, .slice (some ⟨K + 1, 0, none⟩) 1 1, rfl, ?_⟩
  exact actR_mask hK HO.out.1 (by simp [eyes]) HO.out.2 hc5 rfl rfl
set_option maxRecDepth 100000 in
set_option maxHeartbeats 4000000 in
theorem back7 (k x y z : Nat) (hk : k = 14) (ho : ¬ 199 < z) (hx : x < 256) (hy : y < 256) (hz : z < 256) (w : World) :
    Calls Tryd.prog 22 #[.int .i64 k, .int .i64 x, .int .i64 y, .int .i64 z] w fun e w' => ∃ pv mv, e = .returned (actV (backA k x y z) pv mv) ∧ ActR w w' (backA k x y z) pv mv ∧ Chg [] w w' := by
  obtain ⟨K, hK⟩ : ∃ K, w.heap.size = K := ⟨_, rfl⟩
  have hF : backA k x y z = { actZ with kind := 13, n := ((1 + x % 40 : Nat) : Int), mask := [UInt8.ofNat y, UInt8.ofNat z] } := by unfold backA; rw [if_neg (by omega), if_neg (by omega), if_neg (by omega), if_pos hk, if_neg ho]
  rw [hF]
  clear hF
  have t11 : ((k : Int) == 11) = false := by simp; omega
  have t12 : ((k : Int) == 12) = false := by simp; omega
  have t13 : ((k : Int) == 13) = false := by simp; omega
  have t14 : ((k : Int) == 14) = true := by simp; omega
  have tz : decide (199 < (z : Int)) = false := by simp; omega
  have tz' : decide (199 < z) = false := by simp; omega
  have hy256 : (y : Int) % 256 = (y : Int) := by omega
  have hz256 : (z : Int) % 256 = (z : Int) := by omega
  have hm40 : (1 + (x : Int) % 40) = ((1 + x % 40 : Nat) : Int) := by omega
  have hb40 : 1 + x % 40 ≤ 40 := by omega
  generalize 1 + x % 40 = xa at *
  have aT : ArrTy Tryd.prog 38 (#[Value.int .i64 13, .int .i64 (xa : Int), .int .i64 0, .string ⟨#[]⟩, .string ⟨#[]⟩, .string ⟨#[]⟩, .int .i64 0, .int .i64 0, .int .i64 0, .int .i64 0, .int .i64 0, .slice none 0 0, .slice (some ⟨K + 1, 0, none⟩) 2 2]).size := act_ty
  have hss : (#[.int .i64 0, .int .i64 0, .int .i64 0, .string ⟨#[]⟩, .string ⟨#[]⟩, .string ⟨#[]⟩, .int .i64 0, .int .i64 0, .int .i64 0, .int .i64 0, .int .i64 0, .slice none 0 0, .slice none 0 0] : Array Value).size = (#[Value.int .i64 13, .int .i64 (xa : Int), .int .i64 0, .string ⟨#[]⟩, .string ⟨#[]⟩, .string ⟨#[]⟩, .int .i64 0, .int .i64 0, .int .i64 0, .int .i64 0, .int .i64 0, .slice none 0 0, .slice (some ⟨K + 1, 0, none⟩) 2 2]).size := rfl
  have hone : ∀ v ∈ (#[Value.int .i64 13, .int .i64 (xa : Int), .int .i64 0, .string ⟨#[]⟩, .string ⟨#[]⟩, .string ⟨#[]⟩, .int .i64 0, .int .i64 0, .int .i64 0, .int .i64 0, .int .i64 0, .slice none 0 0, .slice (some ⟨K + 1, 0, none⟩) 2 2]).toList, v.oneCell' = true := by simp [Value.oneCell']
  have hs1 : (w.alloc (.cells #[.int .i64 0, .int .i64 0, .int .i64 0, .string ⟨#[]⟩, .string ⟨#[]⟩, .string ⟨#[]⟩, .int .i64 0, .int .i64 0, .int .i64 0, .int .i64 0, .int .i64 0, .slice none 0 0, .slice none 0 0] 38)).heap.size = K + 1 := by simp [hK]
  have hbK : Blk ((w.alloc (.cells #[.int .i64 0, .int .i64 0, .int .i64 0, .string ⟨#[]⟩, .string ⟨#[]⟩, .string ⟨#[]⟩, .int .i64 0, .int .i64 0, .int .i64 0, .int .i64 0, .int .i64 0, .slice none 0 0, .slice none 0 0] 38)).alloc (.cells #[.int .u8 (y : Int), .int .u8 (z : Int)] 5)) K #[.int .i64 0, .int .i64 0, .int .i64 0, .string ⟨#[]⟩, .string ⟨#[]⟩, .string ⟨#[]⟩, .int .i64 0, .int .i64 0, .int .i64 0, .int .i64 0, .int .i64 0, .slice none 0 0, .slice none 0 0] 38 := (Blk.new_at w _ _ hK).alloc _
  have hbM : Blk ((w.alloc (.cells #[.int .i64 0, .int .i64 0, .int .i64 0, .string ⟨#[]⟩, .string ⟨#[]⟩, .string ⟨#[]⟩, .int .i64 0, .int .i64 0, .int .i64 0, .int .i64 0, .int .i64 0, .slice none 0 0, .slice none 0 0] 38)).alloc (.cells #[.int .u8 (y : Int), .int .u8 (z : Int)] 5)) (K + 1) #[.int .u8 (y : Int), .int .u8 (z : Int)] 5 := Blk.new_at _ _ _ hs1
  have hsM : Sees ((w.alloc (.cells #[.int .i64 0, .int .i64 0, .int .i64 0, .string ⟨#[]⟩, .string ⟨#[]⟩, .string ⟨#[]⟩, .int .i64 0, .int .i64 0, .int .i64 0, .int .i64 0, .int .i64 0, .slice none 0 0, .slice none 0 0] 38)).alloc (.cells #[.int .u8 (y : Int), .int .u8 (z : Int)] 5)) 1 (.slice (some ⟨K + 1, 0, none⟩) 2 2) 2 (Bs [UInt8.ofNat y, UInt8.ofNat z]) := by
    have h := Sees.row hbM (m := 2) rfl
    simp only [Bs, Bc, List.map_cons, List.map_nil]
    rw [u8n y (by omega), u8n z (by omega)]
    exact h
  have hc1 : Chg [] w ((w.alloc (.cells #[.int .i64 0, .int .i64 0, .int .i64 0, .string ⟨#[]⟩, .string ⟨#[]⟩, .string ⟨#[]⟩, .int .i64 0, .int .i64 0, .int .i64 0, .int .i64 0, .int .i64 0, .slice none 0 0, .slice none 0 0] 38)).alloc (.cells #[.int .u8 (y : Int), .int .u8 (z : Int)] 5)) := ((Chg.refl [] w).alloc _).alloc _
  have HO := Lib.hid (And.intro hsM hc1)
  clear hsM hc1 hbM
  go_enter Tryd.func22, Tryd.ntmps22
  go_wp2_with (with_reducible refine wpList_stA rfl 38 _ _ rfl hbK aT hss hone rfl rfl ?_; intro w5 hb5 hc5 hs5)
  refine bodyPost_ret (results_A rfl _ _ hb5 aT rfl) rfl ⟨.slice none 0 0, .slice (some ⟨K + 1, 0, none⟩) 2 2, rfl, ?_⟩
  exact actR_mask hK HO.out.1 (by simp [eyes]) HO.out.2 hc5 rfl rfl
set_option maxRecDepth 100000 in
set_option maxHeartbeats 4000000 in
theorem back8 (k x y z : Nat) (hk : k = 15) (hx : x < 256) (hy : y < 256) (hz : z < 256) (w : World) :
    Calls Tryd.prog 22 #[.int .i64 k, .int .i64 x, .int .i64 y, .int .i64 z] w fun e w' => ∃ pv mv, e = .returned (actV (backA k x y z) pv mv) ∧ ActR w w' (backA k x y z) pv mv ∧ Chg [] w w' := by
  obtain ⟨K, hK⟩ : ∃ K, w.heap.size = K := ⟨_, rfl⟩
  have hF : backA k x y z = { actZ with kind := 14 } := by unfold backA; rw [if_neg (by omega), if_neg (by omega), if_neg (by omega), if_neg (by omega)]
  rw [hF]
  clear hF
  have t11 : ((k : Int) == 11) = false := by simp; omega
  have t12 : ((k : Int) == 12) = false := by simp; omega
  have t13 : ((k : Int) == 13) = false := by simp; omega
  have t14 : ((k : Int) == 14) = false := by simp; omega
  have aT : ArrTy Tryd.prog 38 (#[Value.int .i64 14, .int .i64 0, .int .i64 0, .string ⟨#[]⟩, .string ⟨#[]⟩, .string ⟨#[]⟩, .int .i64 0, .int .i64 0, .int .i64 0, .int .i64 0, .int .i64 0, .slice none 0 0, .slice none 0 0]).size := act_ty
  have hss : (#[.int .i64 0, .int .i64 0, .int .i64 0, .string ⟨#[]⟩, .string ⟨#[]⟩, .string ⟨#[]⟩, .int .i64 0, .int .i64 0, .int .i64 0, .int .i64 0, .int .i64 0, .slice none 0 0, .slice none 0 0] : Array Value).size = (#[Value.int .i64 14, .int .i64 0, .int .i64 0, .string ⟨#[]⟩, .string ⟨#[]⟩, .string ⟨#[]⟩, .int .i64 0, .int .i64 0, .int .i64 0, .int .i64 0, .int .i64 0, .slice none 0 0, .slice none 0 0]).size := rfl
  have hone : ∀ v ∈ (#[Value.int .i64 14, .int .i64 0, .int .i64 0, .string ⟨#[]⟩, .string ⟨#[]⟩, .string ⟨#[]⟩, .int .i64 0, .int .i64 0, .int .i64 0, .int .i64 0, .int .i64 0, .slice none 0 0, .slice none 0 0]).toList, v.oneCell' = true := by simp [Value.oneCell']
  have hbK : Blk (w.alloc (.cells #[.int .i64 0, .int .i64 0, .int .i64 0, .string ⟨#[]⟩, .string ⟨#[]⟩, .string ⟨#[]⟩, .int .i64 0, .int .i64 0, .int .i64 0, .int .i64 0, .int .i64 0, .slice none 0 0, .slice none 0 0] 38)) K #[.int .i64 0, .int .i64 0, .int .i64 0, .string ⟨#[]⟩, .string ⟨#[]⟩, .string ⟨#[]⟩, .int .i64 0, .int .i64 0, .int .i64 0, .int .i64 0, .int .i64 0, .slice none 0 0, .slice none 0 0] 38 := Blk.new_at w _ _ hK
  have hc1 : Chg [] w (w.alloc (.cells #[.int .i64 0, .int .i64 0, .int .i64 0, .string ⟨#[]⟩, .string ⟨#[]⟩, .string ⟨#[]⟩, .int .i64 0, .int .i64 0, .int .i64 0, .int .i64 0, .int .i64 0, .slice none 0 0, .slice none 0 0] 38)) := (Chg.refl [] w).alloc _
  go_enter Tryd.func22, Tryd.ntmps22
  go_wp2_with (with_reducible refine wpList_stA rfl 38 _ _ rfl hbK aT hss hone rfl rfl ?_; intro w5 hb5 hc5 hs5)
  refine bodyPost_ret (results_A rfl _ _ hb5 aT rfl) rfl ⟨.slice none 0 0, .slice none 0 0, rfl, ?_⟩
  exact actR_nil hK hc1 hc5 rfl rfl
theorem back_any (k x y z : Nat) (hk : 10 < k ∧ k < 16) (hx : x < 256) (hy : y < 256) (hz : z < 256) (w : World) :
    Calls Tryd.prog 22 #[.int .i64 k, .int .i64 x, .int .i64 y, .int .i64 z] w fun e w' => ∃ pv mv, e = .returned (actV (backA k x y z) pv mv) ∧ ActR w w' (backA k x y z) pv mv ∧ Chg [] w w' := by
  by_cases h1 : k = 11
  · by_cases ho : z % 2 = 1
    · exact back0 k x y z h1 ho hx hy hz w
    · exact back1 k x y z h1 ho hx hy hz w
  by_cases h2 : k = 12
  · by_cases ho : z % 2 = 1
    · exact back2 k x y z h2 ho hx hy hz w
    · exact back3 k x y z h2 ho hx hy hz w
  by_cases h3 : k = 13
  · by_cases ho : z % 2 = 1
    · exact back4 k x y z h3 ho hx hy hz w
    · exact back5 k x y z h3 ho hx hy hz w
  by_cases h4 : k = 14
  · by_cases ho : 199 < z
    · exact back6 k x y z h4 ho hx hy hz w
    · exact back7 k x y z h4 ho hx hy hz w
  · exact back8 k x y z (by omega) hx hy hz w
set_option maxRecDepth 100000 in
set_option maxHeartbeats 4000000 in
theorem later0 (k x y z : Nat) (hk : k = 11) (ho : z % 2 = 1) (hx : x < 256) (hy : y < 256) (hz : z < 256) (w : World) :
    Calls Tryd.prog 43 #[.int .i64 k, .int .i64 x, .int .i64 y, .int .i64 z] w fun e w' => ∃ pv mv, e = .returned (actV (backA k x y z) pv mv) ∧ ActR w w' (backA k x y z) pv mv ∧ Chg [] w w' := by
  obtain ⟨K, hK⟩ : ∃ K, w.heap.size = K := ⟨_, rfl⟩
  have hF : backA k x y z = { actZ with kind := 7, n := ((x % 8 : Nat) : Int), m := ((y % 8 : Nat) : Int) } := by unfold backA; rw [if_pos hk, if_pos ho]
  rw [hF]
  clear hF
  have t11 : ((k : Int) == 11) = true := by simp; omega
  have tod : ((z : Int) % 2 == 1) = true := by simp; omega
  have hmxa : (x : Int) % 8 = ((x % 8 : Nat) : Int) := by omega
  generalize x % 8 = xa at *
  have hmya : (y : Int) % 8 = ((y % 8 : Nat) : Int) := by omega
  generalize y % 8 = ya at *
  have aT : ArrTy Tryd.prog 39 (#[Value.int .i64 7, .int .i64 (xa : Int), .int .i64 (ya : Int), .string ⟨#[]⟩, .string ⟨#[]⟩, .string ⟨#[]⟩, .int .i64 0, .int .i64 0, .int .i64 0, .int .i64 0, .int .i64 0, .slice none 0 0, .slice none 0 0]).size := ract_ty
  have hss : (#[.int .i64 0, .int .i64 0, .int .i64 0, .string ⟨#[]⟩, .string ⟨#[]⟩, .string ⟨#[]⟩, .int .i64 0, .int .i64 0, .int .i64 0, .int .i64 0, .int .i64 0, .slice none 0 0, .slice none 0 0] : Array Value).size = (#[Value.int .i64 7, .int .i64 (xa : Int), .int .i64 (ya : Int), .string ⟨#[]⟩, .string ⟨#[]⟩, .string ⟨#[]⟩, .int .i64 0, .int .i64 0, .int .i64 0, .int .i64 0, .int .i64 0, .slice none 0 0, .slice none 0 0]).size := rfl
  have hone : ∀ v ∈ (#[Value.int .i64 7, .int .i64 (xa : Int), .int .i64 (ya : Int), .string ⟨#[]⟩, .string ⟨#[]⟩, .string ⟨#[]⟩, .int .i64 0, .int .i64 0, .int .i64 0, .int .i64 0, .int .i64 0, .slice none 0 0, .slice none 0 0]).toList, v.oneCell' = true := by simp [Value.oneCell']
  have hbK : Blk (w.alloc (.cells #[.int .i64 0, .int .i64 0, .int .i64 0, .string ⟨#[]⟩, .string ⟨#[]⟩, .string ⟨#[]⟩, .int .i64 0, .int .i64 0, .int .i64 0, .int .i64 0, .int .i64 0, .slice none 0 0, .slice none 0 0] 39)) K #[.int .i64 0, .int .i64 0, .int .i64 0, .string ⟨#[]⟩, .string ⟨#[]⟩, .string ⟨#[]⟩, .int .i64 0, .int .i64 0, .int .i64 0, .int .i64 0, .int .i64 0, .slice none 0 0, .slice none 0 0] 39 := Blk.new_at w _ _ hK
  have hc1 : Chg [] w (w.alloc (.cells #[.int .i64 0, .int .i64 0, .int .i64 0, .string ⟨#[]⟩, .string ⟨#[]⟩, .string ⟨#[]⟩, .int .i64 0, .int .i64 0, .int .i64 0, .int .i64 0, .int .i64 0, .slice none 0 0, .slice none 0 0] 39)) := (Chg.refl [] w).alloc _
  go_enter Tryd.func43, Tryd.ntmps43
  go_wp2_with (with_reducible refine wpList_stA rfl 39 _ _ rfl hbK aT hss hone rfl rfl ?_; intro w5 hb5 hc5 hs5)
  refine bodyPost_ret (results_A rfl _ _ hb5 aT rfl) rfl ⟨.slice none 0 0, .slice none 0 0, rfl, ?_⟩
  exact actR_nil hK hc1 hc5 rfl rfl
set_option maxRecDepth 100000 in
set_option maxHeartbeats 4000000 in
theorem later1 (k x y z : Nat) (hk : k = 11) (ho : ¬ z % 2 = 1) (hx : x < 256) (hy : y < 256) (hz : z < 256) (w : World) :
    Calls Tryd.prog 43 #[.int .i64 k, .int .i64 x, .int .i64 y, .int .i64 z] w fun e w' => ∃ pv mv, e = .returned (actV (backA k x y z) pv mv) ∧ ActR w w' (backA k x y z) pv mv ∧ Chg [] w w' := by
  obtain ⟨K, hK⟩ : ∃ K, w.heap.size = K := ⟨_, rfl⟩
  have hF : backA k x y z = { actZ with kind := 6, name := [97] } := by unfold backA; rw [if_pos hk, if_neg ho]
  rw [hF]
  clear hF
  have t11 : ((k : Int) == 11) = true := by simp; omega
  have tod : ((z : Int) % 2 == 1) = false := by simp; omega
  have aT : ArrTy Tryd.prog 39 (#[Value.int .i64 6, .int .i64 0, .int .i64 0, .string ⟨#[97]⟩, .string ⟨#[]⟩, .string ⟨#[]⟩, .int .i64 0, .int .i64 0, .int .i64 0, .int .i64 0, .int .i64 0, .slice none 0 0, .slice none 0 0]).size := ract_ty
  have hss : (#[.int .i64 0, .int .i64 0, .int .i64 0, .string ⟨#[]⟩, .string ⟨#[]⟩, .string ⟨#[]⟩, .int .i64 0, .int .i64 0, .int .i64 0, .int .i64 0, .int .i64 0, .slice none 0 0, .slice none 0 0] : Array Value).size = (#[Value.int .i64 6, .int .i64 0, .int .i64 0, .string ⟨#[97]⟩, .string ⟨#[]⟩, .string ⟨#[]⟩, .int .i64 0, .int .i64 0, .int .i64 0, .int .i64 0, .int .i64 0, .slice none 0 0, .slice none 0 0]).size := rfl
  have hone : ∀ v ∈ (#[Value.int .i64 6, .int .i64 0, .int .i64 0, .string ⟨#[97]⟩, .string ⟨#[]⟩, .string ⟨#[]⟩, .int .i64 0, .int .i64 0, .int .i64 0, .int .i64 0, .int .i64 0, .slice none 0 0, .slice none 0 0]).toList, v.oneCell' = true := by simp [Value.oneCell']
  have hbK : Blk (w.alloc (.cells #[.int .i64 0, .int .i64 0, .int .i64 0, .string ⟨#[]⟩, .string ⟨#[]⟩, .string ⟨#[]⟩, .int .i64 0, .int .i64 0, .int .i64 0, .int .i64 0, .int .i64 0, .slice none 0 0, .slice none 0 0] 39)) K #[.int .i64 0, .int .i64 0, .int .i64 0, .string ⟨#[]⟩, .string ⟨#[]⟩, .string ⟨#[]⟩, .int .i64 0, .int .i64 0, .int .i64 0, .int .i64 0, .int .i64 0, .slice none 0 0, .slice none 0 0] 39 := Blk.new_at w _ _ hK
  have hc1 : Chg [] w (w.alloc (.cells #[.int .i64 0, .int .i64 0, .int .i64 0, .string ⟨#[]⟩, .string ⟨#[]⟩, .string ⟨#[]⟩, .int .i64 0, .int .i64 0, .int .i64 0, .int .i64 0, .int .i64 0, .slice none 0 0, .slice none 0 0] 39)) := (Chg.refl [] w).alloc _
  go_enter Tryd.func43, Tryd.ntmps43
  go_wp2_with (with_reducible refine wpList_stA rfl 39 _ _ rfl hbK aT hss hone rfl rfl ?_; intro w5 hb5 hc5 hs5)
  refine bodyPost_ret (results_A rfl _ _ hb5 aT rfl) rfl ⟨.slice none 0 0, .slice none 0 0, rfl, ?_⟩
  exact actR_nil hK hc1 hc5 rfl rfl
set_option maxRecDepth 100000 in
set_option maxHeartbeats 4000000 in
theorem later2 (k x y z : Nat) (hk : k = 12) (ho : z % 2 = 1) (hx : x < 256) (hy : y < 256) (hz : z < 256) (w : World) :
    Calls Tryd.prog 43 #[.int .i64 k, .int .i64 x, .int .i64 y, .int .i64 z] w fun e w' => ∃ pv mv, e = .returned (actV (backA k x y z) pv mv) ∧ ActR w w' (backA k x y z) pv mv ∧ Chg [] w w' := by
  obtain ⟨K, hK⟩ : ∃ K, w.heap.size = K := ⟨_, rfl⟩
  have hF : backA k x y z = { actZ with kind := 9, n := ((x % 6 : Nat) : Int) } := by unfold backA; rw [if_neg (by omega), if_pos hk, if_pos ho]
  rw [hF]
  clear hF
  have t11 : ((k : Int) == 11) = false := by simp; omega
  have t12 : ((k : Int) == 12) = true := by simp; omega
  have tod : ((z : Int) % 2 == 1) = true := by simp; omega
  have hmxa : (x : Int) % 6 = ((x % 6 : Nat) : Int) := by omega
  generalize x % 6 = xa at *
  have aT : ArrTy Tryd.prog 39 (#[Value.int .i64 9, .int .i64 (xa : Int), .int .i64 0, .string ⟨#[]⟩, .string ⟨#[]⟩, .string ⟨#[]⟩, .int .i64 0, .int .i64 0, .int .i64 0, .int .i64 0, .int .i64 0, .slice none 0 0, .slice none 0 0]).size := ract_ty
  have hss : (#[.int .i64 0, .int .i64 0, .int .i64 0, .string ⟨#[]⟩, .string ⟨#[]⟩, .string ⟨#[]⟩, .int .i64 0, .int .i64 0, .int .i64 0, .int .i64 0, .int .i64 0, .slice none 0 0, .slice none 0 0] : Array Value).size = (#[Value.int .i64 9, .int .i64 (xa : Int), .int .i64 0, .string ⟨#[]⟩, .string ⟨#[]⟩, .string ⟨#[]⟩, .int .i64 0, .int .i64 0, .int .i64 0, .int .i64 0, .int .i64 0, .slice none 0 0, .slice none 0 0]).size := rfl
  have hone : ∀ v ∈ (#[Value.int .i64 9, .int .i64 (xa : Int), .int .i64 0, .string ⟨#[]⟩, .string ⟨#[]⟩, .string ⟨#[]⟩, .int .i64 0, .int .i64 0, .int .i64 0, .int .i64 0, .int .i64 0, .slice none 0 0, .slice none 0 0]).toList, v.oneCell' = true := by simp [Value.oneCell']
  have hbK : Blk (w.alloc (.cells #[.int .i64 0, .int .i64 0, .int .i64 0, .string ⟨#[]⟩, .string ⟨#[]⟩, .string ⟨#[]⟩, .int .i64 0, .int .i64 0, .int .i64 0, .int .i64 0, .int .i64 0, .slice none 0 0, .slice none 0 0] 39)) K #[.int .i64 0, .int .i64 0, .int .i64 0, .string ⟨#[]⟩, .string ⟨#[]⟩, .string ⟨#[]⟩, .int .i64 0, .int .i64 0, .int .i64 0, .int .i64 0, .int .i64 0, .slice none 0 0, .slice none 0 0] 39 := Blk.new_at w _ _ hK
  have hc1 : Chg [] w (w.alloc (.cells #[.int .i64 0, .int .i64 0, .int .i64 0, .string ⟨#[]⟩, .string ⟨#[]⟩, .string ⟨#[]⟩, .int .i64 0, .int .i64 0, .int .i64 0, .int .i64 0, .int .i64 0, .slice none 0 0, .slice none 0 0] 39)) := (Chg.refl [] w).alloc _
  go_enter Tryd.func43, Tryd.ntmps43
  go_wp2_with (with_reducible refine wpList_stA rfl 39 _ _ rfl hbK aT hss hone rfl rfl ?_; intro w5 hb5 hc5 hs5)
  refine bodyPost_ret (results_A rfl _ _ hb5 aT rfl) rfl ⟨.slice none 0 0, .slice none 0 0, rfl, ?_⟩
  exact actR_nil hK hc1 hc5 rfl rfl
set_option maxRecDepth 100000 in
set_option maxHeartbeats 4000000 in
theorem later3 (k x y z : Nat) (hk : k = 12) (ho : ¬ z % 2 = 1) (hx : x < 256) (hy : y < 256) (hz : z < 256) (w : World) :
    Calls Tryd.prog 43 #[.int .i64 k, .int .i64 x, .int .i64 y, .int .i64 z] w fun e w' => ∃ pv mv, e = .returned (actV (backA k x y z) pv mv) ∧ ActR w w' (backA k x y z) pv mv ∧ Chg [] w w' := by
  obtain ⟨K, hK⟩ : ∃ K, w.heap.size = K := ⟨_, rfl⟩
  have hF : backA k x y z = { actZ with kind := 8, key := ((x % 8 : Nat) : Int) } := by unfold backA; rw [if_neg (by omega), if_pos hk, if_neg ho]
  rw [hF]
  clear hF
  have t11 : ((k : Int) == 11) = false := by simp; omega
  have t12 : ((k : Int) == 12) = true := by simp; omega
  have tod : ((z : Int) % 2 == 1) = false := by simp; omega
  have hmxa : (x : Int) % 8 = ((x % 8 : Nat) : Int) := by omega
  generalize x % 8 = xa at *
  have aT : ArrTy Tryd.prog 39 (#[Value.int .i64 8, .int .i64 0, .int .i64 0, .string ⟨#[]⟩, .string ⟨#[]⟩, .string ⟨#[]⟩, .int .i64 (xa : Int), .int .i64 0, .int .i64 0, .int .i64 0, .int .i64 0, .slice none 0 0, .slice none 0 0]).size := ract_ty
  have hss : (#[.int .i64 0, .int .i64 0, .int .i64 0, .string ⟨#[]⟩, .string ⟨#[]⟩, .string ⟨#[]⟩, .int .i64 0, .int .i64 0, .int .i64 0, .int .i64 0, .int .i64 0, .slice none 0 0, .slice none 0 0] : Array Value).size = (#[Value.int .i64 8, .int .i64 0, .int .i64 0, .string ⟨#[]⟩, .string ⟨#[]⟩, .string ⟨#[]⟩, .int .i64 (xa : Int), .int .i64 0, .int .i64 0, .int .i64 0, .int .i64 0, .slice none 0 0, .slice none 0 0]).size := rfl
  have hone : ∀ v ∈ (#[Value.int .i64 8, .int .i64 0, .int .i64 0, .string ⟨#[]⟩, .string ⟨#[]⟩, .string ⟨#[]⟩, .int .i64 (xa : Int), .int .i64 0, .int .i64 0, .int .i64 0, .int .i64 0, .slice none 0 0, .slice none 0 0]).toList, v.oneCell' = true := by simp [Value.oneCell']
  have hbK : Blk (w.alloc (.cells #[.int .i64 0, .int .i64 0, .int .i64 0, .string ⟨#[]⟩, .string ⟨#[]⟩, .string ⟨#[]⟩, .int .i64 0, .int .i64 0, .int .i64 0, .int .i64 0, .int .i64 0, .slice none 0 0, .slice none 0 0] 39)) K #[.int .i64 0, .int .i64 0, .int .i64 0, .string ⟨#[]⟩, .string ⟨#[]⟩, .string ⟨#[]⟩, .int .i64 0, .int .i64 0, .int .i64 0, .int .i64 0, .int .i64 0, .slice none 0 0, .slice none 0 0] 39 := Blk.new_at w _ _ hK
  have hc1 : Chg [] w (w.alloc (.cells #[.int .i64 0, .int .i64 0, .int .i64 0, .string ⟨#[]⟩, .string ⟨#[]⟩, .string ⟨#[]⟩, .int .i64 0, .int .i64 0, .int .i64 0, .int .i64 0, .int .i64 0, .slice none 0 0, .slice none 0 0] 39)) := (Chg.refl [] w).alloc _
  go_enter Tryd.func43, Tryd.ntmps43
  go_wp2_with (with_reducible refine wpList_stA rfl 39 _ _ rfl hbK aT hss hone rfl rfl ?_; intro w5 hb5 hc5 hs5)
  refine bodyPost_ret (results_A rfl _ _ hb5 aT rfl) rfl ⟨.slice none 0 0, .slice none 0 0, rfl, ?_⟩
  exact actR_nil hK hc1 hc5 rfl rfl
set_option maxRecDepth 100000 in
set_option maxHeartbeats 4000000 in
theorem later4 (k x y z : Nat) (hk : k = 13) (ho : z % 2 = 1) (hx : x < 256) (hy : y < 256) (hz : z < 256) (w : World) :
    Calls Tryd.prog 43 #[.int .i64 k, .int .i64 x, .int .i64 y, .int .i64 z] w fun e w' => ∃ pv mv, e = .returned (actV (backA k x y z) pv mv) ∧ ActR w w' (backA k x y z) pv mv ∧ Chg [] w w' := by
  obtain ⟨K, hK⟩ : ∃ K, w.heap.size = K := ⟨_, rfl⟩
  have hF : backA k x y z = { actZ with kind := 11 } := by unfold backA; rw [if_neg (by omega), if_neg (by omega), if_pos hk, if_pos ho]
  rw [hF]
  clear hF
  have t11 : ((k : Int) == 11) = false := by simp; omega
  have t12 : ((k : Int) == 12) = false := by simp; omega
  have t13 : ((k : Int) == 13) = true := by simp; omega
  have tod : ((z : Int) % 2 == 1) = true := by simp; omega
  have aT : ArrTy Tryd.prog 39 (#[Value.int .i64 11, .int .i64 0, .int .i64 0, .string ⟨#[]⟩, .string ⟨#[]⟩, .string ⟨#[]⟩, .int .i64 0, .int .i64 0, .int .i64 0, .int .i64 0, .int .i64 0, .slice none 0 0, .slice none 0 0]).size := ract_ty
  have hss : (#[.int .i64 0, .int .i64 0, .int .i64 0, .string ⟨#[]⟩, .string ⟨#[]⟩, .string ⟨#[]⟩, .int .i64 0, .int .i64 0, .int .i64 0, .int .i64 0, .int .i64 0, .slice none 0 0, .slice none 0 0] : Array Value).size = (#[Value.int .i64 11, .int .i64 0, .int .i64 0, .string ⟨#[]⟩, .string ⟨#[]⟩, .string ⟨#[]⟩, .int .i64 0, .int .i64 0, .int .i64 0, .int .i64 0, .int .i64 0, .slice none 0 0, .slice none 0 0]).size := rfl
  have hone : ∀ v ∈ (#[Value.int .i64 11, .int .i64 0, .int .i64 0, .string ⟨#[]⟩, .string ⟨#[]⟩, .string ⟨#[]⟩, .int .i64 0, .int .i64 0, .int .i64 0, .int .i64 0, .int .i64 0, .slice none 0 0, .slice none 0 0]).toList, v.oneCell' = true := by simp [Value.oneCell']
  have hbK : Blk (w.alloc (.cells #[.int .i64 0, .int .i64 0, .int .i64 0, .string ⟨#[]⟩, .string ⟨#[]⟩, .string ⟨#[]⟩, .int .i64 0, .int .i64 0, .int .i64 0, .int .i64 0, .int .i64 0, .slice none 0 0, .slice none 0 0] 39)) K #[.int .i64 0, .int .i64 0, .int .i64 0, .string ⟨#[]⟩, .string ⟨#[]⟩, .string ⟨#[]⟩, .int .i64 0, .int .i64 0, .int .i64 0, .int .i64 0, .int .i64 0, .slice none 0 0, .slice none 0 0] 39 := Blk.new_at w _ _ hK
  have hc1 : Chg [] w (w.alloc (.cells #[.int .i64 0, .int .i64 0, .int .i64 0, .string ⟨#[]⟩, .string ⟨#[]⟩, .string ⟨#[]⟩, .int .i64 0, .int .i64 0, .int .i64 0, .int .i64 0, .int .i64 0, .slice none 0 0, .slice none 0 0] 39)) := (Chg.refl [] w).alloc _
  go_enter Tryd.func43, Tryd.ntmps43
  go_wp2_with (with_reducible refine wpList_stA rfl 39 _ _ rfl hbK aT hss hone rfl rfl ?_; intro w5 hb5 hc5 hs5)
  refine bodyPost_ret (results_A rfl _ _ hb5 aT rfl) rfl ⟨.slice none 0 0, .slice none 0 0, rfl, ?_⟩
  exact actR_nil hK hc1 hc5 rfl rfl
set_option maxRecDepth 100000 in
set_option maxHeartbeats 4000000 in
theorem later5 (k x y z : Nat) (hk : k = 13) (ho : ¬ z % 2 = 1) (hx : x < 256) (hy : y < 256) (hz : z < 256) (w : World) :
    Calls Tryd.prog 43 #[.int .i64 k, .int .i64 x, .int .i64 y, .int .i64 z] w fun e w' => ∃ pv mv, e = .returned (actV (backA k x y z) pv mv) ∧ ActR w w' (backA k x y z) pv mv ∧ Chg [] w w' := by
  obtain ⟨K, hK⟩ : ∃ K, w.heap.size = K := ⟨_, rfl⟩
  have hF : backA k x y z = { actZ with kind := 10 } := by unfold backA; rw [if_neg (by omega), if_neg (by omega), if_pos hk, if_neg ho]
  rw [hF]
  clear hF
  have t11 : ((k : Int) == 11) = false := by simp; omega
  have t12 : ((k : Int) == 12) = false := by simp; omega
  have t13 : ((k : Int) == 13) = true := by simp; omega
  have tod : ((z : Int) % 2 == 1) = false := by simp; omega
  have aT : ArrTy Tryd.prog 39 (#[Value.int .i64 10, .int .i64 0, .int .i64 0, .string ⟨#[]⟩, .string ⟨#[]⟩, .string ⟨#[]⟩, .int .i64 0, .int .i64 0, .int .i64 0, .int .i64 0, .int .i64 0, .slice none 0 0, .slice none 0 0]).size := ract_ty
  have hss : (#[.int .i64 0, .int .i64 0, .int .i64 0, .string ⟨#[]⟩, .string ⟨#[]⟩, .string ⟨#[]⟩, .int .i64 0, .int .i64 0, .int .i64 0, .int .i64 0, .int .i64 0, .slice none 0 0, .slice none 0 0] : Array Value).size = (#[Value.int .i64 10, .int .i64 0, .int .i64 0, .string ⟨#[]⟩, .string ⟨#[]⟩, .string ⟨#[]⟩, .int .i64 0, .int .i64 0, .int .i64 0, .int .i64 0, .int .i64 0, .slice none 0 0, .slice none 0 0]).size := rfl
  have hone : ∀ v ∈ (#[Value.int .i64 10, .int .i64 0, .int .i64 0, .string ⟨#[]⟩, .string ⟨#[]⟩, .string ⟨#[]⟩, .int .i64 0, .int .i64 0, .int .i64 0, .int .i64 0, .int .i64 0, .slice none 0 0, .slice none 0 0]).toList, v.oneCell' = true := by simp [Value.oneCell']
  have hbK : Blk (w.alloc (.cells #[.int .i64 0, .int .i64 0, .int .i64 0, .string ⟨#[]⟩, .string ⟨#[]⟩, .string ⟨#[]⟩, .int .i64 0, .int .i64 0, .int .i64 0, .int .i64 0, .int .i64 0, .slice none 0 0, .slice none 0 0] 39)) K #[.int .i64 0, .int .i64 0, .int .i64 0, .string ⟨#[]⟩, .string ⟨#[]⟩, .string ⟨#[]⟩, .int .i64 0, .int .i64 0, .int .i64 0, .int .i64 0, .int .i64 0, .slice none 0 0, .slice none 0 0] 39 := Blk.new_at w _ _ hK
  have hc1 : Chg [] w (w.alloc (.cells #[.int .i64 0, .int .i64 0, .int .i64 0, .string ⟨#[]⟩, .string ⟨#[]⟩, .string ⟨#[]⟩, .int .i64 0, .int .i64 0, .int .i64 0, .int .i64 0, .int .i64 0, .slice none 0 0, .slice none 0 0] 39)) := (Chg.refl [] w).alloc _
  go_enter Tryd.func43, Tryd.ntmps43
  go_wp2_with (with_reducible refine wpList_stA rfl 39 _ _ rfl hbK aT hss hone rfl rfl ?_; intro w5 hb5 hc5 hs5)
  refine bodyPost_ret (results_A rfl _ _ hb5 aT rfl) rfl ⟨.slice none 0 0, .slice none 0 0, rfl, ?_⟩
  exact actR_nil hK hc1 hc5 rfl rfl
set_option maxRecDepth 100000 in
set_option maxHeartbeats 4000000 in
theorem later6 (k x y z : Nat) (hk : k = 14) (ho : 199 < z) (hx : x < 256) (hy : y < 256) (hz : z < 256) (w : World) :
    Calls Tryd.prog 43 #[.int .i64 k, .int .i64 x, .int .i64 y, .int .i64 z] w fun e w' => ∃ pv mv, e = .returned (actV (backA k x y z) pv mv) ∧ ActR w w' (backA k x y z) pv mv ∧ Chg [] w w' := by
  obtain ⟨K, hK⟩ : ∃ K, w.heap.size = K := ⟨_, rfl⟩
  have hF : backA k x y z = { actZ with kind := 12, mask := [UInt8.ofNat y] } := by unfold backA; rw [if_neg (by omega), if_neg (by omega), if_neg (by omega), if_pos hk, if_pos ho]
  rw [hF]
  clear hF
  have t11 : ((k : Int) == 11) = false := by simp; omega
  have t12 : ((k : Int) == 12) = false := by simp; omega
  have t13 : ((k : Int) == 13) = false := by simp; omega
  have t14 : ((k : Int) == 14) = true := by simp; omega
  have tz : decide (199 < (z : Int)) = true := by simp; omega
  have tz' : decide (199 < z) = true := by simp; omega
  have hy256 : (y : Int) % 256 = (y : Int) := by omega
  have hz256 : (z : Int) % 256 = (z : Int) := by omega
  have aT : ArrTy Tryd.prog 39 (#[Value.int .i64 12, .int .i64 0, .int .i64 0, .string ⟨#[]⟩, .string ⟨#[]⟩, .string ⟨#[]⟩, .int .i64 0, .int .i64 0, .int .i64 0, .int .i64 0, .int .i64 0, .slice none 0 0, .slice (some ⟨K + 1, 0, none⟩) 1 1]).size := ract_ty
  have hss : (#[.int .i64 0, .int .i64 0, .int .i64 0, .string ⟨#[]⟩, .string ⟨#[]⟩, .string ⟨#[]⟩, .int .i64 0, .int .i64 0, .int .i64 0, .int .i64 0, .int .i64 0, .slice none 0 0, .slice none 0 0] : Array Value).size = (#[Value.int .i64 12, .int .i64 0, .int .i64 0, .string ⟨#[]⟩, .string ⟨#[]⟩, .string ⟨#[]⟩, .int .i64 0, .int .i64 0, .int .i64 0, .int .i64 0, .int .i64 0, .slice none 0 0, .slice (some ⟨K + 1, 0, none⟩) 1 1]).size := rfl
  have hone : ∀ v ∈ (#[Value.int .i64 12, .int .i64 0, .int .i64 0, .string ⟨#[]⟩, .string ⟨#[]⟩, .string ⟨#[]⟩, .int .i64 0, .int .i64 0, .int .i64 0, .int .i64 0, .int .i64 0, .slice none 0 0, .slice (some ⟨K + 1, 0, none⟩) 1 1]).toList, v.oneCell' = true := by simp [Value.oneCell']
  have hs1 : (w.alloc (.cells #[.int .i64 0, .int .i64 0, .int .i64 0, .string ⟨#[]⟩, .string ⟨#[]⟩, .string ⟨#[]⟩, .int .i64 0, .int .i64 0, .int .i64 0, .int .i64 0, .int .i64 0, .slice none 0 0, .slice none 0 0] 39)).heap.size = K + 1 := by simp [hK]
  have hbK : Blk ((w.alloc (.cells #[.int .i64 0, .int .i64 0, .int .i64 0, .string ⟨#[]⟩, .string ⟨#[]⟩, .string ⟨#[]⟩, .int .i64 0, .int .i64 0, .int .i64 0, .int .i64 0, .int .i64 0, .slice none 0 0, .slice none 0 0] 39)).alloc (.cells #[.int .u8 (y : Int)] 5)) K #[.int .i64 0, .int .i64 0, .int .i64 0, .string ⟨#[]⟩, .string ⟨#[]⟩, .string ⟨#[]⟩, .int .i64 0, .int .i64 0, .int .i64 0, .int .i64 0, .int .i64 0, .slice none 0 0, .slice none 0 0] 39 := (Blk.new_at w _ _ hK).alloc _
  have hbM : Blk ((w.alloc (.cells #[.int .i64 0, .int .i64 0, .int .i64 0, .string ⟨#[]⟩, .string ⟨#[]⟩, .string ⟨#[]⟩, .int .i64 0, .int .i64 0, .int .i64 0, .int .i64 0, .int .i64 0, .slice none 0 0, .slice none 0 0] 39)).alloc (.cells #[.int .u8 (y : Int)] 5)) (K + 1) #[.int .u8 (y : Int)] 5 := Blk.new_at _ _ _ hs1
  have hsM : Sees ((w.alloc (.cells #[.int .i64 0, .int .i64 0, .int .i64 0, .string ⟨#[]⟩, .string ⟨#[]⟩, .string ⟨#[]⟩, .int .i64 0, .int .i64 0, .int .i64 0, .int .i64 0, .int .i64 0, .slice none 0 0, .slice none 0 0] 39)).alloc (.cells #[.int .u8 (y : Int)] 5)) 1 (.slice (some ⟨K + 1, 0, none⟩) 1 1) 1 (Bs [UInt8.ofNat y]) := by
    have h := Sees.row hbM (m := 1) rfl
    simp only [Bs, Bc, List.map_cons, List.map_nil]
    rw [u8n y (by omega)]
    exact h
  have hc1 : Chg [] w ((w.alloc (.cells #[.int .i64 0, .int .i64 0, .int .i64 0, .string ⟨#[]⟩, .string ⟨#[]⟩, .string ⟨#[]⟩, .int .i64 0, .int .i64 0, .int .i64 0, .int .i64 0, .int .i64 0, .slice none 0 0, .slice none 0 0] 39)).alloc (.cells #[.int .u8 (y : Int)] 5)) := ((Chg.refl [] w).alloc _).alloc _
  have HO := Lib.hid (And.intro hsM hc1)
  clear hsM hc1 hbM
  go_enter Tryd.func43, Tryd.ntmps43
  go_wp2_with (with_reducible refine wpList_stA rfl 39 _ _ rfl hbK aT hss hone rfl rfl ?_; intro w5 hb5 hc5 hs5)
  refine bodyPost_ret (results_A rfl _ _ hb5 aT rfl) rfl ⟨.slice none 0 0, .slice (some ⟨K + 1, 0, none⟩) 1 1, rfl, ?_⟩
  exact actR_mask hK HO.out.1 (by simp [eyes]) HO.out.2 hc5 rfl rfl
set_option maxRecDepth 100000 in
set_option maxHeartbeats 4000000 in
theorem later7 (k x y z : Nat) (hk : k = 14) (ho : ¬ 199 < z) (hx : x < 256) (hy : y < 256) (hz : z < 256) (w : World) :
    Calls Tryd.prog 43 #[.int .i64 k, .int .i64 x, .int .i64 y, .int .i64 z] w fun e w' => ∃ pv mv, e = .returned (actV (backA k x y z) pv mv) ∧ ActR w w' (backA k x y z) pv mv ∧ Chg [] w w' := by
  obtain ⟨K, hK⟩ : ∃ K, w.heap.size = K := ⟨_, rfl⟩
  have hF : backA k x y z = { actZ with kind := 13, n := ((1 + x % 40 : Nat) : Int), mask := [UInt8.ofNat y, UInt8.ofNat z] } := by unfold backA; rw [if_neg (by omega), if_neg (by omega), if_neg (by omega), if_pos hk, if_neg ho]
  rw [hF]
  clear hF
  have t11 : ((k : Int) == 11) = false := by simp; omega
  have t12 : ((k : Int) == 12) = false := by simp; omega
  have t13 : ((k : Int) == 13) = false := by simp; omega
  have t14 : ((k : Int) == 14) = true := by simp; omega
  have tz : decide (199 < (z : Int)) = false := by simp; omega
  have tz' : decide (199 < z) = false := by simp; omega
  have hy256 : (y : Int) % 256 = (y : Int) := by omega
  have hz256 : (z : Int) % 256 = (z : Int) := by omega
  have hm40 : (1 + (x : Int) % 40) = ((1 + x % 40 : Nat) : Int) := by omega
  have hb40 : 1 + x % 40 ≤ 40 := by omega
  generalize 1 + x % 40 = xa at *
  have aT : ArrTy Tryd.prog 39 (#[Value.int .i64 13, .int .i64 (xa : Int), .int .i64 0, .string ⟨#[]⟩, .string ⟨#[]⟩, .string ⟨#[]⟩, .int .i64 0, .int .i64 0, .int .i64 0, .int .i64 0, .int .i64 0, .slice none 0 0, .slice (some ⟨K + 1, 0, none⟩) 2 2]).size := ract_ty
  have hss : (#[.int .i64 0, .int .i64 0, .int .i64 0, .string ⟨#[]⟩, .string ⟨#[]⟩, .string ⟨#[]⟩, .int .i64 0, .int .i64 0, .int .i64 0, .int .i64 0, .int .i64 0, .slice none 0 0, .slice none 0 0] : Array Value).size = (#[Value.int .i64 13, .int .i64 (xa : Int), .int .i64 0, .string ⟨#[]⟩, .string ⟨#[]⟩, .string ⟨#[]⟩, .int .i64 0, .int .i64 0, .int .i64 0, .int .i64 0, .int .i64 0, .slice none 0 0, .slice (some ⟨K + 1, 0, none⟩) 2 2]).size := rfl
  have hone : ∀ v ∈ (#[Value.int .i64 13, .int .i64 (xa : Int), .int .i64 0, .string ⟨#[]⟩, .string ⟨#[]⟩, .string ⟨#[]⟩, .int .i64 0, .int .i64 0, .int .i64 0, .int .i64 0, .int .i64 0, .slice none 0 0, .slice (some ⟨K + 1, 0, none⟩) 2 2]).toList, v.oneCell' = true := by simp [Value.oneCell']
  have hs1 : (w.alloc (.cells #[.int .i64 0, .int .i64 0, .int .i64 0, .string ⟨#[]⟩, .string ⟨#[]⟩, .string ⟨#[]⟩, .int .i64 0, .int .i64 0, .int .i64 0, .int .i64 0, .int .i64 0, .slice none 0 0, .slice none 0 0] 39)).heap.size = K + 1 := by simp [hK]
  have hbK : Blk ((w.alloc (.cells #[.int .i64 0, .int .i64 0, .int .i64 0, .string ⟨#[]⟩, .string ⟨#[]⟩, .string ⟨#[]⟩, .int .i64 0, .int .i64 0, .int .i64 0, .int .i64 0, .int .i64 0, .slice none 0 0, .slice none 0 0] 39)).alloc (.cells #[.int .u8 (y : Int), .int .u8 (z : Int)] 5)) K #[.int .i64 0, .int .i64 0, .int .i64 0, .string ⟨#[]⟩, .string ⟨#[]⟩, .string ⟨#[]⟩, .int .i64 0, .int .i64 0, .int .i64 0, .int .i64 0, .int .i64 0, .slice none 0 0, .slice none 0 0] 39 := (Blk.new_at w _ _ hK).alloc _
  have hbM : Blk ((w.alloc (.cells #[.int .i64 0, .int .i64 0, .int .i64 0, .string ⟨#[]⟩, .string ⟨#[]⟩, .string ⟨#[]⟩, .int .i64 0, .int .i64 0, .int .i64 0, .int .i64 0, .int .i64 0, .slice none 0 0, .slice none 0 0] 39)).alloc (.cells #[.int .u8 (y : Int), .int .u8 (z : Int)] 5)) (K + 1) #[.int .u8 (y : Int), .int .u8 (z : Int)] 5 := Blk.new_at _ _ _ hs1
  have hsM : Sees ((w.alloc (.cells #[.int .i64 0, .int .i64 0, .int .i64 0, .string ⟨#[]⟩, .string ⟨#[]⟩, .string ⟨#[]⟩, .int .i64 0, .int .i64 0, .int .i64 0, .int .i64 0, .int .i64 0, .slice none 0 0, .slice none 0 0] 39)).alloc (.cells #[.int .u8 (y : Int), .int .u8 (z : Int)] 5)) 1 (.slice (some ⟨K + 1, 0, none⟩) 2 2) 2 (Bs [UInt8.ofNat y, UInt8.ofNat z]) := by
    have h := Sees.row hbM (m := 2) rfl
    simp only [Bs, Bc, List.map_cons, List.map_nil]
    rw [u8n y (by omega), u8n z (by omega)]
    exact h
  have hc1 : Chg [] w ((w.alloc (.cells #[.int .i64 0, .int .i64 0, .int .i64 0, .string ⟨#[]⟩, .string ⟨#[]⟩, .string ⟨#[]⟩, .int .i64 0, .int .i64 0, .int .i64 0, .int .i64 0, .int .i64 0, .slice none 0 0, .slice none 0 0] 39)).alloc (.cells #[.int .u8 (y : Int), .int .u8 (z : Int)] 5)) := ((Chg.refl [] w).alloc _).alloc _
  have HO := Lib.hid (And.intro hsM hc1)
  clear hsM hc1 hbM
  go_enter Tryd.func43, Tryd.ntmps43
  go_wp2_with (with_reducible refine wpList_stA rfl 39 _ _ rfl hbK aT hss hone rfl rfl ?_; intro w5 hb5 hc5 hs5)
  refine bodyPost_ret (results_A rfl _ _ hb5 aT rfl) rfl ⟨.slice none 0 0, .slice (some ⟨K + 1, 0, none⟩) 2 2, rfl, ?_⟩
  exact actR_mask hK HO.out.1 (by simp [eyes]) HO.out.2 hc5 rfl rfl
set_option maxRecDepth 100000 in
set_option maxHeartbeats 4000000 in
theorem later8 (k x y z : Nat) (hk : k = 15) (hx : x < 256) (hy : y < 256) (hz : z < 256) (w : World) :
    Calls Tryd.prog 43 #[.int .i64 k, .int .i64 x, .int .i64 y, .int .i64 z] w fun e w' => ∃ pv mv, e = .returned (actV (backA k x y z) pv mv) ∧ ActR w w' (backA k x y z) pv mv ∧ Chg [] w w' := by
  obtain ⟨K, hK⟩ : ∃ K, w.heap.size = K := ⟨_, rfl⟩
  have hF : backA k x y z = { actZ with kind := 14 } := by unfold backA; rw [if_neg (by omega), if_neg (by omega), if_neg (by omega), if_neg (by omega)]
  rw [hF]
  clear hF
  have t11 : ((k : Int) == 11) = false := by simp; omega
  have t12 : ((k : Int) == 12) = false := by simp; omega
  have t13 : ((k : Int) == 13) = false := by simp; omega
  have t14 : ((k : Int) == 14) = false := by simp; omega
  have aT : ArrTy Tryd.prog 39 (#[Value.int .i64 14, .int .i64 0, .int .i64 0, .string ⟨#[]⟩, .string ⟨#[]⟩, .string ⟨#[]⟩, .int .i64 0, .int .i64 0, .int .i64 0, .int .i64 0, .int .i64 0, .slice none 0 0, .slice none 0 0]).size := ract_ty
  have hss : (#[.int .i64 0, .int .i64 0, .int .i64 0, .string ⟨#[]⟩, .string ⟨#[]⟩, .string ⟨#[]⟩, .int .i64 0, .int .i64 0, .int .i64 0, .int .i64 0, .int .i64 0, .slice none 0 0, .slice none 0 0] : Array Value).size = (#[Value.int .i64 14, .int .i64 0, .int .i64 0, .string ⟨#[]⟩, .string ⟨#[]⟩, .string ⟨#[]⟩, .int .i64 0, .int .i64 0, .int .i64 0, .int .i64 0, .int .i64 0, .slice none 0 0, .slice none 0 0]).size := rfl
  have hone : ∀ v ∈ (#[Value.int .i64 14, .int .i64 0, .int .i64 0, .string ⟨#[]⟩, .string ⟨#[]⟩, .string ⟨#[]⟩, .int .i64 0, .int .i64 0, .int .i64 0, .int .i64 0, .int .i64 0, .slice none 0 0, .slice none 0 0]).toList, v.oneCell' = true := by simp [Value.oneCell']
  have hbK : Blk (w.alloc (.cells #[.int .i64 0, .int .i64 0, .int .i64 0, .string ⟨#[]⟩, .string ⟨#[]⟩, .string ⟨#[]⟩, .int .i64 0, .int .i64 0, .int .i64 0, .int .i64 0, .int .i64 0, .slice none 0 0, .slice none 0 0] 39)) K #[.int .i64 0, .int .i64 0, .int .i64 0, .string ⟨#[]⟩, .string ⟨#[]⟩, .string ⟨#[]⟩, .int .i64 0, .int .i64 0, .int .i64 0, .int .i64 0, .int .i64 0, .slice none 0 0, .slice none 0 0] 39 := Blk.new_at w _ _ hK
  have hc1 : Chg [] w (w.alloc (.cells #[.int .i64 0, .int .i64 0, .int .i64 0, .string ⟨#[]⟩, .string ⟨#[]⟩, .string ⟨#[]⟩, .int .i64 0, .int .i64 0, .int .i64 0, .int .i64 0, .int .i64 0, .slice none 0 0, .slice none 0 0] 39)) := (Chg.refl [] w).alloc _
  go_enter Tryd.func43, Tryd.ntmps43
  go_wp2_with (with_reducible refine wpList_stA rfl 39 _ _ rfl hbK aT hss hone rfl rfl ?_; intro w5 hb5 hc5 hs5)
  refine bodyPost_ret (results_A rfl _ _ hb5 aT rfl) rfl ⟨.slice none 0 0, .slice none 0 0, rfl, ?_⟩
  exact actR_nil hK hc1 hc5 rfl rfl
theorem later_any (k x y z : Nat) (hk : 10 < k ∧ k < 16) (hx : x < 256) (hy : y < 256) (hz : z < 256) (w : World) :
    Calls Tryd.prog 43 #[.int .i64 k, .int .i64 x, .int .i64 y, .int .i64 z] w fun e w' => ∃ pv mv, e = .returned (actV (backA k x y z) pv mv) ∧ ActR w w' (backA k x y z) pv mv ∧ Chg [] w w' := by
  by_cases h1 : k = 11
  · by_cases ho : z % 2 = 1
    · exact later0 k x y z h1 ho hx hy hz w
    · exact later1 k x y z h1 ho hx hy hz w
  by_cases h2 : k = 12
  · by_cases ho : z % 2 = 1
    · exact later2 k x y z h2 ho hx hy hz w
    · exact later3 k x y z h2 ho hx hy hz w
  by_cases h3 : k = 13
  · by_cases ho : z % 2 = 1
    · exact later4 k x y z h3 ho hx hy hz w
    · exact later5 k x y z h3 ho hx hy hz w
  by_cases h4 : k = 14
  · by_cases ho : 199 < z
    · exact later6 k x y z h4 ho hx hy hz w
    · exact later7 k x y z h4 ho hx hy hz w
  · exact later8 k x y z (by omega) hx hy hz w
end Go.Proofs.YtgbbjbldlfpbcaaDoor
