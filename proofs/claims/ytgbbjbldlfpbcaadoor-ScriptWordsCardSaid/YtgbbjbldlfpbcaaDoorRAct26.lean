/- Contracts of aquref.Dec (one digit) and aquref24.act. No statement of the seat is proved here. -/
import Derived.Test.YtgbbjbldlfpbcaaDoorBack26
set_option linter.unusedVariables false
namespace Go.Proofs.YtgbbjbldlfpbcaaDoor
open Go.RowKit Go.Aq Go.Aq.Wd
set_option maxRecDepth 100000 in
set_option maxHeartbeats 1000000 in
theorem dec1_any (n : Nat) (h : n < 10) (w : World) : Calls Tryd.prog 42 #[.int .i64 n] w fun e w' => e = .returned (.string (str [UInt8.ofNat (48 + n)])) ∧ Chg [] w w' := by
  obtain ⟨c, hc⟩ : ∃ c, c = 48 + n := ⟨_, rfl⟩
  have hcb : c ≤ 57 := by omega
  have hs : Sees (w.alloc (.cells #[.int .u8 (c : Int)] 5)) 1 (.slice (some ⟨w.heap.size, 0, none⟩) 1 1) 1 (Bs [UInt8.ofNat c]) := by
    have h1 := Sees.row (Blk.new w #[.int .u8 (c : Int)] 5) (m := 1) rfl
    simp only [Bs, Bc, List.map_cons, List.map_nil]
    rw [u8n c (by omega)]
    exact h1
  have r1 := run_str8 hs
  have hch : Chg [] w (w.alloc (.cells #[.int .u8 (c : Int)] 5)) := (Chg.refl [] w).alloc _
  have HC := Lib.hid hch
  have t1 : decide ((n : Int) < 10) = true := by simp; omega
  have t1' : decide (n < 10) = true := by simp; omega
  have e1 : (48 : Int) + (n : Int) = (c : Int) := by omega
  rw [← hc]
  have hn0 : (0 : Int) ≤ (n : Int) := by omega
  have tn : decide ((n : Int) < 0) = false := by simp
  clear hs hch hc h
  go_enter Tryd.func42, Tryd.ntmps42
  go_wp2_with fail
  go_ret
  exact ⟨rfl, HC.out⟩
set_option maxRecDepth 100000 in
set_option maxHeartbeats 4000000 in
theorem ract2 (k x y z : Nat) (hk : k = 6) (hx : x < 256) (hy : y < 256) (hz : z < 256) (w : World) :
    Calls Tryd.prog 23 #[.int .i64 k, .int .i64 x, .int .i64 y, .int .i64 z] w fun e w' => ∃ pv mv, e = .returned (actV (frontA k x y z) pv mv) ∧ ActR w w' (frontA k x y z) pv mv ∧ Chg [] w w' := by
  obtain ⟨K, hK⟩ : ∃ K, w.heap.size = K := ⟨_, rfl⟩
  have hF : frontA k x y z = { actZ with kind := 2, name := [98], key := ((x % 8 : Nat) : Int) } := by unfold frontA; rw [if_neg (by omega), if_pos hk]
  rw [hF]
  clear hF
  have l5 : decide ((k : Int) ≤ 5) = false := by simp; omega
  have l5' : decide (k ≤ 5) = false := by simp; omega
  have t6 : ((k : Int) == 6) = true := by simp; omega
  have hm8 : (x : Int) % 8 = ((x % 8 : Nat) : Int) := by omega
  generalize x % 8 = xa at *
  have aT : ArrTy Tryd.prog 39 (#[Value.int .i64 2, .int .i64 0, .int .i64 0, .string ⟨#[98]⟩, .string ⟨#[]⟩, .string ⟨#[]⟩, .int .i64 (xa : Int), .int .i64 0, .int .i64 0, .int .i64 0, .int .i64 0, .slice none 0 0, .slice none 0 0]).size := ract_ty
  have hss : (#[.int .i64 0, .int .i64 0, .int .i64 0, .string ⟨#[]⟩, .string ⟨#[]⟩, .string ⟨#[]⟩, .int .i64 0, .int .i64 0, .int .i64 0, .int .i64 0, .int .i64 0, .slice none 0 0, .slice none 0 0] : Array Value).size = (#[Value.int .i64 2, .int .i64 0, .int .i64 0, .string ⟨#[98]⟩, .string ⟨#[]⟩, .string ⟨#[]⟩, .int .i64 (xa : Int), .int .i64 0, .int .i64 0, .int .i64 0, .int .i64 0, .slice none 0 0, .slice none 0 0]).size := rfl
  have hone : ∀ v ∈ (#[Value.int .i64 2, .int .i64 0, .int .i64 0, .string ⟨#[98]⟩, .string ⟨#[]⟩, .string ⟨#[]⟩, .int .i64 (xa : Int), .int .i64 0, .int .i64 0, .int .i64 0, .int .i64 0, .slice none 0 0, .slice none 0 0]).toList, v.oneCell' = true := by simp [Value.oneCell']
  have hbK : Blk (w.alloc (.cells #[.int .i64 0, .int .i64 0, .int .i64 0, .string ⟨#[]⟩, .string ⟨#[]⟩, .string ⟨#[]⟩, .int .i64 0, .int .i64 0, .int .i64 0, .int .i64 0, .int .i64 0, .slice none 0 0, .slice none 0 0] 39)) K #[.int .i64 0, .int .i64 0, .int .i64 0, .string ⟨#[]⟩, .string ⟨#[]⟩, .string ⟨#[]⟩, .int .i64 0, .int .i64 0, .int .i64 0, .int .i64 0, .int .i64 0, .slice none 0 0, .slice none 0 0] 39 := Blk.new_at w _ _ hK
  have hc1 : Chg [] w (w.alloc (.cells #[.int .i64 0, .int .i64 0, .int .i64 0, .string ⟨#[]⟩, .string ⟨#[]⟩, .string ⟨#[]⟩, .int .i64 0, .int .i64 0, .int .i64 0, .int .i64 0, .int .i64 0, .slice none 0 0, .slice none 0 0] 39)) := (Chg.refl [] w).alloc _
  go_enter Tryd.func23, Tryd.ntmps23
  go_wp2_with (with_reducible refine wpList_stA rfl 39 _ _ rfl hbK aT hss hone rfl rfl ?_; intro w5 hb5 hc5 hs5)
  refine bodyPost_ret (results_A rfl _ _ hb5 aT rfl) rfl ⟨.slice none 0 0, .slice none 0 0, rfl, ?_⟩
  exact actR_nil hK hc1 hc5 rfl rfl
set_option maxRecDepth 100000 in
set_option maxHeartbeats 4000000 in
theorem ract3 (k x y z : Nat) (hk : k = 7) (hx : x < 256) (hy : y < 256) (hz : z < 256) (w : World) :
    Calls Tryd.prog 23 #[.int .i64 k, .int .i64 x, .int .i64 y, .int .i64 z] w fun e w' => ∃ pv mv, e = .returned (actV (frontA k x y z) pv mv) ∧ ActR w w' (frontA k x y z) pv mv ∧ Chg [] w w' := by
  obtain ⟨K, hK⟩ : ∃ K, w.heap.size = K := ⟨_, rfl⟩
  have hF : frontA k x y z = { actZ with kind := 3, name := [116, UInt8.ofNat (48 + y % 4)], key := ((x % 8 : Nat) : Int) } := by unfold frontA; rw [if_neg (by omega), if_neg (by omega), if_pos hk]
  rw [hF]
  clear hF
  have l5 : decide ((k : Int) ≤ 5) = false := by simp; omega
  have l5' : decide (k ≤ 5) = false := by simp; omega
  have t6 : ((k : Int) == 6) = false := by simp; omega
  have t7 : ((k : Int) == 7) = true := by simp; omega
  have hm8 : (x : Int) % 8 = ((x % 8 : Nat) : Int) := by omega
  generalize x % 8 = xa at *
  have hm4 : (y : Int) % 4 = ((y % 4 : Nat) : Int) := by omega
  have hi := fun w' => dec1_any (y % 4) (by omega) w'
  have hcat : (⟨#[116]⟩ : ByteArray) ++ str [UInt8.ofNat (48 + y % 4)] = str [116, UInt8.ofNat (48 + y % 4)] := str_cat2 [116] [UInt8.ofNat (48 + y % 4)]
  have r1 := fun w => run_cat2 (P := Tryd.prog) hcat (by rw [str_size]; have : (⟨#[116]⟩ : ByteArray).size = 1 := rfl; simp; omega) w
  generalize UInt8.ofNat (48 + y % 4) = d at *
  have hy4 : y % 4 ≤ 3 := by omega
  generalize y % 4 = y4 at *
  clear hcat
  have aT : ArrTy Tryd.prog 39 (#[Value.int .i64 3, .int .i64 0, .int .i64 0, .string (str [116, d]), .string ⟨#[]⟩, .string ⟨#[]⟩, .int .i64 (xa : Int), .int .i64 0, .int .i64 0, .int .i64 0, .int .i64 0, .slice none 0 0, .slice none 0 0]).size := ract_ty
  have hss : (#[.int .i64 0, .int .i64 0, .int .i64 0, .string ⟨#[]⟩, .string ⟨#[]⟩, .string ⟨#[]⟩, .int .i64 0, .int .i64 0, .int .i64 0, .int .i64 0, .int .i64 0, .slice none 0 0, .slice none 0 0] : Array Value).size = (#[Value.int .i64 3, .int .i64 0, .int .i64 0, .string (str [116, d]), .string ⟨#[]⟩, .string ⟨#[]⟩, .int .i64 (xa : Int), .int .i64 0, .int .i64 0, .int .i64 0, .int .i64 0, .slice none 0 0, .slice none 0 0]).size := rfl
  have hone : ∀ v ∈ (#[Value.int .i64 3, .int .i64 0, .int .i64 0, .string (str [116, d]), .string ⟨#[]⟩, .string ⟨#[]⟩, .int .i64 (xa : Int), .int .i64 0, .int .i64 0, .int .i64 0, .int .i64 0, .slice none 0 0, .slice none 0 0]).toList, v.oneCell' = true := by simp [Value.oneCell']
  have hbK : Blk (w.alloc (.cells #[.int .i64 0, .int .i64 0, .int .i64 0, .string ⟨#[]⟩, .string ⟨#[]⟩, .string ⟨#[]⟩, .int .i64 0, .int .i64 0, .int .i64 0, .int .i64 0, .int .i64 0, .slice none 0 0, .slice none 0 0] 39)) K #[.int .i64 0, .int .i64 0, .int .i64 0, .string ⟨#[]⟩, .string ⟨#[]⟩, .string ⟨#[]⟩, .int .i64 0, .int .i64 0, .int .i64 0, .int .i64 0, .int .i64 0, .slice none 0 0, .slice none 0 0] 39 := Blk.new_at w _ _ hK
  have hc1 : Chg [] w (w.alloc (.cells #[.int .i64 0, .int .i64 0, .int .i64 0, .string ⟨#[]⟩, .string ⟨#[]⟩, .string ⟨#[]⟩, .int .i64 0, .int .i64 0, .int .i64 0, .int .i64 0, .int .i64 0, .slice none 0 0, .slice none 0 0] 39)) := (Chg.refl [] w).alloc _
  go_enter Tryd.func23, Tryd.ntmps23
  go_wp2_with fail
  generalize w.alloc (.cells #[.int .i64 0, .int .i64 0, .int .i64 0, .string ⟨#[]⟩, .string ⟨#[]⟩, .string ⟨#[]⟩, .int .i64 0, .int .i64 0, .int .i64 0, .int .i64 0, .int .i64 0, .slice none 0 0, .slice none 0 0] 39) = w1 at *
  refine (hi _).mono ?_
  rintro e w2 ⟨rfl, c2⟩
  have hbK2 := hbK.chg0 c2
  have hc12 := hc1.nil c2
  clear hi hbK hc1
  have hbK := hbK2
  have hc1 := hc12
  clear hbK2 hc12 c2
  go_wp2_with (with_reducible refine wpList_stA rfl 39 _ _ rfl hbK aT hss hone rfl rfl ?_; intro w5 hb5 hc5 hs5)
  refine bodyPost_ret (results_A rfl _ _ hb5 aT rfl) rfl ⟨.slice none 0 0, .slice none 0 0, rfl, ?_⟩
  exact actR_nil hK hc1 hc5 rfl rfl
set_option maxRecDepth 100000 in
set_option maxHeartbeats 4000000 in
theorem ract4 (k x y z : Nat) (hk : k = 8) (ho : y % 2 = 1) (hx : x < 256) (hy : y < 256) (hz : z < 256) (w : World) :
    Calls Tryd.prog 23 #[.int .i64 k, .int .i64 x, .int .i64 y, .int .i64 z] w fun e w' => ∃ pv mv, e = .returned (actV (frontA k x y z) pv mv) ∧ ActR w w' (frontA k x y z) pv mv ∧ Chg [] w w' := by
  obtain ⟨K, hK⟩ : ∃ K, w.heap.size = K := ⟨_, rfl⟩
  have hF : frontA k x y z = { actZ with kind := 4, name := [116, 48], n := 1 } := by unfold frontA; rw [if_neg (by omega), if_neg (by omega), if_neg (by omega), if_pos hk, if_pos ho]
  rw [hF]
  clear hF
  have l5 : decide ((k : Int) ≤ 5) = false := by simp; omega
  have l5' : decide (k ≤ 5) = false := by simp; omega
  have t6 : ((k : Int) == 6) = false := by simp; omega
  have t7 : ((k : Int) == 7) = false := by simp; omega
  have t8 : ((k : Int) == 8) = true := by simp; omega
  have tod : ((y : Int) % 2 == 1) = true := by simp; omega
  have aT : ArrTy Tryd.prog 39 (#[Value.int .i64 4, .int .i64 1, .int .i64 0, .string ⟨#[116, 48]⟩, .string ⟨#[]⟩, .string ⟨#[]⟩, .int .i64 0, .int .i64 0, .int .i64 0, .int .i64 0, .int .i64 0, .slice none 0 0, .slice none 0 0]).size := ract_ty
  have hss : (#[.int .i64 0, .int .i64 0, .int .i64 0, .string ⟨#[]⟩, .string ⟨#[]⟩, .string ⟨#[]⟩, .int .i64 0, .int .i64 0, .int .i64 0, .int .i64 0, .int .i64 0, .slice none 0 0, .slice none 0 0] : Array Value).size = (#[Value.int .i64 4, .int .i64 1, .int .i64 0, .string ⟨#[116, 48]⟩, .string ⟨#[]⟩, .string ⟨#[]⟩, .int .i64 0, .int .i64 0, .int .i64 0, .int .i64 0, .int .i64 0, .slice none 0 0, .slice none 0 0]).size := rfl
  have hone : ∀ v ∈ (#[Value.int .i64 4, .int .i64 1, .int .i64 0, .string ⟨#[116, 48]⟩, .string ⟨#[]⟩, .string ⟨#[]⟩, .int .i64 0, .int .i64 0, .int .i64 0, .int .i64 0, .int .i64 0, .slice none 0 0, .slice none 0 0]).toList, v.oneCell' = true := by simp [Value.oneCell']
  have hbK : Blk (w.alloc (.cells #[.int .i64 0, .int .i64 0, .int .i64 0, .string ⟨#[]⟩, .string ⟨#[]⟩, .string ⟨#[]⟩, .int .i64 0, .int .i64 0, .int .i64 0, .int .i64 0, .int .i64 0, .slice none 0 0, .slice none 0 0] 39)) K #[.int .i64 0, .int .i64 0, .int .i64 0, .string ⟨#[]⟩, .string ⟨#[]⟩, .string ⟨#[]⟩, .int .i64 0, .int .i64 0, .int .i64 0, .int .i64 0, .int .i64 0, .slice none 0 0, .slice none 0 0] 39 := Blk.new_at w _ _ hK
  have hc1 : Chg [] w (w.alloc (.cells #[.int .i64 0, .int .i64 0, .int .i64 0, .string ⟨#[]⟩, .string ⟨#[]⟩, .string ⟨#[]⟩, .int .i64 0, .int .i64 0, .int .i64 0, .int .i64 0, .int .i64 0, .slice none 0 0, .slice none 0 0] 39)) := (Chg.refl [] w).alloc _
  go_enter Tryd.func23, Tryd.ntmps23
  go_wp2_with (with_reducible refine wpList_stA rfl 39 _ _ rfl hbK aT hss hone rfl rfl ?_; intro w5 hb5 hc5 hs5)
  refine bodyPost_ret (results_A rfl _ _ hb5 aT rfl) rfl ⟨.slice none 0 0, .slice none 0 0, rfl, ?_⟩
  exact actR_nil hK hc1 hc5 rfl rfl
set_option maxRecDepth 100000 in
set_option maxHeartbeats 4000000 in
theorem ract5 (k x y z : Nat) (hk : k = 8) (ho : ¬ y % 2 = 1) (hx : x < 256) (hy : y < 256) (hz : z < 256) (w : World) :
    Calls Tryd.prog 23 #[.int .i64 k, .int .i64 x, .int .i64 y, .int .i64 z] w fun e w' => ∃ pv mv, e = .returned (actV (frontA k x y z) pv mv) ∧ ActR w w' (frontA k x y z) pv mv ∧ Chg [] w w' := by
  obtain ⟨K, hK⟩ : ∃ K, w.heap.size = K := ⟨_, rfl⟩
  have hF : frontA k x y z = { actZ with kind := 4, name := [98] } := by unfold frontA; rw [if_neg (by omega), if_neg (by omega), if_neg (by omega), if_pos hk, if_neg ho]
  rw [hF]
  clear hF
  have l5 : decide ((k : Int) ≤ 5) = false := by simp; omega
  have l5' : decide (k ≤ 5) = false := by simp; omega
  have t6 : ((k : Int) == 6) = false := by simp; omega
  have t7 : ((k : Int) == 7) = false := by simp; omega
  have t8 : ((k : Int) == 8) = true := by simp; omega
  have tod : ((y : Int) % 2 == 1) = false := by simp; omega
  have aT : ArrTy Tryd.prog 39 (#[Value.int .i64 4, .int .i64 0, .int .i64 0, .string ⟨#[98]⟩, .string ⟨#[]⟩, .string ⟨#[]⟩, .int .i64 0, .int .i64 0, .int .i64 0, .int .i64 0, .int .i64 0, .slice none 0 0, .slice none 0 0]).size := ract_ty
  have hss : (#[.int .i64 0, .int .i64 0, .int .i64 0, .string ⟨#[]⟩, .string ⟨#[]⟩, .string ⟨#[]⟩, .int .i64 0, .int .i64 0, .int .i64 0, .int .i64 0, .int .i64 0, .slice none 0 0, .slice none 0 0] : Array Value).size = (#[Value.int .i64 4, .int .i64 0, .int .i64 0, .string ⟨#[98]⟩, .string ⟨#[]⟩, .string ⟨#[]⟩, .int .i64 0, .int .i64 0, .int .i64 0, .int .i64 0, .int .i64 0, .slice none 0 0, .slice none 0 0]).size := rfl
  have hone : ∀ v ∈ (#[Value.int .i64 4, .int .i64 0, .int .i64 0, .string ⟨#[98]⟩, .string ⟨#[]⟩, .string ⟨#[]⟩, .int .i64 0, .int .i64 0, .int .i64 0, .int .i64 0, .int .i64 0, .slice none 0 0, .slice none 0 0]).toList, v.oneCell' = true := by simp [Value.oneCell']
  have hbK : Blk (w.alloc (.cells #[.int .i64 0, .int .i64 0, .int .i64 0, .string ⟨#[]⟩, .string ⟨#[]⟩, .string ⟨#[]⟩, .int .i64 0, .int .i64 0, .int .i64 0, .int .i64 0, .int .i64 0, .slice none 0 0, .slice none 0 0] 39)) K #[.int .i64 0, .int .i64 0, .int .i64 0, .string ⟨#[]⟩, .string ⟨#[]⟩, .string ⟨#[]⟩, .int .i64 0, .int .i64 0, .int .i64 0, .int .i64 0, .int .i64 0, .slice none 0 0, .slice none 0 0] 39 := Blk.new_at w _ _ hK
  have hc1 : Chg [] w (w.alloc (.cells #[.int .i64 0, .int .i64 0, .int .i64 0, .string ⟨#[]⟩, .string ⟨#[]⟩, .string ⟨#[]⟩, .int .i64 0, .int .i64 0, .int .i64 0, .int .i64 0, .int .i64 0, .slice none 0 0, .slice none 0 0] 39)) := (Chg.refl [] w).alloc _
  go_enter Tryd.func23, Tryd.ntmps23
  go_wp2_with (with_reducible refine wpList_stA rfl 39 _ _ rfl hbK aT hss hone rfl rfl ?_; intro w5 hb5 hc5 hs5)
  refine bodyPost_ret (results_A rfl _ _ hb5 aT rfl) rfl ⟨.slice none 0 0, .slice none 0 0, rfl, ?_⟩
  exact actR_nil hK hc1 hc5 rfl rfl
set_option maxRecDepth 100000 in
set_option maxHeartbeats 4000000 in
theorem ract1t (k x y z : Nat) (hk : k < 6) (hod : x % 2 = 1) (hx : x < 256) (hy : y < 256) (hz : z < 256) (w : World) :
    Calls Tryd.prog 23 #[.int .i64 k, .int .i64 x, .int .i64 y, .int .i64 z] w fun e w' => ∃ pv mv, e = .returned (actV (frontA k x y z) pv mv) ∧ ActR w w' (frontA k x y z) pv mv ∧ Chg [] w w' := by
  obtain ⟨K, hK⟩ : ∃ K, w.heap.size = K := ⟨_, rfl⟩
  have hF : frontA k x y z = { actZ with kind := 1, name := sideT x, other := [117], shp := picS (3 + y % 2) 7 z, pix := picP (3 + y % 2) 7 z } := by unfold frontA; rw [if_pos hk]
  rw [hF]
  clear hF
  have tod : ((x : Int) % 2 == 1) = true := by simp; omega
  have eT : sideT x = [98] := if_pos hod
  have eF : sideF x = [97] := if_pos hod
  rw [eT]
  have l5 : decide ((k : Int) ≤ 5) = true := by simp; omega
  have l5' : decide (k ≤ 5) = true := by simp; omega
  have hp := fun w' => rpic_any (3 + (y : Int) % 2) 7 (z : Int) (by omega) (by decide) (by omega) w'
  rw [show (3 + (y : Int) % 2).toNat = 3 + y % 2 by omega, show (7 : Int).toNat = 7 from rfl, Int.toNat_natCast] at hp
  unfold rasV at hp
  have hpl := picP_len (3 + y % 2) 7 z
  generalize picP (3 + y % 2) 7 z = pp at *
  generalize picN (3 + y % 2) 7 z = nn at *
  generalize picS (3 + y % 2) 7 z = ss at *
  have HPL := Lib.hid hpl
  clear hpl eT eF
  have hbK : Blk (w.alloc (.cells #[.int .i64 0, .int .i64 0, .int .i64 0, .string ⟨#[]⟩, .string ⟨#[]⟩, .string ⟨#[]⟩, .int .i64 0, .int .i64 0, .int .i64 0, .int .i64 0, .int .i64 0, .slice none 0 0, .slice none 0 0] 39)) K #[.int .i64 0, .int .i64 0, .int .i64 0, .string ⟨#[]⟩, .string ⟨#[]⟩, .string ⟨#[]⟩, .int .i64 0, .int .i64 0, .int .i64 0, .int .i64 0, .int .i64 0, .slice none 0 0, .slice none 0 0] 39 := Blk.new_at w _ _ hK
  have hc1 : Chg [] w (w.alloc (.cells #[.int .i64 0, .int .i64 0, .int .i64 0, .string ⟨#[]⟩, .string ⟨#[]⟩, .string ⟨#[]⟩, .int .i64 0, .int .i64 0, .int .i64 0, .int .i64 0, .int .i64 0, .slice none 0 0, .slice none 0 0] 39)) := (Chg.refl [] w).alloc _
  have HS1 : Hid (K < (w.alloc (.cells #[.int .i64 0, .int .i64 0, .int .i64 0, .string ⟨#[]⟩, .string ⟨#[]⟩, .string ⟨#[]⟩, .int .i64 0, .int .i64 0, .int .i64 0, .int .i64 0, .int .i64 0, .slice none 0 0, .slice none 0 0] 39)).heap.size) := by show _ < _; simp [hK]
  go_enter Tryd.func23, Tryd.ntmps23
  go_wp2_with fail
  generalize w.alloc (.cells #[.int .i64 0, .int .i64 0, .int .i64 0, .string ⟨#[]⟩, .string ⟨#[]⟩, .string ⟨#[]⟩, .int .i64 0, .int .i64 0, .int .i64 0, .int .i64 0, .int .i64 0, .slice none 0 0, .slice none 0 0] 39) = w1 at *
  refine (hp _).mono ?_
  rintro e w3 ⟨pv, rfl, hsee, hnew, hc3⟩
  obtain ⟨ao, cap, rfl, hcap, -⟩ := hsee.shape
  obtain ⟨R, hR⟩ : ∃ R, w3.heap.size = R := ⟨_, rfl⟩
  have hbR : Blk (w3.alloc (.cells #[Value.int .i64 1, .int .i64 0, .int .i64 0, .string ⟨#[98]⟩, .string ⟨#[117]⟩, .string ⟨#[]⟩, .int .i64 0, .int .i64 ss.w, .int .i64 ss.h, .int .i64 ss.c, .int .i64 ss.d, .slice ao nn cap, .slice none 0 0] 39)) R #[Value.int .i64 1, .int .i64 0, .int .i64 0, .string ⟨#[98]⟩, .string ⟨#[117]⟩, .string ⟨#[]⟩, .int .i64 0, .int .i64 ss.w, .int .i64 ss.h, .int .i64 ss.c, .int .i64 ss.d, .slice ao nn cap, .slice none 0 0] 39 := Blk.new_at w3 _ _ hR
  have hbK3 := (hbK.chg0 hc3).alloc (.cells #[Value.int .i64 1, .int .i64 0, .int .i64 0, .string ⟨#[98]⟩, .string ⟨#[117]⟩, .string ⟨#[]⟩, .int .i64 0, .int .i64 ss.w, .int .i64 ss.h, .int .i64 ss.c, .int .i64 ss.d, .slice ao nn cap, .slice none 0 0] 39)
  have aT : ArrTy Tryd.prog 39 (#[Value.int .i64 1, .int .i64 0, .int .i64 0, .string ⟨#[98]⟩, .string ⟨#[117]⟩, .string ⟨#[]⟩, .int .i64 0, .int .i64 ss.w, .int .i64 ss.h, .int .i64 ss.c, .int .i64 ss.d, .slice ao nn cap, .slice none 0 0]).size := ract_ty
  have hss : (#[.int .i64 0, .int .i64 0, .int .i64 0, .string ⟨#[]⟩, .string ⟨#[]⟩, .string ⟨#[]⟩, .int .i64 0, .int .i64 0, .int .i64 0, .int .i64 0, .int .i64 0, .slice none 0 0, .slice none 0 0] : Array Value).size = (#[Value.int .i64 1, .int .i64 0, .int .i64 0, .string ⟨#[98]⟩, .string ⟨#[117]⟩, .string ⟨#[]⟩, .int .i64 0, .int .i64 ss.w, .int .i64 ss.h, .int .i64 ss.c, .int .i64 ss.d, .slice ao nn cap, .slice none 0 0]).size := rfl
  have hone : ∀ v ∈ (#[Value.int .i64 1, .int .i64 0, .int .i64 0, .string ⟨#[98]⟩, .string ⟨#[117]⟩, .string ⟨#[]⟩, .int .i64 0, .int .i64 ss.w, .int .i64 ss.h, .int .i64 ss.c, .int .i64 ss.d, .slice ao nn cap, .slice none 0 0]).toList, v.oneCell' = true := by simp [Value.oneCell']
  have hc4 : Chg [] w1 (w3.alloc (.cells #[Value.int .i64 1, .int .i64 0, .int .i64 0, .string ⟨#[98]⟩, .string ⟨#[117]⟩, .string ⟨#[]⟩, .int .i64 0, .int .i64 ss.w, .int .i64 ss.h, .int .i64 ss.c, .int .i64 ss.d, .slice ao nn cap, .slice none 0 0] 39)) := hc3.alloc _
  have HO := Lib.hid (And.intro (hsee.chg0 ((Chg.refl [] w3).alloc (.cells #[Value.int .i64 1, .int .i64 0, .int .i64 0, .string ⟨#[98]⟩, .string ⟨#[117]⟩, .string ⟨#[]⟩, .int .i64 0, .int .i64 ss.w, .int .i64 ss.h, .int .i64 ss.c, .int .i64 ss.d, .slice ao nn cap, .slice none 0 0] 39))) (And.intro hnew (And.intro hc1 hc4)))
  clear hsee hnew hc1 hc3 hp hbK hc4
  go_wp2_with (first
    | (with_reducible refine wpList_ldA rfl 39 _ rfl hbR aT rfl ?_)
    | (with_reducible refine wpList_stA rfl 39 _ _ rfl hbK3 aT hss hone rfl rfl ?_; intro w5 hb5 hc5 hs5))
  refine bodyPost_ret (results_A rfl _ _ hb5 aT rfl) rfl ⟨.slice ao nn cap, .slice none 0 0, rfl, ?_⟩
  obtain ⟨h1, h2, h3, h4⟩ := HO.out
  exact actR_pic h1 h2 hK HS1.out h3 h4 hc5 HPL.out rfl
set_option maxRecDepth 100000 in
set_option maxHeartbeats 4000000 in
theorem ract7t (k x y z : Nat) (hk : 8 < k ∧ k < 11) (hyb : ¬ 99 < y) (hod : x % 2 = 1) (hx : x < 256) (hy : y < 256) (hz : z < 256) (w : World) :
    Calls Tryd.prog 23 #[.int .i64 k, .int .i64 x, .int .i64 y, .int .i64 z] w fun e w' => ∃ pv mv, e = .returned (actV (frontA k x y z) pv mv) ∧ ActR w w' (frontA k x y z) pv mv ∧ Chg [] w w' := by
  obtain ⟨K, hK⟩ : ∃ K, w.heap.size = K := ⟨_, rfl⟩
  have hF : frontA k x y z = { actZ with kind := 5, name := sideT x, other := sideF x } := by unfold frontA; rw [if_neg (by omega), if_neg (by omega), if_neg (by omega), if_neg (by omega), if_neg hyb]
  rw [hF]
  clear hF
  have tod : ((x : Int) % 2 == 1) = true := by simp; omega
  have eT : sideT x = [98] := if_pos hod
  have eF : sideF x = [97] := if_pos hod
  rw [eT]
  rw [eF]
  have l5 : decide ((k : Int) ≤ 5) = false := by simp; omega
  have l5' : decide (k ≤ 5) = false := by simp; omega
  have t6 : ((k : Int) == 6) = false := by simp; omega
  have t7 : ((k : Int) == 7) = false := by simp; omega
  have t8 : ((k : Int) == 8) = false := by simp; omega
  have l10 : decide ((k : Int) ≤ 10) = true := by simp; omega
  have l10' : decide (k ≤ 10) = true := by simp; omega
  have ty : decide (99 < (y : Int)) = false := by simp; omega
  have ty' : decide (99 < y) = false := by simp; omega
  clear eT eF
  have hs1 : (w.alloc (.cells #[.int .i64 0, .int .i64 0, .int .i64 0, .string ⟨#[]⟩, .string ⟨#[]⟩, .string ⟨#[]⟩, .int .i64 0, .int .i64 0, .int .i64 0, .int .i64 0, .int .i64 0, .slice none 0 0, .slice none 0 0] 39)).heap.size = K + 1 := by simp [hK]
  have hbK : Blk ((w.alloc (.cells #[.int .i64 0, .int .i64 0, .int .i64 0, .string ⟨#[]⟩, .string ⟨#[]⟩, .string ⟨#[]⟩, .int .i64 0, .int .i64 0, .int .i64 0, .int .i64 0, .int .i64 0, .slice none 0 0, .slice none 0 0] 39)).alloc (.cells #[Value.int .i64 5, .int .i64 0, .int .i64 0, .string ⟨#[98]⟩, .string ⟨#[97]⟩, .string ⟨#[]⟩, .int .i64 0, .int .i64 0, .int .i64 0, .int .i64 0, .int .i64 0, .slice none 0 0, .slice none 0 0] 39)) K #[.int .i64 0, .int .i64 0, .int .i64 0, .string ⟨#[]⟩, .string ⟨#[]⟩, .string ⟨#[]⟩, .int .i64 0, .int .i64 0, .int .i64 0, .int .i64 0, .int .i64 0, .slice none 0 0, .slice none 0 0] 39 := (Blk.new_at w _ _ hK).alloc _
  have hbR : Blk ((w.alloc (.cells #[.int .i64 0, .int .i64 0, .int .i64 0, .string ⟨#[]⟩, .string ⟨#[]⟩, .string ⟨#[]⟩, .int .i64 0, .int .i64 0, .int .i64 0, .int .i64 0, .int .i64 0, .slice none 0 0, .slice none 0 0] 39)).alloc (.cells #[Value.int .i64 5, .int .i64 0, .int .i64 0, .string ⟨#[98]⟩, .string ⟨#[97]⟩, .string ⟨#[]⟩, .int .i64 0, .int .i64 0, .int .i64 0, .int .i64 0, .int .i64 0, .slice none 0 0, .slice none 0 0] 39)) (K + 1) #[Value.int .i64 5, .int .i64 0, .int .i64 0, .string ⟨#[98]⟩, .string ⟨#[97]⟩, .string ⟨#[]⟩, .int .i64 0, .int .i64 0, .int .i64 0, .int .i64 0, .int .i64 0, .slice none 0 0, .slice none 0 0] 39 := Blk.new_at (w.alloc (.cells #[.int .i64 0, .int .i64 0, .int .i64 0, .string ⟨#[]⟩, .string ⟨#[]⟩, .string ⟨#[]⟩, .int .i64 0, .int .i64 0, .int .i64 0, .int .i64 0, .int .i64 0, .slice none 0 0, .slice none 0 0] 39)) _ _ hs1
  have hc1 : Chg [] w ((w.alloc (.cells #[.int .i64 0, .int .i64 0, .int .i64 0, .string ⟨#[]⟩, .string ⟨#[]⟩, .string ⟨#[]⟩, .int .i64 0, .int .i64 0, .int .i64 0, .int .i64 0, .int .i64 0, .slice none 0 0, .slice none 0 0] 39)).alloc (.cells #[Value.int .i64 5, .int .i64 0, .int .i64 0, .string ⟨#[98]⟩, .string ⟨#[97]⟩, .string ⟨#[]⟩, .int .i64 0, .int .i64 0, .int .i64 0, .int .i64 0, .int .i64 0, .slice none 0 0, .slice none 0 0] 39)) := ((Chg.refl [] w).alloc _).alloc _
  have aT : ArrTy Tryd.prog 39 (#[Value.int .i64 5, .int .i64 0, .int .i64 0, .string ⟨#[98]⟩, .string ⟨#[97]⟩, .string ⟨#[]⟩, .int .i64 0, .int .i64 0, .int .i64 0, .int .i64 0, .int .i64 0, .slice none 0 0, .slice none 0 0]).size := ract_ty
  have hss : (#[.int .i64 0, .int .i64 0, .int .i64 0, .string ⟨#[]⟩, .string ⟨#[]⟩, .string ⟨#[]⟩, .int .i64 0, .int .i64 0, .int .i64 0, .int .i64 0, .int .i64 0, .slice none 0 0, .slice none 0 0] : Array Value).size = (#[Value.int .i64 5, .int .i64 0, .int .i64 0, .string ⟨#[98]⟩, .string ⟨#[97]⟩, .string ⟨#[]⟩, .int .i64 0, .int .i64 0, .int .i64 0, .int .i64 0, .int .i64 0, .slice none 0 0, .slice none 0 0]).size := rfl
  have hone : ∀ v ∈ (#[Value.int .i64 5, .int .i64 0, .int .i64 0, .string ⟨#[98]⟩, .string ⟨#[97]⟩, .string ⟨#[]⟩, .int .i64 0, .int .i64 0, .int .i64 0, .int .i64 0, .int .i64 0, .slice none 0 0, .slice none 0 0]).toList, v.oneCell' = true := by simp [Value.oneCell']
  go_enter Tryd.func23, Tryd.ntmps23
  go_wp2_with (first
    | (with_reducible refine wpList_ldA rfl 39 _ rfl hbR aT rfl ?_)
    | (with_reducible refine wpList_stA rfl 39 _ _ rfl hbK aT hss hone rfl rfl ?_; intro w5 hb5 hc5 hs5))
  refine bodyPost_ret (results_A rfl _ _ hb5 aT rfl) rfl ⟨.slice none 0 0, .slice none 0 0, rfl, ?_⟩
  exact actR_nil hK hc1 hc5 rfl rfl
set_option maxRecDepth 100000 in
set_option maxHeartbeats 4000000 in
theorem ract1f (k x y z : Nat) (hk : k < 6) (hod : ¬ x % 2 = 1) (hx : x < 256) (hy : y < 256) (hz : z < 256) (w : World) :
    Calls Tryd.prog 23 #[.int .i64 k, .int .i64 x, .int .i64 y, .int .i64 z] w fun e w' => ∃ pv mv, e = .returned (actV (frontA k x y z) pv mv) ∧ ActR w w' (frontA k x y z) pv mv ∧ Chg [] w w' := by
  obtain ⟨K, hK⟩ : ∃ K, w.heap.size = K := ⟨_, rfl⟩
  have hF : frontA k x y z = { actZ with kind := 1, name := sideT x, other := [117], shp := picS (3 + y % 2) 7 z, pix := picP (3 + y % 2) 7 z } := by unfold frontA; rw [if_pos hk]
  rw [hF]
  clear hF
  have tod : ((x : Int) % 2 == 1) = false := by simp; omega
  have eT : sideT x = [97] := if_neg hod
  have eF : sideF x = [98] := if_neg hod
  rw [eT]
  have l5 : decide ((k : Int) ≤ 5) = true := by simp; omega
  have l5' : decide (k ≤ 5) = true := by simp; omega
  have hp := fun w' => rpic_any (3 + (y : Int) % 2) 7 (z : Int) (by omega) (by decide) (by omega) w'
  rw [show (3 + (y : Int) % 2).toNat = 3 + y % 2 by omega, show (7 : Int).toNat = 7 from rfl, Int.toNat_natCast] at hp
  unfold rasV at hp
  have hpl := picP_len (3 + y % 2) 7 z
  generalize picP (3 + y % 2) 7 z = pp at *
  generalize picN (3 + y % 2) 7 z = nn at *
  generalize picS (3 + y % 2) 7 z = ss at *
  have HPL := Lib.hid hpl
  clear hpl eT eF
  have hbK : Blk (w.alloc (.cells #[.int .i64 0, .int .i64 0, .int .i64 0, .string ⟨#[]⟩, .string ⟨#[]⟩, .string ⟨#[]⟩, .int .i64 0, .int .i64 0, .int .i64 0, .int .i64 0, .int .i64 0, .slice none 0 0, .slice none 0 0] 39)) K #[.int .i64 0, .int .i64 0, .int .i64 0, .string ⟨#[]⟩, .string ⟨#[]⟩, .string ⟨#[]⟩, .int .i64 0, .int .i64 0, .int .i64 0, .int .i64 0, .int .i64 0, .slice none 0 0, .slice none 0 0] 39 := Blk.new_at w _ _ hK
  have hc1 : Chg [] w (w.alloc (.cells #[.int .i64 0, .int .i64 0, .int .i64 0, .string ⟨#[]⟩, .string ⟨#[]⟩, .string ⟨#[]⟩, .int .i64 0, .int .i64 0, .int .i64 0, .int .i64 0, .int .i64 0, .slice none 0 0, .slice none 0 0] 39)) := (Chg.refl [] w).alloc _
  have HS1 : Hid (K < (w.alloc (.cells #[.int .i64 0, .int .i64 0, .int .i64 0, .string ⟨#[]⟩, .string ⟨#[]⟩, .string ⟨#[]⟩, .int .i64 0, .int .i64 0, .int .i64 0, .int .i64 0, .int .i64 0, .slice none 0 0, .slice none 0 0] 39)).heap.size) := by show _ < _; simp [hK]
  go_enter Tryd.func23, Tryd.ntmps23
  go_wp2_with fail
  generalize w.alloc (.cells #[.int .i64 0, .int .i64 0, .int .i64 0, .string ⟨#[]⟩, .string ⟨#[]⟩, .string ⟨#[]⟩, .int .i64 0, .int .i64 0, .int .i64 0, .int .i64 0, .int .i64 0, .slice none 0 0, .slice none 0 0] 39) = w1 at *
  refine (hp _).mono ?_
  rintro e w3 ⟨pv, rfl, hsee, hnew, hc3⟩
  obtain ⟨ao, cap, rfl, hcap, -⟩ := hsee.shape
  obtain ⟨R, hR⟩ : ∃ R, w3.heap.size = R := ⟨_, rfl⟩
  have hbR : Blk (w3.alloc (.cells #[Value.int .i64 1, .int .i64 0, .int .i64 0, .string ⟨#[97]⟩, .string ⟨#[117]⟩, .string ⟨#[]⟩, .int .i64 0, .int .i64 ss.w, .int .i64 ss.h, .int .i64 ss.c, .int .i64 ss.d, .slice ao nn cap, .slice none 0 0] 39)) R #[Value.int .i64 1, .int .i64 0, .int .i64 0, .string ⟨#[97]⟩, .string ⟨#[117]⟩, .string ⟨#[]⟩, .int .i64 0, .int .i64 ss.w, .int .i64 ss.h, .int .i64 ss.c, .int .i64 ss.d, .slice ao nn cap, .slice none 0 0] 39 := Blk.new_at w3 _ _ hR
  have hbK3 := (hbK.chg0 hc3).alloc (.cells #[Value.int .i64 1, .int .i64 0, .int .i64 0, .string ⟨#[97]⟩, .string ⟨#[117]⟩, .string ⟨#[]⟩, .int .i64 0, .int .i64 ss.w, .int .i64 ss.h, .int .i64 ss.c, .int .i64 ss.d, .slice ao nn cap, .slice none 0 0] 39)
  have aT : ArrTy Tryd.prog 39 (#[Value.int .i64 1, .int .i64 0, .int .i64 0, .string ⟨#[97]⟩, .string ⟨#[117]⟩, .string ⟨#[]⟩, .int .i64 0, .int .i64 ss.w, .int .i64 ss.h, .int .i64 ss.c, .int .i64 ss.d, .slice ao nn cap, .slice none 0 0]).size := ract_ty
  have hss : (#[.int .i64 0, .int .i64 0, .int .i64 0, .string ⟨#[]⟩, .string ⟨#[]⟩, .string ⟨#[]⟩, .int .i64 0, .int .i64 0, .int .i64 0, .int .i64 0, .int .i64 0, .slice none 0 0, .slice none 0 0] : Array Value).size = (#[Value.int .i64 1, .int .i64 0, .int .i64 0, .string ⟨#[97]⟩, .string ⟨#[117]⟩, .string ⟨#[]⟩, .int .i64 0, .int .i64 ss.w, .int .i64 ss.h, .int .i64 ss.c, .int .i64 ss.d, .slice ao nn cap, .slice none 0 0]).size := rfl
  have hone : ∀ v ∈ (#[Value.int .i64 1, .int .i64 0, .int .i64 0, .string ⟨#[97]⟩, .string ⟨#[117]⟩, .string ⟨#[]⟩, .int .i64 0, .int .i64 ss.w, .int .i64 ss.h, .int .i64 ss.c, .int .i64 ss.d, .slice ao nn cap, .slice none 0 0]).toList, v.oneCell' = true := by simp [Value.oneCell']
  have hc4 : Chg [] w1 (w3.alloc (.cells #[Value.int .i64 1, .int .i64 0, .int .i64 0, .string ⟨#[97]⟩, .string ⟨#[117]⟩, .string ⟨#[]⟩, .int .i64 0, .int .i64 ss.w, .int .i64 ss.h, .int .i64 ss.c, .int .i64 ss.d, .slice ao nn cap, .slice none 0 0] 39)) := hc3.alloc _
  have HO := Lib.hid (And.intro (hsee.chg0 ((Chg.refl [] w3).alloc (.cells #[Value.int .i64 1, .int .i64 0, .int .i64 0, .string ⟨#[97]⟩, .string ⟨#[117]⟩, .string ⟨#[]⟩, .int .i64 0, .int .i64 ss.w, .int .i64 ss.h, .int .i64 ss.c, .int .i64 ss.d, .slice ao nn cap, .slice none 0 0] 39))) (And.intro hnew (And.intro hc1 hc4)))
  clear hsee hnew hc1 hc3 hp hbK hc4
  go_wp2_with (first
    | (with_reducible refine wpList_ldA rfl 39 _ rfl hbR aT rfl ?_)
    | (with_reducible refine wpList_stA rfl 39 _ _ rfl hbK3 aT hss hone rfl rfl ?_; intro w5 hb5 hc5 hs5))
  refine bodyPost_ret (results_A rfl _ _ hb5 aT rfl) rfl ⟨.slice ao nn cap, .slice none 0 0, rfl, ?_⟩
  obtain ⟨h1, h2, h3, h4⟩ := HO.out
  exact actR_pic h1 h2 hK HS1.out h3 h4 hc5 HPL.out rfl
set_option maxRecDepth 100000 in
set_option maxHeartbeats 4000000 in
theorem ract7f (k x y z : Nat) (hk : 8 < k ∧ k < 11) (hyb : ¬ 99 < y) (hod : ¬ x % 2 = 1) (hx : x < 256) (hy : y < 256) (hz : z < 256) (w : World) :
    Calls Tryd.prog 23 #[.int .i64 k, .int .i64 x, .int .i64 y, .int .i64 z] w fun e w' => ∃ pv mv, e = .returned (actV (frontA k x y z) pv mv) ∧ ActR w w' (frontA k x y z) pv mv ∧ Chg [] w w' := by
  obtain ⟨K, hK⟩ : ∃ K, w.heap.size = K := ⟨_, rfl⟩
  have hF : frontA k x y z = { actZ with kind := 5, name := sideT x, other := sideF x } := by unfold frontA; rw [if_neg (by omega), if_neg (by omega), if_neg (by omega), if_neg (by omega), if_neg hyb]
  rw [hF]
  clear hF
  have tod : ((x : Int) % 2 == 1) = false := by simp; omega
  have eT : sideT x = [97] := if_neg hod
  have eF : sideF x = [98] := if_neg hod
  rw [eT]
  rw [eF]
  have l5 : decide ((k : Int) ≤ 5) = false := by simp; omega
  have l5' : decide (k ≤ 5) = false := by simp; omega
  have t6 : ((k : Int) == 6) = false := by simp; omega
  have t7 : ((k : Int) == 7) = false := by simp; omega
  have t8 : ((k : Int) == 8) = false := by simp; omega
  have l10 : decide ((k : Int) ≤ 10) = true := by simp; omega
  have l10' : decide (k ≤ 10) = true := by simp; omega
  have ty : decide (99 < (y : Int)) = false := by simp; omega
  have ty' : decide (99 < y) = false := by simp; omega
  clear eT eF
  have hs1 : (w.alloc (.cells #[.int .i64 0, .int .i64 0, .int .i64 0, .string ⟨#[]⟩, .string ⟨#[]⟩, .string ⟨#[]⟩, .int .i64 0, .int .i64 0, .int .i64 0, .int .i64 0, .int .i64 0, .slice none 0 0, .slice none 0 0] 39)).heap.size = K + 1 := by simp [hK]
  have hbK : Blk ((w.alloc (.cells #[.int .i64 0, .int .i64 0, .int .i64 0, .string ⟨#[]⟩, .string ⟨#[]⟩, .string ⟨#[]⟩, .int .i64 0, .int .i64 0, .int .i64 0, .int .i64 0, .int .i64 0, .slice none 0 0, .slice none 0 0] 39)).alloc (.cells #[Value.int .i64 5, .int .i64 0, .int .i64 0, .string ⟨#[97]⟩, .string ⟨#[98]⟩, .string ⟨#[]⟩, .int .i64 0, .int .i64 0, .int .i64 0, .int .i64 0, .int .i64 0, .slice none 0 0, .slice none 0 0] 39)) K #[.int .i64 0, .int .i64 0, .int .i64 0, .string ⟨#[]⟩, .string ⟨#[]⟩, .string ⟨#[]⟩, .int .i64 0, .int .i64 0, .int .i64 0, .int .i64 0, .int .i64 0, .slice none 0 0, .slice none 0 0] 39 := (Blk.new_at w _ _ hK).alloc _
  have hbR : Blk ((w.alloc (.cells #[.int .i64 0, .int .i64 0, .int .i64 0, .string ⟨#[]⟩, .string ⟨#[]⟩, .string ⟨#[]⟩, .int .i64 0, .int .i64 0, .int .i64 0, .int .i64 0, .int .i64 0, .slice none 0 0, .slice none 0 0] 39)).alloc (.cells #[Value.int .i64 5, .int .i64 0, .int .i64 0, .string ⟨#[97]⟩, .string ⟨#[98]⟩, .string ⟨#[]⟩, .int .i64 0, .int .i64 0, .int .i64 0, .int .i64 0, .int .i64 0, .slice none 0 0, .slice none 0 0] 39)) (K + 1) #[Value.int .i64 5, .int .i64 0, .int .i64 0, .string ⟨#[97]⟩, .string ⟨#[98]⟩, .string ⟨#[]⟩, .int .i64 0, .int .i64 0, .int .i64 0, .int .i64 0, .int .i64 0, .slice none 0 0, .slice none 0 0] 39 := Blk.new_at (w.alloc (.cells #[.int .i64 0, .int .i64 0, .int .i64 0, .string ⟨#[]⟩, .string ⟨#[]⟩, .string ⟨#[]⟩, .int .i64 0, .int .i64 0, .int .i64 0, .int .i64 0, .int .i64 0, .slice none 0 0, .slice none 0 0] 39)) _ _ hs1
  have hc1 : Chg [] w ((w.alloc (.cells #[.int .i64 0, .int .i64 0, .int .i64 0, .string ⟨#[]⟩, .string ⟨#[]⟩, .string ⟨#[]⟩, .int .i64 0, .int .i64 0, .int .i64 0, .int .i64 0, .int .i64 0, .slice none 0 0, .slice none 0 0] 39)).alloc (.cells #[Value.int .i64 5, .int .i64 0, .int .i64 0, .string ⟨#[97]⟩, .string ⟨#[98]⟩, .string ⟨#[]⟩, .int .i64 0, .int .i64 0, .int .i64 0, .int .i64 0, .int .i64 0, .slice none 0 0, .slice none 0 0] 39)) := ((Chg.refl [] w).alloc _).alloc _
  have aT : ArrTy Tryd.prog 39 (#[Value.int .i64 5, .int .i64 0, .int .i64 0, .string ⟨#[97]⟩, .string ⟨#[98]⟩, .string ⟨#[]⟩, .int .i64 0, .int .i64 0, .int .i64 0, .int .i64 0, .int .i64 0, .slice none 0 0, .slice none 0 0]).size := ract_ty
  have hss : (#[.int .i64 0, .int .i64 0, .int .i64 0, .string ⟨#[]⟩, .string ⟨#[]⟩, .string ⟨#[]⟩, .int .i64 0, .int .i64 0, .int .i64 0, .int .i64 0, .int .i64 0, .slice none 0 0, .slice none 0 0] : Array Value).size = (#[Value.int .i64 5, .int .i64 0, .int .i64 0, .string ⟨#[97]⟩, .string ⟨#[98]⟩, .string ⟨#[]⟩, .int .i64 0, .int .i64 0, .int .i64 0, .int .i64 0, .int .i64 0, .slice none 0 0, .slice none 0 0]).size := rfl
  have hone : ∀ v ∈ (#[Value.int .i64 5, .int .i64 0, .int .i64 0, .string ⟨#[97]⟩, .string ⟨#[98]⟩, .string ⟨#[]⟩, .int .i64 0, .int .i64 0, .int .i64 0, .int .i64 0, .int .i64 0, .slice none 0 0, .slice none 0 0]).toList, v.oneCell' = true := by simp [Value.oneCell']
  go_enter Tryd.func23, Tryd.ntmps23
  go_wp2_with (first
    | (with_reducible refine wpList_ldA rfl 39 _ rfl hbR aT rfl ?_)
    | (with_reducible refine wpList_stA rfl 39 _ _ rfl hbK aT hss hone rfl rfl ?_; intro w5 hb5 hc5 hs5))
  refine bodyPost_ret (results_A rfl _ _ hb5 aT rfl) rfl ⟨.slice none 0 0, .slice none 0 0, rfl, ?_⟩
  exact actR_nil hK hc1 hc5 rfl rfl
set_option maxRecDepth 100000 in
set_option maxHeartbeats 4000000 in
theorem ract6t (k x y z : Nat) (hk : 8 < k ∧ k < 11) (hyb : 99 < y) (hod : x % 2 = 1) (hx : x < 256) (hy : y < 256) (hz : z < 256) (w : World) :
    Calls Tryd.prog 23 #[.int .i64 k, .int .i64 x, .int .i64 y, .int .i64 z] w fun e w' => ∃ pv mv, e = .returned (actV (frontA k x y z) pv mv) ∧ ActR w w' (frontA k x y z) pv mv ∧ Chg [] w w' := by
  obtain ⟨K, hK⟩ : ∃ K, w.heap.size = K := ⟨_, rfl⟩
  have hF : frontA k x y z = { actZ with kind := 5, name := sideT x, other := sideF x, shp := picS 3 7 z, pix := picP 3 7 z } := by unfold frontA; rw [if_neg (by omega), if_neg (by omega), if_neg (by omega), if_neg (by omega), if_pos hyb]
  rw [hF]
  clear hF
  have tod : ((x : Int) % 2 == 1) = true := by simp; omega
  have eT : sideT x = [98] := if_pos hod
  have eF : sideF x = [97] := if_pos hod
  rw [eT]
  rw [eF]
  have l5 : decide ((k : Int) ≤ 5) = false := by simp; omega
  have l5' : decide (k ≤ 5) = false := by simp; omega
  have t6 : ((k : Int) == 6) = false := by simp; omega
  have t7 : ((k : Int) == 7) = false := by simp; omega
  have t8 : ((k : Int) == 8) = false := by simp; omega
  have l10 : decide ((k : Int) ≤ 10) = true := by simp; omega
  have l10' : decide (k ≤ 10) = true := by simp; omega
  have ty : decide (99 < (y : Int)) = true := by simp; omega
  have ty' : decide (99 < y) = true := by simp; omega
  clear eT eF
  have hp := fun w' => rpic_any 3 7 (z : Int) (by decide) (by decide) (by omega) w'
  rw [show (3 : Int).toNat = 3 from rfl, show (7 : Int).toNat = 7 from rfl, Int.toNat_natCast] at hp
  unfold rasV at hp
  have hpl := picP_len 3 7 z
  generalize picP 3 7 z = pp at *
  generalize picN 3 7 z = nn at *
  generalize picS 3 7 z = ss at *
  have HPL := Lib.hid hpl
  clear hpl
  have hs1 : (w.alloc (.cells #[.int .i64 0, .int .i64 0, .int .i64 0, .string ⟨#[]⟩, .string ⟨#[]⟩, .string ⟨#[]⟩, .int .i64 0, .int .i64 0, .int .i64 0, .int .i64 0, .int .i64 0, .slice none 0 0, .slice none 0 0] 39)).heap.size = K + 1 := by simp [hK]
  have hbK : Blk ((w.alloc (.cells #[.int .i64 0, .int .i64 0, .int .i64 0, .string ⟨#[]⟩, .string ⟨#[]⟩, .string ⟨#[]⟩, .int .i64 0, .int .i64 0, .int .i64 0, .int .i64 0, .int .i64 0, .slice none 0 0, .slice none 0 0] 39)).alloc (.cells #[Value.int .i64 5, .int .i64 0, .int .i64 0, .string ⟨#[98]⟩, .string ⟨#[97]⟩, .string ⟨#[]⟩, .int .i64 0, .int .i64 0, .int .i64 0, .int .i64 0, .int .i64 0, .slice none 0 0, .slice none 0 0] 39)) K #[.int .i64 0, .int .i64 0, .int .i64 0, .string ⟨#[]⟩, .string ⟨#[]⟩, .string ⟨#[]⟩, .int .i64 0, .int .i64 0, .int .i64 0, .int .i64 0, .int .i64 0, .slice none 0 0, .slice none 0 0] 39 := (Blk.new_at w _ _ hK).alloc _
  have hbR : Blk ((w.alloc (.cells #[.int .i64 0, .int .i64 0, .int .i64 0, .string ⟨#[]⟩, .string ⟨#[]⟩, .string ⟨#[]⟩, .int .i64 0, .int .i64 0, .int .i64 0, .int .i64 0, .int .i64 0, .slice none 0 0, .slice none 0 0] 39)).alloc (.cells #[Value.int .i64 5, .int .i64 0, .int .i64 0, .string ⟨#[98]⟩, .string ⟨#[97]⟩, .string ⟨#[]⟩, .int .i64 0, .int .i64 0, .int .i64 0, .int .i64 0, .int .i64 0, .slice none 0 0, .slice none 0 0] 39)) (K + 1) #[Value.int .i64 5, .int .i64 0, .int .i64 0, .string ⟨#[98]⟩, .string ⟨#[97]⟩, .string ⟨#[]⟩, .int .i64 0, .int .i64 0, .int .i64 0, .int .i64 0, .int .i64 0, .slice none 0 0, .slice none 0 0] 39 := Blk.new_at (w.alloc (.cells #[.int .i64 0, .int .i64 0, .int .i64 0, .string ⟨#[]⟩, .string ⟨#[]⟩, .string ⟨#[]⟩, .int .i64 0, .int .i64 0, .int .i64 0, .int .i64 0, .int .i64 0, .slice none 0 0, .slice none 0 0] 39)) _ _ hs1
  have hc1 : Chg [] w ((w.alloc (.cells #[.int .i64 0, .int .i64 0, .int .i64 0, .string ⟨#[]⟩, .string ⟨#[]⟩, .string ⟨#[]⟩, .int .i64 0, .int .i64 0, .int .i64 0, .int .i64 0, .int .i64 0, .slice none 0 0, .slice none 0 0] 39)).alloc (.cells #[Value.int .i64 5, .int .i64 0, .int .i64 0, .string ⟨#[98]⟩, .string ⟨#[97]⟩, .string ⟨#[]⟩, .int .i64 0, .int .i64 0, .int .i64 0, .int .i64 0, .int .i64 0, .slice none 0 0, .slice none 0 0] 39)) := ((Chg.refl [] w).alloc _).alloc _
  have HS1 : Hid (K + 1 < ((w.alloc (.cells #[.int .i64 0, .int .i64 0, .int .i64 0, .string ⟨#[]⟩, .string ⟨#[]⟩, .string ⟨#[]⟩, .int .i64 0, .int .i64 0, .int .i64 0, .int .i64 0, .int .i64 0, .slice none 0 0, .slice none 0 0] 39)).alloc (.cells #[Value.int .i64 5, .int .i64 0, .int .i64 0, .string ⟨#[98]⟩, .string ⟨#[97]⟩, .string ⟨#[]⟩, .int .i64 0, .int .i64 0, .int .i64 0, .int .i64 0, .int .i64 0, .slice none 0 0, .slice none 0 0] 39)).heap.size) := by show _ < _; simp [hK]
  go_enter Tryd.func23, Tryd.ntmps23
  go_wp2_with fail
  generalize ((w.alloc (.cells #[.int .i64 0, .int .i64 0, .int .i64 0, .string ⟨#[]⟩, .string ⟨#[]⟩, .string ⟨#[]⟩, .int .i64 0, .int .i64 0, .int .i64 0, .int .i64 0, .int .i64 0, .slice none 0 0, .slice none 0 0] 39)).alloc (.cells #[Value.int .i64 5, .int .i64 0, .int .i64 0, .string ⟨#[98]⟩, .string ⟨#[97]⟩, .string ⟨#[]⟩, .int .i64 0, .int .i64 0, .int .i64 0, .int .i64 0, .int .i64 0, .slice none 0 0, .slice none 0 0] 39)) = w1 at *
  refine (hp _).mono ?_
  rintro e w3 ⟨pv, rfl, hsee, hnew, hc3⟩
  obtain ⟨ao, cap, rfl, hcap, -⟩ := hsee.shape
  have hbK3 := hbK.chg0 hc3
  have hbR3 := hbR.chg0 hc3
  have g7 := hbR3.cell 7
  have g8 := hbR3.cell 8
  have g9 := hbR3.cell 9
  have g10 := hbR3.cell 10
  have g11 := hbR3.cell 11
  have q7 := hbR3.frozen 7
  have q8 := hbR3.frozen 8
  have q9 := hbR3.frozen 9
  have q10 := hbR3.frozen 10
  have q11 := hbR3.frozen 11
  have hbR5 : Blk (((((w3.setCell ⟨K + 1, 7, none⟩ (.int .i64 ss.w)).setCell ⟨K + 1, 8, none⟩ (.int .i64 ss.h)).setCell ⟨K + 1, 9, none⟩ (.int .i64 ss.c)).setCell ⟨K + 1, 10, none⟩ (.int .i64 ss.d)).setCell ⟨K + 1, 11, none⟩ (.slice ao nn cap)) (K + 1) #[Value.int .i64 5, .int .i64 0, .int .i64 0, .string ⟨#[98]⟩, .string ⟨#[97]⟩, .string ⟨#[]⟩, .int .i64 0, .int .i64 ss.w, .int .i64 ss.h, .int .i64 ss.c, .int .i64 ss.d, .slice ao nn cap, .slice none 0 0] 39 := ((((hbR3.set 7 _).set 8 _).set 9 _).set 10 _).set 11 _
  have hbK5 : Blk (((((w3.setCell ⟨K + 1, 7, none⟩ (.int .i64 ss.w)).setCell ⟨K + 1, 8, none⟩ (.int .i64 ss.h)).setCell ⟨K + 1, 9, none⟩ (.int .i64 ss.c)).setCell ⟨K + 1, 10, none⟩ (.int .i64 ss.d)).setCell ⟨K + 1, 11, none⟩ (.slice ao nn cap)) K #[.int .i64 0, .int .i64 0, .int .i64 0, .string ⟨#[]⟩, .string ⟨#[]⟩, .string ⟨#[]⟩, .int .i64 0, .int .i64 0, .int .i64 0, .int .i64 0, .int .i64 0, .slice none 0 0, .slice none 0 0] 39 := ((((hbK3.set_ne (by simp) _).set_ne (by simp) _).set_ne (by simp) _).set_ne (by simp) _).set_ne (by simp) _
  have hc5' : Chg [K + 1] w1 (((((w3.setCell ⟨K + 1, 7, none⟩ (.int .i64 ss.w)).setCell ⟨K + 1, 8, none⟩ (.int .i64 ss.h)).setCell ⟨K + 1, 9, none⟩ (.int .i64 ss.c)).setCell ⟨K + 1, 10, none⟩ (.int .i64 ss.d)).setCell ⟨K + 1, 11, none⟩ (.slice ao nn cap)) := (((((hc3.toS (S := [K + 1])).setCell (.inl (by simp)) _).setCell (.inl (by simp)) _).setCell (.inl (by simp)) _).setCell (.inl (by simp)) _).setCell (.inl (by simp)) _
  have hsee5 : Sees (((((w3.setCell ⟨K + 1, 7, none⟩ (.int .i64 ss.w)).setCell ⟨K + 1, 8, none⟩ (.int .i64 ss.h)).setCell ⟨K + 1, 9, none⟩ (.int .i64 ss.c)).setCell ⟨K + 1, 10, none⟩ (.int .i64 ss.d)).setCell ⟨K + 1, 11, none⟩ (.slice ao nn cap)) 1 (.slice ao nn cap) nn (Bs pp) := by
    have hx : Chg [K + 1] w3 (((((w3.setCell ⟨K + 1, 7, none⟩ (.int .i64 ss.w)).setCell ⟨K + 1, 8, none⟩ (.int .i64 ss.h)).setCell ⟨K + 1, 9, none⟩ (.int .i64 ss.c)).setCell ⟨K + 1, 10, none⟩ (.int .i64 ss.d)).setCell ⟨K + 1, 11, none⟩ (.slice ao nn cap)) := ((((((Chg.refl [] w3).toS (S := [K + 1])).setCell (.inl (by simp)) _).setCell (.inl (by simp)) _).setCell (.inl (by simp)) _).setCell (.inl (by simp)) _).setCell (.inl (by simp)) _
    exact hsee.chg hx fun k hk => by have h1 := hnew k hk; have h2 := HS1.out; simp; omega
  have aT : ArrTy Tryd.prog 39 (#[Value.int .i64 5, .int .i64 0, .int .i64 0, .string ⟨#[98]⟩, .string ⟨#[97]⟩, .string ⟨#[]⟩, .int .i64 0, .int .i64 ss.w, .int .i64 ss.h, .int .i64 ss.c, .int .i64 ss.d, .slice ao nn cap, .slice none 0 0]).size := ract_ty
  have hss : (#[.int .i64 0, .int .i64 0, .int .i64 0, .string ⟨#[]⟩, .string ⟨#[]⟩, .string ⟨#[]⟩, .int .i64 0, .int .i64 0, .int .i64 0, .int .i64 0, .int .i64 0, .slice none 0 0, .slice none 0 0] : Array Value).size = (#[Value.int .i64 5, .int .i64 0, .int .i64 0, .string ⟨#[98]⟩, .string ⟨#[97]⟩, .string ⟨#[]⟩, .int .i64 0, .int .i64 ss.w, .int .i64 ss.h, .int .i64 ss.c, .int .i64 ss.d, .slice ao nn cap, .slice none 0 0]).size := rfl
  have hone : ∀ v ∈ (#[Value.int .i64 5, .int .i64 0, .int .i64 0, .string ⟨#[98]⟩, .string ⟨#[97]⟩, .string ⟨#[]⟩, .int .i64 0, .int .i64 ss.w, .int .i64 ss.h, .int .i64 ss.c, .int .i64 ss.d, .slice ao nn cap, .slice none 0 0]).toList, v.oneCell' = true := by simp [Value.oneCell']
  have HO := Lib.hid (And.intro hsee5 (And.intro hnew (And.intro hc1 hc5')))
  clear hsee hsee5 hnew hc1 hc3 hp hbK hbR hbK3 hbR3 hc5'
  go_wp2_with (first
    | (with_reducible refine wpList_ldA rfl 39 _ rfl hbR5 aT rfl ?_)
    | (with_reducible refine wpList_stA rfl 39 _ _ rfl hbK5 aT hss hone rfl rfl ?_; intro w5 hb5 hc5 hs5))
  refine bodyPost_ret (results_A rfl _ _ hb5 aT rfl) rfl ⟨.slice ao nn cap, .slice none 0 0, rfl, ?_⟩
  obtain ⟨h1, h2, h3, h4⟩ := HO.out
  have hgr : w.heap.size < w1.heap.size := by have := HS1.out; omega
  refine ⟨⟨?_, Sees.nil _ _, fun k hk => ?_, by simp [eyes]⟩, (h3.trans h4 fun k hk => ?_).trans hc5 fun k hk => ?_⟩
  · show Sees _ 1 _ pp.length _
    rw [HPL.out]
    exact h1.chg hc5 fun k hk => by have h5 := h2 k hk; have h6 := HS1.out; simp; omega
  · have := h2 k hk; omega
  · simp at hk; right; omega
  · simp at hk; right; omega
set_option maxRecDepth 100000 in
set_option maxHeartbeats 4000000 in
theorem ract6f (k x y z : Nat) (hk : 8 < k ∧ k < 11) (hyb : 99 < y) (hod : ¬ x % 2 = 1) (hx : x < 256) (hy : y < 256) (hz : z < 256) (w : World) :
    Calls Tryd.prog 23 #[.int .i64 k, .int .i64 x, .int .i64 y, .int .i64 z] w fun e w' => ∃ pv mv, e = .returned (actV (frontA k x y z) pv mv) ∧ ActR w w' (frontA k x y z) pv mv ∧ Chg [] w w' := by
  obtain ⟨K, hK⟩ : ∃ K, w.heap.size = K := ⟨_, rfl⟩
  have hF : frontA k x y z = { actZ with kind := 5, name := sideT x, other := sideF x, shp := picS 3 7 z, pix := picP 3 7 z } := by unfold frontA; rw [if_neg (by omega), if_neg (by omega), if_neg (by omega), if_neg (by omega), if_pos hyb]
  rw [hF]
  clear hF
  have tod : ((x : Int) % 2 == 1) = false := by simp; omega
  have eT : sideT x = [97] := if_neg hod
  have eF : sideF x = [98] := if_neg hod
  rw [eT]
  rw [eF]
  have l5 : decide ((k : Int) ≤ 5) = false := by simp; omega
  have l5' : decide (k ≤ 5) = false := by simp; omega
  have t6 : ((k : Int) == 6) = false := by simp; omega
  have t7 : ((k : Int) == 7) = false := by simp; omega
  have t8 : ((k : Int) == 8) = false := by simp; omega
  have l10 : decide ((k : Int) ≤ 10) = true := by simp; omega
  have l10' : decide (k ≤ 10) = true := by simp; omega
  have ty : decide (99 < (y : Int)) = true := by simp; omega
  have ty' : decide (99 < y) = true := by simp; omega
  clear eT eF
  have hp := fun w' => rpic_any 3 7 (z : Int) (by decide) (by decide) (by omega) w'
  rw [show (3 : Int).toNat = 3 from rfl, show (7 : Int).toNat = 7 from rfl, Int.toNat_natCast] at hp
  unfold rasV at hp
  have hpl := picP_len 3 7 z
  generalize picP 3 7 z = pp at *
  generalize picN 3 7 z = nn at *
  generalize picS 3 7 z = ss at *
  have HPL := Lib.hid hpl
  clear hpl
  have hs1 : (w.alloc (.cells #[.int .i64 0, .int .i64 0, .int .i64 0, .string ⟨#[]⟩, .string ⟨#[]⟩, .string ⟨#[]⟩, .int .i64 0, .int .i64 0, .int .i64 0, .int .i64 0, .int .i64 0, .slice none 0 0, .slice none 0 0] 39)).heap.size = K + 1 := by simp [hK]
  have hbK : Blk ((w.alloc (.cells #[.int .i64 0, .int .i64 0, .int .i64 0, .string ⟨#[]⟩, .string ⟨#[]⟩, .string ⟨#[]⟩, .int .i64 0, .int .i64 0, .int .i64 0, .int .i64 0, .int .i64 0, .slice none 0 0, .slice none 0 0] 39)).alloc (.cells #[Value.int .i64 5, .int .i64 0, .int .i64 0, .string ⟨#[97]⟩, .string ⟨#[98]⟩, .string ⟨#[]⟩, .int .i64 0, .int .i64 0, .int .i64 0, .int .i64 0, .int .i64 0, .slice none 0 0, .slice none 0 0] 39)) K #[.int .i64 0, .int .i64 0, .int .i64 0, .string ⟨#[]⟩, .string ⟨#[]⟩, .string ⟨#[]⟩, .int .i64 0, .int .i64 0, .int .i64 0, .int .i64 0, .int .i64 0, .slice none 0 0, .slice none 0 0] 39 := (Blk.new_at w _ _ hK).alloc _
  have hbR : Blk ((w.alloc (.cells #[.int .i64 0, .int .i64 0, .int .i64 0, .string ⟨#[]⟩, .string ⟨#[]⟩, .string ⟨#[]⟩, .int .i64 0, .int .i64 0, .int .i64 0, .int .i64 0, .int .i64 0, .slice none 0 0, .slice none 0 0] 39)).alloc (.cells #[Value.int .i64 5, .int .i64 0, .int .i64 0, .string ⟨#[97]⟩, .string ⟨#[98]⟩, .string ⟨#[]⟩, .int .i64 0, .int .i64 0, .int .i64 0, .int .i64 0, .int .i64 0, .slice none 0 0, .slice none 0 0] 39)) (K + 1) #[Value.int .i64 5, .int .i64 0, .int .i64 0, .string ⟨#[97]⟩, .string ⟨#[98]⟩, .string ⟨#[]⟩, .int .i64 0, .int .i64 0, .int .i64 0, .int .i64 0, .int .i64 0, .slice none 0 0, .slice none 0 0] 39 := Blk.new_at (w.alloc (.cells #[.int .i64 0, .int .i64 0, .int .i64 0, .string ⟨#[]⟩, .string ⟨#[]⟩, .string ⟨#[]⟩, .int .i64 0, .int .i64 0, .int .i64 0, .int .i64 0, .int .i64 0, .slice none 0 0, .slice none 0 0] 39)) _ _ hs1
  have hc1 : Chg [] w ((w.alloc (.cells #[.int .i64 0, .int .i64 0, .int .i64 0, .string ⟨#[]⟩, .string ⟨#[]⟩, .string ⟨#[]⟩, .int .i64 0, .int .i64 0, .int .i64 0, .int .i64 0, .int .i64 0, .slice none 0 0, .slice none 0 0] 39)).alloc (.cells #[Value.int .i64 5, .int .i64 0, .int .i64 0, .string ⟨#[97]⟩, .string ⟨#[98]⟩, .string ⟨#[]⟩, .int .i64 0, .int .i64 0, .int .i64 0, .int .i64 0, .int .i64 0, .slice none 0 0, .slice none 0 0] 39)) := ((Chg.refl [] w).alloc _).alloc _
  have HS1 : Hid (K + 1 < ((w.alloc (.cells #[.int .i64 0, .int .i64 0, .int .i64 0, .string ⟨#[]⟩, .string ⟨#[]⟩, .string ⟨#[]⟩, .int .i64 0, .int .i64 0, .int .i64 0, .int .i64 0, .int .i64 0, .slice none 0 0, .slice none 0 0] 39)).alloc (.cells #[Value.int .i64 5, .int .i64 0, .int .i64 0, .string ⟨#[97]⟩, .string ⟨#[98]⟩, .string ⟨#[]⟩, .int .i64 0, .int .i64 0, .int .i64 0, .int .i64 0, .int .i64 0, .slice none 0 0, .slice none 0 0] 39)).heap.size) := by show _ < _; simp [hK]
  go_enter Tryd.func23, Tryd.ntmps23
  go_wp2_with fail
  generalize ((w.alloc (.cells #[.int .i64 0, .int .i64 0, .int .i64 0, .string ⟨#[]⟩, .string ⟨#[]⟩, .string ⟨#[]⟩, .int .i64 0, .int .i64 0, .int .i64 0, .int .i64 0, .int .i64 0, .slice none 0 0, .slice none 0 0] 39)).alloc (.cells #[Value.int .i64 5, .int .i64 0, .int .i64 0, .string ⟨#[97]⟩, .string ⟨#[98]⟩, .string ⟨#[]⟩, .int .i64 0, .int .i64 0, .int .i64 0, .int .i64 0, .int .i64 0, .slice none 0 0, .slice none 0 0] 39)) = w1 at *
  refine (hp _).mono ?_
  rintro e w3 ⟨pv, rfl, hsee, hnew, hc3⟩
  obtain ⟨ao, cap, rfl, hcap, -⟩ := hsee.shape
  have hbK3 := hbK.chg0 hc3
  have hbR3 := hbR.chg0 hc3
  have g7 := hbR3.cell 7
  have g8 := hbR3.cell 8
  have g9 := hbR3.cell 9
  have g10 := hbR3.cell 10
  have g11 := hbR3.cell 11
  have q7 := hbR3.frozen 7
  have q8 := hbR3.frozen 8
  have q9 := hbR3.frozen 9
  have q10 := hbR3.frozen 10
  have q11 := hbR3.frozen 11
  have hbR5 : Blk (((((w3.setCell ⟨K + 1, 7, none⟩ (.int .i64 ss.w)).setCell ⟨K + 1, 8, none⟩ (.int .i64 ss.h)).setCell ⟨K + 1, 9, none⟩ (.int .i64 ss.c)).setCell ⟨K + 1, 10, none⟩ (.int .i64 ss.d)).setCell ⟨K + 1, 11, none⟩ (.slice ao nn cap)) (K + 1) #[Value.int .i64 5, .int .i64 0, .int .i64 0, .string ⟨#[97]⟩, .string ⟨#[98]⟩, .string ⟨#[]⟩, .int .i64 0, .int .i64 ss.w, .int .i64 ss.h, .int .i64 ss.c, .int .i64 ss.d, .slice ao nn cap, .slice none 0 0] 39 := ((((hbR3.set 7 _).set 8 _).set 9 _).set 10 _).set 11 _
  have hbK5 : Blk (((((w3.setCell ⟨K + 1, 7, none⟩ (.int .i64 ss.w)).setCell ⟨K + 1, 8, none⟩ (.int .i64 ss.h)).setCell ⟨K + 1, 9, none⟩ (.int .i64 ss.c)).setCell ⟨K + 1, 10, none⟩ (.int .i64 ss.d)).setCell ⟨K + 1, 11, none⟩ (.slice ao nn cap)) K #[.int .i64 0, .int .i64 0, .int .i64 0, .string ⟨#[]⟩, .string ⟨#[]⟩, .string ⟨#[]⟩, .int .i64 0, .int .i64 0, .int .i64 0, .int .i64 0, .int .i64 0, .slice none 0 0, .slice none 0 0] 39 := ((((hbK3.set_ne (by simp) _).set_ne (by simp) _).set_ne (by simp) _).set_ne (by simp) _).set_ne (by simp) _
  have hc5' : Chg [K + 1] w1 (((((w3.setCell ⟨K + 1, 7, none⟩ (.int .i64 ss.w)).setCell ⟨K + 1, 8, none⟩ (.int .i64 ss.h)).setCell ⟨K + 1, 9, none⟩ (.int .i64 ss.c)).setCell ⟨K + 1, 10, none⟩ (.int .i64 ss.d)).setCell ⟨K + 1, 11, none⟩ (.slice ao nn cap)) := (((((hc3.toS (S := [K + 1])).setCell (.inl (by simp)) _).setCell (.inl (by simp)) _).setCell (.inl (by simp)) _).setCell (.inl (by simp)) _).setCell (.inl (by simp)) _
  have hsee5 : Sees (((((w3.setCell ⟨K + 1, 7, none⟩ (.int .i64 ss.w)).setCell ⟨K + 1, 8, none⟩ (.int .i64 ss.h)).setCell ⟨K + 1, 9, none⟩ (.int .i64 ss.c)).setCell ⟨K + 1, 10, none⟩ (.int .i64 ss.d)).setCell ⟨K + 1, 11, none⟩ (.slice ao nn cap)) 1 (.slice ao nn cap) nn (Bs pp) := by
    have hx : Chg [K + 1] w3 (((((w3.setCell ⟨K + 1, 7, none⟩ (.int .i64 ss.w)).setCell ⟨K + 1, 8, none⟩ (.int .i64 ss.h)).setCell ⟨K + 1, 9, none⟩ (.int .i64 ss.c)).setCell ⟨K + 1, 10, none⟩ (.int .i64 ss.d)).setCell ⟨K + 1, 11, none⟩ (.slice ao nn cap)) := ((((((Chg.refl [] w3).toS (S := [K + 1])).setCell (.inl (by simp)) _).setCell (.inl (by simp)) _).setCell (.inl (by simp)) _).setCell (.inl (by simp)) _).setCell (.inl (by simp)) _
    exact hsee.chg hx fun k hk => by have h1 := hnew k hk; have h2 := HS1.out; simp; omega
  have aT : ArrTy Tryd.prog 39 (#[Value.int .i64 5, .int .i64 0, .int .i64 0, .string ⟨#[97]⟩, .string ⟨#[98]⟩, .string ⟨#[]⟩, .int .i64 0, .int .i64 ss.w, .int .i64 ss.h, .int .i64 ss.c, .int .i64 ss.d, .slice ao nn cap, .slice none 0 0]).size := ract_ty
  have hss : (#[.int .i64 0, .int .i64 0, .int .i64 0, .string ⟨#[]⟩, .string ⟨#[]⟩, .string ⟨#[]⟩, .int .i64 0, .int .i64 0, .int .i64 0, .int .i64 0, .int .i64 0, .slice none 0 0, .slice none 0 0] : Array Value).size = (#[Value.int .i64 5, .int .i64 0, .int .i64 0, .string ⟨#[97]⟩, .string ⟨#[98]⟩, .string ⟨#[]⟩, .int .i64 0, .int .i64 ss.w, .int .i64 ss.h, .int .i64 ss.c, .int .i64 ss.d, .slice ao nn cap, .slice none 0 0]).size := rfl
  have hone : ∀ v ∈ (#[Value.int .i64 5, .int .i64 0, .int .i64 0, .string ⟨#[97]⟩, .string ⟨#[98]⟩, .string ⟨#[]⟩, .int .i64 0, .int .i64 ss.w, .int .i64 ss.h, .int .i64 ss.c, .int .i64 ss.d, .slice ao nn cap, .slice none 0 0]).toList, v.oneCell' = true := by simp [Value.oneCell']
  have HO := Lib.hid (And.intro hsee5 (And.intro hnew (And.intro hc1 hc5')))
  clear hsee hsee5 hnew hc1 hc3 hp hbK hbR hbK3 hbR3 hc5'
  go_wp2_with (first
    | (with_reducible refine wpList_ldA rfl 39 _ rfl hbR5 aT rfl ?_)
    | (with_reducible refine wpList_stA rfl 39 _ _ rfl hbK5 aT hss hone rfl rfl ?_; intro w5 hb5 hc5 hs5))
  refine bodyPost_ret (results_A rfl _ _ hb5 aT rfl) rfl ⟨.slice ao nn cap, .slice none 0 0, rfl, ?_⟩
  obtain ⟨h1, h2, h3, h4⟩ := HO.out
  have hgr : w.heap.size < w1.heap.size := by have := HS1.out; omega
  refine ⟨⟨?_, Sees.nil _ _, fun k hk => ?_, by simp [eyes]⟩, (h3.trans h4 fun k hk => ?_).trans hc5 fun k hk => ?_⟩
  · show Sees _ 1 _ pp.length _
    rw [HPL.out]
    exact h1.chg hc5 fun k hk => by have h5 := h2 k hk; have h6 := HS1.out; simp; omega
  · have := h2 k hk; omega
  · simp at hk; right; omega
  · simp at hk; right; omega
theorem ract_any (k x y z : Nat) (hk : k < 16) (hx : x < 256) (hy : y < 256) (hz : z < 256) (h11 : k < 11) (w : World) :
    Calls Tryd.prog 23 #[.int .i64 k, .int .i64 x, .int .i64 y, .int .i64 z] w fun e w' => ∃ pv mv, e = .returned (actV (frontA k x y z) pv mv) ∧ ActR w w' (frontA k x y z) pv mv ∧ Chg [] w w' := by
  by_cases h6 : k < 6
  · by_cases ho : x % 2 = 1
    · exact ract1t k x y z h6 ho hx hy hz w
    · exact ract1f k x y z h6 ho hx hy hz w
  by_cases h7 : k = 6
  · exact ract2 k x y z h7 hx hy hz w
  by_cases h8 : k = 7
  · exact ract3 k x y z h8 hx hy hz w
  by_cases h9 : k = 8
  · by_cases ho : y % 2 = 1
    · exact ract4 k x y z h9 ho hx hy hz w
    · exact ract5 k x y z h9 ho hx hy hz w
  · by_cases hb : 99 < y
    · by_cases ho : x % 2 = 1
      · exact ract6t k x y z (by omega) hb ho hx hy hz w
      · exact ract6f k x y z (by omega) hb ho hx hy hz w
    · by_cases ho : x % 2 = 1
      · exact ract7t k x y z (by omega) hb ho hx hy hz w
      · exact ract7f k x y z (by omega) hb ho hx hy hz w
set_option maxRecDepth 100000 in
set_option maxHeartbeats 4000000 in
theorem ractB (k x y z : Nat) (hk : 10 < k ∧ k < 16) (hx : x < 256) (hy : y < 256) (hz : z < 256) (w : World) :
    Calls Tryd.prog 23 #[.int .i64 k, .int .i64 x, .int .i64 y, .int .i64 z] w fun e w' => ∃ pv mv, e = .returned (actV (backA k x y z) pv mv) ∧ ActR w w' (backA k x y z) pv mv ∧ Chg [] w w' := by
  obtain ⟨K, hK⟩ : ∃ K, w.heap.size = K := ⟨_, rfl⟩
  have l5 : decide ((k : Int) ≤ 5) = false := by simp; omega
  have l5' : decide (k ≤ 5) = false := by simp; omega
  have t6 : ((k : Int) == 6) = false := by simp; omega
  have t7 : ((k : Int) == 7) = false := by simp; omega
  have t8 : ((k : Int) == 8) = false := by simp; omega
  have l10 : decide ((k : Int) ≤ 10) = false := by simp; omega
  have l10' : decide (k ≤ 10) = false := by simp; omega
  have hl := fun w' => later_any k x y z hk hx hy hz w'
  generalize backA k x y z = a at *
  unfold actV actL at hl
  have hbK : Blk (w.alloc (.cells #[.int .i64 0, .int .i64 0, .int .i64 0, .string ⟨#[]⟩, .string ⟨#[]⟩, .string ⟨#[]⟩, .int .i64 0, .int .i64 0, .int .i64 0, .int .i64 0, .int .i64 0, .slice none 0 0, .slice none 0 0] 39)) K #[.int .i64 0, .int .i64 0, .int .i64 0, .string ⟨#[]⟩, .string ⟨#[]⟩, .string ⟨#[]⟩, .int .i64 0, .int .i64 0, .int .i64 0, .int .i64 0, .int .i64 0, .slice none 0 0, .slice none 0 0] 39 := Blk.new_at w _ _ hK
  have hc1 : Chg [] w (w.alloc (.cells #[.int .i64 0, .int .i64 0, .int .i64 0, .string ⟨#[]⟩, .string ⟨#[]⟩, .string ⟨#[]⟩, .int .i64 0, .int .i64 0, .int .i64 0, .int .i64 0, .int .i64 0, .slice none 0 0, .slice none 0 0] 39)) := (Chg.refl [] w).alloc _
  have HS1 : Hid (K < (w.alloc (.cells #[.int .i64 0, .int .i64 0, .int .i64 0, .string ⟨#[]⟩, .string ⟨#[]⟩, .string ⟨#[]⟩, .int .i64 0, .int .i64 0, .int .i64 0, .int .i64 0, .int .i64 0, .slice none 0 0, .slice none 0 0] 39)).heap.size) := by show _ < _; simp [hK]
  go_enter Tryd.func23, Tryd.ntmps23
  go_wp2_with fail
  generalize w.alloc (.cells #[.int .i64 0, .int .i64 0, .int .i64 0, .string ⟨#[]⟩, .string ⟨#[]⟩, .string ⟨#[]⟩, .int .i64 0, .int .i64 0, .int .i64 0, .int .i64 0, .int .i64 0, .slice none 0 0, .slice none 0 0] 39) = w1 at *
  refine (hl _).mono ?_
  rintro e w3 ⟨pv, mv, rfl, hR, hc3⟩
  obtain ⟨ap, cp, rfl, -, -⟩ := hR.pix.shape
  obtain ⟨am, cm, rfl, -, -⟩ := hR.mask.shape
  have hbK3 := hbK.chg0 hc3
  have HO := Lib.hid (And.intro hR (And.intro hc1 hc3))
  clear hR hc1 hc3 hl hbK
  generalize a.pix.length = np at *
  generalize a.mask.length = nm at *
  have aT : ArrTy Tryd.prog 39 (#[Value.int .i64 a.kind, .int .i64 a.n, .int .i64 a.m, .string (str a.name), .string (str a.other), .string (str a.text), .int .i64 a.key, .int .i64 a.shp.w, .int .i64 a.shp.h, .int .i64 a.shp.c, .int .i64 a.shp.d, .slice ap np cp, .slice am nm cm]).size := ract_ty
  have hss : (#[.int .i64 0, .int .i64 0, .int .i64 0, .string ⟨#[]⟩, .string ⟨#[]⟩, .string ⟨#[]⟩, .int .i64 0, .int .i64 0, .int .i64 0, .int .i64 0, .int .i64 0, .slice none 0 0, .slice none 0 0] : Array Value).size = (#[Value.int .i64 a.kind, .int .i64 a.n, .int .i64 a.m, .string (str a.name), .string (str a.other), .string (str a.text), .int .i64 a.key, .int .i64 a.shp.w, .int .i64 a.shp.h, .int .i64 a.shp.c, .int .i64 a.shp.d, .slice ap np cp, .slice am nm cm]).size := rfl
  have hone : ∀ v ∈ (#[Value.int .i64 a.kind, .int .i64 a.n, .int .i64 a.m, .string (str a.name), .string (str a.other), .string (str a.text), .int .i64 a.key, .int .i64 a.shp.w, .int .i64 a.shp.h, .int .i64 a.shp.c, .int .i64 a.shp.d, .slice ap np cp, .slice am nm cm]).toList, v.oneCell' = true := by simp [Value.oneCell']
  go_wp2_with (with_reducible refine wpList_stA rfl 39 _ _ rfl hbK3 aT hss hone rfl rfl ?_; intro w5 hb5 hc5 hs5)
  refine bodyPost_ret (results_A rfl _ _ hb5 aT rfl) rfl ⟨.slice ap np cp, .slice am nm cm, rfl, ?_⟩
  obtain ⟨h1, h2, h3⟩ := HO.out
  have hs := HS1.out
  refine ⟨⟨h1.pix.chg hc5 fun j hj => ?_, h1.mask.chg hc5 fun j hj => ?_, fun j hj => ?_, fun j hj => ?_⟩, (h2.nil h3).trans hc5 fun j hj => ?_⟩
  · have := h1.newP j hj; simp; omega
  · have := h1.newM j hj; simp; omega
  · have := h1.newP j hj; omega
  · have := h1.newM j hj; omega
  · simp at hj; right; omega
theorem ract_all (k x y z : Nat) (hk : k < 16) (hx : x < 256) (hy : y < 256) (hz : z < 256) (w : World) :
    Calls Tryd.prog 23 #[.int .i64 k, .int .i64 x, .int .i64 y, .int .i64 z] w fun e w' => ∃ pv mv, e = .returned (actV (actK k x y z) pv mv) ∧ ActR w w' (actK k x y z) pv mv ∧ Chg [] w w' := by
  unfold actK
  by_cases h : k < 11
  · rw [if_pos h]; exact ract_any k x y z hk hx hy hz h w
  · rw [if_neg h]; exact ractB k x y z (by omega) hx hy hz w
end Go.Proofs.YtgbbjbldlfpbcaaDoor
