/- Contract of script.sides, script.front. No statement of the seat is proved here. -/
import Derived.Test.YtgbbjbldlfpbcaaDoorRPic
import Derived.Test.YtgbbjbldlfpbcaaDoorShelf
import Derived.Laws.Concat
set_option linter.unusedVariables false
namespace Go.Aq
open Go.RowKit
/-- An act's picture and mask are seen, in blocks made since w0. -/
structure ActR (w0 w : World) (a : ActD) (pv mv : Value) : Prop where
  pix : Sees w 1 pv a.pix.length (Bs a.pix)
  mask : Sees w 1 mv a.mask.length (Bs a.mask)
  newP : ∀ k ∈ eyes pv, w0.heap.size ≤ k
  newM : ∀ k ∈ eyes mv, w0.heap.size ≤ k
theorem actR_pic {w w2 w3 w5 : World} {K nn : Nat} {pv : Value} {a : ActD} (hsee : Sees w3 1 pv nn (Bs a.pix)) (hnew : ∀ k ∈ eyes pv, w2.heap.size ≤ k) (hK : w.heap.size = K) (hs : K < w2.heap.size) (hc1 : Chg [] w w2) (hc3 : Chg [] w2 w3) (hc5 : Chg [K] w3 w5)
    (hl : a.pix.length = nn) (hm : a.mask = []) : ActR w w5 a pv (.slice none 0 0) ∧ Chg [] w w5 := by
  subst hl
  refine ⟨⟨hsee.chg hc5 fun k hk => ?_, ?_, fun k hk => ?_, by simp [eyes]⟩, (hc1.nil hc3).trans hc5 fun k hk => ?_⟩
  · have := hnew k hk; simp; omega
  · rw [hm]; exact Sees.nil _ _
  · have := hnew k hk; omega
  · simp at hk; right; omega
theorem actR_nil {w w2 w5 : World} {K : Nat} {a : ActD} (hK : w.heap.size = K) (hc1 : Chg [] w w2) (hc5 : Chg [K] w2 w5) (hp : a.pix = []) (hm : a.mask = []) : ActR w w5 a (.slice none 0 0) (.slice none 0 0) ∧ Chg [] w w5 := by
  refine ⟨⟨?_, ?_, by simp [eyes], by simp [eyes]⟩, hc1.trans hc5 fun k hk => ?_⟩
  · rw [hp]; exact Sees.nil _ _
  · rw [hm]; exact Sees.nil _ _
  · simp at hk; right; omega
theorem run_cat2 {P : Program} {a b c : ByteArray} (h : a ++ b = c) (hb : a.size + b.size ≤ 9223372036854775807) (w : World) : (Op.stringOp .add a b).run P w = .ok (.string c) w := by rw [run_string_add_sum w a b hb, h]
theorem str_cat2 (a b : List UInt8) : str a ++ str b = str (a ++ b) := by
  apply ByteArray.ext
  show (str a ++ str b).data = _
  simp [str]
end Go.Aq
namespace Go.Proofs.YtgbbjbldlfpbcaaDoor
open Go.RowKit Go.Aq Go.Aq.Wd
theorem sides_any (x : Nat) (hx : x ≤ 1000) (w : World) : Calls Tryd.prog 41 #[.int .i64 x] w fun e w' => e = .returned (.tuple #[.string (str (sideT x)), .string (str (sideF x))]) ∧ w' = w := by
  by_cases h : x % 2 = 1
  · have e1 : sideT x = [98] := if_pos h
    have e2 : sideF x = [97] := if_pos h
    have t1 : ((x : Int) % 2 == 1) = true := by simp; omega
    rw [e1, e2]
    clear e1 e2 h
    go_enter Tryd.func41, Tryd.ntmps41
    go_wp2_with fail
    go_ret2
    exact ⟨rfl, rfl⟩
  · have e1 : sideT x = [97] := if_neg h
    have e2 : sideF x = [98] := if_neg h
    have t1 : ((x : Int) % 2 == 1) = false := by simp; omega
    rw [e1, e2]
    clear e1 e2 h
    go_enter Tryd.func41, Tryd.ntmps41
    go_wp2_with fail
    go_ret2
    exact ⟨rfl, rfl⟩
theorem act_ty : ArrTy Tryd.prog 38 13 := ⟨⟨_, Tryd.underlying38, rfl⟩, by kernel_rfl⟩
def actZs : Array Value := (actL actZ (.slice none 0 0) (.slice none 0 0)).toArray
set_option maxRecDepth 100000 in
set_option maxHeartbeats 4000000 in
theorem front1 (k x y z : Nat) (hk : k < 6) (hx : x < 256) (hy : y < 256) (hz : z < 256) (w : World) :
    Calls Tryd.prog 21 #[.int .i64 k, .int .i64 x, .int .i64 y, .int .i64 z] w fun e w' => ∃ pv mv, e = .returned (actV (frontA k x y z) pv mv) ∧ ActR w w' (frontA k x y z) pv mv ∧ Chg [] w w' := by
  obtain ⟨K, hK⟩ : ∃ K, w.heap.size = K := ⟨_, rfl⟩
  have hF : frontA k x y z = { actZ with kind := 1, name := sideT x, other := [117], shp := picS (3 + y % 2) 7 z, pix := picP (3 + y % 2) 7 z } := by unfold frontA; rw [if_pos hk]
  have hp := fun w' => pic_any (3 + (y : Int) % 2) 7 (z : Int) (by omega) (by decide) (by omega) w'
  rw [show (3 + (y : Int) % 2).toNat = 3 + y % 2 by omega, show (7 : Int).toNat = 7 from rfl, Int.toNat_natCast] at hp
  unfold rasV at hp
  have hs := fun w' => sides_any x (by omega) w'
  have t1 : decide ((k : Int) < 6) = true := by simp; omega
  have t1' : decide (k < 6) = true := by simp; omega
  have hpl := picP_len (3 + y % 2) 7 z
  rw [hF]
  generalize picP (3 + y % 2) 7 z = pp at *
  generalize picN (3 + y % 2) 7 z = nn at *
  generalize picS (3 + y % 2) 7 z = ss at *
  generalize sideT x = sT at *
  generalize sideF x = sF at *
  have HPL := Lib.hid (And.intro hpl hF)
  clear hF hpl
  go_enter Tryd.func21, Tryd.ntmps21
  go_wp2_with fail
  have hbK : Blk (w.alloc (.cells #[.int .i64 0, .int .i64 0, .int .i64 0, .string ⟨#[]⟩, .string ⟨#[]⟩, .string ⟨#[]⟩, .int .i64 0, .int .i64 0, .int .i64 0, .int .i64 0, .int .i64 0, .slice none 0 0, .slice none 0 0] 38)) K #[.int .i64 0, .int .i64 0, .int .i64 0, .string ⟨#[]⟩, .string ⟨#[]⟩, .string ⟨#[]⟩, .int .i64 0, .int .i64 0, .int .i64 0, .int .i64 0, .int .i64 0, .slice none 0 0, .slice none 0 0] 38 := Blk.new_at w _ _ hK
  have hc1 : Chg [] w (w.alloc (.cells #[.int .i64 0, .int .i64 0, .int .i64 0, .string ⟨#[]⟩, .string ⟨#[]⟩, .string ⟨#[]⟩, .int .i64 0, .int .i64 0, .int .i64 0, .int .i64 0, .int .i64 0, .slice none 0 0, .slice none 0 0] 38)) := (Chg.refl [] w).alloc _
  have HS1 : Hid (K < (w.alloc (.cells #[.int .i64 0, .int .i64 0, .int .i64 0, .string ⟨#[]⟩, .string ⟨#[]⟩, .string ⟨#[]⟩, .int .i64 0, .int .i64 0, .int .i64 0, .int .i64 0, .int .i64 0, .slice none 0 0, .slice none 0 0] 38)).heap.size) := by show _ < _; simp [hK]
  generalize w.alloc (.cells #[.int .i64 0, .int .i64 0, .int .i64 0, .string ⟨#[]⟩, .string ⟨#[]⟩, .string ⟨#[]⟩, .int .i64 0, .int .i64 0, .int .i64 0, .int .i64 0, .int .i64 0, .slice none 0 0, .slice none 0 0] 38) = w1 at *
  refine (hs _).mono ?_
  rintro e w2 ⟨rfl, rfl⟩
  clear hs
  go_wp2_with fail
  refine (hp _).mono ?_
  rintro e w3 ⟨pv, rfl, hsee, hnew, hc3⟩
  obtain ⟨ao, cap, rfl, hcap, -⟩ := hsee.shape
  have hbK3 := hbK.chg0 hc3
  have aT : ArrTy Tryd.prog 38 (#[Value.int .i64 1, .int .i64 0, .int .i64 0, .string (str sT), .string ⟨#[117]⟩, .string ⟨#[]⟩, .int .i64 0, .int .i64 ss.w, .int .i64 ss.h, .int .i64 ss.c, .int .i64 ss.d, .slice ao nn cap, .slice none 0 0]).size := act_ty
  have hss : (#[.int .i64 0, .int .i64 0, .int .i64 0, .string ⟨#[]⟩, .string ⟨#[]⟩, .string ⟨#[]⟩, .int .i64 0, .int .i64 0, .int .i64 0, .int .i64 0, .int .i64 0, .slice none 0 0, .slice none 0 0] : Array Value).size = (#[Value.int .i64 1, .int .i64 0, .int .i64 0, .string (str sT), .string ⟨#[117]⟩, .string ⟨#[]⟩, .int .i64 0, .int .i64 ss.w, .int .i64 ss.h, .int .i64 ss.c, .int .i64 ss.d, .slice ao nn cap, .slice none 0 0]).size := rfl
  have hone : ∀ v ∈ (#[Value.int .i64 1, .int .i64 0, .int .i64 0, .string (str sT), .string ⟨#[117]⟩, .string ⟨#[]⟩, .int .i64 0, .int .i64 ss.w, .int .i64 ss.h, .int .i64 ss.c, .int .i64 ss.d, .slice ao nn cap, .slice none 0 0]).toList, v.oneCell' = true := by simp [Value.oneCell']
  have HO := Lib.hid (And.intro hsee (And.intro hnew (And.intro hc1 hc3)))
  clear hsee hnew hc1 hc3 hp hbK
  go_wp2_with (with_reducible refine wpList_stA rfl 38 _ _ rfl hbK3 aT hss hone rfl rfl ?_; intro w5 hb5 hc5 hs5)
  refine bodyPost_ret (results_A rfl _ _ hb5 aT rfl) rfl ⟨.slice ao nn cap, .slice none 0 0, rfl, ?_⟩
  obtain ⟨h1, h2, h3, h4⟩ := HO.out
  exact actR_pic h1 h2 hK HS1.out h3 h4 hc5 HPL.out.1 rfl
set_option maxRecDepth 100000 in
set_option maxHeartbeats 4000000 in
theorem front6 (k x y z : Nat) (hk : 8 < k ∧ k < 11) (hyb : 99 < y) (hx : x < 256) (hy : y < 256) (hz : z < 256) (w : World) :
    Calls Tryd.prog 21 #[.int .i64 k, .int .i64 x, .int .i64 y, .int .i64 z] w fun e w' => ∃ pv mv, e = .returned (actV (frontA k x y z) pv mv) ∧ ActR w w' (frontA k x y z) pv mv ∧ Chg [] w w' := by
  obtain ⟨K, hK⟩ : ∃ K, w.heap.size = K := ⟨_, rfl⟩
  have hF : frontA k x y z = { actZ with kind := 5, name := sideT x, other := sideF x, shp := picS 3 7 z, pix := picP 3 7 z } := by unfold frontA; rw [if_neg (by omega), if_neg (by omega), if_neg (by omega), if_neg (by omega), if_pos hyb]
  have hp := fun w' => pic_any 3 7 (z : Int) (by decide) (by decide) (by omega) w'
  rw [show (3 : Int).toNat = 3 from rfl, show (7 : Int).toNat = 7 from rfl, Int.toNat_natCast] at hp
  unfold rasV at hp
  have hs := fun w' => sides_any x (by omega) w'
  have t1 : decide ((k : Int) < 6) = false := by simp; omega
  have t1' : decide (k < 6) = false := by simp; omega
  have t6 : ((k : Int) == 6) = false := by simp; omega
  have t7 : ((k : Int) == 7) = false := by simp; omega
  have t8 : ((k : Int) == 8) = false := by simp; omega
  have ty : decide (99 < (y : Int)) = true := by simp; omega
  have ty' : decide (99 < y) = true := by simp; omega
  have hpl := picP_len (3) 7 z
  rw [hF]
  generalize picP (3) 7 z = pp at *
  generalize picN (3) 7 z = nn at *
  generalize picS (3) 7 z = ss at *
  generalize sideT x = sT at *
  generalize sideF x = sF at *
  have HPL := Lib.hid (And.intro hpl hF)
  clear hF hpl
  go_enter Tryd.func21, Tryd.ntmps21
  go_wp2_with fail
  have hbK : Blk (w.alloc (.cells #[.int .i64 0, .int .i64 0, .int .i64 0, .string ⟨#[]⟩, .string ⟨#[]⟩, .string ⟨#[]⟩, .int .i64 0, .int .i64 0, .int .i64 0, .int .i64 0, .int .i64 0, .slice none 0 0, .slice none 0 0] 38)) K #[.int .i64 0, .int .i64 0, .int .i64 0, .string ⟨#[]⟩, .string ⟨#[]⟩, .string ⟨#[]⟩, .int .i64 0, .int .i64 0, .int .i64 0, .int .i64 0, .int .i64 0, .slice none 0 0, .slice none 0 0] 38 := Blk.new_at w _ _ hK
  have hc1 : Chg [] w (w.alloc (.cells #[.int .i64 0, .int .i64 0, .int .i64 0, .string ⟨#[]⟩, .string ⟨#[]⟩, .string ⟨#[]⟩, .int .i64 0, .int .i64 0, .int .i64 0, .int .i64 0, .int .i64 0, .slice none 0 0, .slice none 0 0] 38)) := (Chg.refl [] w).alloc _
  have HS1 : Hid (K < (w.alloc (.cells #[.int .i64 0, .int .i64 0, .int .i64 0, .string ⟨#[]⟩, .string ⟨#[]⟩, .string ⟨#[]⟩, .int .i64 0, .int .i64 0, .int .i64 0, .int .i64 0, .int .i64 0, .slice none 0 0, .slice none 0 0] 38)).heap.size) := by show _ < _; simp [hK]
  generalize w.alloc (.cells #[.int .i64 0, .int .i64 0, .int .i64 0, .string ⟨#[]⟩, .string ⟨#[]⟩, .string ⟨#[]⟩, .int .i64 0, .int .i64 0, .int .i64 0, .int .i64 0, .int .i64 0, .slice none 0 0, .slice none 0 0] 38) = w1 at *
  refine (hs _).mono ?_
  rintro e w2 ⟨rfl, rfl⟩
  clear hs
  go_wp2_with fail
  refine (hp _).mono ?_
  rintro e w3 ⟨pv, rfl, hsee, hnew, hc3⟩
  obtain ⟨ao, cap, rfl, hcap, -⟩ := hsee.shape
  have hbK3 := hbK.chg0 hc3
  have aT : ArrTy Tryd.prog 38 (#[Value.int .i64 5, .int .i64 0, .int .i64 0, .string (str sT), .string (str sF), .string ⟨#[]⟩, .int .i64 0, .int .i64 ss.w, .int .i64 ss.h, .int .i64 ss.c, .int .i64 ss.d, .slice ao nn cap, .slice none 0 0]).size := act_ty
  have hss : (#[.int .i64 0, .int .i64 0, .int .i64 0, .string ⟨#[]⟩, .string ⟨#[]⟩, .string ⟨#[]⟩, .int .i64 0, .int .i64 0, .int .i64 0, .int .i64 0, .int .i64 0, .slice none 0 0, .slice none 0 0] : Array Value).size = (#[Value.int .i64 5, .int .i64 0, .int .i64 0, .string (str sT), .string (str sF), .string ⟨#[]⟩, .int .i64 0, .int .i64 ss.w, .int .i64 ss.h, .int .i64 ss.c, .int .i64 ss.d, .slice ao nn cap, .slice none 0 0]).size := rfl
  have hone : ∀ v ∈ (#[Value.int .i64 5, .int .i64 0, .int .i64 0, .string (str sT), .string (str sF), .string ⟨#[]⟩, .int .i64 0, .int .i64 ss.w, .int .i64 ss.h, .int .i64 ss.c, .int .i64 ss.d, .slice ao nn cap, .slice none 0 0]).toList, v.oneCell' = true := by simp [Value.oneCell']
  have HO := Lib.hid (And.intro hsee (And.intro hnew (And.intro hc1 hc3)))
  clear hsee hnew hc1 hc3 hp hbK
  go_wp2_with (with_reducible refine wpList_stA rfl 38 _ _ rfl hbK3 aT hss hone rfl rfl ?_; intro w5 hb5 hc5 hs5)
  refine bodyPost_ret (results_A rfl _ _ hb5 aT rfl) rfl ⟨.slice ao nn cap, .slice none 0 0, rfl, ?_⟩
  obtain ⟨h1, h2, h3, h4⟩ := HO.out
  exact actR_pic h1 h2 hK HS1.out h3 h4 hc5 HPL.out.1 rfl
set_option maxRecDepth 100000 in
set_option maxHeartbeats 4000000 in
theorem front2 (k x y z : Nat) (hk : k = 6) (hx : x < 256) (hy : y < 256) (hz : z < 256) (w : World) :
    Calls Tryd.prog 21 #[.int .i64 k, .int .i64 x, .int .i64 y, .int .i64 z] w fun e w' => ∃ pv mv, e = .returned (actV (frontA k x y z) pv mv) ∧ ActR w w' (frontA k x y z) pv mv ∧ Chg [] w w' := by
  obtain ⟨K, hK⟩ : ∃ K, w.heap.size = K := ⟨_, rfl⟩
  have hF : frontA k x y z = { actZ with kind := 2, name := [98], key := ((x % 8 : Nat) : Int) } := by unfold frontA; rw [if_neg (by omega), if_pos hk]
  have hs := fun w' => sides_any x (by omega) w'
  have t1 : decide ((k : Int) < 6) = false := by simp; omega
  have t1' : decide (k < 6) = false := by simp; omega
  have t6 : ((k : Int) == 6) = true := by simp; omega
  have hm8 : (x : Int) % 8 = ((x % 8 : Nat) : Int) := by omega
  generalize x % 8 = x8 at *
  rw [hF]
  generalize sideT x = sT at *
  generalize sideF x = sF at *
  clear hF
  go_enter Tryd.func21, Tryd.ntmps21
  go_wp2_with fail
  have hbK : Blk (w.alloc (.cells #[.int .i64 0, .int .i64 0, .int .i64 0, .string ⟨#[]⟩, .string ⟨#[]⟩, .string ⟨#[]⟩, .int .i64 0, .int .i64 0, .int .i64 0, .int .i64 0, .int .i64 0, .slice none 0 0, .slice none 0 0] 38)) K #[.int .i64 0, .int .i64 0, .int .i64 0, .string ⟨#[]⟩, .string ⟨#[]⟩, .string ⟨#[]⟩, .int .i64 0, .int .i64 0, .int .i64 0, .int .i64 0, .int .i64 0, .slice none 0 0, .slice none 0 0] 38 := Blk.new_at w _ _ hK
  have hc1 : Chg [] w (w.alloc (.cells #[.int .i64 0, .int .i64 0, .int .i64 0, .string ⟨#[]⟩, .string ⟨#[]⟩, .string ⟨#[]⟩, .int .i64 0, .int .i64 0, .int .i64 0, .int .i64 0, .int .i64 0, .slice none 0 0, .slice none 0 0] 38)) := (Chg.refl [] w).alloc _
  generalize w.alloc (.cells #[.int .i64 0, .int .i64 0, .int .i64 0, .string ⟨#[]⟩, .string ⟨#[]⟩, .string ⟨#[]⟩, .int .i64 0, .int .i64 0, .int .i64 0, .int .i64 0, .int .i64 0, .slice none 0 0, .slice none 0 0] 38) = w1 at *
  refine (hs _).mono ?_
  rintro e w2 ⟨rfl, rfl⟩
  clear hs
  have aT : ArrTy Tryd.prog 38 (#[Value.int .i64 2, .int .i64 0, .int .i64 0, .string ⟨#[98]⟩, .string ⟨#[]⟩, .string ⟨#[]⟩, .int .i64 (x8 : Int), .int .i64 0, .int .i64 0, .int .i64 0, .int .i64 0, .slice none 0 0, .slice none 0 0]).size := act_ty
  have hss : (#[.int .i64 0, .int .i64 0, .int .i64 0, .string ⟨#[]⟩, .string ⟨#[]⟩, .string ⟨#[]⟩, .int .i64 0, .int .i64 0, .int .i64 0, .int .i64 0, .int .i64 0, .slice none 0 0, .slice none 0 0] : Array Value).size = (#[Value.int .i64 2, .int .i64 0, .int .i64 0, .string ⟨#[98]⟩, .string ⟨#[]⟩, .string ⟨#[]⟩, .int .i64 (x8 : Int), .int .i64 0, .int .i64 0, .int .i64 0, .int .i64 0, .slice none 0 0, .slice none 0 0]).size := rfl
  have hone : ∀ v ∈ (#[Value.int .i64 2, .int .i64 0, .int .i64 0, .string ⟨#[98]⟩, .string ⟨#[]⟩, .string ⟨#[]⟩, .int .i64 (x8 : Int), .int .i64 0, .int .i64 0, .int .i64 0, .int .i64 0, .slice none 0 0, .slice none 0 0]).toList, v.oneCell' = true := by simp [Value.oneCell']
  go_wp2_with (with_reducible refine wpList_stA rfl 38 _ _ rfl hbK aT hss hone rfl rfl ?_; intro w5 hb5 hc5 hs5)
  refine bodyPost_ret (results_A rfl _ _ hb5 aT rfl) rfl ⟨.slice none 0 0, .slice none 0 0, rfl, ?_⟩
  exact actR_nil hK hc1 hc5 rfl rfl
set_option maxRecDepth 100000 in
set_option maxHeartbeats 4000000 in
theorem front4 (k x y z : Nat) (hk : k = 8) (ho : y % 2 = 1) (hx : x < 256) (hy : y < 256) (hz : z < 256) (w : World) :
    Calls Tryd.prog 21 #[.int .i64 k, .int .i64 x, .int .i64 y, .int .i64 z] w fun e w' => ∃ pv mv, e = .returned (actV (frontA k x y z) pv mv) ∧ ActR w w' (frontA k x y z) pv mv ∧ Chg [] w w' := by
  obtain ⟨K, hK⟩ : ∃ K, w.heap.size = K := ⟨_, rfl⟩
  have hF : frontA k x y z = { actZ with kind := 4, name := [116, 48], n := 1 } := by unfold frontA; rw [if_neg (by omega), if_neg (by omega), if_neg (by omega), if_pos hk, if_pos ho]
  have hs := fun w' => sides_any x (by omega) w'
  have t1 : decide ((k : Int) < 6) = false := by simp; omega
  have t1' : decide (k < 6) = false := by simp; omega
  have t6 : ((k : Int) == 6) = false := by simp; omega
  have t7 : ((k : Int) == 7) = false := by simp; omega
  have t8 : ((k : Int) == 8) = true := by simp; omega
  have tod : ((y : Int) % 2 == 1) = true := by simp; omega
  rw [hF]
  generalize sideT x = sT at *
  generalize sideF x = sF at *
  clear hF
  go_enter Tryd.func21, Tryd.ntmps21
  go_wp2_with fail
  have hbK : Blk (w.alloc (.cells #[.int .i64 0, .int .i64 0, .int .i64 0, .string ⟨#[]⟩, .string ⟨#[]⟩, .string ⟨#[]⟩, .int .i64 0, .int .i64 0, .int .i64 0, .int .i64 0, .int .i64 0, .slice none 0 0, .slice none 0 0] 38)) K #[.int .i64 0, .int .i64 0, .int .i64 0, .string ⟨#[]⟩, .string ⟨#[]⟩, .string ⟨#[]⟩, .int .i64 0, .int .i64 0, .int .i64 0, .int .i64 0, .int .i64 0, .slice none 0 0, .slice none 0 0] 38 := Blk.new_at w _ _ hK
  have hc1 : Chg [] w (w.alloc (.cells #[.int .i64 0, .int .i64 0, .int .i64 0, .string ⟨#[]⟩, .string ⟨#[]⟩, .string ⟨#[]⟩, .int .i64 0, .int .i64 0, .int .i64 0, .int .i64 0, .int .i64 0, .slice none 0 0, .slice none 0 0] 38)) := (Chg.refl [] w).alloc _
  generalize w.alloc (.cells #[.int .i64 0, .int .i64 0, .int .i64 0, .string ⟨#[]⟩, .string ⟨#[]⟩, .string ⟨#[]⟩, .int .i64 0, .int .i64 0, .int .i64 0, .int .i64 0, .int .i64 0, .slice none 0 0, .slice none 0 0] 38) = w1 at *
  refine (hs _).mono ?_
  rintro e w2 ⟨rfl, rfl⟩
  clear hs
  have aT : ArrTy Tryd.prog 38 (#[Value.int .i64 4, .int .i64 1, .int .i64 0, .string ⟨#[116, 48]⟩, .string ⟨#[]⟩, .string ⟨#[]⟩, .int .i64 0, .int .i64 0, .int .i64 0, .int .i64 0, .int .i64 0, .slice none 0 0, .slice none 0 0]).size := act_ty
  have hss : (#[.int .i64 0, .int .i64 0, .int .i64 0, .string ⟨#[]⟩, .string ⟨#[]⟩, .string ⟨#[]⟩, .int .i64 0, .int .i64 0, .int .i64 0, .int .i64 0, .int .i64 0, .slice none 0 0, .slice none 0 0] : Array Value).size = (#[Value.int .i64 4, .int .i64 1, .int .i64 0, .string ⟨#[116, 48]⟩, .string ⟨#[]⟩, .string ⟨#[]⟩, .int .i64 0, .int .i64 0, .int .i64 0, .int .i64 0, .int .i64 0, .slice none 0 0, .slice none 0 0]).size := rfl
  have hone : ∀ v ∈ (#[Value.int .i64 4, .int .i64 1, .int .i64 0, .string ⟨#[116, 48]⟩, .string ⟨#[]⟩, .string ⟨#[]⟩, .int .i64 0, .int .i64 0, .int .i64 0, .int .i64 0, .int .i64 0, .slice none 0 0, .slice none 0 0]).toList, v.oneCell' = true := by simp [Value.oneCell']
  go_wp2_with (with_reducible refine wpList_stA rfl 38 _ _ rfl hbK aT hss hone rfl rfl ?_; intro w5 hb5 hc5 hs5)
  refine bodyPost_ret (results_A rfl _ _ hb5 aT rfl) rfl ⟨.slice none 0 0, .slice none 0 0, rfl, ?_⟩
  exact actR_nil hK hc1 hc5 rfl rfl
set_option maxRecDepth 100000 in
set_option maxHeartbeats 4000000 in
theorem front5 (k x y z : Nat) (hk : k = 8) (ho : ¬ y % 2 = 1) (hx : x < 256) (hy : y < 256) (hz : z < 256) (w : World) :
    Calls Tryd.prog 21 #[.int .i64 k, .int .i64 x, .int .i64 y, .int .i64 z] w fun e w' => ∃ pv mv, e = .returned (actV (frontA k x y z) pv mv) ∧ ActR w w' (frontA k x y z) pv mv ∧ Chg [] w w' := by
  obtain ⟨K, hK⟩ : ∃ K, w.heap.size = K := ⟨_, rfl⟩
  have hF : frontA k x y z = { actZ with kind := 4, name := [98] } := by unfold frontA; rw [if_neg (by omega), if_neg (by omega), if_neg (by omega), if_pos hk, if_neg ho]
  have hs := fun w' => sides_any x (by omega) w'
  have t1 : decide ((k : Int) < 6) = false := by simp; omega
  have t1' : decide (k < 6) = false := by simp; omega
  have t6 : ((k : Int) == 6) = false := by simp; omega
  have t7 : ((k : Int) == 7) = false := by simp; omega
  have t8 : ((k : Int) == 8) = true := by simp; omega
  have tod : ((y : Int) % 2 == 1) = false := by simp; omega
  rw [hF]
  generalize sideT x = sT at *
  generalize sideF x = sF at *
  clear hF
  go_enter Tryd.func21, Tryd.ntmps21
  go_wp2_with fail
  have hbK : Blk (w.alloc (.cells #[.int .i64 0, .int .i64 0, .int .i64 0, .string ⟨#[]⟩, .string ⟨#[]⟩, .string ⟨#[]⟩, .int .i64 0, .int .i64 0, .int .i64 0, .int .i64 0, .int .i64 0, .slice none 0 0, .slice none 0 0] 38)) K #[.int .i64 0, .int .i64 0, .int .i64 0, .string ⟨#[]⟩, .string ⟨#[]⟩, .string ⟨#[]⟩, .int .i64 0, .int .i64 0, .int .i64 0, .int .i64 0, .int .i64 0, .slice none 0 0, .slice none 0 0] 38 := Blk.new_at w _ _ hK
  have hc1 : Chg [] w (w.alloc (.cells #[.int .i64 0, .int .i64 0, .int .i64 0, .string ⟨#[]⟩, .string ⟨#[]⟩, .string ⟨#[]⟩, .int .i64 0, .int .i64 0, .int .i64 0, .int .i64 0, .int .i64 0, .slice none 0 0, .slice none 0 0] 38)) := (Chg.refl [] w).alloc _
  generalize w.alloc (.cells #[.int .i64 0, .int .i64 0, .int .i64 0, .string ⟨#[]⟩, .string ⟨#[]⟩, .string ⟨#[]⟩, .int .i64 0, .int .i64 0, .int .i64 0, .int .i64 0, .int .i64 0, .slice none 0 0, .slice none 0 0] 38) = w1 at *
  refine (hs _).mono ?_
  rintro e w2 ⟨rfl, rfl⟩
  clear hs
  have aT : ArrTy Tryd.prog 38 (#[Value.int .i64 4, .int .i64 0, .int .i64 0, .string ⟨#[98]⟩, .string ⟨#[]⟩, .string ⟨#[]⟩, .int .i64 0, .int .i64 0, .int .i64 0, .int .i64 0, .int .i64 0, .slice none 0 0, .slice none 0 0]).size := act_ty
  have hss : (#[.int .i64 0, .int .i64 0, .int .i64 0, .string ⟨#[]⟩, .string ⟨#[]⟩, .string ⟨#[]⟩, .int .i64 0, .int .i64 0, .int .i64 0, .int .i64 0, .int .i64 0, .slice none 0 0, .slice none 0 0] : Array Value).size = (#[Value.int .i64 4, .int .i64 0, .int .i64 0, .string ⟨#[98]⟩, .string ⟨#[]⟩, .string ⟨#[]⟩, .int .i64 0, .int .i64 0, .int .i64 0, .int .i64 0, .int .i64 0, .slice none 0 0, .slice none 0 0]).size := rfl
  have hone : ∀ v ∈ (#[Value.int .i64 4, .int .i64 0, .int .i64 0, .string ⟨#[98]⟩, .string ⟨#[]⟩, .string ⟨#[]⟩, .int .i64 0, .int .i64 0, .int .i64 0, .int .i64 0, .int .i64 0, .slice none 0 0, .slice none 0 0]).toList, v.oneCell' = true := by simp [Value.oneCell']
  go_wp2_with (with_reducible refine wpList_stA rfl 38 _ _ rfl hbK aT hss hone rfl rfl ?_; intro w5 hb5 hc5 hs5)
  refine bodyPost_ret (results_A rfl _ _ hb5 aT rfl) rfl ⟨.slice none 0 0, .slice none 0 0, rfl, ?_⟩
  exact actR_nil hK hc1 hc5 rfl rfl
set_option maxRecDepth 100000 in
set_option maxHeartbeats 4000000 in
theorem front7 (k x y z : Nat) (hk : 8 < k ∧ k < 11) (hyb : ¬ 99 < y) (hx : x < 256) (hy : y < 256) (hz : z < 256) (w : World) :
    Calls Tryd.prog 21 #[.int .i64 k, .int .i64 x, .int .i64 y, .int .i64 z] w fun e w' => ∃ pv mv, e = .returned (actV (frontA k x y z) pv mv) ∧ ActR w w' (frontA k x y z) pv mv ∧ Chg [] w w' := by
  obtain ⟨K, hK⟩ : ∃ K, w.heap.size = K := ⟨_, rfl⟩
  have hF : frontA k x y z = { actZ with kind := 5, name := sideT x, other := sideF x } := by unfold frontA; rw [if_neg (by omega), if_neg (by omega), if_neg (by omega), if_neg (by omega), if_neg hyb]
  have hs := fun w' => sides_any x (by omega) w'
  have t1 : decide ((k : Int) < 6) = false := by simp; omega
  have t1' : decide (k < 6) = false := by simp; omega
  have t6 : ((k : Int) == 6) = false := by simp; omega
  have t7 : ((k : Int) == 7) = false := by simp; omega
  have t8 : ((k : Int) == 8) = false := by simp; omega
  have ty : decide (99 < (y : Int)) = false := by simp; omega
  have ty' : decide (99 < y) = false := by simp; omega
  rw [hF]
  generalize sideT x = sT at *
  generalize sideF x = sF at *
  clear hF
  go_enter Tryd.func21, Tryd.ntmps21
  go_wp2_with fail
  have hbK : Blk (w.alloc (.cells #[.int .i64 0, .int .i64 0, .int .i64 0, .string ⟨#[]⟩, .string ⟨#[]⟩, .string ⟨#[]⟩, .int .i64 0, .int .i64 0, .int .i64 0, .int .i64 0, .int .i64 0, .slice none 0 0, .slice none 0 0] 38)) K #[.int .i64 0, .int .i64 0, .int .i64 0, .string ⟨#[]⟩, .string ⟨#[]⟩, .string ⟨#[]⟩, .int .i64 0, .int .i64 0, .int .i64 0, .int .i64 0, .int .i64 0, .slice none 0 0, .slice none 0 0] 38 := Blk.new_at w _ _ hK
  have hc1 : Chg [] w (w.alloc (.cells #[.int .i64 0, .int .i64 0, .int .i64 0, .string ⟨#[]⟩, .string ⟨#[]⟩, .string ⟨#[]⟩, .int .i64 0, .int .i64 0, .int .i64 0, .int .i64 0, .int .i64 0, .slice none 0 0, .slice none 0 0] 38)) := (Chg.refl [] w).alloc _
  generalize w.alloc (.cells #[.int .i64 0, .int .i64 0, .int .i64 0, .string ⟨#[]⟩, .string ⟨#[]⟩, .string ⟨#[]⟩, .int .i64 0, .int .i64 0, .int .i64 0, .int .i64 0, .int .i64 0, .slice none 0 0, .slice none 0 0] 38) = w1 at *
  refine (hs _).mono ?_
  rintro e w2 ⟨rfl, rfl⟩
  clear hs
  have aT : ArrTy Tryd.prog 38 (#[Value.int .i64 5, .int .i64 0, .int .i64 0, .string (str sT), .string (str sF), .string ⟨#[]⟩, .int .i64 0, .int .i64 0, .int .i64 0, .int .i64 0, .int .i64 0, .slice none 0 0, .slice none 0 0]).size := act_ty
  have hss : (#[.int .i64 0, .int .i64 0, .int .i64 0, .string ⟨#[]⟩, .string ⟨#[]⟩, .string ⟨#[]⟩, .int .i64 0, .int .i64 0, .int .i64 0, .int .i64 0, .int .i64 0, .slice none 0 0, .slice none 0 0] : Array Value).size = (#[Value.int .i64 5, .int .i64 0, .int .i64 0, .string (str sT), .string (str sF), .string ⟨#[]⟩, .int .i64 0, .int .i64 0, .int .i64 0, .int .i64 0, .int .i64 0, .slice none 0 0, .slice none 0 0]).size := rfl
  have hone : ∀ v ∈ (#[Value.int .i64 5, .int .i64 0, .int .i64 0, .string (str sT), .string (str sF), .string ⟨#[]⟩, .int .i64 0, .int .i64 0, .int .i64 0, .int .i64 0, .int .i64 0, .slice none 0 0, .slice none 0 0]).toList, v.oneCell' = true := by simp [Value.oneCell']
  go_wp2_with (with_reducible refine wpList_stA rfl 38 _ _ rfl hbK aT hss hone rfl rfl ?_; intro w5 hb5 hc5 hs5)
  refine bodyPost_ret (results_A rfl _ _ hb5 aT rfl) rfl ⟨.slice none 0 0, .slice none 0 0, rfl, ?_⟩
  exact actR_nil hK hc1 hc5 rfl rfl
theorem itoa4 (n : Nat) (h : n < 4) (w : World) : Calls Tryd.prog 29 #[.int .i64 n] w fun e w' => e = .returned (.string (str [UInt8.ofNat (48 + n)])) ∧ w' = w := by
  have e : Lib.decDigits n = [UInt8.ofNat (48 + n)] := by
    rcases (by omega : n = 0 ∨ n = 1 ∨ n = 2 ∨ n = 3) with rfl | rfl | rfl | rfl <;> decide +kernel
  have h := Tryd.strconv_Itoa_small n (by omega) w
  rw [e] at h
  exact h
set_option maxRecDepth 100000 in
set_option maxHeartbeats 4000000 in
theorem front3 (k x y z : Nat) (hk : k = 7) (hx : x < 256) (hy : y < 256) (hz : z < 256) (w : World) :
    Calls Tryd.prog 21 #[.int .i64 k, .int .i64 x, .int .i64 y, .int .i64 z] w fun e w' => ∃ pv mv, e = .returned (actV (frontA k x y z) pv mv) ∧ ActR w w' (frontA k x y z) pv mv ∧ Chg [] w w' := by
  obtain ⟨K, hK⟩ : ∃ K, w.heap.size = K := ⟨_, rfl⟩
  have hF : frontA k x y z = { actZ with kind := 3, name := [116, UInt8.ofNat (48 + y % 4)], key := ((x % 8 : Nat) : Int) } := by unfold frontA; rw [if_neg (by omega), if_neg (by omega), if_pos hk]
  have hs := fun w' => sides_any x (by omega) w'
  have t1 : decide ((k : Int) < 6) = false := by simp; omega
  have t1' : decide (k < 6) = false := by simp; omega
  have t6 : ((k : Int) == 6) = false := by simp; omega
  have t7 : ((k : Int) == 7) = true := by simp; omega
  have hm8 : (x : Int) % 8 = ((x % 8 : Nat) : Int) := by omega
  have hm4 : (y : Int) % 4 = ((y % 4 : Nat) : Int) := by omega
  have hi := fun w' => itoa4 (y % 4) (by omega) w'
  have hcat : (⟨#[116]⟩ : ByteArray) ++ str [UInt8.ofNat (48 + y % 4)] = str [116, UInt8.ofNat (48 + y % 4)] := str_cat2 [116] [UInt8.ofNat (48 + y % 4)]
  have r1 := fun w => run_cat2 (P := Tryd.prog) hcat (by rw [str_size]; have : (⟨#[116]⟩ : ByteArray).size = 1 := rfl; simp; omega) w
  rw [hF]
  generalize x % 8 = x8 at *
  generalize UInt8.ofNat (48 + y % 4) = d at *
  have hy4 : y % 4 ≤ 3 := by omega
  generalize y % 4 = y4 at *
  generalize sideT x = sT at *
  generalize sideF x = sF at *
  clear hF hcat
  go_enter Tryd.func21, Tryd.ntmps21
  go_wp2_with fail
  have hbK : Blk (w.alloc (.cells #[.int .i64 0, .int .i64 0, .int .i64 0, .string ⟨#[]⟩, .string ⟨#[]⟩, .string ⟨#[]⟩, .int .i64 0, .int .i64 0, .int .i64 0, .int .i64 0, .int .i64 0, .slice none 0 0, .slice none 0 0] 38)) K #[.int .i64 0, .int .i64 0, .int .i64 0, .string ⟨#[]⟩, .string ⟨#[]⟩, .string ⟨#[]⟩, .int .i64 0, .int .i64 0, .int .i64 0, .int .i64 0, .int .i64 0, .slice none 0 0, .slice none 0 0] 38 := Blk.new_at w _ _ hK
  have hc1 : Chg [] w (w.alloc (.cells #[.int .i64 0, .int .i64 0, .int .i64 0, .string ⟨#[]⟩, .string ⟨#[]⟩, .string ⟨#[]⟩, .int .i64 0, .int .i64 0, .int .i64 0, .int .i64 0, .int .i64 0, .slice none 0 0, .slice none 0 0] 38)) := (Chg.refl [] w).alloc _
  generalize w.alloc (.cells #[.int .i64 0, .int .i64 0, .int .i64 0, .string ⟨#[]⟩, .string ⟨#[]⟩, .string ⟨#[]⟩, .int .i64 0, .int .i64 0, .int .i64 0, .int .i64 0, .int .i64 0, .slice none 0 0, .slice none 0 0] 38) = w1 at *
  refine (hs _).mono ?_
  rintro e w2 ⟨rfl, rfl⟩
  clear hs
  have aT : ArrTy Tryd.prog 38 (#[Value.int .i64 3, .int .i64 0, .int .i64 0, .string (str [116, d]), .string ⟨#[]⟩, .string ⟨#[]⟩, .int .i64 (x8 : Int), .int .i64 0, .int .i64 0, .int .i64 0, .int .i64 0, .slice none 0 0, .slice none 0 0]).size := act_ty
  have hss : (#[.int .i64 0, .int .i64 0, .int .i64 0, .string ⟨#[]⟩, .string ⟨#[]⟩, .string ⟨#[]⟩, .int .i64 0, .int .i64 0, .int .i64 0, .int .i64 0, .int .i64 0, .slice none 0 0, .slice none 0 0] : Array Value).size = (#[Value.int .i64 3, .int .i64 0, .int .i64 0, .string (str [116, d]), .string ⟨#[]⟩, .string ⟨#[]⟩, .int .i64 (x8 : Int), .int .i64 0, .int .i64 0, .int .i64 0, .int .i64 0, .slice none 0 0, .slice none 0 0]).size := rfl
  have hone : ∀ v ∈ (#[Value.int .i64 3, .int .i64 0, .int .i64 0, .string (str [116, d]), .string ⟨#[]⟩, .string ⟨#[]⟩, .int .i64 (x8 : Int), .int .i64 0, .int .i64 0, .int .i64 0, .int .i64 0, .slice none 0 0, .slice none 0 0]).toList, v.oneCell' = true := by simp [Value.oneCell']
  go_wp2_with fail
  refine (hi _).mono ?_
  rintro e w3 ⟨rfl, rfl⟩
  clear hi
  go_wp2_with (with_reducible refine wpList_stA rfl 38 _ _ rfl hbK aT hss hone rfl rfl ?_; intro w5 hb5 hc5 hs5)
  refine bodyPost_ret (results_A rfl _ _ hb5 aT rfl) rfl ⟨.slice none 0 0, .slice none 0 0, rfl, ?_⟩
  exact actR_nil hK hc1 hc5 rfl rfl
theorem front_any (k x y z : Nat) (hk : k < 11) (hx : x < 256) (hy : y < 256) (hz : z < 256) (w : World) :
    Calls Tryd.prog 21 #[.int .i64 k, .int .i64 x, .int .i64 y, .int .i64 z] w fun e w' => ∃ pv mv, e = .returned (actV (frontA k x y z) pv mv) ∧ ActR w w' (frontA k x y z) pv mv ∧ Chg [] w w' := by
  by_cases h6 : k < 6
  · exact front1 k x y z h6 hx hy hz w
  by_cases h7 : k = 6
  · exact front2 k x y z h7 hx hy hz w
  by_cases h8 : k = 7
  · exact front3 k x y z h8 hx hy hz w
  by_cases h9 : k = 8
  · by_cases ho : y % 2 = 1
    · exact front4 k x y z h9 ho hx hy hz w
    · exact front5 k x y z h9 ho hx hy hz w
  · by_cases hb : 99 < y
    · exact front6 k x y z (by omega) hb hx hy hz w
    · exact front7 k x y z (by omega) hb hx hy hz w
end Go.Proofs.YtgbbjbldlfpbcaaDoor
