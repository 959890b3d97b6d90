/- Contract of script.Pic. No statement of the seat is proved here. -/
import Derived.Test.YtgbbjbldlfpbcaaDoorPix
import Derived.Test.YtgbbjbldlfpbcaaDoorArr
import Derived.Deep.OwnRows
import Derived.Deep.LoopGhost
set_option linter.unusedVariables false
namespace Go.Aq
open Go.RowKit
theorem own_mk (w : World) (e : TypeId) (n : Nat) (z : Value) (h63 : n ≤ 9223372036854775807) : Own (w.alloc (.cells (madeCells #[z] n) e)) e 1 (.slice (some ⟨w.heap.size, 0, none⟩) n n) n (List.replicate n z) := by
  refine ⟨by simp, .inr ⟨w.heap.size, n, _, rfl, Nat.zero_le _, heap_alloc_new w _, Nat.le_refl _, by simpa [maxLen] using h63, ?_, ?_⟩⟩
  · have := toList_madeCells_one z n
    rw [← Array.length_toList, this]; simp
  · rw [toList_madeCells_one]; simp
/-- A picture's bytes up to a place, zeros behind. -/
def picRow (x y z i : Nat) : List UInt8 := (List.range (picN x y z)).map fun j => if j < i then picB x y z j else 0
theorem picRow_len (x y z i : Nat) : (picRow x y z i).length = picN x y z := by simp [picRow]
theorem picRow_zero (x y z : Nat) : Bs (picRow x y z 0) = List.replicate (picN x y z) (.int .u8 0) := by
  simp only [picRow, Bs, Nat.not_lt_zero, if_false, List.map_map]
  apply List.ext_getElem
  · simp
  · intro i h1 h2; simp [Bc]
theorem picRow_all (x y z : Nat) : picRow x y z (picN x y z) = picP x y z := by
  unfold picRow picP
  apply List.map_congr_left
  intro j hj
  rw [if_pos (List.mem_range.1 hj)]
theorem picRow_set (x y z i : Nat) (h : i < picN x y z) : (Bs (picRow x y z i)).set i (.int .u8 (picB x y z i).toNat) = Bs (picRow x y z (i + 1)) := by
  apply List.ext_getElem
  · simp [Bs, picRow_len]
  · intro j h1 h2
    rw [List.getElem_set]
    simp only [Bs, List.getElem_map, picRow, List.getElem_range, Bc]
    by_cases hij : i = j
    · subst hij
      rw [if_pos rfl, if_pos (by omega)]
    · rw [if_neg hij]
      by_cases hj : j < i
      · rw [if_pos hj, if_pos (by omega)]
      · rw [if_neg hj, if_neg (by omega)]
theorem pic_byte (x y z i : Nat) : ((x : Int) % 256 * ((i : Int) % 256) + (y : Int) % 256 * ((i : Int) / 7) + (z : Int)) % 256 = ((picB x y z i).toNat : Int) := by
  have h1 : (picB x y z i).toNat = (x % 256 * i + y % 256 * (i / 7) + z % 256) % 256 := UInt8.toNat_ofNat'
  have hA : ((x % 256 * (i % 256) : Nat) : Int) = (x : Int) % 256 * ((i : Int) % 256) := by rw [Int.natCast_mul]; rfl
  have hB : ((y % 256 * (i / 7) : Nat) : Int) = (y : Int) % 256 * ((i : Int) / 7) := by rw [Int.natCast_mul]; rfl
  rw [h1, ← hA, ← hB]
  have e1 : (x % 256) * (i % 256) % 256 = (x % 256 * i) % 256 := by rw [Nat.mul_mod (x % 256) i, Nat.mod_mod]
  generalize x % 256 * (i % 256) = a at *
  generalize y % 256 * (i / 7) = b at *
  generalize x % 256 * i = c at *
  omega
end Go.Aq
namespace Go.Proofs.YtgbbjbldlfpbcaaDoor
open Go.RowKit Go.Aq Go.Aq.Wd
theorem ras_ty : ArrTy Tryd.prog 34 5 := ⟨⟨_, Tryd.underlying34, rfl⟩, by kernel_rfl⟩
theorem info_u8 : (Tryd.prog.info? 5).map (fun i => (i.zero, i.size, i.bytes)) = some (some (.int .u8 0), 1, 1) := by kernel_rfl
set_option maxRecDepth 100000 in
set_option maxHeartbeats 4000000 in
theorem pic_any (x y z : Int) (hx : x ≤ 9223372036854775807) (hy : y ≤ 9223372036854775807) (hz : z ≤ 9223372036854775807) (w : World) :
    Calls Tryd.prog 12 #[.int .i64 x, .int .i64 y, .int .i64 z] w fun e w' => ∃ pv, e = .returned (rasV (picS x.toNat y.toNat z.toNat) pv) ∧
      Sees w' 1 pv (picN x.toNat y.toNat z.toNat) (Bs (picP x.toNat y.toNat z.toNat)) ∧ (∀ k ∈ eyes pv, w.heap.size ≤ k) ∧ Chg [] w w' := by
  obtain ⟨K, hK⟩ : ∃ K, w.heap.size = K := ⟨_, rfl⟩
  have ex : max x 0 = (x.toNat : Int) := by omega
  have ey : max y 0 = (y.toNat : Int) := by omega
  have ez : max z 0 = (z.toNat : Int) := by omega
  have bx : x.toNat ≤ 9223372036854775807 := by omega
  have by' : y.toNat ≤ 9223372036854775807 := by omega
  have bz : z.toNat ≤ 9223372036854775807 := by omega
  generalize x.toNat = X at *
  generalize y.toNat = Y at *
  generalize z.toNat = Z at *
  obtain ⟨sa, hsa⟩ : ∃ sa : Int, sa = 1 + (X : Int) % 12 := ⟨_, rfl⟩
  obtain ⟨sb, hsb⟩ : ∃ sb : Int, sb = 1 + (Y : Int) % 10 := ⟨_, rfl⟩
  obtain ⟨sc, hsc⟩ : ∃ sc : Int, sc = 1 + (Z : Int) % 4 := ⟨_, rfl⟩
  obtain ⟨sd, hsd⟩ : ∃ sd : Int, sd = if 11 < Z % 16 then 16 else 8 := ⟨_, rfl⟩
  have HS : Hid (picS X Y Z = ⟨sa, sb, sc, sd⟩) := by
    show _ = _
    unfold picS; rw [hsa, hsb, hsc, hsd, Int.natCast_add, Int.natCast_add, Int.natCast_add]; rfl
  have HSA := Lib.hid (And.intro hsa (And.intro hsb (And.intro hsc hsd)))
  clear hsa hsb hsc hsd
  go_enter Tryd.func12, Tryd.ntmps12
  go_upto_if 28 with (fail)
  go_cut [] from 26 to 29 (fun wx => Blk wx K #[.int .i64 0, .int .i64 0, .int .i64 0, .int .i64 0, .slice none 0 0] 34 ∧ Blk wx (K + 1) #[.int .i64 sa, .int .i64 sb, .int .i64 sc, .int .i64 sd] 32 ∧ wx.heap.size = K + 1 + 1 ∧ Chg [] w wx)
  case first =>
    obtain ⟨h1, h2, h3, h4⟩ := HSA.out
    clear HSA HS
    by_cases h16 : 11 < Z % 16
    · rw [if_pos h16] at h4
      subst h1 h2 h3 h4
      have t1 : decide ((11 : Int) < (Z : Int) % 16) = true := decide_eq_true (by omega)
      go_wp2_with fail
      go_meet
      have hs1 : ∀ o, (w.alloc o).heap.size = K + 1 := fun o => by simp [hK]
      exact ⟨(Blk.new_at w _ _ hK).alloc _, Blk.new_at (w.alloc _) _ _ (hs1 _), by simp [hK], ((Chg.refl [] w).alloc _).alloc _⟩
    · rw [if_neg h16] at h4
      subst h1 h2 h3 h4
      have t1 : decide ((11 : Int) < (Z : Int) % 16) = false := decide_eq_false (by omega)
      go_wp2_with fail
      go_meet
      have hs1 : ∀ o, (w.alloc o).heap.size = K + 1 := fun o => by simp [hK]
      exact ⟨(Blk.new_at w _ _ hK).alloc _, Blk.new_at (w.alloc _) _ _ (hs1 _), by simp [hK], ((Chg.refl [] w).alloc _).alloc _⟩
  case rest =>
    obtain ⟨hb0, hb1, hs2, hc2⟩ := hcut
    generalize wc = w2 at *
    have hsz := fun w' => size_any (picS X Y Z) w'
    rw [picS_size, HS.out] at hsz
    unfold shpV at hsz
    simp only at hsz
    have hnb := picN_le X Y Z
    have HN : ∀ N, N = picN X Y Z → Hid (N = picN X Y Z) := fun N h => h
    obtain ⟨N, hN⟩ : ∃ N, N = picN X Y Z := ⟨_, rfl⟩
    rw [← hN] at hsz hnb
    have HN := Lib.hid hN
    clear hN
    have hmk := run_make_row' (P := Tryd.prog) 22 5 (.int .u8 0) 1 Tryd.underlying22 info_u8 rfl .i64 .i64 N (by omega) (by omega)
    have HBX := Lib.hid (And.intro bx (And.intro by' bz))
    clear ex ey ez hx hy hz bx by' bz
    go_wp2_with fail
    go_cut [8] from 30 to 34 (fun s wx => ∃ R v, s = .pointer (some ⟨R, 0, none⟩) ∧ K + 1 < R ∧ Blk wx R #[.int .i64 sa, .int .i64 sb, .int .i64 sc, .int .i64 sd, v] 34 ∧ Own wx 5 1 v N (List.replicate N (.int .u8 0)) ∧ (∀ k ∈ v.ownBlock.toList, K + 1 < k ∧ k ≠ R) ∧ Chg [] w2 wx)
    case first =>
      go_wp2_with fail
      go_region_held3 (fun w' => w'.cell? ⟨K + 1, 0, none⟩ = some (.int .i64 sa) ∧ w'.cell? ⟨K + 1, 1, none⟩ = some (.int .i64 sb) ∧ w'.cell? ⟨K + 1, 2, none⟩ = some (.int .i64 sc) ∧ w'.cell? ⟨K + 1, 3, none⟩ = some (.int .i64 sd)) (first | with_reducible exact Blk4 hb1.drew | with_reducible exact Blk4 (hb1.alloc _).drew | with_reducible exact Blk4 hb1 | with_reducible exact Blk4 (hb1.drew.alloc _) | with_reducible exact Blk4 hb3 | with_reducible exact Blk4 (hb3.alloc _) | with_reducible exact Blk4 ((hb3.alloc _).alloc _) | with_reducible exact Blk4 ((((((hb3.alloc _).set_ne (by simp) _).set_ne (by simp) _).set_ne (by simp) _).set_ne (by simp) _).set_ne (by simp) _))
        (first | (go_at_call 25; refine (hsz _).mono ?_; rintro e w3 ⟨rfl, c3⟩; obtain ⟨H, hH⟩ : ∃ H, w3.heap.size = H := ⟨_, rfl⟩; first | (have hb3 := hb1.drew.chg0 c3) | (have hb3 := (hb1.drew.alloc _).chg0 c3; have hbr := (Blk.new_at w2.drew #[.int .i64 0, .int .i64 0, .int .i64 0, .int .i64 0, .slice none 0 0] 34 hs2).chg0 c3; have hbl := hbr.lt; have hbm := hbr.alloc (.cells (madeCells #[.int .u8 0] N) 5); obtain ⟨g0, g1, g2, g3, g4⟩ := Blk5 hbm; have q0 := hbm.frozen 0; have q1 := hbm.frozen 1; have q2 := hbm.frozen 2; have q3 := hbm.frozen 3; have q4 := hbm.frozen 4)))
      all_goals go_wp2
      all_goals go_meet
      · have hsz3 : K + 1 + 1 ≤ H := by have := c3.size; rw [hH] at this; change w2.heap.size ≤ H at this; omega
        have ho := own_mk w3 5 N (.int .u8 0) (by omega)
        rw [hH] at ho
        exact ⟨H + 1, _, rfl, by omega, Blk.new_at _ _ _ (by simp [hH]), ho.alloc _, by simp [Value.ownBlock]; omega, ((((Chg.refl [] w2).drew).nil c3).alloc _).alloc _⟩
      · have hsz3 : K + 1 + 1 ≤ H := by have := c3.size; rw [hH] at this; change w2.heap.size ≤ H at this; omega
        have ho := own_mk (w3.alloc (.cells #[.int .i64 sa, .int .i64 sb, .int .i64 sc, .int .i64 sd, .slice (some ⟨H + 1, 0, none⟩) N N] 34)) 5 N (.int .u8 0) (by omega)
        have hs1 : ∀ o, (w3.alloc o).heap.size = H + 1 := fun o => by simp [hH]
        rw [hs1] at ho
        exact ⟨H, _, rfl, by omega, (Blk.new_at w3 _ _ hH).alloc _, ho, by simp [Value.ownBlock]; omega, ((((Chg.refl [] w2).drew).nil c3).alloc _).alloc _⟩
      · have hsz3 : K + 1 + 1 + 1 ≤ H := by have := c3.size; rw [hH] at this; simp [hs2] at this; omega
        have ho := own_mk w3 5 N (.int .u8 0) (by omega)
        rw [hH] at ho
        have hne : ∀ i : Nat, ({ block := K + 1 + 1, off := i, spot := none } : Addr).block ∉ (Value.slice (some ⟨H, 0, none⟩) N N).ownBlock.toList := fun i => by simp [Value.ownBlock]; omega
        refine ⟨K + 1 + 1, _, rfl, by omega, ((((hbm.set 0 _).set 1 _).set 2 _).set 3 _).set 4 _, ((((ho.set_ne (hne 0) _).set_ne (hne 1) _).set_ne (hne 2) _).set_ne (hne 3) _).set_ne (hne 4) _, by simp [Value.ownBlock]; omega, ?_⟩
        have hc0 : Chg [] w2 (w3.alloc (.cells (madeCells #[.int .u8 0] N) 5)) := ((((Chg.refl [] w2).alloc _).drew).nil c3).alloc _
        exact ((((hc0.setCell (.inr (by simp [hs2])) _).setCell (.inr (by simp [hs2])) _).setCell (.inr (by simp [hs2])) _).setCell (.inr (by simp [hs2])) _).setCell (.inr (by simp [hs2])) _
    case rest =>
      obtain ⟨R, v, rfl, hRK, hbR, ho, hvb, hc3⟩ := hcut
      generalize wc = w4 at *
      obtain ⟨g, cap, rfl, hncap, hc63, hg⟩ := ho.pos (by omega)
      have hb04 := hb0.chg0 hc3
      have hcw := hc2.nil hc3
      have hgR := hvb g (by simp [Value.ownBlock])
      have e0 : List.replicate N (Value.int .u8 0) = Bs (picRow X Y Z 0) := by rw [picRow_zero, HN.out]
      rw [e0] at ho
      clear hb0 hb1 hs2 hc2 hc3 hvb hsz hmk e0 hg
      obtain ⟨x0, x1, x2, x3, x4⟩ := Blk5 hbR
      have HX := Lib.hid (And.intro hbR (And.intro ho (And.intro hb04 hcw)))
      clear hbR ho hb04 hcw
      go_wp2_with fail
      go_loopg [38] N (fun k vi wr => ∃ (i : Nat), vi = .int .i64 i ∧ i + k = N ∧ Own wr 5 1 (.slice (some ⟨g, 0, none⟩) N cap) N (Bs (picRow X Y Z i)) ∧ Blk wr R #[.int .i64 sa, .int .i64 sb, .int .i64 sc, .int .i64 sd, .slice (some ⟨g, 0, none⟩) N cap] 34 ∧ Blk wr K #[.int .i64 0, .int .i64 0, .int .i64 0, .int .i64 0, .slice none 0 0] 34 ∧ Chg [] w wr)
      case atStart => exact ⟨0, rfl, by omega, HX.out.2.1, HX.out.1, HX.out.2.2.1, HX.out.2.2.2⟩
      case round =>
        obtain ⟨i, rfl, hik, ho, hbR, hbK, hc⟩ := hrel
        clear x0 x1 x2 x3 x4 HX
        have hib : (i : Int) ≤ 960 := by omega
        have hib' : i ≤ 960 := by omega
        obtain ⟨x0, x1, x2, x3, x4⟩ := Blk5 hbR
        by_cases hi : i < N
        · have t1 : decide ((i : Int) < (N : Int)) = true := by simp; omega
          have t1' : decide (i < N) = true := by simp; omega
          have hce := ho.cellAt i (by omega)
          have hfe := ho.frozenAt i
          rw [List.getElem?_eq_getElem (by rw [Bs_length, picRow_len, ← HN.out]; exact hi)] at hce
          generalize (Bs (picRow X Y Z i))[i]'_ = old at *
          have HO := Lib.hid (And.intro ho (And.intro hbR (And.intro hbK hc)))
          clear ho hbR hbK hc
          go_wp2_with fail
          go_roundg (gk - 1)
          case measure => omega
          case rel =>
            obtain ⟨ho, hbR, hbK, hc⟩ := HO.out
            rw [pic_byte]
            have hos := ho.set i (.int .u8 (picB X Y Z i).toNat)
            rw [picRow_set X Y Z i (by rw [← HN.out]; exact hi)] at hos
            exact ⟨i + 1, by go_num, by omega, hos, hbR.set_ne (by simp; omega) _, hbK.set_ne (by simp; omega) _, hc.setCell (.inr (by simp; omega)) _⟩
        · have t1 : decide ((i : Int) < (N : Int)) = false := by simp; omega
          have t1' : decide (i < N) = false := by simp; omega
          obtain rfl : i = N := by omega
          rw [HN.out, picRow_all, ← HN.out] at ho
          have hc' := hc
          have HO := Lib.hid (And.intro ho hc)
          have aR : ArrTy Tryd.prog 34 (#[Value.int .i64 sa, .int .i64 sb, .int .i64 sc, .int .i64 sd, .slice (some ⟨g, 0, none⟩) i cap]).size := ras_ty
          have hss : (#[Value.int .i64 0, .int .i64 0, .int .i64 0, .int .i64 0, .slice none 0 0]).size = (#[Value.int .i64 sa, .int .i64 sb, .int .i64 sc, .int .i64 sd, .slice (some ⟨g, 0, none⟩) i cap]).size := rfl
          have hone : ∀ v ∈ (#[Value.int .i64 sa, .int .i64 sb, .int .i64 sc, .int .i64 sd, .slice (some ⟨g, 0, none⟩) i cap]).toList, v.oneCell' = true := by simp [Value.oneCell']
          clear ho hc hc' x0 x1 x2 x3 x4 hik
          go_wp2_with (first
            | (with_reducible refine wpList_ldA rfl 34 _ rfl hbR aR rfl ?_)
            | (with_reducible refine wpList_stA rfl 34 _ _ rfl hbK aR hss hone rfl rfl ?_; intro w5 hb5 hc5 hs5))
          refine bodyPost_ret (results_A rfl _ _ hb5 aR rfl) rfl ⟨.slice (some ⟨g, 0, none⟩) i cap, by rw [HS.out]; rfl, ?_⟩
          obtain ⟨ho, hc⟩ := HO.out
          rw [← HN.out]
          refine ⟨(ho.sees).chg hc5 (fun k hk => ?_), fun k hk => ?_, hc.trans hc5 (fun k hk => ?_)⟩
          · have := eyes_own _ k hk
            simp [Value.ownBlock] at this
            simp; omega
          · have := eyes_own _ k hk
            simp [Value.ownBlock] at this
            omega
          · simp at hk; right; omega
end Go.Proofs.YtgbbjbldlfpbcaaDoor
