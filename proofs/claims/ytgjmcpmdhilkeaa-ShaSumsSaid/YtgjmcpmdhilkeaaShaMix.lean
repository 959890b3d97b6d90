/- Contracts of math/bits.RotateLeft32, sha.schedule, constants.mix. No statement of the seat is proved here. -/
import Derived.Test.YtgjmcpmdhilkeaaShaAll
import Derived.BigRegion
import Derived.Test.YtgjmcpmdhilkeaaArr
set_option linter.unusedVariables false
namespace Go.Aq.Sha
theorem rotr_lt (x n : Nat) : rotr x n < 4294967296 := Nat.mod_lt _ (by decide)
theorem rot_count (k : Nat) (h1 : 1 ≤ k) (h2 : k ≤ 31) : bits .and .u64 (IntKind.u64.wrap (-(k : Int))) 31 = ((32 - k : Nat) : Int) := by
  have e : IntKind.u64.wrap (-(k : Int)) = ((18446744073709551616 - k : Nat) : Int) := by rw [IntKind.wrap_u64]; omega
  rw [e]
  have := (bits_u64 (18446744073709551616 - k) 31 (by omega) (by decide)).1
  have h31 : (18446744073709551616 - k) &&& 31 = (18446744073709551616 - k) % 32 := Nat.and_two_pow_sub_one_eq_mod _ 5
  rw [h31] at this
  refine Eq.trans (by rfl) (this.trans ?_)
  congr 1
  omega
theorem rot_or (x k : Nat) (hx : x < 4294967296) (h1 : 1 ≤ k) (h2 : k ≤ 31) : bits .or .u32 (IntKind.u32.wrap ((x : Int) * 2 ^ (32 - k))) ((x : Int) / 2 ^ k) = ((rotr x k : Nat) : Int) := by
  have e1 : IntKind.u32.wrap ((x : Int) * 2 ^ (32 - k)) = ((x * 2 ^ (32 - k) % 4294967296 : Nat) : Int) := by rw [IntKind.wrap_u32]; simp
  have e2 : (x : Int) / 2 ^ k = ((x / 2 ^ k : Nat) : Int) := by simp
  have hlt : x / 2 ^ k < 4294967296 := Nat.lt_of_le_of_lt (Nat.div_le_self _ _) hx
  rw [e1, e2, (bits_u32 _ _ (Nat.mod_lt _ (by decide)) hlt).2.1]
  congr 1
  unfold rotr m32
  rw [Nat.shiftRight_eq_div_pow, Nat.shiftLeft_eq, Nat.or_comm]
  have hm : (4294967296 : Nat) = 2 ^ 32 := by decide
  rw [hm] at *
  rw [Nat.or_mod_two_pow, Nat.mod_eq_of_lt hlt]
theorem spread_len : ∀ (n : Nat) (w : List Nat), (spread n w).length = w.length + n
  | 0, w => rfl
  | n + 1, w => by rw [spread, spread_len n]; simp; omega
theorem spread_old : ∀ (n : Nat) (w : List Nat) (j : Nat), j < w.length → (spread n w)[j]? = w[j]?
  | 0, w, j, h => rfl
  | n + 1, w, j, h => by rw [spread, spread_old n _ j (by simp; omega), List.getElem?_append_left h]
theorem spread_take (n : Nat) (w : List Nat) : (spread n w).take w.length = w := by
  apply List.ext_getElem?
  intro j
  by_cases h : j < w.length
  · rw [List.getElem?_take_of_lt h, spread_old n w j h]
  · rw [List.getElem?_eq_none (by simp; omega), List.getElem?_eq_none (by omega)]
theorem spread_next : ∀ (n : Nat) (w : List Nat) (j : Nat), w.length ≤ j → j < w.length + n → (spread n w)[j]? = some (nextW ((spread n w).take j))
  | 0, w, j, h1, h2 => by omega
  | n + 1, w, j, h1, h2 => by
    rw [spread]
    by_cases hj : j = w.length
    · subst hj
      rw [spread_old n _ _ (by simp)]
      have : (spread n (w ++ [nextW w])).take w.length = w := by
        have h := spread_take n (w ++ [nextW w])
        have h2 := congrArg (List.take w.length) h
        rw [List.take_take, Nat.min_eq_left (by simp)] at h2
        simpa using h2
      rw [this]
      simp
    · exact spread_next n _ j (by simp; omega) (by simp; omega)
theorem getD_take (l : List Nat) (i j : Nat) (h : j < i) : (l.take i).getD j 0 = l.getD j 0 := by
  simp [List.getD_eq_getElem?_getD, List.getElem?_take_of_lt h]
theorem sched_len (b : List UInt8) (a : Nat) : (sched b a).length = 64 := by simp [sched, spread_len, first16]
theorem sched_first (b : List UInt8) (a i : Nat) (h : i < 16) : (sched b a)[i]? = some (word b (a + 4 * i)) := by
  unfold sched
  rw [spread_old _ _ _ (by simp [first16]; exact h)]
  simp [first16, h]
theorem sched_next (b : List UInt8) (a i : Nat) (h : 16 ≤ i) (h2 : i < 64) :
    (sched b a)[i]? = some (((sched b a).getD (i - 16) 0 + s0 ((sched b a).getD (i - 15) 0) + (sched b a).getD (i - 7) 0 + s1 ((sched b a).getD (i - 2) 0)) % m32) := by
  have e := spread_next 48 (first16 b a) i (by simpa [first16] using h) (by simpa [first16] using h2)
  rw [show spread 48 (first16 b a) = sched b a from rfl] at e
  rw [e]
  unfold nextW
  have hl : ((sched b a).take i).length = i := by rw [List.length_take, sched_len]; omega
  simp only [hl]
  rw [getD_take _ _ _ (by omega), getD_take _ _ _ (by omega), getD_take _ _ _ (by omega), getD_take _ _ _ (by omega)]
theorem word_lt (b : List UInt8) (i : Nat) : word b i < 4294967296 := by
  unfold word
  have h0 := (b.getD i 0).toNat_lt
  have h1 := (b.getD (i + 1) 0).toNat_lt
  have h2 := (b.getD (i + 2) 0).toNat_lt
  have h3 := (b.getD (i + 3) 0).toNat_lt
  omega
theorem sched_lt (b : List UInt8) (a i : Nat) : (sched b a).getD i 0 < 4294967296 := by
  rw [List.getD_eq_getElem?_getD]
  by_cases h : i < 16
  · rw [sched_first b a i h]; exact word_lt _ _
  · by_cases h2 : i < 64
    · rw [sched_next b a i (by omega) h2]; exact Nat.mod_lt _ (by decide)
    · rw [List.getElem?_eq_none (by rw [sched_len]; omega)]; decide
/-- Words as cells. -/
def Ws (l : List Nat) : List Value := l.map fun n => .int .u32 (n : Nat)
theorem Ws_length (l : List Nat) : (Ws l).length = l.length := by simp [Ws]
theorem Ws_get (l : List Nat) (j : Nat) (h : j < l.length) : (Ws l)[j]? = some (.int .u32 (l.getD j 0 : Nat)) := by simp [Ws, h, List.getD_eq_getElem?_getD]
theorem Ws_set (l : List Nat) (j n : Nat) : (Ws l).set j (.int .u32 (n : Nat)) = Ws (l.set j n) := by simp [Ws, List.map_set]
def prt (l : List Nat) (n i : Nat) : List Nat := l.take i ++ List.replicate (n - i) 0
theorem prt_length (l : List Nat) (n i : Nat) (h : i ≤ l.length) (hn : l.length = n) : (prt l n i).length = n := by simp [prt]; omega
theorem prt_get (l : List Nat) (n i j : Nat) (h : i ≤ l.length) (hj : j < i) : (prt l n i).getD j 0 = l.getD j 0 := by
  unfold prt
  rw [List.getD_eq_getElem?_getD, List.getElem?_append_left (by simp; omega), List.getElem?_take_of_lt hj, List.getD_eq_getElem?_getD]
theorem prt_set (l : List Nat) (n i x : Nat) (hn : l.length = n) (h : i < n) (hx : l[i]? = some x) : (prt l n i).set i x = prt l n (i + 1) := by
  unfold prt
  have hl : (l.take i).length = i := by simp; omega
  rw [List.set_append_right _ _ (by omega), hl, Nat.sub_self, show n - i = (n - (i + 1)) + 1 by omega, List.replicate_succ, List.set_cons_zero]
  obtain ⟨h1, h2⟩ := List.getElem?_eq_some_iff.1 hx
  rw [List.take_succ_eq_append_getElem h1, h2]
  simp
theorem prt_zero (l : List Nat) (n : Nat) : prt l n 0 = List.replicate n 0 := by simp [prt]
theorem prt_all (l : List Nat) (n : Nat) (h : l.length = n) : prt l n n = l := by simp [prt, ← h]
end Go.Aq.Sha
namespace Go.Proofs.Ytgjmcpmdhilkeaa
open Go.RowKit Go.Aq Go.Aq.Sha
set_option maxHeartbeats 400000 in
theorem rot_nat (w : World) (x k : Nat) (hx : x < 4294967296) (h1 : 1 ≤ k) (h2 : k ≤ 31) : Calls Try.prog 29 #[.int .u32 x, .int .i64 (-(k : Int))] w fun e w' => e = .returned (.int .u32 (rotr x k : Nat)) ∧ w = w' := by
  have hs := rot_count k h1 h2
  obtain ⟨s, hsk⟩ : ∃ s, 32 - k = s := ⟨_, rfl⟩
  have HO := Lib.hid (rot_or x k hx h1 h2)
  rw [hsk] at hs HO
  have hd : (32 : Int) - (s : Int) = (k : Int) := by omega
  have hsb : s ≤ 31 ∧ 1 ≤ s := by omega
  obtain ⟨hs1, hs2⟩ := hsb
  have HSK := Lib.hid hsk; clear hsk
  go_enter Try.func29, Try.ntmps29
  go_wp2
  go_ret
  exact ⟨ret_int HO.out, rfl⟩
theorem rotL (w : World) (x : Nat) (c : Int) (k : Nat) (hc : c = -(k : Int)) (hx : x < 4294967296) (h1 : 1 ≤ k) (h2 : k ≤ 31) : Calls Try.prog 29 #[.int .u32 x, .int .i64 c] w fun e w' => e = .returned (.int .u32 (rotr x k : Nat)) ∧ w = w' := by
  subst hc
  exact rot_nat w x k hx h1 h2
set_option maxHeartbeats 400000 in
set_option maxRecDepth 100000 in
theorem readBigI (w : World) (v : Value) (n at_ wd : Nat) (c : Int) (hc : c = (at_ : Nat)) (b : List UInt8) (hv : Sees w 1 v n (Bs b)) (h1 : 1 ≤ wd) (h6 : wd ≤ 6) (ha : at_ + wd ≤ n) (hn : n ≤ 4611686018427387904) {x : Nat} (hx : beVal ((b.drop at_).take wd) = x) :
    Calls Try.prog 35 #[v, .int .i64 c, .int .i64 wd] w fun e w' => e = .returned (.tuple #[.int .i64 x, .int .i64 0]) ∧ w = w' := by
  subst hc hx
  exact readBig_ok w v n at_ wd b hv h1 h6 ha hn
theorem word_be (b : List UInt8) (i : Nat) (h : i + 4 ≤ b.length) : beVal ((b.drop i).take 4) = word b i := by
  have e : (b.drop i).take 4 = [b[i]'(by omega), b[i + 1]'(by omega), b[i + 2]'(by omega), b[i + 3]'(by omega)] := by
    apply List.ext_getElem
    · simp; omega
    · intro j h1 h2
      simp only [List.length_cons, List.length_nil] at h2
      simp only [List.getElem_take, List.getElem_drop]
      match j, h2 with
      | 0, _ => rfl
      | 1, _ => rfl
      | 2, _ => rfl
      | 3, _ => rfl
  rw [e]
  unfold word beVal
  simp only [List.foldl_cons, List.foldl_nil, List.getD_eq_getElem?_getD]
  rw [List.getElem?_eq_getElem (by omega), List.getElem?_eq_getElem (by omega), List.getElem?_eq_getElem (by omega), List.getElem?_eq_getElem (by omega)]
  simp only [Option.getD_some]
  omega
theorem x32 (a b : Nat) (ha : a < 4294967296) (hb : b < 4294967296) : ∃ c : Nat, c < 4294967296 ∧ bits .xor .u32 (a : Int) (b : Int) = (c : Int) ∧ Hid (c = a ^^^ b) :=
  ⟨a ^^^ b, by have hm : (4294967296 : Nat) = 2 ^ 32 := by decide
               rw [hm] at *; exact Nat.xor_lt_two_pow ha hb, (bits_u32 a b ha hb).2.2, Lib.hid rfl⟩
theorem a32 (a b : Nat) (ha : a < 4294967296) (hb : b < 4294967296) : ∃ c : Nat, c < 4294967296 ∧ bits .and .u32 (a : Int) (b : Int) = (c : Int) ∧ Hid (c = a &&& b) :=
  ⟨a &&& b, by have hm : (4294967296 : Nat) = 2 ^ 32 := by decide
               rw [hm] at *; exact Nat.and_lt_two_pow a hb, (bits_u32 a b ha hb).1, Lib.hid rfl⟩
set_option maxHeartbeats 1000000 in
set_option maxRecDepth 100000 in
theorem schedule_any (w : World) (v : Value) (b : List UInt8) (hv : Sees w 1 v 64 (Bs b)) :
    Calls Try.prog 28 #[v] w fun e w' => e = .returned (.agg (Ws (sched b 0)).toArray) ∧ Chg [] w w' := by
  have hz : ∀ w, (zeroValue 35).run Try.prog w = .ok (.agg (Ws (prt [] 64 0)).toArray) w := fun _ => by kernel_rfl
  have hbl : b.length = 64 := by have := hv.len; rw [Bs_length] at this; omega
  have HBL := Lib.hid hbl; clear hbl
  have e0 : prt [] 64 0 = prt (sched b 0) 64 0 := by rw [prt_zero, prt_zero]
  rw [e0] at hz
  clear e0
  have HF := Lib.hid (sched_first b 0)
  have HX := Lib.hid (sched_next b 0)
  have HWL := Lib.hid (sched_len b 0)
  have HLT := Lib.hid (sched_lt b 0)
  generalize sched b 0 = W at *
  go_enter Try.func28, Try.ntmps28
  go_upto_region 2 with (fail)
  clear hz
  have hb0 := (Blk.new w (Ws (prt W 64 0)).toArray 35).alloc (.cells (Ws (prt W 64 0)).toArray 35)
  have hb1 := Blk.new_at (w.alloc (.cells (Ws (prt W 64 0)).toArray 35)) (Ws (prt W 64 0)).toArray 35 (k := w.heap.size + 1) (by simp)
  have hc := ((Chg.refl [] w).alloc (.cells (Ws (prt W 64 0)).toArray 35)).alloc (.cells (Ws (prt W 64 0)).toArray 35)
  generalize (w.alloc (.cells (Ws (prt W 64 0)).toArray 35)).alloc (.cells (Ws (prt W 64 0)).toArray 35) = w1 at *
  obtain ⟨B0, hB0⟩ : ∃ B, B = w.heap.size := ⟨_, rfl⟩
  obtain ⟨B, hB⟩ : ∃ B, B = w.heap.size + 1 := ⟨_, rfl⟩
  rw [← hB] at hb1 ⊢
  rw [← hB0] at hb0 ⊢
  have HB0 := Lib.hid hB0; clear hB0
  have HB := Lib.hid hB; clear hB
  have hzs : (Ws (prt W 64 0)).toArray.size = (Ws W).toArray.size := by rw [List.size_toArray, Ws_length, List.size_toArray, Ws_length, HWL.out, prt_zero, List.length_replicate]
  have HZS := Lib.hid hzs; clear hzs
  generalize prt W 64 0 = Z at hb0 HZS
  go_wp2_with fail
  go_loopg [11] 64 (fun k vi wr => ∃ (i : Nat), vi = .int .i64 i ∧ i + k = 64 ∧ Blk wr B (Ws (prt W 64 i)).toArray 35 ∧ Blk wr B0 (Ws Z).toArray 35 ∧ Chg [] w wr)
  case atStart => exact ⟨0, rfl, by omega, hb1, hb0, hc⟩
  case round =>
    clear hb0 hb1 hc
    obtain ⟨i, rfl, hik, hb1, hb0, hc⟩ := hrel
    by_cases hlt : i < 64
    · have t64 : decide ((i : Int) < 64) = true := by simp; omega
      have i64 : (i : Int) < 64 := by omega
      have HIK := Lib.hid hik; clear hik
      have hlen : (prt W 64 i).length = 64 := prt_length W 64 i (by rw [HWL.out]; omega) HWL.out
      have f0 := hb1.frozen i
      have x0 : ∃ u, wr.cell? ⟨B, i, none⟩ = some u := by
        rw [hb1.cell]
        exact ⟨_, List.getElem?_toArray ▸ List.getElem?_eq_getElem (by rw [Ws_length, hlen]; omega)⟩
      obtain ⟨u, x0⟩ := x0
      by_cases h16 : i < 16
      · have t16 : decide ((i : Int) < 16) = true := by simp; omega
        have hwd := HF.out i h16
        have hwl := word_lt b (0 + 4 * i)
        rw [Nat.zero_add] at hwd hwl
        have hst := prt_set W 64 i _ HWL.out hlt hwd
        have hbe := word_be b (4 * i) (by have := HBL.out; omega)
        generalize word b (4 * i) = x at *
        have HBE := Lib.hid hbe
        have HST := Lib.hid hst
        clear hwd hst hbe hlen
        go_wp2_with fail
        refine (readBigI wr v 64 (4 * i) 4 _ (by omega) b (hv.chg0 hc) (by omega) (by omega) (by omega) (by omega) HBE.out).mono ?_
        rintro e w2 ⟨rfl, rfl⟩
        go_wp2_with fail
        go_roundg (gk - 1)
        case measure => have := HIK.out; omega
        case rel =>
          have hb2 := hb1.set i (.int .u32 (x : Nat))
          rw [List.setIfInBounds_toArray, Ws_set, HST.out] at hb2
          refine ⟨i + 1, by go_num, by have := HIK.out; omega, hb2, hb0.set_ne (by have := HB.out; have := HB0.out; simp; omega) _, hc.setCell (by right; have := HB.out; simp; omega) _⟩
      · have t16 : decide ((i : Int) < 16) = false := by simp; omega
        have hnx := HX.out i (by omega) hlt
        have hst := prt_set W 64 i _ HWL.out hlt hnx
        have cf : ∀ w' : World, Blk w' B (Ws (prt W 64 i)).toArray 35 → w'.cell? ⟨B, i - 15, none⟩ = some (.int .u32 (W.getD (i - 15) 0 : Nat)) ∧ w'.cell? ⟨B, i - 2, none⟩ = some (.int .u32 (W.getD (i - 2) 0 : Nat)) ∧
            w'.cell? ⟨B, i - 16, none⟩ = some (.int .u32 (W.getD (i - 16) 0 : Nat)) ∧ w'.cell? ⟨B, i - 7, none⟩ = some (.int .u32 (W.getD (i - 7) 0 : Nat)) ∧ ∃ u, w'.cell? ⟨B, i, none⟩ = some u := by
          intro w' hb
          refine ⟨?_, ?_, ?_, ?_, ?_⟩
          iterate 4 rw [hb.cell, List.getElem?_toArray, Ws_get _ _ (by omega), prt_get W 64 i _ (by rw [HWL.out]; omega) (by omega)]
          rw [hb.cell]
          exact ⟨_, List.getElem?_toArray ▸ List.getElem?_eq_getElem (by rw [Ws_length, hlen]; omega)⟩
        have l15 := HLT.out (i - 15)
        have l2 := HLT.out (i - 2)
        have l16 := HLT.out (i - 16)
        have l7 := HLT.out (i - 7)
        generalize W.getD (i - 15) 0 = a15 at *
        generalize W.getD (i - 2) 0 = a2 at *
        generalize W.getD (i - 16) 0 = a16 at *
        generalize W.getD (i - 7) 0 = a7 at *
        have HST := Lib.hid hst
        have CF := Lib.hid cf
        clear hst hnx hlen cf x0
        obtain ⟨c15, c2, c16, c7, u', x0⟩ := CF.out wr hb1
        go_wp2_with fail
        go_quiet (fail)
        have hb1' : Blk (wr.drewN nq) B (Ws (prt W 64 i)).toArray 35 := hb1
        have hb0' : Blk (wr.drewN nq) B0 (Ws Z).toArray 35 := hb0
        have hc' := hc.drewN nq
        clear c15 c2 c16 c7 x0 f0 hb1 hb0 hc
        generalize wr.drewN nq = w2 at *
        clear wr
        obtain ⟨p7, b7, e7⟩ : ∃ p, p < 4294967296 ∧ rotr a15 7 = p := ⟨_, rotr_lt _ _, rfl⟩
        obtain ⟨p18, b18, e18⟩ : ∃ p, p < 4294967296 ∧ rotr a15 18 = p := ⟨_, rotr_lt _ _, rfl⟩
        obtain ⟨p17, b17, e17⟩ : ∃ p, p < 4294967296 ∧ rotr a2 17 = p := ⟨_, rotr_lt _ _, rfl⟩
        obtain ⟨p19, b19, e19⟩ : ∃ p, p < 4294967296 ∧ rotr a2 19 = p := ⟨_, rotr_lt _ _, rfl⟩
        have hE := And.intro (And.intro e7 e18) (And.intro e17 e19)
        have HE := Lib.hid hE
        obtain ⟨q3, bq3, hq3, eq3⟩ : ∃ q : Nat, q < 4294967296 ∧ (a15 : Int) / 8 = (q : Int) ∧ Hid (q = a15 >>> 3) := ⟨a15 / 8, by omega, by simp, Lib.hid (by rw [Nat.shiftRight_eq_div_pow])⟩
        obtain ⟨q10, bq10, hq10, eq10⟩ : ∃ q : Nat, q < 4294967296 ∧ (a2 : Int) / 1024 = (q : Int) ∧ Hid (q = a2 >>> 10) := ⟨a2 / 1024, by omega, by simp, Lib.hid (by rw [Nat.shiftRight_eq_div_pow])⟩
        obtain ⟨y1, by1, hy1, ey1⟩ := x32 p7 p18 b7 b18
        obtain ⟨y2, by2, hy2, ey2⟩ := x32 y1 q3 by1 bq3
        obtain ⟨z1, bz1, hz1, ez1⟩ := x32 p17 p19 b17 b19
        obtain ⟨z2, bz2, hz2, ez2⟩ := x32 z1 q10 bz1 bq10
        have r7 := rotL w2 a15 (-7) 7 (by decide) l15 (by decide) (by decide)
        have r18 := rotL w2 a15 (-18) 18 (by decide) l15 (by decide) (by decide)
        have r17 := rotL w2 a2 (-17) 17 (by decide) l2 (by decide) (by decide)
        have r19 := rotL w2 a2 (-19) 19 (by decide) l2 (by decide) (by decide)
        rw [e7] at r7
        rw [e18] at r18
        rw [e17] at r17
        rw [e19] at r19
        clear e7 e18 e17 e19 hE
        have R7 := Lib.hid r7
        have R18 := Lib.hid r18
        have R17 := Lib.hid r17
        have R19 := Lib.hid r19
        clear r7 r18 r17 r19
        go_wp2_with fail
        refine R7.out.mono ?_
        rintro e w3 ⟨rfl, rfl⟩
        go_wp2_with fail
        refine R18.out.mono ?_
        rintro e w3 ⟨rfl, rfl⟩
        go_wp2_with fail
        refine R17.out.mono ?_
        rintro e w3 ⟨rfl, rfl⟩
        go_wp2_with fail
        refine R19.out.mono ?_
        rintro e w3 ⟨rfl, rfl⟩
        obtain ⟨c15, c2, c16, c7, u', x0⟩ := CF.out w2 hb1'
        have f0 := hb1'.frozen i
        have hy : y2 = s0 a15 := by unfold s0; rw [ey2.out, ey1.out, eq3.out, HE.out.1.1, HE.out.1.2]
        have hzz : z2 = s1 a2 := by unfold s1; rw [ez2.out, ez1.out, eq10.out, HE.out.2.1, HE.out.2.2]
        have hb2 := (hb1'.set i (.int .u32 (((a16 + y2 + a7 + z2) % 4294967296 : Nat) : Int))).drew
        have hb02 := (hb0'.set_ne (a := ⟨B, i, none⟩) (by have := HB.out; have := HB0.out; simp; omega) (.int .u32 (((a16 + y2 + a7 + z2) % 4294967296 : Nat) : Int))).drew
        have hc2 := (hc'.setCell (p := ⟨B, i, none⟩) (by right; have := HB.out; simp; omega) (.int .u32 (((a16 + y2 + a7 + z2) % 4294967296 : Nat) : Int))).drew
        have e4 : ((((a16 + y2 + a7 + z2) % 4294967296 : Nat) : Int)) = ((a16 : Int) + y2 + a7 + z2) % 4294967296 := by simp
        rw [List.setIfInBounds_toArray, Ws_set, show (4294967296 : Nat) = m32 from rfl, hy, hzz, HST.out] at hb2
        rw [show (4294967296 : Nat) = m32 from rfl, hy, hzz] at hb02 hc2 e4
        have HY := Lib.hid hy
        have HZ := Lib.hid hzz
        rw [e4] at hb2 hb02 hc2
        rw [← hy, ← hzz] at hb2 hb02 hc2
        clear hy hzz e4
        go_wp2_with fail
        go_region
        generalize (w2.setCell ⟨B, i, none⟩ (.int .u32 (((a16 : Int) + y2 + a7 + z2) % 4294967296))).drew = w4 at *
        go_wp2_with fail
        go_roundg (gk - 1)
        case measure => have := HIK.out; omega
        case rel => exact ⟨i + 1, by go_num, by have := HIK.out; omega, hb2, hb02, hc2⟩
    · have hi : i = 64 := by omega
      subst hi
      rw [prt_all W 64 HWL.out] at hb1
      clear HF HX HLT
      have a64 : ArrTy Try.prog 35 (Ws W).toArray.size := ⟨⟨_, Try.underlying35, rfl⟩, by rw [List.size_toArray, Ws_length, HWL.out]; kernel_rfl⟩
      have hZ : (Ws Z).toArray.size = (Ws W).toArray.size := HZS.out
      have hW1 : ∀ v ∈ (Ws W).toArray.toList, v.oneCell' = true := by
        intro v hv
        simp only [Ws, List.mem_map] at hv
        obtain ⟨n, -, rfl⟩ := hv
        rfl
      go_wp2_with (first
        | (with_reducible refine wpList_ldA rfl 35 _ rfl hb1 a64 rfl ?_)
        | (with_reducible refine wpList_stA rfl 35 _ _ rfl hb0 a64 hZ hW1 rfl rfl ?_; intro w5 hb5 hc5 hs5))
      refine bodyPost_ret (results_A rfl _ _ hb5 a64 rfl) rfl ⟨rfl, ?_⟩
      exact hc.trans hc5 (by simp; have := HB0.out; omega)
end Go.Proofs.Ytgjmcpmdhilkeaa
