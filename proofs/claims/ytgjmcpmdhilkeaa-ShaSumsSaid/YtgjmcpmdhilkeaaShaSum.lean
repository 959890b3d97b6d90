/- Contract of sha.Sum. No statement of the seat is proved here. -/
import Derived.Test.YtgjmcpmdhilkeaaShaPad
set_option linter.unusedVariables false
namespace Go.Aq.Sha
theorem foldB_snoc (f : St → Nat → St) : ∀ (n a : Nat) (s : St), foldB f (n + 1) a s = f (foldB f n a s) (a + 64 * n)
  | 0, a, s => rfl
  | n + 1, a, s => by rw [foldB, foldB_snoc f n (a + 64), foldB, show a + 64 + 64 * n = a + 64 * (n + 1) by omega]
theorem foldB_wf (f : St → Nat → St) (hf : ∀ s a, wfS (f s a)) (s : St) (h : wfS s) : ∀ n, wfS (foldB f n 0 s)
  | 0 => h
  | n + 1 => by rw [foldB_snoc]; exact hf _ _
theorem blocks_snoc (m : List UInt8) (n a : Nat) (s : St) : blocks m (n + 1) a s = mix (blocks m n a s) m (a + 64 * n) := by
  unfold blocks
  rw [foldB_snoc]
theorem blocks_wf (m : List UInt8) (s : St) (h : wfS s) (n : Nat) : wfS (blocks m n 0 s) := foldB_wf _ (fun _ _ => mix_wf _ _ _) s h n
theorem blocks_zero (m : List UInt8) (a : Nat) (s : St) : blocks m 0 a s = s := by unfold blocks; rw [foldB]
theorem word_block (m : List UInt8) (a i : Nat) (h : i + 4 ≤ 64) : word ((m.drop a).take 64) i = word m (a + i) := by
  unfold word
  have e : ∀ j, j < 64 → ((m.drop a).take 64).getD j 0 = m.getD (a + j) 0 := fun j hj => by
    simp only [List.getD_eq_getElem?_getD]
    rw [List.getElem?_take_of_lt hj, List.getElem?_drop]
  rw [e _ (by omega), e _ (by omega), e _ (by omega), e _ (by omega)]
  simp only [Nat.add_assoc]
theorem sched_block (m : List UInt8) (a : Nat) : sched ((m.drop a).take 64) 0 = sched m a := by
  have e : first16 ((m.drop a).take 64) 0 = first16 m a := by
    unfold first16
    refine List.map_congr_left fun i hi => ?_
    simp only [List.mem_range] at hi
    rw [Nat.zero_add, word_block m a _ (by omega)]
  unfold sched
  rw [e]
theorem mix_block (s : St) (m : List UInt8) (a : Nat) : mix s ((m.drop a).take 64) 0 = mix s m a := by
  unfold mix
  rw [sched_block]
def outL (s : St) (j : Nat) : List UInt8 := ((stL s).take j).flatMap fun x => beB x 4
theorem outL_all (s : St) : outL s 8 = out s := by
  simp only [outL, out, stL, List.take_succ_cons, List.take_zero, List.flatMap_cons, List.flatMap_nil, be_eq, List.append_nil, List.append_assoc]
theorem outL_succ (s : St) (j : Nat) (h : j < 8) : outL s (j + 1) = outL s j ++ beB ((stL s).getD j 0) 4 := by
  unfold outL
  have hl : j < (stL s).length := h
  rw [List.take_succ_eq_append_getElem hl, List.flatMap_append, List.getD_eq_getElem?_getD, List.getElem?_eq_getElem hl]
  simp
theorem out_length (s : St) : (out s).length = 32 := by simp [out, be_eq, beB_length]
theorem sum_length (b : List UInt8) : (sum b).length = 32 := out_length _
theorem st0_wf : wfS st0 := by unfold wfS st0; decide
theorem cellsK_low (j : Nat) (h : j < 8) : cellsK.toArray[j]? = some (.int .u32 ((stL st0).getD j 0 : Nat)) := by
  match j, h with
  | 0, _ => rfl
  | 1, _ => rfl
  | 2, _ => rfl
  | 3, _ => rfl
  | 4, _ => rfl
  | 5, _ => rfl
  | 6, _ => rfl
  | 7, _ => rfl
end Go.Aq.Sha
namespace Go.Proofs.Ytgjmcpmdhilkeaa
open Go.RowKit Go.Aq Go.Aq.Sha
set_option maxHeartbeats 1000000 in
theorem sum_any (w : World) (v : Value) (n : Nat) (b : List UInt8) (hv : Sees w 1 v n (Bs b)) (hn : n ≤ 1000000) :
    Calls Try.prog 7 #[v] w fun e w' => ∃ v', e = .returned v' ∧ Fresh w w' 5 1 v' 32 (Bs (sum b)) := by
  have hz8 : ∀ w, (zeroValue 34).run Try.prog w = .ok (.agg (Ws z8).toArray) w := fun _ => by kernel_rfl
  go_enter Try.func7, Try.ntmps7
  go_wp2_with fail
  refine (all_any w).mono ?_
  rintro e w1 ⟨C, rfl, hC, hc1, hCl⟩
  have hck := fun j h => (hC.cell j).trans (cellsK_low j h)
  have hwf0 := st0_wf
  have hsum : sum b = out (blocks (pad b) ((pad b).length / 64) 0 st0) := rfl
  generalize st0 = s0 at *
  have m0 : w1.cell? ⟨C, 0, none⟩ = some (.int .u32 (s0.a : Nat)) := hck 0 (by decide)
  have m1 : w1.cell? ⟨C, 1, none⟩ = some (.int .u32 (s0.b : Nat)) := hck 1 (by decide)
  have m2 : w1.cell? ⟨C, 2, none⟩ = some (.int .u32 (s0.c : Nat)) := hck 2 (by decide)
  have m3 : w1.cell? ⟨C, 3, none⟩ = some (.int .u32 (s0.d : Nat)) := hck 3 (by decide)
  have m4 : w1.cell? ⟨C, 4, none⟩ = some (.int .u32 (s0.e : Nat)) := hck 4 (by decide)
  have m5 : w1.cell? ⟨C, 5, none⟩ = some (.int .u32 (s0.f : Nat)) := hck 5 (by decide)
  have m6 : w1.cell? ⟨C, 6, none⟩ = some (.int .u32 (s0.g : Nat)) := hck 6 (by decide)
  have m7 : w1.cell? ⟨C, 7, none⟩ = some (.int .u32 (s0.h : Nat)) := hck 7 (by decide)
  have HSUM := Lib.hid hsum
  have HWF0 := Lib.hid hwf0
  clear hck hsum hwf0
  go_upto_region 3 with (refine wpList_stA rfl 34 _ _ rfl (cs := (Ws (stL s0)).toArray) (Blk.new w1 (Ws z8).toArray 34) (arr8 _ rfl) rfl (Ws_one _) rfl rfl ?_; intro w2 hB2 hc2 hs2)
  have hcA : Chg [] w1 (w1.alloc (.cells (Ws z8).toArray 34)) := (Chg.refl [] w1).alloc _
  have hcB : Chg [] w w2 := hc1.trans (hcA.trans hc2 (by simp)) (by simp)
  have hC2 := (hC.chg0 hcA).chg hc2 (by have := hC.lt; simp; omega)
  have hCS : w1.heap.size ≠ C := by have := hC.lt; omega
  have hSl : w.heap.size ≤ w1.heap.size := hc1.size
  generalize w1.heap.size = S at *
  have HCS := Lib.hid (And.intro hCS (And.intro hSl hCl))
  clear hcA hc2 hs2 hC hc1 hz8 m0 m1 m2 m3 m4 m5 m6 m7 hCS hSl hCl w1
  go_wp2_with fail
  refine (padded_any w2 v n b (hv.chg0 hcB) hn).mono ?_
  rintro e w3 ⟨vp, rfl, hfp⟩
  have hpm := pad_mod b
  have hpl := pad_length b
  have hpb : (pad b).length ≤ 2000000 ∧ 64 ≤ (pad b).length := by
    have := zeros_lt b.length
    have hbl : b.length = n := by have := hv.len; rw [Bs_length] at this; omega
    omega
  obtain ⟨hpb, hpb1⟩ := hpb
  have hC3 := hC2.chg0 hfp.chg
  have hB3 := hB2.chg0 hfp.chg
  have hcC : Chg [] w w3 := hcB.trans hfp.chg (by simp)
  have hSg : ∀ k ∈ vp.ownBlock.toList, k ≠ S := fun k hk e => by have := hfp.new k hk; have := hB2.lt; omega
  have hop := hfp.own
  generalize pad b = m at *
  generalize hM : m.length = M at *
  obtain ⟨g, cap, rfl, hcap, -, -⟩ := hop.pos (by omega)
  have hgS : g ≠ S := hSg g (by simp [Value.ownBlock])
  have HGS := Lib.hid hgS
  have HPM := Lib.hid hpm
  have HM := Lib.hid hM
  clear hSg hfp hC2 hB2 hcB hpl hpm hM hgS
  have hB3' : Blk w3 S (Ws (stL (blocks m 0 0 s0))).toArray 34 := by rw [blocks_zero]; exact hB3
  clear hB3
  go_wp2_with fail
  go_loopg [5] (M / 64) (fun k vp wr => ∃ (i a len : Nat) (ao : Option Addr) (c : Nat), i + k = M / 64 ∧ a = 64 * i ∧ vp = .slice ao len c ∧ len + a = M ∧ (0 < len → ao = some ⟨g, a, none⟩ ∧ c = cap - a) ∧ Blk wr S (Ws (stL (blocks m i 0 s0))).toArray 34 ∧ Chg [S] w3 wr)
  case atStart => exact ⟨0, 0, M, _, cap, by omega, rfl, rfl, by omega, fun _ => ⟨rfl, rfl⟩, hB3', Chg.refl _ _⟩
  case round =>
    clear hB3'
    obtain ⟨i, a, len, ao, c, hik, hai, rfl, hla, hao, hb, hcr⟩ := hrel
    by_cases hlt : 0 < len
    · obtain ⟨rfl, rfl⟩ := hao hlt
      have h64 : 64 ≤ len := by have := HPM.out; omega
      have hcl : a + len ≤ cap := by omega
      have hs : Sees wr 1 (.slice (some ⟨g, a, none⟩) 64 (cap - a)) 64 (Bs ((m.drop a).take 64)) := by
        have hsee := hop.sees.chg hcr (fun k hk => by
          have := eyes_own _ k hk
          simp [Value.ownBlock] at this
          simp
          rw [this]; exact HGS.out)
        obtain ⟨g', off', cap', he, -, hp⟩ := hsee.part a 64 (by omega) (by omega)
        simp only [Value.slice.injEq, Option.some.injEq, Addr.mk.injEq, true_and, and_true] at he
        obtain ⟨⟨rfl, rfl⟩, rfl⟩ := he
        rw [Nat.zero_add] at hp
        rw [Bs_take, Bs_drop]
        exact hp
      have t1 : decide ((0 : Int) < (len : Int)) = true := by simp; omega
      have hmb := mix_block (blocks m i 0 s0) m a
      have hsn := blocks_snoc m i 0 s0
      rw [Nat.zero_add, ← hai, ← hmb] at hsn
      have hwf := blocks_wf m s0 HWF0.out i
      have HSN := Lib.hid hsn
      have HIK := Lib.hid (And.intro hik hai)
      have HWF := Lib.hid hwf
      have HLA := Lib.hid hla
      clear hsn hmb hik hai hwf hla hao
      go_wp2_with fail
      refine (mix_any wr C S _ ((m.drop a).take 64) (blocks m i 0 s0) HWF.out (hC3.chg hcr (by simpa using Ne.symm HCS.out.1)) hb hs HCS.out.1 (by simp [eyes]; exact fun h => HGS.out h.symm)).mono ?_
      rintro e w4 ⟨rfl, hb4, hc4⟩
      rw [← HSN.out] at hb4
      have hcr4 := hcr.tr hc4
      clear hb hcr hs hc4
      by_cases hcap64 : cap - a = 64
      · have hl64 : len = 64 := by have := HLA.out; omega
        subst hl64
        rw [hcap64]
        go_wp2_with fail
        go_roundg (gk - 1)
        case measure => have := HIK.out.1; have := HLA.out; have := HIK.out.2; omega
        case rel => exact ⟨i + 1, a + 64, 0, _, _, by have := HIK.out; have := HLA.out; omega, by have := HIK.out; omega, rfl, by have := HLA.out; omega, fun h => by omega, hb4, hcr4⟩
      · have h65 : 64 < cap - a := by omega
        have hsub : cap - a - 64 = cap - (a + 64) := by omega
        generalize hcc : cap - a = cc at *
        have HCC := Lib.hid hcc
        have HSUB := Lib.hid hsub
        clear hcc hsub
        have h64i : (64 : Int) ≤ (len : Int) := by omega
        go_wp2_with fail
        go_roundg (gk - 1)
        case measure => have := HIK.out.1; have := HLA.out; have := HIK.out.2; omega
        case rel => exact ⟨i + 1, a + 64, len - 64, _, _, by have := HIK.out; have := HLA.out; omega, by have := HIK.out; omega, rfl, by have := HLA.out; omega, fun _ => ⟨rfl, HSUB.out⟩, hb4, hcr4⟩
    · have hl0 : len = 0 := by omega
      subst hl0
      have hi : i = M / 64 := by have := HPM.out; omega
      have hcw : Chg [] w wr := hcC.trans hcr (by have := HCS.out; simp; omega)
      have hwf := blocks_wf m s0 HWF0.out i
      have hsum := HSUM.out
      rw [← hi] at hsum
      generalize blocks m i 0 s0 = T at *
      rw [← outL_all] at hsum
      have HS := Lib.hid hsum
      have HWF := Lib.hid hwf
      clear hsum hwf hao hla hik hai HSUM hcr hcC hC3 hop HGS HPM HM HCS hi
      obtain ⟨G, hG⟩ : ∃ G, G = gk := ⟨_, rfl⟩
      obtain ⟨wo, hwo⟩ : ∃ wo : World, wo = wr := ⟨_, rfl⟩
      clear hG
      rw [← hwo] at hb hcw
      subst hwo
      go_wp2_with (with_reducible refine wpList_ldA rfl 34 _ rfl hb (arr8 _ rfl) rfl ?_)
      go_loopg [6, 28] 8 (fun k vo vi wr => ∃ (j : Nat), vi = .int .i64 j ∧ j + k = 8 ∧ Fresh wo wr 5 1 vo (4 * j) (Bs (outL T j)))
      case atStart => exact ⟨0, rfl, by omega, Fresh.nil _ _ _⟩
      case round =>
        clear hb
        obtain ⟨j, rfl, hjk, hf⟩ := hrel
        by_cases hj : j < 8
        · have t8 : decide ((j : Int) < 8) = true := by simp; omega
          have i8 : (j : Int) < 8 := by omega
          have hix := idx8 T j hj
          have lx := stL_lt T HWF.out j hj
          have hos := outL_succ T j hj
          generalize (stL T).getD j 0 = x at *
          have HOS := Lib.hid hos
          have HJK := Lib.hid hjk
          clear hos hjk
          go_wp2_with fail
          refine (bigI wr x 4 _ (by omega) (by omega) (by omega) (Nat.lt_of_lt_of_eq lx (by decide))).mono ?_
          rintro e w5 ⟨gg, rfl, ho5, hc5, hg5⟩
          have hf5 := hf.to hc5
          go_wp2_with (at_builtin; refine wpList_appF (w0 := wo) rfl _ _ 22 rfl sl_u8 hf5 rfl ho5.sees rfl (Bs_one _) (by omega) (by omega) ?_; intro v6 w6 hF6 c6)
          go_roundg (gk - 1)
          case measure => have := HJK.out; omega
          case rel =>
            refine ⟨j + 1, by go_num, by have := HJK.out; omega, ?_⟩
            rw [HOS.out, Bs_append]
            exact hF6
        · have hj8 : j = 8 := by omega
          subst hj8
          go_wp2_with fail
          go_ret
          exact ⟨_, rfl, by rw [HS.out]; exact hf.base hcw⟩
end Go.Proofs.Ytgjmcpmdhilkeaa
