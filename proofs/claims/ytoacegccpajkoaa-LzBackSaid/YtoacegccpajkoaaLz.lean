/- Contracts of package lz: chains of places, the match at a place, Find. No statement of the seat is proved here. -/
import Derived.Test.YtoacegccpajkoaaChecked
import Derived.Test.YtoacegccpajkoaaNum
import Derived.Test.YtoacegccpajkoaaMap
import Derived.Test.YtoacegccpajkoaaLzPlain
import Derived.DeepKeys4
import Derived.WideKeyPair
import Derived.Outline
import Derived.Deep.LoopGhost
import Derived.Deep.QuietTactic
import Derived.BigQuiet
import Derived.Deep.RegionHeld3
import Derived.Deep.DrawnRows
import Derived.WalkSpells
import Derived.Laws.Cover3
import Derived.Deep.RegionLaw
import Derived.StillTailTactics
namespace Go.Proofs.Ytoacegccpajkoaa
open Go.RowKit Go.Aq Go.Maps
attribute [local go_sem ↓] Go.wp_at_zero Go.wp_at_succ

theorem sl_u8' : SliceTy Try.prog 31 5 (.int .u8 0) 1 1 := ⟨Try.underlying31, by kernel_rfl, rfl, by decide⟩
theorem sl_int : SliceTy Try.prog 78 3 (.int .i64 0) 1 8 := ⟨Try.underlying78, by kernel_rfl, rfl, by decide⟩
theorem sl_tok : SliceTy Try.prog 51 61 (.agg #[.int .i64 0, .int .i64 0, .int .i64 0]) 3 24 := ⟨Try.underlying51, by kernel_rfl, rfl, by decide⟩

/-- Three bytes as a key. -/
def key3V (k : UInt8 × UInt8 × UInt8) : Value := .agg #[.int .u8 k.1.toNat, .int .u8 k.2.1.toNat, .int .u8 k.2.2.toNat]
theorem key3V_inj {a b : UInt8 × UInt8 × UInt8} (h : key3V a = key3V b) : a = b := by
  obtain ⟨a1, a2, a3⟩ := a
  obtain ⟨b1, b2, b3⟩ := b
  simp [key3V] at h
  obtain ⟨h1, h2, h3⟩ := h
  simp only [Prod.mk.injEq]
  exact ⟨UInt8.toNat_inj.1 (by omega), UInt8.toNat_inj.1 (by omega), UInt8.toNat_inj.1 (by omega)⟩
theorem key_law : Keyed Try.prog 64 := Keyed.of_law (deep_law_laid (m := 3) (by kernel_rfl) (by decide) (of_decide_eq_true (by kernel_rfl)) (by kernel_rfl) (by kernel_rfl))
theorem wf_u8 (c : UInt8) : (Lit.int .u8 (c.toNat : Int)).wf = true := WalkArith.wf_u8 (by have := c.toNat_lt; omega)
theorem key3V_good (k : UInt8 × UInt8 × UInt8) : GoodKey Try.prog 64 (key3V k) := by
  refine ⟨.string (keyBytes [.int .u8 k.1.toNat, .int .u8 k.2.1.toNat, .int .u8 k.2.2.toNat]), ?_⟩
  have w1 := wf_u8 k.1
  have w2 := wf_u8 k.2.1
  have w3 := wf_u8 k.2.2
  unfold keyOf key3V
  simp only [Try.underlying64]
  rw [if_pos (by rw [show Try.prog.keyType 64 = true by kernel_rfl]; simp [Value.formed, Try.underlying64]; kernel_rfl)]
  rw [show Try.prog.types.size = (Try.prog.types.size - 1) + 1 by kernel_rfl]
  unfold Program.keyLits
  simp only [Try.underlying64, Value.cells]
  rw [if_pos (by kernel_rfl), show List.range 3 = [0, 1, 2] from rfl, List.mapM_cons, List.mapM_cons, List.mapM_cons, List.mapM_nil]
  have one : Try.prog.cellsOf 5 = 1 := by kernel_rfl
  simp [one, Program.keyLits, Try.underlying5, w1, w2, w3]

open Classical in
/-- What the chains' map holds after n places. -/
noncomputable def lastF (b : List UInt8) (n : Nat) (v : Value) : Option Value :=
  if h : ∃ key, v = key3V key ∧ prevOcc b key n ≠ 0 then some (.int .i64 (prevOcc b (Classical.choose h) n)) else none
theorem lastF_key (b : List UInt8) (n : Nat) (key : UInt8 × UInt8 × UInt8) : (lastF b n (key3V key)).getD (.int .i64 0) = .int .i64 (prevOcc b key n) := by
  unfold lastF
  split
  · rename_i h
    have h1 := (Classical.choose_spec h).1
    rw [← key3V_inj h1]
    rfl
  · rename_i h
    have : prevOcc b key n = 0 := by
      cases hp : prevOcc b key n with
      | zero => rfl
      | succ m => exact absurd ⟨key, rfl, by rw [hp]; simp⟩ h
    rw [this]; rfl
theorem lastF_of (b : List UInt8) (n : Nat) (key : UInt8 × UInt8 × UInt8) (h : prevOcc b key n ≠ 0) : lastF b n (key3V key) = some (.int .i64 (prevOcc b key n)) := by
  have := lastF_key b n key
  cases hl : lastF b n (key3V key) with
  | none =>
    unfold lastF at hl
    rw [dif_pos ⟨key, rfl, h⟩] at hl
    simp at hl
  | some v => rw [hl] at this; simp at this; rw [this]
theorem lastF_zero (b : List UInt8) : lastF b 0 = fun _ => none := by
  funext v
  unfold lastF
  rw [dif_neg]
  rintro ⟨key, _, h⟩
  exact h rfl
theorem lastF_put (b : List UInt8) (n : Nat) (key : UInt8 × UInt8 × UInt8) (h : at3 b n = some key) : updF (lastF b n) (key3V key) (.int .i64 ((n : Int) + 1)) = lastF b (n + 1) := by
  funext v
  unfold updF
  split
  · rename_i hv
    subst hv
    have hp : prevOcc b key (n + 1) = n + 1 := by rw [prevOcc_succ, if_pos h]
    rw [lastF_of b (n + 1) key (by rw [hp]; simp), hp]
    simp
  · rename_i hv
    have hsame : ∀ key', v = key3V key' → prevOcc b key' (n + 1) = prevOcc b key' n := fun key' hk => by
      rw [prevOcc_succ, if_neg]
      intro h'
      rw [h] at h'
      cases h'
      exact hv hk
    unfold lastF
    by_cases hx : ∃ key, v = key3V key ∧ prevOcc b key n ≠ 0
    · obtain ⟨key', rfl, hk⟩ := hx
      have hk2 : prevOcc b key' (n + 1) ≠ 0 := by rw [hsame key' rfl]; exact hk
      have e1 := lastF_of b n key' hk
      have e2 := lastF_of b (n + 1) key' hk2
      unfold lastF at e1 e2
      rw [e1, e2, hsame key' rfl]
    · rw [dif_neg hx, dif_neg]
      rintro ⟨key', rfl, hk⟩
      exact hx ⟨key', rfl, by rw [← hsame key' rfl]; exact hk⟩
theorem lastF_skip (b : List UInt8) (n : Nat) (h : b.length < n + 3) : lastF b (n + 1) = lastF b n := by
  have hs : ∀ key, prevOcc b key (n + 1) = prevOcc b key n := fun key => by
    rw [prevOcc_succ, if_neg]
    unfold at3
    rw [if_neg (by omega)]
    simp
  have hf : ∀ k, prevOcc b k (n + 1) = prevOcc b k n := hs
  have hg : (fun k => prevOcc b k (n + 1)) = fun k => prevOcc b k n := funext hf
  have key : ∀ (f g : UInt8 × UInt8 × UInt8 → Nat) (v : Value), f = g → (open Classical in if h : ∃ key, v = key3V key ∧ f key ≠ 0 then some (Value.int .i64 (f (Classical.choose h))) else none) = (open Classical in if h : ∃ key, v = key3V key ∧ g key ≠ 0 then some (Value.int .i64 (g (Classical.choose h))) else none) := by
    rintro f g v rfl; rfl
  funext v
  exact key _ _ v hg
/-- Of each place the one ahead, and 1. -/
def prevAt (b : List UInt8) (i : Nat) : Nat := match at3 b i with | some key => prevOcc b key i | none => 0
def prevL (b : List UInt8) (n : Nat) : List Value := (List.range n).map fun i => .int .i64 (prevAt b i)
theorem prevL_succ (b : List UInt8) (n : Nat) : prevL b (n + 1) = prevL b n ++ [.int .i64 (prevAt b n)] := by simp [prevL, List.range_succ]

/-- At block p lie the chains of the first n places of b; their blocks are S. -/
def Ch (w : World) (S : List Nat) (p : Nat) (b : List UInt8) (n : Nat) : Prop :=
  ∃ m v, Blk w p #[.map (some m), v] 80 ∧ MapF Try.prog 64 w m (lastF b n) ∧ Own w 3 1 v n (prevL b n) ∧ S = p :: m :: v.ownBlock.toList
theorem Ch.chg {w w' : World} {S T : List Nat} {p : Nat} {b : List UInt8} {n : Nat} (h : Ch w S p b n) (c : Chg T w w') (hd : Disj S T) : Ch w' S p b n := by
  obtain ⟨m, v, h1, h2, h3, rfl⟩ := h
  exact ⟨m, v, h1.chg c (hd p (by simp)), h2.chg c (hd m (by simp)), h3.chg c (fun k hk => hd k (by simp at hk ⊢; exact .inr (.inr hk))), rfl⟩
theorem Ch.lt {w : World} {S : List Nat} {p : Nat} {b : List UInt8} {n : Nat} (h : Ch w S p b n) : In w S := by
  obtain ⟨m, v, h1, h2, h3, rfl⟩ := h
  intro k hk
  simp only [List.mem_cons] at hk
  rcases hk with rfl | rfl | hk
  · exact h1.lt
  · exact h2.lt
  · exact h3.lt k hk

theorem results_none {fn : Func} (h : fn.results = #[]) (tmps : Array Value) (P : Program) (w : World) : (results fn tmps).run P w = .ok (.tuple #[]) w := by simp [results, h]

/-- What a push onto prev leaves of the chains. -/
theorem ch_push {w w1 : World} {p m g n cap : Nat} {b : List UInt8} {v : Value} (hp : Blk w1 p #[.map (some m), v] 80) (hm : MapF Try.prog 64 w1 m (lastF b (n + 1)))
    (ho : Own w1 3 1 (.slice (some ⟨g, 0, none⟩) (n + 1) cap) (n + 1) (prevL b (n + 1))) (hc : Chg (p :: m :: v.ownBlock.toList) w w1) (hg : g ∈ v.ownBlock.toList ∨ w.heap.size ≤ g) :
    ∃ S', Ch (w1.setCell ⟨p, 1, none⟩ (.slice (some ⟨g, 0, none⟩) (n + 1) cap)) S' p b (n + 1) ∧ Upd (p :: m :: v.ownBlock.toList) S' w (w1.setCell ⟨p, 1, none⟩ (.slice (some ⟨g, 0, none⟩) (n + 1) cap)) := by
  have gg := ho.ne hp (by decide)
  have hmp := hm.blk hp
  refine ⟨_, ⟨m, .slice (some ⟨g, 0, none⟩) (n + 1) cap, hp.set 1 _, hm.chg (S := [p]) (Chg.setCell (Chg.refl _ _) (by simp) _) (by simpa using hmp), ho.set_ne (a := ⟨p, 1, none⟩) gg _, rfl⟩, Chg.setCell hc (by simp) _, ?_⟩
  intro k hk
  simp only [Value.ownBlock, Option.toList, List.mem_cons, List.not_mem_nil, or_false] at hk
  rcases hk with rfl | rfl | rfl
  · simp
  · simp
  · rcases hg with h | h
    · left; exact List.mem_cons_of_mem _ (List.mem_cons_of_mem _ h)
    · right; exact h

set_option maxHeartbeats 400000 in
theorem adds_end (w : World) (S : List Nat) (p : Nat) (b : List UInt8) (n : Nat) (vb : Value) (hb : Sees w 1 vb b.length (Bs b)) (hn : b.length < n + 3) (hn2 : n ≤ 1000000) (h : Ch w S p b n) :
    Calls Try.prog 48 #[.pointer (some ⟨p, 0, none⟩), vb] w fun e w' => e = .returned (.tuple #[]) ∧ ∃ S', Ch w' S' p b (n + 1) ∧ Upd S S' w w' := by
  obtain ⟨m, v, hp, hm, ho, rfl⟩ := h
  obtain ⟨nb, HB⟩ : ∃ n, Hid (b.length = n) := ⟨_, rfl⟩
  rw [HB.out] at hb hn
  obtain ⟨ao, cap, rfl, hcap, hno⟩ := hb.shape
  have HNO := Lib.hid hno; clear hno
  obtain ⟨aov, capv, rfl, hcapv, hnov⟩ := ho.sees.shape
  have HNOv := Lib.hid hnov; clear hnov
  obtain ⟨⟨c0, c1⟩, f0, f1⟩ := hp.c2
  have hpo := ho.ne hp (by decide)
  go_enter Try.func48, Try.ntmps48
  go_wp2_with (at_builtin; refine wpList_push rfl _ _ 78 rfl sl_int ho rfl rfl rfl (by omega) (by omega) ?_; intro g cap1 w1 ho1 hc1 hg1 hcap1 hgl; have hp1 := (hp.chg hc1 hpo).c2)
  refine bodyPost_ret (results_none rfl _ _ _) rfl ?_
  have hp1' := hp.chg hc1 hpo
  have hm1 := hm.chg hc1 (hm.own ho)
  have e0 : (.int .i64 (prevAt b n) : Value) = .int .i64 0 := by
    unfold prevAt at3
    rw [if_neg (by rw [HB.out]; omega)]
    rfl
  exact ⟨rfl, ch_push hp1' (by rw [lastF_skip b n (by rw [HB.out]; omega)]; exact hm1) (by rw [prevL_succ, e0]; exact ho1) (hc1.mono fun i hi => .inl (by simp; simp at hi; exact .inr (.inr hi))) hg1⟩

set_option maxHeartbeats 3000000 in
theorem adds_in (w : World) (S : List Nat) (p : Nat) (b : List UInt8) (n : Nat) (vb : Value) (hb : Sees w 1 vb b.length (Bs b)) (hbl : b.length ≤ 1000000) (hn : n + 3 ≤ b.length) (h : Ch w S p b n) :
    Calls Try.prog 48 #[.pointer (some ⟨p, 0, none⟩), vb] w fun e w' => e = .returned (.tuple #[]) ∧ ∃ S', Ch w' S' p b (n + 1) ∧ Upd S S' w w' := by
  obtain ⟨m, v, hp, hm, ho, rfl⟩ := h
  obtain ⟨nb, HB⟩ : ∃ n, Hid (b.length = n) := ⟨_, rfl⟩
  rw [HB.out] at hb hbl hn
  obtain ⟨g, off, cap, rfl, hcap, hgl, hcell⟩ := hb.cells (by omega)
  have b0 : w.cell? ⟨g, off + n, none⟩ = some (.int .u8 (b.getD n 0).toNat) := by rw [hcell n (by omega), Bs_get _ _ (by rw [HB.out]; omega)]; simp [List.getD, show n < b.length by rw [HB.out]; omega]
  have b1 : w.cell? ⟨g, off + n + 1, none⟩ = some (.int .u8 (b.getD (n + 1) 0).toNat) := by rw [Nat.add_assoc, hcell (n + 1) (by omega), Bs_get _ _ (by rw [HB.out]; omega)]; simp [List.getD, show n + 1 < b.length by rw [HB.out]; omega]
  have b2 : w.cell? ⟨g, off + n + 2, none⟩ = some (.int .u8 (b.getD (n + 2) 0).toNat) := by rw [Nat.add_assoc, hcell (n + 2) (by omega), Bs_get _ _ (by rw [HB.out]; omega)]; simp [List.getD, show n + 2 < b.length by rw [HB.out]; omega]
  have h3 : at3 b n = some (b.getD n 0, b.getD (n + 1) 0, b.getD (n + 2) 0) := by unfold at3; rw [if_pos (by rw [HB.out]; omega)]
  have H3 := Lib.hid h3; clear h3 hcell
  generalize b.getD n 0 = x0 at *
  generalize b.getD (n + 1) 0 = x1 at *
  generalize b.getD (n + 2) 0 = x2 at *
  obtain ⟨aov, capv, rfl, hcapv, hnov⟩ := ho.sees.shape
  have HNOv := Lib.hid hnov; clear hnov
  obtain ⟨⟨c0, c1⟩, f0, f1⟩ := hp.c2
  have hpo := ho.ne hp (by decide)
  have hat : ∀ (w : World) (a : Option Addr) (c : Nat), (Instr.arrayAt 64 (.slice a 3 c)).run Try.prog w = .ok (.pointer a) w := fun w a c => run_arrayAt w _ _ 3 a 3 c Try.underlying64 (Nat.le_refl _)
  go_enter Try.func48, Try.ntmps48
  go_wp2_with fail
  obtain ⟨q, hq⟩ : ∃ q, w.heap.size = q := ⟨_, rfl⟩
  obtain ⟨w1, hw1⟩ : ∃ w1, w.alloc (.cells #[.int .u8 x0.toNat, .int .u8 x1.toNat, .int .u8 x2.toNat] 64) = w1 := ⟨_, rfl⟩
  have bq := Blk.new w #[.int .u8 x0.toNat, .int .u8 x1.toNat, .int .u8 x2.toNat] 64
  have cw1 : Chg [] w w1 := by rw [← hw1]; exact Chg.alloc (Chg.refl _ _) _
  rw [hq, hw1] at bq
  rw [hw1, hq]
  have HQ := Lib.hid hq; clear hq hw1
  have hp1 := hp.chg0 cw1
  have hm1 := hm.chg cw1 (by simp)
  have ho1 := ho.chg cw1 (fun _ _ => by simp)
  have hlk := (hm1.look key_law Try.underlying63 (z := .int .i64 0) (by kernel_rfl) (key3V_good (x0, x1, x2))).1
  rw [lastF_key] at hlk
  obtain ⟨⟨k0, k1, k2⟩, -⟩ := bq.c3
  obtain ⟨⟨d0, d1⟩, e0, e1⟩ := hp1.c2
  clear c0 c1 f0 f1
  obtain ⟨r, hr⟩ : ∃ r, prevOcc b (x0, x1, x2) n = r := ⟨_, rfl⟩
  rw [hr] at hlk
  have HR := Lib.hid hr; clear hr
  have hlk2 : Sem.run Try.prog (Instr.lookup 63 (Value.map (some m)) (.agg #[.int .u8 x0.toNat, .int .u8 x1.toNat, .int .u8 x2.toNat]) false) w1.drew = .ok (.int .i64 r) w1.drew := by
    have h := (hm1.chg (Chg.refl [] w1).drew (by simp)).look key_law Try.underlying63 (z := .int .i64 0) (by kernel_rfl) (key3V_good (x0, x1, x2)) |>.1
    rw [lastF_key, HR.out] at h
    exact h
  clear hlk
  have hmA : MapF Try.prog 64 (w1.alloc (.cells #[.int .i64 r] 3)) m (lastF b n) := hm1.chg ((Chg.refl [] w1).alloc (.cells #[.int .i64 r] 3)) (by simp)
  have hplt : p < w1.heap.size := hp1.lt
  have hqlt : q < w1.heap.size := bq.lt
  go_region_law ((refine step_app (by rfl) _ _ 78 (by rfl) sl_int (by exact ho1.alloc (.cells #[.int .i64 r] 3)) (by rfl) (Sees.blk (cs := #[.int .i64 r]) (by exact Blk.new w1 _ 3)) (by rfl) (by simp [Value.oneCell']) (by omega) (by omega) ?_; intro v3 w3 hO3 c3 n3; obtain ⟨g3, cap3, rfl, hcap3, -, hg3l⟩ := hO3.pos (by omega); have hp3 := Blk.chg (p := p) (cs := #[.map (some m), .slice aov n capv]) (e := 80) (by exact hp1.alloc (.cells #[.int .i64 r] 3)) c3 hpo; have hm3 := MapF.chg (P := Try.prog) (k := 64) (b := m) (f := lastF b n) (by exact hmA) c3 (hm.own ho); have bq3 := Blk.chg (p := q) (cs := #[.int .u8 x0.toNat, .int .u8 x1.toNat, .int .u8 x2.toNat]) (e := 64) (by exact bq.alloc (.cells #[.int .i64 r] 3)) c3 (fun h => by have := ho.lt q h; have := HQ.out; omega); obtain ⟨⟨d0', d1'⟩, e0', e1'⟩ := hp3.c2))
  all_goals
    clear d0 d1 e0 e1 k0 k1 k2 hlk2 hmA
    obtain ⟨⟨k0, k1, k2⟩, -⟩ := bq3.c3
    have hqp : q ≠ p := by have := hp.lt; have := HQ.out; omega
    have gg3 := hO3.ne hp3 (by decide)
    have hmp := hm3.blk hp3
    have hm4 := hm3.chg (S := [p]) (Chg.setCell (Chg.refl _ w3) (p := ⟨p, 1, none⟩) (by simp) (Value.slice (some { block := g3, off := 0 }) (n + 1) cap3)) (by simpa using hmp)
    go_wp2_with fail
    have hp4 := hp3.set 1 (Value.slice (some { block := g3, off := 0 }) (n + 1) cap3)
    have bq4 := bq3.set_ne (a := ⟨p, 1, none⟩) hqp (Value.slice (some { block := g3, off := 0 }) (n + 1) cap3)
    have ho4 := hO3.set_ne (a := ⟨p, 1, none⟩) gg3 (Value.slice (some { block := g3, off := 0 }) (n + 1) cap3)
    have c4 : Chg [p] w3 (w3.setCell ⟨p, 1, none⟩ (Value.slice (some { block := g3, off := 0 }) (n + 1) cap3)) := Chg.setCell (Chg.refl _ _) (by simp) _
    generalize w3.setCell ⟨p, 1, none⟩ (Value.slice (some { block := g3, off := 0 }) (n + 1) cap3) = w4 at *
    clear d0' d1' e0' e1' k0 k1 k2
    obtain ⟨⟨k0, k1, k2⟩, -⟩ := bq4.c3
    obtain ⟨d0, d1⟩ : w4.cell? ⟨p, 0, none⟩ = some (.map (some m)) ∧ w4.cell? ⟨p, 1, none⟩ = some (Value.slice (some { block := g3, off := 0 }) (n + 1) cap3) := ⟨hp4.cell 0, hp4.cell 1⟩
    go_still_tail 7, (by kernel_rfl)
    change wpList _ _ _ _ _ w4.drew
    refine wpList_put rfl _ _ _ 63 rfl key_law Try.underlying63 (hm4.chg (Chg.refl [] w4).drew (by simp)) rfl (key3V_good (x0, x1, x2)) rfl (val := .int .i64 (IntKind.i64.wrap ((n : Int) + 1))) rfl ?_
    intro w5 hm5 c5
    rw [show ((n : Int) + 1) = ((n + 1 : Nat) : Int) from rfl, wrap_i64_nat _ (by omega)] at hm5
    go_wp2_with fail
    go_end0
    have eu : updF (lastF b n) (key3V (x0, x1, x2)) (.int .i64 ((n : Int) + 1)) = lastF b (n + 1) := lastF_put b n _ H3.out
    have hm5' : MapF Try.prog 64 w5 m (lastF b (n + 1)) := by rw [← eu]; exact hm5
    have hmo4 := hm4.own ho4
    have e0 : prevL b n ++ #[Value.int IntKind.i64 (r : Int)].toList = prevL b (n + 1) := by
      rw [prevL_succ]
      unfold prevAt
      rw [H3.out, ← HR.out]
    rw [e0] at ho4
    have c34 : Chg (p :: (Value.slice aov n capv).ownBlock.toList) w w4 := by
      refine Chg.trans (Chg.trans (Chg.trans (S := p :: (Value.slice aov n capv).ownBlock.toList) (T := []) cw1.toS (((Chg.refl [] w1).alloc (Obj.cells #[Value.int IntKind.i64 (r : Int)] 3)).drew) (by simp)) c3 (fun i hi => .inl (List.mem_cons_of_mem _ hi))) c4 (by simp)
    refine ⟨rfl, _, ⟨m, .slice (some ⟨g3, 0, none⟩) (n + 1) cap3, (hp4.drew).chg c5 (by simpa using hmp.symm), hm5', (Own.chg (by exact ho4) c5 (fun k hk => by simp; rintro rfl; exact hmo4 hk)), rfl⟩, ?_, ?_⟩
    · exact Chg.trans (Chg.drew (c34.mono fun i hi => .inl (by simp at hi ⊢; rcases hi with h | h <;> simp [h]))) c5 (by simp)
    · intro k hk
      simp only [List.mem_cons] at hk
      rcases hk with rfl | rfl | hk
      · simp
      · simp
      · rcases n3 k hk with h | h
        · left; exact List.mem_cons_of_mem _ (List.mem_cons_of_mem _ h)
        · right
          have := cw1.size
          simp at h
          omega

theorem adds_any (w : World) (S : List Nat) (p : Nat) (b : List UInt8) (n : Nat) (vb : Value) (hb : Sees w 1 vb b.length (Bs b)) (hbl : b.length ≤ 1000000) (hn : n ≤ b.length) (h : Ch w S p b n) :
    Calls Try.prog 48 #[.pointer (some ⟨p, 0, none⟩), vb] w fun e w' => e = .returned (.tuple #[]) ∧ ∃ S', Ch w' S' p b (n + 1) ∧ Upd S S' w w' := by
  by_cases h3 : n + 3 ≤ b.length
  · exact adds_in w S p b n vb hb hbl h3 h
  · exact adds_end w S p b n vb hb (by omega) (by omega) h
end Go.Proofs.Ytoacegccpajkoaa
