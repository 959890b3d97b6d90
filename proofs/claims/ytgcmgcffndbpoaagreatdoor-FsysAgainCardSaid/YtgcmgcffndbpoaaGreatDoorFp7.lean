/- Files fresh from Format; two systems alike; changes done with no fall. Plain. No statement of the seat is proved here. -/
import Derived.Test.YtgcmgcffndbpoaaGreatDoorFzM
set_option linter.unusedVariables false
set_option linter.unusedSimpArgs false
namespace Go.Aq.Fy
open Go.Aq Go.RowKit
/-! ### fresh files -/
def fmtD (n r m : Nat) (k : Int) : DiskD := { newD n with writes := k, now := fmtG (fun _ => zsec) r m, dur := fmtG (fun _ => zsec) r m }
def F0 (n r m : Nat) (k : Int) : FsD := ⟨fmtD n r m k, ⟨r, 1, 0⟩, m, []⟩
theorem fmtG_eq (f : Nat → Sec) (r m : Nat) : fmtG f r m = setAll f ([(0, headB r 1 0), (1, zsec)] ++ fmtL r m) := by unfold fmtG; rw [setAll_app]
theorem fmt_mem {r m : Nat} {p : Nat × Sec} : p ∈ [(0, headB r 1 0), (1, zsec)] ++ fmtL r m ↔ p = (0, headB r 1 0) ∨ p = (1, zsec) ∨ p = (2 + r, topB m) ∨ ∃ i, i < m ∧ p = (3 + r + i, zsec) := by
  unfold fmtL
  simp only [List.mem_append, List.mem_cons, List.not_mem_nil, or_false, List.mem_map, List.mem_range]
  constructor
  · rintro ((h | h) | h | ⟨i, h1, h2⟩)
    · exact .inl h
    · exact .inr (.inl h)
    · exact .inr (.inr (.inl h))
    · exact .inr (.inr (.inr ⟨i, h1, h2.symm⟩))
  · rintro (h | h | h | ⟨i, h1, h2⟩)
    · exact .inl (.inl h)
    · exact .inl (.inr h)
    · exact .inr (.inl h)
    · exact .inr (.inr ⟨i, h1, h2.symm⟩)
theorem fmt_get {f : Nat → Sec} {r m j : Nat} {b : Sec} (hm : (j, b) ∈ [(0, headB r 1 0), (1, zsec)] ++ fmtL r m) : fmtG f r m j = b := by
  rw [fmtG_eq]
  refine setAll_in ⟨_, hm, rfl⟩ fun p hp e => ?_
  rcases fmt_mem.1 hm with h | h | h | ⟨i, h1, h⟩ <;> rcases fmt_mem.1 hp with h' | h' | h' | ⟨i', h1', h'⟩ <;> (subst h'; cases h) <;> simp only at e ⊢ <;> first | rfl | omega
theorem fmt_ok {n r m : Nat} (hb : fmtOk n (r : Int) (m : Int)) : OkP n ([(0, headB r 1 0), (1, zsec)] ++ fmtL r m) := fun p hp => by
  unfold fmtOk at hb
  rcases fmt_mem.1 hp with rfl | rfl | rfl | ⟨i, h1, rfl⟩
  · exact ⟨by simp only; omega, headB_length _ _ _⟩
  · exact ⟨by simp only; omega, zsec_len⟩
  · exact ⟨by simp only; omega, topB_len _⟩
  · exact ⟨by simp only; omega, zsec_len⟩
theorem nul_app (a b : Nat) : nul a ++ nul b = nul (a + b) := by unfold nul; rw [List.replicate_append_replicate]
theorem pieceT_nil {m i : Nat} (hi : i < m) : pieceT m [] i = zsec := by
  have e : tableB [] = nul 2 := by unfold tableB; decide
  unfold pieceT
  rw [e, nul_app, show (nul 2).length = 2 from rfl, show 2 + (m * 256 - 2) = m * 256 by omega]
  unfold zsec nul
  rw [List.drop_replicate, List.take_replicate]
  congr 1
  omega
theorem zsec_mark (s p n : Nat) : zsec ≠ markB s p n := fun e => by
  have := congrArg (fun l : Sec => l.take 1) e
  have h2 : (markB s p n).take 1 = [65] := by unfold markB; rw [fill_take 1 (by simp)]; rfl
  have h1 : zsec.take 1 = [0] := by decide
  have h3 : zsec.take 1 = (markB s p n).take 1 := this
  rw [h1, h2] at h3
  exact absurd h3 (by decide)
theorem fmt_inv {n r m : Nat} (hb : fmtOk n (r : Int) (m : Int)) (hn : n ≤ 4096) (k : Int) : FInv 1 (F0 n r m k) := by
  have hb' := hb
  unfold fmtOk at hb'
  have ht : (tableB []).length = 2 := by decide
  have hu : ∀ j b, (j, b) ∈ [(0, headB r 1 0), (1, zsec)] ++ fmtL r m → (F0 n r m k).disk.now j = b := fun j b h => fmt_get h
  refine ⟨⟨hn, ?_, ?_, ?_, ?_⟩, ⟨rfl, rfl, rfl, fun j => ?_⟩, Nat.le_refl _, ⟨?_, ?_, fun i hi => ?_⟩, fun j _ e => ?_, ?_, FilesOk.nil _⟩
  · show 0 < r; omega
  · show 0 < r; omega
  · show 1 ≤ m ∧ m ≤ 200; omega
  · show 2 + r + 1 + m < n; omega
  · show (fmtG (fun _ => zsec) r m j).length = 256
    rw [fmtG_eq]
    exact setAll_len (fun _ => zsec_len) (fmt_ok hb) j
  · exact hu 0 _ (fmt_mem.2 (.inl rfl))
  · exact hu (2 + r) _ (fmt_mem.2 (.inr (.inr (.inl rfl))))
  · replace hi : i < m := hi
    have h1 : (F0 n r m k).disk.now (2 + r + 1 + i) = zsec := hu _ _ (fmt_mem.2 (.inr (.inr (.inr ⟨i, hi, by rw [show 2 + r + 1 + i = 3 + r + i by omega]⟩))))
    show (F0 n r m k).disk.now (2 + r + 1 + i) = (sectorsB m []).getD i []
    rw [h1, sectors_get (m := m) (fs := []) (by rw [ht]; omega) hi, pieceT_nil hi]
  · have h1 : (F0 n r m k).disk.now 1 = zsec := hu 1 _ (fmt_mem.2 (.inr (.inl rfl)))
    rw [h1] at e
    exact zsec_mark _ _ _ e
  · show (tableB []).length ≤ m * 256
    rw [ht]; omega
/-! ### an opening of files at rest -/
theorem open_same {q : Nat} {F : FsD} (h : FInv q F) (hq : q < 2 ^ 47) : headOf (F.disk.now 0) = F.log ∧ F.disk.now 0 = headB F.log.ring F.log.seq F.log.pos ∧ (1 ≤ F.log.ring ∧ F.log.ring + 4 ≤ F.disk.n ∧ F.log.pos < F.log.ring ∧ F.log.seq < 281474976710655) ∧ markedN F.disk F.log = 0 ∧ runP F.disk (redoP F.disk F.log) = (F.disk, 0) := by
  have g := h.geo
  have g1 := g.n
  have g2 := g.mt
  have g3 := g.first
  have g4 := g.ring
  have g5 := g.pos
  have g6 := h.seq
  unfold homeL at g3
  have hm := unmarked_n h.un
  have hr : redoP F.disk F.log = [] := by unfold redoP; simp only [hm, if_true]
  refine ⟨?_, h.lies.head, ⟨by omega, by omega, g5, by omega⟩, hm, by rw [hr]; rfl⟩
  rw [h.lies.head]
  exact head_of (by omega) (by omega) (by omega)
/-! ### two systems that differ in nothing that matters -/
structure Tw (F G : FsD) : Prop where
  n : F.disk.n = G.disk.n
  now : F.disk.now = G.disk.now
  log : F.log = G.log
  mt : F.mt = G.mt
  files : F.files = G.files
theorem Tw.symm {F G : FsD} (h : Tw F G) : Tw G F := ⟨h.n.symm, h.now.symm, h.log.symm, h.mt.symm, h.files.symm⟩
theorem Tw.trans {F G H : FsD} (h : Tw F G) (k : Tw G H) : Tw F H := ⟨h.n.trans k.n, h.now.trans k.now, h.log.trans k.log, h.mt.trans k.mt, h.files.trans k.files⟩
theorem Tw.first {F G : FsD} (h : Tw F G) : firstF F = firstF G := by unfold firstF; rw [h.log, h.mt]
theorem Tw.bytes {F G : FsD} (h : Tw F G) : bytesB F = bytesB G := by
  funext x
  unfold bytesB
  rw [h.first, h.now]
theorem Tw.view {F G : FsD} (h : Tw F G) : viewF F = viewF G := by unfold viewF; rw [h.first, h.now, h.files]
theorem Tw.one {F G : FsD} (h : Tw F G) (w : WorkD) (c : ChangeD) : oneW F w c = oneW G w c := by
  have : bytesW F w c.name = bytesW G w c.name := by unfold bytesW; rw [h.bytes]
  unfold oneW
  rw [this]
theorem Tw.allW {F G : FsD} (h : Tw F G) : ∀ (l : List ChangeD) (w : WorkD), allW F w l = allW G w l
  | [], w => rfl
  | c :: l, w => by
    unfold Go.Aq.Fy.allW
    rw [h.one w c, h.allW l]
theorem Tw.free {F G : FsD} (h : Tw F G) : freeF F = freeF G := by unfold freeF allF; rw [h.first, h.n, h.files]
theorem Tw.prep {F G : FsD} (h : Tw F G) (l : List ChangeD) : prepF F l = prepF G l := by
  unfold prepF
  simp only [h.allW l, h.free, h.files, h.mt, h.log, h.first]
/-- Changes done where no fall comes. -/
theorem do_calm {q : Nat} {F : FsD} (h : FInv q F) (hf : F.disk.falls = 0) (l : List ChangeD) :
    (∃ e, e ≠ 0 ∧ prepF F l = (e, [], [], F.log) ∧ doF F l = (F, e)) ∨
    ∃ st fs lg k, prepF F l = (0, st, fs, lg) ∧ doF F l = (⟨{ F.disk with writes := k, now := setAll F.disk.now st.flatten, dur := setAll F.disk.now st.flatten }, lg, F.mt, fs⟩, 0) := by
  rcases prep_plan h l with ⟨e, h1, h2, h3⟩ | ⟨h1, bl, fs, h2, h3, h4, h5⟩
  · left
    refine ⟨e, h2, h1, ?_⟩
    unfold doF
    simp only [h1]
    rw [if_pos h2]
  · right
    obtain ⟨k, hk⟩ := runP_calm _ _ h.rest hf (h3.stagesOk h)
    refine ⟨_, _, _, k, h2, ?_⟩
    unfold doF
    simp only [h2]
    rw [if_neg (by simp), hk]
    simp only [if_true]
theorem Tw.doF {q q' : Nat} {F G : FsD} (h : Tw F G) (hF : FInv q F) (hG : FInv q' G) (hf : F.disk.falls = 0) (hg : G.disk.falls = 0) (l : List ChangeD) : Tw (doF F l).1 (doF G l).1 ∧ (doF F l).2 = (doF G l).2 := by
  have hp := h.prep l
  rcases do_calm hF hf l with ⟨e, e0, e1, e2⟩ | ⟨st, fs, lg, k, e1, e2⟩ <;> rcases do_calm hG hg l with ⟨e', e0', e1', e2'⟩ | ⟨st', fs', lg', k', e1', e2'⟩ <;> rw [e1, e1'] at hp <;> rw [e2, e2']
  · simp only [Prod.mk.injEq] at hp
    exact ⟨h, hp.1⟩
  · simp only [Prod.mk.injEq] at hp
    exact absurd hp.1 e0
  · simp only [Prod.mk.injEq] at hp
    exact absurd hp.1.symm e0'
  · simp only [Prod.mk.injEq] at hp
    obtain ⟨-, rfl, rfl, rfl⟩ := hp
    exact ⟨⟨h.n, by simp only [h.now], rfl, h.mt, rfl⟩, rfl⟩
/-- What changes come to where no fall comes. -/
theorem do_law {q : Nat} {F : FsD} (h : FInv q F) (hq : q < 2 ^ 47) (hf : F.disk.falls = 0) (l : List ChangeD) :
    FInv (q + 1) (doF F l).1 ∧ (doF F l).1.disk.falls = 0 ∧ (doF F l).1.disk.n = F.disk.n ∧ (doF F l).1.mt = F.mt ∧ (doF F l).1.log.ring = F.log.ring ∧
    (((doF F l).2 ≠ 0 ∧ (doF F l).1 = F ∧ ((doF F l).2 = (allV (viewF F) l).2 ∨ ((allV (viewF F) l).2 = 0 ∧ ((doF F l).2 = 8 ∨ (doF F l).2 = 9)))) ∨
     ((doF F l).2 = 0 ∧ (allV (viewF F) l).2 = 0 ∧ viewF (doF F l).1 = (allV (viewF F) l).1 ∧ ∀ s, lookK s (allW F ⟨F.files, []⟩ l).1.fresh = none → lookK s (doF F l).1.files = lookK s (allW F ⟨F.files, []⟩ l).1.files)) := by
  rcases do_any h hq l with ⟨e, h1, h2, h3⟩ | ⟨h1, bl, fs, hp, h4, h5, h6 | ⟨D, -, -, -, -, -, -, h7, -⟩⟩
  · rw [h1]
    exact ⟨h.more, hf, rfl, rfl, rfl, .inl ⟨h2, rfl, h3⟩⟩
  · obtain ⟨D, h6, hn, hr, hN, hfa⟩ := h6
    rw [h6]
    have hlr : (logF F fs).ring = F.log.ring := by unfold logF; split <;> rfl
    refine ⟨new_inv h hp hn hr hN, hfa hf, hn, rfl, hlr, .inr ⟨rfl, h1, ?_, h4⟩⟩
    show viewG (firstF ⟨D, logF F fs, F.mt, fs⟩) D.now fs = _
    rw [logF_first]
    exact h5 _ hN.2.2.1 hN.2.2.2
  · exact absurd hf h7
def dosF (F : FsD) (cs : List (List ChangeD)) : FsD := cs.foldl (fun F c => (doF F c).1) F
theorem dosF_nil (F : FsD) : dosF F [] = F := rfl
theorem dosF_snoc (F : FsD) (cs : List (List ChangeD)) (c : List ChangeD) : dosF F (cs ++ [c]) = (doF (dosF F cs) c).1 := by unfold dosF; rw [List.foldl_append]; rfl
end Go.Aq.Fy
