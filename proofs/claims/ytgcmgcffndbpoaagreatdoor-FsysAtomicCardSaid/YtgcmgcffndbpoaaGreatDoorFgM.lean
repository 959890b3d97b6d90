/- All or nothing: plain. No statement of the seat is proved here. -/
import Derived.Test.YtgcmgcffndbpoaaGreatDoorFgI
set_option linter.unusedVariables false
set_option linter.unusedSimpArgs false
namespace Go.Aq.Fy
open Go.Aq Go.RowKit
def armF (F : FsD) (n : Nat) (m : Sec) : FsD := { F with disk := crashAt F.disk n m }
theorem arm_inv {q : Nat} {F : FsD} (h : FInv q F) (n : Nat) (m : Sec) : FInv q (armF F n m) := ⟨h.geo, ⟨h.rest.pend, h.rest.dur, h.rest.up, h.rest.len⟩, h.seq, h.lies, h.un, h.tlen, h.files⟩
theorem arm_tw (F : FsD) (n : Nat) (m : Sec) : Tw F (armF F n m) := ⟨rfl, rfl, rfl, rfl, rfl⟩
theorem arm_view (F : FsD) (n : Nat) (m : Sec) : viewF (armF F n m) = viewF F := rfl
theorem diff_self (F : FsD) : diffF F F.files = [] := by
  unfold diffF differB
  rw [List.map_eq_nil_iff, List.filter_eq_nil_iff]
  intro i _
  simp
theorem plan_self {q : Nat} {F : FsD} (h : FInv q F) : Plan F [] F.files :=
  ⟨by simp, by simp, OkP.nil _, by rw [diff_self]; exact Nat.zero_le _, h.tlen, h.files⟩
theorem old_self {q : Nat} {F : FsD} (h : FInv q F) : Old F F.disk.now := ⟨h.lies, h.un, fun _ _ => rfl⟩
/-- A disk on which a change was begun: what the next openings are to find (V': the files as the change makes them). -/
structure AtomF (q : Nat) (F : FsD) (bl : Puts) (fs : Files) (V' : View) : Prop where
  inv : FInv q F
  plan : Plan F bl fs
  new : ∀ g, Keeps F g → Has bl g → viewG (firstF F) g fs = V'
theorem runP_two {L : List Puts} {D : DiskD} (h : Rest D) (ho : ∀ l ∈ L, OkP D.n l) : (runP D L).2 = 0 ∨ (runP D L).2 = 12 := by
  rcases runP_fall L D h ho with ⟨k, q, e, -⟩ | ⟨k, g, -, e⟩ <;> rw [e]
  · exact .inl rfl
  · exact .inr rfl
/-- How Do goes where a fall was told ahead, beside a twin where none comes. -/
def AtomEnd (q : Nat) (F : FsD) (R H : FsD × Nat) : Prop :=
  (R.2 ≠ 0 ∧ R.2 ≠ 12 ∧ R.1 = F ∧ R.2 = H.2 ∧ viewF H.1 = viewF F) ∨
  (H.2 = 0 ∧ ∃ F2 bl fs, AtomF (q + 1) F2 bl fs (viewF H.1) ∧ Phase F2 bl fs R.1.disk ∧ (R.2 = 0 ∧ viewF F2 = viewF H.1 ∨ R.2 = 12 ∧ viewF F2 = viewF F) ∧ (R.2 = 0 → R.1.disk.down = false) ∧ (R.2 = 12 → R.1.disk.down = true))
theorem atom_law {q q' : Nat} {F G : FsD} (hF : FInv q F) (hG : FInv q' G) (hq : q < 2 ^ 47) (hq' : q' < 2 ^ 47) (hT : Tw F G) (hg : G.disk.falls = 0) (cs : List ChangeD) : AtomEnd q F (doF F cs) (doF G cs) := by
  have hp := hT.prep cs
  rcases prep_plan hF cs with ⟨e, h1, h2, h3⟩ | ⟨h1, bl, fs, h2, h3, h4, h5⟩
  · have eF : doF F cs = (F, e) := by
      unfold doF
      simp only [h1]
      rw [if_pos h2]
    have eG : doF G cs = (G, e) := by
      rw [h1] at hp
      unfold doF
      simp only [← hp]
      rw [if_pos h2]
    left
    rw [eF, eG]
    refine ⟨h2, ?_, rfl, rfl, hT.view.symm⟩
    show e ≠ 12
    rcases h3 with h3 | ⟨-, h3 | h3⟩
    · have h4 := allV_err cs (viewF F)
      unfold ErrV at h4
      omega
    · omega
    · omega
  · right
    rw [h2] at hp
    obtain ⟨-, -, -, -, -, hd⟩ := do_law hG hq' hg cs
    have hH : (doF G cs).2 = 0 ∧ viewF (doF G cs).1 = (allV (viewF G) cs).1 := by
      rcases do_calm hG hg cs with ⟨e', e0', e1', e2'⟩ | ⟨st', fs', lg', k', e1', e2'⟩
      · rw [e1'] at hp
        simp only [Prod.mk.injEq] at hp
        exact absurd hp.1.symm e0'
      · rcases hd with ⟨a, -⟩ | ⟨a, -, b, -⟩
        · rw [e2'] at a; exact absurd rfl a
        · exact ⟨a, b⟩
    rw [← hT.view] at hH
    refine ⟨hH.1, ?_⟩
    rcases do_any hF hq cs with ⟨e, e1, e2, e3⟩ | ⟨-, bl', fs', hp', h4', h5', h6⟩
    · exfalso
      have hr : (doF F cs).2 = 0 ∨ (doF F cs).2 = 12 := by
        unfold doF
        simp only [h2]
        rw [if_neg (by simp)]
        rcases runP_two hF.rest (h3.stagesOk hF) with h | h
        · rw [if_pos h]; exact .inl rfl
        · rw [if_neg (by rw [h]; decide)]; exact .inr h
      rw [e1] at hr
      simp only at hr
      rw [h1] at e3
      omega
    · rcases h6 with ⟨D, d1, d2, d3, d4, -⟩ | ⟨D, d1, d2, d3, d4, d5, d6, d7, d8, d9⟩
      · have hN := new_inv hF hp' d2 d3 d4
        have hv : viewF ⟨D, logF F fs', F.mt, fs'⟩ = (allV (viewF F) cs).1 := by
          unfold viewF
          rw [logF_first]
          exact h5' _ d4.2.2.1 d4.2.2.2
        rw [d1]
        refine ⟨_, [], _, ⟨hN, plan_self hN, fun g hk _ => ?_⟩, ⟨rfl, d3.pend, d3.dur, d3.len, .inl (old_self hN)⟩, .inl ⟨rfl, hv.trans hH.2.symm⟩, fun _ => d3.up, fun e => by cases e⟩
        rw [hH.2, ← hv]
        exact viewG_eq hk
      · rw [d1]
        refine ⟨F, bl', fs', ⟨hF.more, hp', fun g hk hb => ?_⟩, ⟨d2, d3, d4, d8, d9⟩, .inr ⟨rfl, rfl⟩, fun e => (by cases e), fun _ => d6⟩
        rw [hH.2]; exact h5' g hk hb
/-- What the last opening finds. -/
theorem atom_open {q : Nat} {F : FsD} {bl : Puts} {fs : Files} {V' : View} (h : AtomF q F bl fs V') {D : DiskD} {L : LogD} (ho : Opens q F bl fs D L) (h0 : (runP D (redoP D L)).2 = 0) :
    ∃ F', F'.disk = (runP D (redoP D L)).1 ∧ F'.log = (if markedN D L = 0 then L else nextL L (markedN D L)) ∧ FInv (q + 1) F' ∧ (viewF F' = viewF F ∨ viewF F' = V') := by
  obtain ⟨F', h1, h2, h3, h4, h5⟩ := ho.good h0
  refine ⟨F', h1, h2, h4, ?_⟩
  rcases h5 with ⟨-, h6⟩ | ⟨-, h6, h7, h8⟩
  · exact .inl h6
  · exact .inr (h6.trans (h.new _ h7 h8))
end Go.Aq.Fy
