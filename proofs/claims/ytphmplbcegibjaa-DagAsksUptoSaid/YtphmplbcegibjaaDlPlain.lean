/- Logs in plain Lean: the order in which nodes are told matters not; a log's first; no node comes from its own parents. No statement of the seat is proved here. -/
import Derived.Test.YtphmplbcegibjaaSoF
set_option linter.unusedVariables false
namespace Go.Aq.Dg
open Go.Aq.So
theorem hasK_perm {g g2 : List NodeD} (h : g.Perm g2) (k : List UInt8) : hasK g k = hasK g2 k := by
  rw [Bool.eq_iff_iff, hasK_iff, hasK_iff]
  exact ⟨fun ⟨x, hx, e⟩ => ⟨x, h.mem_iff.1 hx, e⟩, fun ⟨x, hx, e⟩ => ⟨x, h.mem_iff.2 hx, e⟩⟩
theorem keys_perm {g g2 : List NodeD} (h : g.Perm g2) (nd : (g.map (·.key)).Nodup) : (g2.map (·.key)).Nodup := (h.map _).nodup nd
theorem stampK_perm {g g2 : List NodeD} (h : g.Perm g2) (nd : (g.map (·.key)).Nodup) (k : List UInt8) : stampK g k = stampK g2 k := by
  cases hh : hasK g k
  · rw [stampK_none hh, stampK_none (by rw [← hasK_perm h]; exact hh)]
  · obtain ⟨x, hx, rfl⟩ := hasK_iff.1 hh
    rw [stampK_of nd hx, stampK_of (keys_perm h nd) (h.mem_iff.1 hx)]
theorem rch_perm {g g2 : List NodeD} (h : g.Perm g2) {k p : List UInt8} (r : Rch g k p) : Rch g2 k p := by
  induction r with
  | self hk => exact .self (by rw [← hasK_perm h]; exact hk)
  | step hx _ hp hh ih => exact .step (h.mem_iff.1 hx) ih hp (by rw [← hasK_perm h]; exact hh)
theorem newE_perm {g g2 : List NodeD} (h : g.Perm g2) (e : newE g = 0) : newE g2 = 0 := by
  have hG := newE_good e
  have hl := newE_len e
  have nd2 := keys_perm h hG.1
  unfold newE
  rw [if_neg (by have := h.length_eq; omega), if_neg (fun hn => hn nd2), if_neg, if_neg]
  · intro hl
    unfold lateN at hl
    obtain ⟨x, hx, hp⟩ := List.any_eq_true.1 hl
    obtain ⟨p, hp, hlt⟩ := List.any_eq_true.1 hp
    have := (hG.2 x (h.mem_iff.2 hx) p hp).2
    rw [stampK_perm h hG.1 p] at this
    have := of_decide_eq_true hlt
    omega
  · intro hn
    obtain ⟨x, hx, hp⟩ := List.any_eq_true.1 hn
    obtain ⟨p, hp, hq⟩ := List.any_eq_true.1 hp
    have := (hG.2 x (h.mem_iff.2 hx) p hp).1
    rw [hasK_perm h] at this
    rw [this] at hq
    cases hq
theorem Anc.perm {g g2 : List NodeD} (h : g.Perm g2) {key : List UInt8} {ss : List (List UInt8)} (a : Anc g key ss) : Anc g2 key ss :=
  ⟨a.up, a.nd, fun k => (a.mem k).trans ⟨rch_perm h, rch_perm h.symm⟩⟩
theorem log_perm {g g2 : List NodeD} (h : g.Perm g2) (nd : (g.map (·.key)).Nodup) {key : List UInt8} {ss s2 : List (List UInt8)} (a : Anc g key ss) (b : Anc g2 key s2) : sortT (stampK g2) s2 = sortT (stampK g) ss := by
  have e : s2 = ss := b.one (a.perm h)
  have f : stampK g2 = stampK g := funext fun k => (stampK_perm h nd k).symm
  rw [e, f]
theorem has_log {g : List NodeD} {key : List UInt8} {ss : List (List UInt8)} (a : Anc g key ss) : hasK g key = decide (0 < ss.length) := by
  cases hh : hasK g key
  · symm
    rw [decide_eq_false_iff_not]
    intro hl
    have := (a.mem _).1 (List.getElem_mem hl)
    rw [this.has0] at hh
    cases hh
  · symm
    rw [decide_eq_true_eq]
    have := (a.mem key).2 (.self hh)
    exact List.length_pos_of_mem this
/-- A log's first is the key. -/
theorem first_log {g : List NodeD} (G : Good g) {key : List UInt8} {ss : List (List UInt8)} (a : Anc g key ss) (h : 0 < (sortT (stampK g) ss).length) : (sortT (stampK g) ss)[0] = key := by
  have hk : key ∈ sortT (stampK g) ss := by
    rw [sortT_mem, a.mem]
    have := has_log a
    rw [sortT_len] at h
    exact .self (by rw [this]; exact decide_eq_true h)
  obtain ⟨i, hi, e⟩ := List.getElem_of_mem hk
  have h1 := srt_get (stampK g) (sortT_srt (stampK g) ss) (i := 0) (j := i) (Nat.zero_le _) hi
  rw [e] at h1
  have h2 : Rch g key (sortT (stampK g) ss)[0] := (a.mem _).1 ((sortT_mem _ _ _).1 (List.getElem_mem h))
  rcases h2.elder G with h3 | h3
  · exact h3.symm
  · rw [le_iff] at h1
    rcases h1 with h1 | ⟨h1, -⟩ <;> omega
/-- Nobody comes from its own parents. -/
theorem not_back {g : List NodeD} (G : Good g) {x : NodeD} (hx : x ∈ g) {p : List UInt8} (hp : p ∈ x.parents) : ¬ Rch g p x.key := by
  intro h
  have h1 := (G.2 x hx p hp).2
  have h2 := stampK_of G.1 hx
  rcases h.elder G with h3 | h3
  · rw [h3] at h1; omega
  · omega
theorem up_rch {g : List NodeD} (G : Good g) {x : NodeD} (hx : x ∈ g) {p : List UInt8} (hp : p ∈ x.parents) : Rch g x.key p :=
  .step hx (.self (hasK_iff.2 ⟨x, hx, rfl⟩)) hp (G.2 x hx p hp).1
theorem rot_perm {α : Type} (l : List α) (k : Nat) : l.Perm (l.drop k ++ l.take k) := by
  have := List.perm_append_comm (l₁ := l.take k) (l₂ := l.drop k)
  rwa [List.take_append_drop] at this
theorem SmallG.perm {g g2 : List NodeD} (h : g.Perm g2) (S : SmallG g) : SmallG g2 :=
  ⟨fun x hx => S.keys x (h.mem_iff.2 hx), fun x hx => S.pars x (h.mem_iff.2 hx), by
    have e : wt g2 [] = wt g [] := by unfold wt; exact ((h.map _).sum_nat).symm
    rw [e]; exact S.all⟩
theorem unique_log {g : List NodeD} {key : List UInt8} {ss U : List (List UInt8)} (a : Anc g key ss) (h1 : U.Pairwise fun x y => x ≤ y) (h2 : U.Nodup) (hm : ∀ x, x ∈ U ↔ x ∈ sortT (stampK g) ss) : U = ss :=
  up_eq h1 h2 a.up a.nd fun x => by rw [hm, sortT_mem]
end Go.Aq.Dg
