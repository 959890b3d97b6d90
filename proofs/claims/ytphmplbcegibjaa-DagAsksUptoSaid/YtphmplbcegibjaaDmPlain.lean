/- A child more of two, in plain Lean. No statement of the seat is proved here. -/
import Derived.Test.YtphmplbcegibjaaDlPlain
set_option linter.unusedVariables false
namespace Go.Aq.Dg
open Go.Aq.So
/-- Nodes, and a child more of two of them. -/
structure More (g f : List NodeD) (key a b : List UInt8) (st : Int) : Prop where
  G : Good g
  eq : f = g ++ [⟨key, [a, b], st⟩]
  ha : hasK g a = true
  hb : hasK g b = true
  hk : hasK g key = false
  sa : stampK g a < st
  sb : stampK g b < st
theorem hasK_app (g h : List NodeD) (k : List UInt8) : hasK (g ++ h) k = (hasK g k || hasK h k) := by simp [hasK]
theorem More.has {g f : List NodeD} {key a b : List UInt8} {st : Int} (m : More g f key a b st) (k : List UInt8) : hasK f k = (hasK g k || decide (key = k)) := by
  rw [m.eq, hasK_app]
  congr 1
  rw [Bool.eq_iff_iff]
  simp [hasK]
theorem More.up {g f : List NodeD} {key a b : List UInt8} {st : Int} (m : More g f key a b st) {k : List UInt8} (h : hasK g k = true) : hasK f k = true := by rw [m.has, h]; rfl
theorem More.nd {g f : List NodeD} {key a b : List UInt8} {st : Int} (m : More g f key a b st) : (f.map (·.key)).Nodup := by
  rw [m.eq, List.map_append]
  refine List.nodup_append.2 ⟨m.G.1, by simp, fun x hx y hy e => ?_⟩
  simp at hy
  subst hy
  obtain ⟨z, hz, rfl⟩ := List.mem_map.1 hx
  have := hasK_iff.2 ⟨z, hz, rfl⟩
  rw [e, m.hk] at this
  cases this
theorem More.stamp {g f : List NodeD} {key a b : List UInt8} {st : Int} (m : More g f key a b st) {k : List UInt8} (h : hasK g k = true) : stampK f k = stampK g k := by
  obtain ⟨x, hx, rfl⟩ := hasK_iff.1 h
  rw [stampK_of m.nd (by rw [m.eq]; exact List.mem_append_left _ hx), stampK_of m.G.1 hx]
theorem More.stampN {g f : List NodeD} {key a b : List UInt8} {st : Int} (m : More g f key a b st) : stampK f key = st :=
  stampK_of (x := ⟨key, [a, b], st⟩) m.nd (by rw [m.eq]; simp)
theorem More.newE {g f : List NodeD} {key a b : List UInt8} {st : Int} (m : More g f key a b st) (hl : g.length ≤ 499) : newE f = 0 := by
  have hp : ∀ x ∈ f, ∀ p ∈ x.parents, hasK g p = true ∧ stampK g p < x.stamp := by
    intro x hx p hp
    rw [m.eq] at hx
    rcases List.mem_append.1 hx with h | h
    · exact m.G.2 x h p hp
    · rw [List.mem_singleton.1 h] at hp ⊢
      simp only [List.mem_cons, List.not_mem_nil, or_false] at hp
      rcases hp with rfl | rfl
      · exact ⟨m.ha, m.sa⟩
      · exact ⟨m.hb, m.sb⟩
  unfold Dg.newE
  rw [if_neg (by rw [m.eq]; simp; omega), if_neg (fun hn => hn m.nd), if_neg, if_neg]
  · intro hl
    unfold lateN at hl
    obtain ⟨x, hx, hq⟩ := List.any_eq_true.1 hl
    obtain ⟨p, hpp, hlt⟩ := List.any_eq_true.1 hq
    have h1 := hp x hx p hpp
    rw [m.stamp h1.1] at hlt
    have := of_decide_eq_true hlt
    omega
  · intro hn
    obtain ⟨x, hx, hq⟩ := List.any_eq_true.1 hn
    obtain ⟨p, hpp, hlt⟩ := List.any_eq_true.1 hq
    rw [m.up (hp x hx p hpp).1] at hlt
    cases hlt
theorem More.rch {g f : List NodeD} {key a b : List UInt8} {st : Int} (m : More g f key a b st) {k p : List UInt8} (h : Rch g k p) : Rch f k p := by
  induction h with
  | self hk => exact .self (m.up hk)
  | step hx _ hp hh ih => exact .step (by rw [m.eq]; exact List.mem_append_left _ hx) ih hp (m.up hh)
theorem More.rch' {g f : List NodeD} {key a b : List UInt8} {st : Int} (m : More g f key a b st) {k p : List UInt8} (hk : hasK g k = true) (h : Rch f k p) : Rch g k p := by
  induction h with
  | self _ => exact .self hk
  | @step x p hx _ hp hh ih =>
    rw [m.eq] at hx
    rcases List.mem_append.1 hx with h1 | h1
    · exact .step h1 ih hp (m.G.2 x h1 p hp).1
    · have e := List.mem_singleton.1 h1
      have := ih.has
      rw [e] at this
      simp only at this
      rw [m.hk] at this
      cases this
theorem More.one {g f : List NodeD} {key a b : List UInt8} {st : Int} (m : More g f key a b st) {k p : List UInt8} (hk : hasK g k = true) : Rch f k p ↔ Rch g k p := ⟨m.rch' hk, m.rch⟩
theorem More.new {g f : List NodeD} {key a b : List UInt8} {st : Int} (m : More g f key a b st) (p : List UInt8) : Rch f key p ↔ p = key ∨ Rch g a p ∨ Rch g b p := by
  have hin : (⟨key, [a, b], st⟩ : NodeD) ∈ f := by rw [m.eq]; simp
  have hkf : hasK f key = true := hasK_iff.2 ⟨_, hin, rfl⟩
  have ra : Rch f key a := .step hin (.self hkf) (by simp) (m.up m.ha)
  have rb : Rch f key b := .step hin (.self hkf) (by simp) (m.up m.hb)
  constructor
  · intro h
    induction h with
    | self _ => exact .inl rfl
    | @step x p hx _ hp hh ih =>
      rw [m.eq] at hx
      rcases List.mem_append.1 hx with h1 | h1
      · rcases ih with e | e | e
        · have := hasK_iff.2 ⟨x, h1, rfl⟩
          rw [e, m.hk] at this; cases this
        · exact .inr (.inl (.step h1 e hp (m.G.2 x h1 p hp).1))
        · exact .inr (.inr (.step h1 e hp (m.G.2 x h1 p hp).1))
      · rw [List.mem_singleton.1 h1] at hp
        simp only [List.mem_cons, List.not_mem_nil, or_false] at hp
        rcases hp with rfl | rfl
        · exact .inr (.inl (.self m.ha))
        · exact .inr (.inr (.self m.hb))
  · rintro (rfl | h | h)
    · exact .self hkf
    · exact ra.trans (m.rch h)
    · exact rb.trans (m.rch h)
theorem More.anc {g f : List NodeD} {key a b : List UInt8} {st : Int} (m : More g f key a b st) {k : List UInt8} (hk : hasK g k = true) {ss : List (List UInt8)} (h : Anc g k ss) : Anc f k ss :=
  ⟨h.up, h.nd, fun p => (h.mem p).trans (m.one hk).symm⟩
theorem More.log {g f : List NodeD} {key a b : List UInt8} {st : Int} (m : More g f key a b st) {k : List UInt8} (hk : hasK g k = true) {ss : List (List UInt8)} (h : Anc g k ss) : sortT (stampK f) ss = sortT (stampK g) ss := by
  refine sortT_eq (stampK f) ?_ (sortT_perm _ _)
  refine List.Pairwise.imp_of_mem ?_ (sortT_srt (stampK g) ss)
  intro x y hx hy hxy
  have ex := m.stamp ((h.mem x).1 ((sortT_mem _ _ _).1 hx)).has
  have ey := m.stamp ((h.mem y).1 ((sortT_mem _ _ _).1 hy)).has
  rw [le_iff] at hxy ⊢
  rw [ex, ey]; exact hxy
theorem base_swap {g : List NodeD} {a b x : List UInt8} {e : Int} (h : BaseR g a b x e) : BaseR g b a x e := by
  rcases h with ⟨rfl, rfl, h⟩ | ⟨rfl, rfl, h, k⟩ | ⟨rfl, h, k, l⟩
  · exact .inl ⟨rfl, rfl, fun h' => h ⟨h'.2, h'.1⟩⟩
  · exact .inr (.inl ⟨rfl, rfl, ⟨h.2, h.1⟩, fun k' p q => k k' q p⟩)
  · exact .inr (.inr ⟨rfl, ⟨h.2, h.1⟩, ⟨k.2, k.1⟩, fun k' p q => l k' q p⟩)
theorem More.base {g f : List NodeD} {key a b : List UInt8} {st : Int} (m : More g f key a b st) {x y : List UInt8} {e e' : Int} (h : BaseR g a b x e) (k : BaseR f a b y e') : x = y ∧ e = e' := by
  refine base_one (g := f) (a := a) (b := b) ?_ (base_swap k)
  rcases h with ⟨rfl, rfl, h⟩ | ⟨rfl, rfl, h1, h2⟩ | ⟨rfl, h1, h2, h3⟩
  · exact absurd ⟨m.ha, m.hb⟩ h
  · exact .inr (.inl ⟨rfl, rfl, ⟨m.up m.ha, m.up m.hb⟩, fun k p q => h2 k (m.rch' m.ha p) (m.rch' m.hb q)⟩)
  · refine .inr (.inr ⟨rfl, ⟨m.up m.ha, m.up m.hb⟩, ⟨m.rch h2.1, m.rch h2.2⟩, fun k p q => ?_⟩)
    have p' := m.rch' m.ha p
    have := h3 k p' (m.rch' m.hb q)
    unfold beats at this ⊢
    rw [m.stamp p'.has, m.stamp h2.1.has]; exact this
theorem More.goodF {g f : List NodeD} {key a b : List UInt8} {st : Int} (m : More g f key a b st) : Good f := by
  refine ⟨m.nd, fun x hx p hp => ?_⟩
  rw [m.eq] at hx
  rcases List.mem_append.1 hx with h | h
  · have := m.G.2 x h p hp
    exact ⟨m.up this.1, by rw [m.stamp this.1]; exact this.2⟩
  · rw [List.mem_singleton.1 h] at hp ⊢
    simp only [List.mem_cons, List.not_mem_nil, or_false] at hp
    rcases hp with rfl | rfl
    · exact ⟨m.up m.ha, by rw [m.stamp m.ha]; exact m.sa⟩
    · exact ⟨m.up m.hb, by rw [m.stamp m.hb]; exact m.sb⟩
theorem More.base1 {g f : List NodeD} {key a b : List UInt8} {st : Int} (m : More g f key a b st) {x : List UInt8} {e : Int} (h : BaseR f key a x e) : x = a ∧ e = 0 := by
  have hr : Rch f key a := (m.new a).2 (.inr (.inl (.self m.ha)))
  have ha : Rch f a a := .self (m.up m.ha)
  rcases h with ⟨rfl, rfl, h1⟩ | ⟨rfl, rfl, h1, h2⟩ | ⟨rfl, h1, h2, h3⟩
  · exact absurd ⟨hr.has0, ha.has⟩ h1
  · exact absurd ha (h2 a hr)
  · exact ⟨base_elder' m.goodF (.inr (.inr ⟨rfl, h1, h2, h3⟩)) hr, rfl⟩
theorem More.base2 {g f : List NodeD} {key a b : List UInt8} {st : Int} (m : More g f key a b st) {x : List UInt8} {e : Int} (h : BaseR f b key x e) : x = b ∧ e = 0 := by
  have hr : Rch f key b := (m.new b).2 (.inr (.inr (.self m.hb)))
  have hb : Rch f b b := .self (m.up m.hb)
  rcases h with ⟨rfl, rfl, h1⟩ | ⟨rfl, rfl, h1, h2⟩ | ⟨rfl, h1, h2, h3⟩
  · exact absurd ⟨hb.has, hr.has0⟩ h1
  · exact absurd hr (h2 b hb)
  · exact ⟨base_elder m.goodF (.inr (.inr ⟨rfl, h1, h2, h3⟩)) hr, rfl⟩
/-- All of the new one's ancestors. -/
theorem More.all {g f : List NodeD} {key a b : List UInt8} {st : Int} (m : More g f key a b st) {sa sb sk U : List (List UInt8)} (h1 : Anc g a sa) (h2 : Anc g b sb) (h3 : Anc f key sk) (u1 : U.Pairwise fun x y => x ≤ y) (u2 : U.Nodup) (hu : ∀ x, x ∈ U ↔ x ∈ sa ++ sb ++ [key]) : U = sk := by
  refine up_eq u1 u2 h3.up h3.nd fun x => ?_
  rw [hu, h3.mem, m.new]
  simp only [List.mem_append, List.mem_singleton, h1.mem, h2.mem]
  constructor
  · rintro ((h | h) | h)
    · exact .inr (.inl h)
    · exact .inr (.inr h)
    · exact .inl h
  · rintro (h | h | h)
    · exact .inr h
    · exact .inl (.inl h)
    · exact .inl (.inr h)
theorem More.small {g f : List NodeD} {key a b : List UInt8} {st : Int} (m : More g f key a b st) (S : SmallG g) (hw : wt g [] ≤ 2097149) (hk : key.length ≤ 1048576) (ha : a.length ≤ 1048576) (hb : b.length ≤ 1048576) : SmallG f := by
  refine ⟨fun x hx => ?_, fun x hx => ?_, ?_⟩
  · rw [m.eq] at hx
    rcases List.mem_append.1 hx with h | h
    · exact S.keys x h
    · rw [List.mem_singleton.1 h]; exact hk
  · rw [m.eq] at hx
    rcases List.mem_append.1 hx with h | h
    · exact S.pars x h
    · rw [List.mem_singleton.1 h]
      intro p hp
      simp only [List.mem_cons, List.not_mem_nil, or_false] at hp
      rcases hp with rfl | rfl
      · exact ha
      · exact hb
  · have e : wt f [] = wt g [] + 3 := by rw [m.eq]; simp [wt]
    omega
end Go.Aq.Dg
