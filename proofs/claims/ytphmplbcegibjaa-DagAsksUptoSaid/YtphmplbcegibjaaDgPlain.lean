/- Histories in plain Lean: what is reached by parents, a worklist that finds it, the nearest common ancestor. No statement of the seat is proved here. -/
import Derived.WalkKit
set_option linter.unusedVariables false
namespace Go.Aq.Dg

/-- A node: its key, its parents' keys, its stamp. -/
structure NodeD where
  key : List UInt8
  parents : List (List UInt8)
  stamp : Int
deriving DecidableEq

def hasK (g : List NodeD) (k : List UInt8) : Bool := g.any fun x => x.key == k
theorem hasK_iff {g : List NodeD} {k : List UInt8} : hasK g k = true ↔ ∃ x ∈ g, x.key = k := by
  simp [hasK]
/-- The stamp of a key (0 of one that is not there). -/
def stampK (g : List NodeD) (k : List UInt8) : Int := ((g.find? fun x => x.key == k).map (·.stamp)).getD 0
theorem uniq {g : List NodeD} (nd : (g.map (·.key)).Nodup) {x y : NodeD} (hx : x ∈ g) (hy : y ∈ g) (h : x.key = y.key) : x = y := by
  induction g with
  | nil => cases hx
  | cons a t ih =>
    simp only [List.map_cons, List.nodup_cons] at nd
    rcases List.mem_cons.1 hx with rfl | hx' <;> rcases List.mem_cons.1 hy with rfl | hy'
    · rfl
    · exact absurd (List.mem_map.2 ⟨y, hy', h.symm⟩) nd.1
    · exact absurd (List.mem_map.2 ⟨x, hx', h⟩) nd.1
    · exact ih nd.2 hx' hy'
theorem stampK_of {g : List NodeD} (nd : (g.map (·.key)).Nodup) {x : NodeD} (hx : x ∈ g) : stampK g x.key = x.stamp := by
  unfold stampK
  cases h : g.find? fun y => y.key == x.key with
  | none => exact absurd (List.find?_eq_none.1 h x hx) (by simp)
  | some y =>
    have h1 := List.find?_some h
    have h2 := List.mem_of_find?_eq_some h
    have := uniq nd h2 hx (by simpa using h1)
    subst this; rfl

/-- Each key once; each parent there, and elder. -/
def Good (g : List NodeD) : Prop := (g.map (·.key)).Nodup ∧ ∀ x ∈ g, ∀ p ∈ x.parents, hasK g p = true ∧ stampK g p < x.stamp

/-- What is reached from a key by parents, it too. -/
inductive Rch (g : List NodeD) (key : List UInt8) : List UInt8 → Prop
  | self : hasK g key = true → Rch g key key
  | step {x : NodeD} {p : List UInt8} : x ∈ g → Rch g key x.key → p ∈ x.parents → hasK g p = true → Rch g key p

theorem Rch.has {g : List NodeD} {key k : List UInt8} (h : Rch g key k) : hasK g k = true := by cases h <;> assumption
theorem Rch.has0 {g : List NodeD} {key k : List UInt8} (h : Rch g key k) : hasK g key = true := by
  induction h with
  | self h => exact h
  | step _ _ _ _ ih => exact ih
theorem Rch.trans {g : List NodeD} {a b c : List UInt8} (h : Rch g a b) (k : Rch g b c) : Rch g a c := by
  induction k with
  | self _ => exact h
  | step hx _ hp hh ih => exact .step hx ih hp hh
/-- What is reached is elder. -/
theorem Rch.elder {g : List NodeD} (G : Good g) {a b : List UInt8} (h : Rch g a b) : a = b ∨ stampK g b < stampK g a := by
  induction h with
  | self _ => exact .inl rfl
  | @step x p hx _ hp hh ih =>
    right
    have h1 := (G.2 x hx p hp).2
    have h2 := stampK_of G.1 hx
    rcases ih with e | e
    · rw [e]; omega
    · omega

/-! ### the worklist -/
/-- What is still to be paid. -/
def wt (g : List NodeD) (met : List (List UInt8)) : Nat := (g.map fun x => if x.key ∈ met then 0 else x.parents.length + 1).sum
theorem wt_mono (g : List NodeD) (met : List (List UInt8)) (k : List UInt8) : wt g (met ++ [k]) ≤ wt g met := by
  induction g with
  | nil => simp [wt]
  | cons a t ih =>
    simp only [wt, List.map_cons, List.sum_cons] at ih ⊢
    have : (if a.key ∈ met ++ [k] then 0 else a.parents.length + 1) ≤ if a.key ∈ met then 0 else a.parents.length + 1 := by
      by_cases h : a.key ∈ met
      · simp [h]
      · by_cases h2 : a.key = k <;> simp [h, h2]
    omega
theorem wt_take (g : List NodeD) (met : List (List UInt8)) {x : NodeD} (hx : x ∈ g) (hn : x.key ∉ met) : wt g (met ++ [x.key]) + x.parents.length + 1 ≤ wt g met := by
  induction g with
  | nil => cases hx
  | cons a t ih =>
    have hm := wt_mono t met x.key
    simp only [wt, List.map_cons, List.sum_cons] at ih hm ⊢
    rcases List.mem_cons.1 hx with rfl | h
    · rw [if_pos (by simp), if_neg hn]; omega
    · have := ih h
      have : (if a.key ∈ met ++ [x.key] then 0 else a.parents.length + 1) ≤ if a.key ∈ met then 0 else a.parents.length + 1 := by
        by_cases h : a.key ∈ met
        · simp [h]
        · by_cases h2 : a.key = x.key <;> simp [h, h2]
      omega

theorem len_wt (g : List NodeD) : g.length ≤ wt g [] := by
  induction g with
  | nil => simp
  | cons a t ih => simp only [wt, List.map_cons, List.sum_cons, List.length_cons] at ih ⊢; simp at ih ⊢; omega
structure Inv (g : List NodeD) (key : List UInt8) (met work : List (List UInt8)) : Prop where
  nd : met.Nodup
  r1 : ∀ k ∈ met, Rch g key k
  r2 : ∀ k ∈ work, hasK g k = true → Rch g key k
  clo : ∀ x ∈ g, x.key ∈ met → ∀ p ∈ x.parents, hasK g p = true → p ∈ met ∨ p ∈ work
  start : hasK g key = true → key ∈ met ∨ key ∈ work
  paid : work.length + wt g met ≤ 1 + wt g []

theorem Inv.init (g : List NodeD) (key : List UInt8) : Inv g key [] [key] :=
  ⟨by simp, by simp, fun k hk h => by rw [List.mem_singleton.1 hk] at h ⊢; exact .self h, by simp, fun _ => by simp, by simp⟩
theorem Inv.skip {g : List NodeD} {key k : List UInt8} {met work : List (List UInt8)} (h : Inv g key met (work ++ [k])) (hk : k ∈ met ∨ hasK g k = false) : Inv g key met work := by
  refine ⟨h.nd, h.r1, fun j hj => h.r2 j (by simp [hj]), fun x hx hm p hp hh => ?_, fun hh => ?_, ?_⟩
  · rcases h.clo x hx hm p hp hh with h1 | h1
    · exact .inl h1
    · rcases List.mem_append.1 h1 with h2 | h2
      · exact .inr h2
      · rw [List.mem_singleton.1 h2] at hh ⊢
        rcases hk with hk | hk
        · exact .inl hk
        · rw [hk] at hh; cases hh
  · rcases h.start hh with h1 | h1
    · exact .inl h1
    · rcases List.mem_append.1 h1 with h2 | h2
      · exact .inr h2
      · rw [List.mem_singleton.1 h2] at hh ⊢
        rcases hk with hk | hk
        · exact .inl hk
        · rw [hk] at hh; cases hh
  · have := h.paid; simp only [List.length_append, List.length_cons, List.length_nil] at this; omega
theorem Inv.take {g : List NodeD} (nd : (g.map (·.key)).Nodup) {key : List UInt8} {met work : List (List UInt8)} {x : NodeD} (h : Inv g key met (work ++ [x.key])) (hx : x ∈ g) (hn : x.key ∉ met) :
    Inv g key (met ++ [x.key]) (work ++ x.parents) := by
  have hk : hasK g x.key = true := hasK_iff.2 ⟨x, hx, rfl⟩
  have hr := h.r2 x.key (by simp) hk
  refine ⟨?_, ?_, ?_, ?_, ?_, ?_⟩
  · rw [List.nodup_append]; exact ⟨h.nd, by simp, fun a ha b hb e => by rw [List.mem_singleton.1 hb] at e; subst e; exact hn ha⟩
  · intro j hj
    rcases List.mem_append.1 hj with h1 | h1
    · exact h.r1 j h1
    · rw [List.mem_singleton.1 h1]; exact hr
  · intro j hj hh
    rcases List.mem_append.1 hj with h1 | h1
    · exact h.r2 j (by simp [h1]) hh
    · exact .step hx hr h1 hh
  · intro y hy hm p hp hh
    rcases List.mem_append.1 hm with h1 | h1
    · rcases h.clo y hy h1 p hp hh with h2 | h2
      · exact .inl (by simp [h2])
      · rcases List.mem_append.1 h2 with h3 | h3
        · exact .inr (by simp [h3])
        · exact .inl (by simp only [List.mem_append]; right; exact h3)
    · have := uniq nd hy hx (List.mem_singleton.1 h1)
      subst this
      exact .inr (by simp [hp])
  · intro hh
    rcases h.start hh with h1 | h1
    · exact .inl (by simp [h1])
    · rcases List.mem_append.1 h1 with h2 | h2
      · exact .inr (by simp [h2])
      · exact .inl (by simp only [List.mem_append]; right; exact h2)
  · have h1 := h.paid
    have h2 := wt_take g met hx hn
    simp only [List.length_append, List.length_cons, List.length_nil] at h1 ⊢
    omega
theorem Inv.done {g : List NodeD} {key : List UInt8} {met : List (List UInt8)} (h : Inv g key met []) (k : List UInt8) : k ∈ met ↔ Rch g key k := by
  refine ⟨h.r1 k, fun hr => ?_⟩
  induction hr with
  | self hh => simpa using h.start hh
  | step hx _ hp hh ih => simpa using h.clo _ hx ih _ hp hh
theorem nodup_le {α : Type} : ∀ (l m : List α), l.Nodup → (∀ x ∈ l, x ∈ m) → l.length ≤ m.length
  | [], m, _, _ => by simp
  | a :: t, m, nd, h => by
    obtain ⟨m1, m2, rfl⟩ := List.append_of_mem (h a (by simp))
    have := nodup_le t (m1 ++ m2) (List.nodup_cons.1 nd).2 fun x hx => by
      have h1 := h x (by simp [hx])
      have hne : x ≠ a := fun e => (List.nodup_cons.1 nd).1 (e ▸ hx)
      simp only [List.mem_append, List.mem_cons] at h1 ⊢
      rcases h1 with h1 | h1 | h1
      · exact .inl h1
      · exact absurd h1 hne
      · exact .inr h1
    simp only [List.length_append, List.length_cons] at this ⊢
    omega
/-- A list of keys that are there, each once, is no longer than the graph. -/
theorem met_le {g : List NodeD} {met : List (List UInt8)} (nd : met.Nodup) (h : ∀ k ∈ met, hasK g k = true) : met.length ≤ g.length := by
  have := nodup_le met (g.map (·.key)) nd fun k hk => by obtain ⟨x, hx, e⟩ := hasK_iff.1 (h k hk); exact List.mem_map.2 ⟨x, hx, e⟩
  simpa using this

/-! ### what New tells -/
def lateN (g : List NodeD) : Bool := g.any fun x => x.parents.any fun p => decide (x.stamp ≤ stampK g p)
def newE (g : List NodeD) : Int :=
  if 500 < g.length then 17 else if ¬ (g.map (·.key)).Nodup then 7 else if (g.any fun x => x.parents.any fun p => !hasK g p) = true then 6 else if lateN g = true then 1 else 0
theorem newE_good {g : List NodeD} (h : newE g = 0) : Good g := by
  unfold newE at h
  split at h
  · cases h
  split at h
  · cases h
  rename_i nd
  split at h
  · cases h
  rename_i hp
  split at h
  · cases h
  rename_i hl
  refine ⟨Decidable.of_not_not nd, fun x hx p hpx => ⟨?_, ?_⟩⟩
  · have := hp
    simp only [List.any_eq_true, not_exists, not_and, Bool.not_eq_true', Bool.not_eq_false] at this
    exact this x hx p hpx
  · have := hl
    simp only [lateN, List.any_eq_true, not_exists, not_and, decide_eq_true_eq] at this
    have := this x hx p hpx
    omega
theorem newE_len {g : List NodeD} (h : newE g = 0) : g.length ≤ 500 := by
  unfold newE at h
  split at h
  · cases h
  · omega

/-! ### the nearest common ancestor -/
def beats (g : List NodeD) (y x : List UInt8) : Prop := stampK g y < stampK g x ∨ stampK g y = stampK g x ∧ y ≤ x
theorem beats_refl (g : List NodeD) (x : List UInt8) : beats g x x := .inr ⟨rfl, List.le_refl x⟩
theorem beats_trans {g : List NodeD} {x y z : List UInt8} (h : beats g x y) (k : beats g y z) : beats g x z := by
  rcases h with h | ⟨h1, h2⟩ <;> rcases k with k | ⟨k1, k2⟩
  · left; omega
  · left; omega
  · left; omega
  · right; exact ⟨by omega, List.le_trans h2 k2⟩
/-- What Base tells. -/
def BaseR (g : List NodeD) (a b x : List UInt8) (e : Int) : Prop :=
  (e = 6 ∧ x = [] ∧ ¬ (hasK g a = true ∧ hasK g b = true)) ∨ (e = 14 ∧ x = [] ∧ (hasK g a = true ∧ hasK g b = true) ∧ ∀ k, Rch g a k → ¬ Rch g b k) ∨
    (e = 0 ∧ (hasK g a = true ∧ hasK g b = true) ∧ (Rch g a x ∧ Rch g b x) ∧ ∀ k, Rch g a k → Rch g b k → beats g k x)
theorem base_one {g : List NodeD} {a b x y : List UInt8} {e f : Int} (h : BaseR g a b x e) (k : BaseR g b a y f) : x = y ∧ e = f := by
  rcases h with ⟨rfl, rfl, h1⟩ | ⟨rfl, rfl, h1, h2⟩ | ⟨rfl, h1, h2, h3⟩ <;> rcases k with ⟨rfl, rfl, k1⟩ | ⟨rfl, rfl, k1, k2⟩ | ⟨rfl, k1, k2, k3⟩
  · exact ⟨rfl, rfl⟩
  · exact absurd ⟨k1.2, k1.1⟩ h1
  · exact absurd ⟨k1.2, k1.1⟩ h1
  · exact absurd ⟨h1.2, h1.1⟩ k1
  · exact ⟨rfl, rfl⟩
  · exact absurd k2.1 (h2 y k2.2)
  · exact absurd ⟨h1.2, h1.1⟩ k1
  · exact absurd h2.1 (k2 x h2.2)
  · refine ⟨?_, rfl⟩
    have p := h3 y k2.2 k2.1
    have q := k3 x h2.2 h2.1
    rcases p with p | ⟨p1, p2⟩ <;> rcases q with q | ⟨q1, q2⟩
    · omega
    · omega
    · omega
    · exact List.le_antisymm q2 p2
theorem base_none {g : List NodeD} {a b x : List UInt8} {e : Int} (h : BaseR g a b x e) (he : e = 6) : ¬ (hasK g a = true ∧ hasK g b = true) := by
  rcases h with ⟨_, _, h1⟩ | ⟨rfl, _⟩ | ⟨rfl, _⟩
  · exact h1
  · cases he
  · cases he
theorem base_not {g : List NodeD} {a b x : List UInt8} {e : Int} (h : BaseR g a b x e) (he : e ≠ 0) : x = [] ∧ ∀ k, Rch g a k → ¬ Rch g b k := by
  rcases h with ⟨_, h1, h2⟩ | ⟨_, h1, _, h2⟩ | ⟨rfl, _⟩
  · exact ⟨h1, fun k p q => h2 ⟨p.has0, q.has0⟩⟩
  · exact ⟨h1, h2⟩
  · exact absurd rfl he
theorem base_ok {g : List NodeD} {a b x : List UInt8} (h : BaseR g a b x 0) : (Rch g a x ∧ Rch g b x) ∧ ∀ k, Rch g a k → Rch g b k → beats g k x := by
  rcases h with ⟨h, _⟩ | ⟨h, _⟩ | ⟨_, _, h⟩
  · cases h
  · cases h
  · exact h
/-- Nobody nearer. -/
theorem base_near {g : List NodeD} (G : Good g) {a b x k : List UInt8} (h : BaseR g a b x 0) (ha : Rch g a k) (hb : Rch g b k) (hx : Rch g k x) : k = x := by
  have h1 := (base_ok h).2 k ha hb
  rcases hx.elder G with e | e
  · exact e
  · rcases h1 with h1 | ⟨h1, _⟩ <;> omega
theorem base_elder {g : List NodeD} (G : Good g) {a b x : List UInt8} (h : BaseR g a b x 0) (hb : Rch g b a) : x = a :=
  (base_near G h (.self hb.has) hb (base_ok h).1.1).symm
theorem base_elder' {g : List NodeD} (G : Good g) {a b x : List UInt8} (h : BaseR g a b x 0) (ha : Rch g a b) : x = b :=
  (base_near G h ha (.self ha.has) (base_ok h).1.2).symm

/-! ### the example -/
def l0 : List NodeD := [⟨[67], [[65]], 2⟩, ⟨[65], [], 1⟩, ⟨[66], [[65]], 2⟩]
theorem newE_l0 : newE l0 = 0 := by decide
theorem rch_l0 {k p : List UInt8} (h : Rch l0 k p) : p = k ∨ p = [65] := by
  cases h with
  | self _ => exact .inl rfl
  | step hx _ hp _ =>
    right
    simp only [l0, List.mem_cons, List.not_mem_nil, or_false] at hx
    rcases hx with rfl | rfl | rfl <;> simp at hp <;> exact hp
theorem l0_BA : Rch l0 [66] [65] := .step (x := ⟨[66], [[65]], 2⟩) (by simp [l0]) (.self (by decide)) (by simp) (by decide)
theorem l0_CA : Rch l0 [67] [65] := .step (x := ⟨[67], [[65]], 2⟩) (by simp [l0]) (.self (by decide)) (by simp) (by decide)
theorem base_l0 {x : List UInt8} {e : Int} (h : BaseR l0 [66] [67] x e) : x = [65] ∧ e = 0 := by
  rcases h with ⟨_, _, h1⟩ | ⟨_, _, _, h2⟩ | ⟨rfl, _, h2, _⟩
  · exact absurd ⟨by decide, by decide⟩ h1
  · exact absurd l0_CA (h2 _ l0_BA)
  · refine ⟨?_, rfl⟩
    rcases rch_l0 h2.1 with rfl | rfl
    · rcases rch_l0 h2.2 with e | e <;> exact absurd e (by decide)
    · rfl
theorem base_l0' {x : List UInt8} {e : Int} (h : BaseR l0 [65] [67] x e) : x = [65] ∧ e = 0 := by
  rcases h with ⟨_, _, h1⟩ | ⟨_, _, _, h2⟩ | ⟨rfl, _, h2, _⟩
  · exact absurd ⟨by decide, by decide⟩ h1
  · exact absurd l0_CA (h2 _ (.self (by decide)))
  · refine ⟨?_, rfl⟩
    rcases rch_l0 h2.1 with rfl | rfl <;> rfl
end Go.Aq.Dg
