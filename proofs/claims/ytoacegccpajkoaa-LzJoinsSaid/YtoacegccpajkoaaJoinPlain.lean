/- Two lists of tokens, one behind the other. In plain Lean. -/
import Derived.Test.YtoacegccpajkoaaExpPlain
namespace Go.Aq

theorem copyN_shift (d : Nat) (x : List UInt8) (hd : 1 ≤ d) : ∀ n y, d ≤ y.length → copyN d n (x ++ y) = x ++ copyN d n y
  | 0, y, _ => rfl
  | n + 1, y, h => by
    show copyN d n ((x ++ y) ++ [(x ++ y).getD ((x ++ y).length - d) 0]) = x ++ copyN d n (y ++ [y.getD (y.length - d) 0])
    have e : (x ++ y).getD ((x ++ y).length - d) 0 = y.getD (y.length - d) 0 := by
      rw [List.getD_eq_getElem?_getD, List.getD_eq_getElem?_getD, List.getElem?_append_right (by simp; omega)]
      simp only [List.length_append]
      rw [show x.length + y.length - d - x.length = y.length - d by omega]
    rw [e, List.append_assoc, copyN_shift d x hd n _ (by simp; omega)]
theorem step_length {b b' : List UInt8} {t : TokD} (h : stepT b t = .ok b') : wrongT t = false ∧ ¬ (b.length : Int) < t.dist ∧ ¬ 40000 < (b.length : Int) + max t.len 1 ∧ (b'.length : Int) = b.length + max t.len 1 ∧
    (t.len = 0 ∧ b' = b ++ [UInt8.ofNat t.byte.toNat] ∨ t.len ≠ 0 ∧ b' = copyN t.dist.toNat t.len.toNat b) := by
  cases hw : wrongT t with
  | true => rw [step_wrong hw] at h; cases h
  | false =>
    by_cases h1 : (b.length : Int) < t.dist
    · rw [step_range hw h1] at h; cases h
    · by_cases h2 : 40000 < (b.length : Int) + max t.len 1
      · rw [step_large hw h1 h2] at h; cases h
      · by_cases h3 : t.len = 0
        · rw [step_lit hw h1 h2 h3] at h
          injection h with h
          subst h
          refine ⟨rfl, h1, h2, ?_, .inl ⟨h3, rfl⟩⟩
          rw [h3, List.length_append]
          simp only [List.length_cons, List.length_nil]
          omega
        · rw [step_copy hw h1 h2 h3] at h
          injection h with h
          subst h
          have := wrong_copy hw h3
          refine ⟨rfl, h1, h2, ?_, .inr ⟨h3, rfl⟩⟩
          rw [copyN_length]
          omega
theorem step_code {b : List UInt8} {t : TokD} {e : Nat} (h : stepT b t = .error e) : e = 4 ∨ e = 1 ∨ e = 10 := by
  unfold stepT at h
  split at h
  · injection h with h; omega
  · split at h
    · injection h with h; omega
    · split at h
      · injection h with h; omega
      · split at h <;> cases h
theorem expandL_code : ∀ (l : List TokD) (b : List UInt8) (e : Nat), expandL l b = .error e → e = 4 ∨ e = 1 ∨ e = 10
  | [], b, e, h => by cases h
  | t :: ts, b, e, h => by
    cases hs : stepT b t with
    | error e' => rw [expandL_err hs] at h; injection h with h; subst h; exact step_code hs
    | ok b' => rw [expandL_ok hs] at h; exact expandL_code ts b' e h
theorem expandL_length : ∀ (l : List TokD) (b z : List UInt8), expandL l b = .ok z → b.length ≤ z.length ∧ (b.length ≤ 40000 → z.length ≤ 40000)
  | [], b, z, h => by injection h with h; subst h; omega
  | t :: ts, b, z, h => by
    cases hs : stepT b t with
    | error e' => rw [expandL_err hs] at h; cases h
    | ok b' =>
      rw [expandL_ok hs] at h
      have h1 := expandL_length ts b' z h
      have h2 := step_length hs
      omega
theorem expandL_append : ∀ (a b : List TokD) (s x : List UInt8), expandL a s = .ok x → expandL (a ++ b) s = expandL b x
  | [], b, s, x, h => by injection h with h; subst h; rfl
  | t :: ts, b, s, x, h => by
    cases hs : stepT s t with
    | error e' => rw [expandL_err hs] at h; cases h
    | ok b' =>
      rw [expandL_ok hs] at h
      rw [List.cons_append, expandL_ok hs]
      exact expandL_append ts b b' x h
theorem step_shift {x y y' : List UInt8} {t : TokD} (h : stepT y t = .ok y') (hx : x.length + y'.length ≤ 40000) : stepT (x ++ y) t = .ok (x ++ y') := by
  obtain ⟨hw, h1, h2, h3, h4⟩ := step_length h
  rcases h4 with ⟨h0, rfl⟩ | ⟨h0, rfl⟩
  · rw [step_lit hw (by simp; omega) (by simp at *; omega) h0, List.append_assoc]
  · have hc := wrong_copy hw h0
    rw [step_copy hw (by simp; omega) (by simp at *; omega) h0, copyN_shift _ _ (by omega) _ _ (by omega)]
theorem expandL_shift : ∀ (l : List TokD) (x y z : List UInt8), expandL l y = .ok z → x.length + z.length ≤ 40000 → expandL l (x ++ y) = .ok (x ++ z)
  | [], x, y, z, h, _ => by injection h with h; subst h; rfl
  | t :: ts, x, y, z, h, hx => by
    cases hs : stepT y t with
    | error e' => rw [expandL_err hs] at h; cases h
    | ok y' =>
      rw [expandL_ok hs] at h
      have h1 := (expandL_length ts y' z h).1
      rw [expandL_ok (step_shift (x := x) hs (by omega))]
      exact expandL_shift ts x y' z h hx
theorem expandL_join {a b : List TokD} {x y : List UInt8} (ha : expandL a [] = .ok x) (hb : expandL b [] = .ok y) (h : x.length + y.length ≤ 40000) : expandL (a ++ b) [] = .ok (x ++ y) := by
  rw [expandL_append a b [] x ha]
  have := expandL_shift b x [] y hb h
  rwa [List.append_nil] at this
end Go.Aq
