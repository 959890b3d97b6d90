/- What tokens make, in plain Lean. -/
import Derived.Test.YtoacegccpajkoaaRunsPlain
namespace Go.Aq

def wrongT (t : TokD) : Bool := if t.len = 0 then decide (t.dist ≠ 0 ∨ t.byte < 0 ∨ 255 < t.byte) else decide (t.len < 3 ∨ 258 < t.len ∨ t.dist < 1 ∨ 32768 < t.dist ∨ t.byte ≠ 0)
/-- Copy so many bytes from so far back. -/
def copyN (d : Nat) : Nat → List UInt8 → List UInt8
  | 0, b => b
  | n + 1, b => copyN d n (b ++ [b.getD (b.length - d) 0])
def stepT (b : List UInt8) (t : TokD) : Except Nat (List UInt8) :=
  if wrongT t = true then .error 4 else if (b.length : Int) < t.dist then .error 1 else if 40000 < (b.length : Int) + max t.len 1 then .error 10
  else if t.len = 0 then .ok (b ++ [UInt8.ofNat t.byte.toNat]) else .ok (copyN t.dist.toNat t.len.toNat b)
def expandL : List TokD → List UInt8 → Except Nat (List UInt8)
  | [], b => .ok b
  | t :: ts, b => match stepT b t with
    | .error e => .error e
    | .ok b' => expandL ts b'
/-- What Expand answers: the bytes, the code. -/
def resE : Except Nat (List UInt8) → List UInt8 × Nat
  | .error e => ([], e)
  | .ok b => (b, 0)
theorem copyN_length (d : Nat) : ∀ n b, (copyN d n b).length = b.length + n
  | 0, b => rfl
  | n + 1, b => by unfold copyN; rw [copyN_length d n]; simp; omega
theorem expandL_cons (t : TokD) (ts : List TokD) (b : List UInt8) : expandL (t :: ts) b = match stepT b t with | .error e => .error e | .ok b' => expandL ts b' := rfl
theorem expandL_err {t : TokD} {ts : List TokD} {b : List UInt8} {e : Nat} (h : stepT b t = .error e) : expandL (t :: ts) b = .error e := by rw [expandL_cons, h]
theorem expandL_ok {t : TokD} {ts : List TokD} {b b' : List UInt8} (h : stepT b t = .ok b') : expandL (t :: ts) b = expandL ts b' := by rw [expandL_cons, h]
theorem step_wrong {b : List UInt8} {t : TokD} (h : wrongT t = true) : stepT b t = .error 4 := by unfold stepT; rw [if_pos h]
theorem step_range {b : List UInt8} {t : TokD} (h : wrongT t = false) (h1 : (b.length : Int) < t.dist) : stepT b t = .error 1 := by unfold stepT; rw [if_neg (by rw [h]; simp), if_pos h1]
theorem step_large {b : List UInt8} {t : TokD} (h : wrongT t = false) (h1 : ¬ (b.length : Int) < t.dist) (h2 : 40000 < (b.length : Int) + max t.len 1) : stepT b t = .error 10 := by
  unfold stepT; rw [if_neg (by rw [h]; simp), if_neg h1, if_pos h2]
theorem step_lit {b : List UInt8} {t : TokD} (h : wrongT t = false) (h1 : ¬ (b.length : Int) < t.dist) (h2 : ¬ 40000 < (b.length : Int) + max t.len 1) (h3 : t.len = 0) : stepT b t = .ok (b ++ [UInt8.ofNat t.byte.toNat]) := by
  unfold stepT; rw [if_neg (by rw [h]; simp), if_neg h1, if_neg h2, if_pos h3]
theorem step_copy {b : List UInt8} {t : TokD} (h : wrongT t = false) (h1 : ¬ (b.length : Int) < t.dist) (h2 : ¬ 40000 < (b.length : Int) + max t.len 1) (h3 : t.len ≠ 0) : stepT b t = .ok (copyN t.dist.toNat t.len.toNat b) := by
  unfold stepT; rw [if_neg (by rw [h]; simp), if_neg h1, if_neg h2, if_neg h3]
theorem wrong_lit {t : TokD} (h : wrongT t = false) (h0 : t.len = 0) : t.dist = 0 ∧ 0 ≤ t.byte ∧ t.byte ≤ 255 := by
  unfold wrongT at h
  rw [if_pos h0] at h
  simp at h
  omega
theorem wrong_copy {t : TokD} (h : wrongT t = false) (h0 : t.len ≠ 0) : 3 ≤ t.len ∧ t.len ≤ 258 ∧ 1 ≤ t.dist ∧ t.dist ≤ 32768 ∧ t.byte = 0 := by
  unfold wrongT at h
  rw [if_neg h0] at h
  simp at h
  omega
end Go.Aq
