/- dag.New. No statement of the seat is proved here. -/
import Derived.Test.YtphmplbcegibjaaDgN
import Derived.Test.YtphmplbcegibjaaTakeS
import Derived.Test.YtphmplbcegibjaaArr
set_option linter.unusedVariables false
set_option linter.unusedSimpArgs false
namespace Go.Aq.Dg
open Go.Aq Go.RowKit
/-- A slice that is seen lies in no map's block. -/
theorem sees_map {w w' : World} {v : Value} {n b : Nat} {l : List (List UInt8)} (h : Sees w 1 v n (Sk l)) {es : Array MapEntry} {c : Nat} (hb : w.heap[b]? = some (.map es c)) (ch : Chg [b] w w') : Sees w' 1 v n (Sk l) := by
  refine h.chg ch fun k hk => ?_
  simp only [List.mem_singleton]
  rintro rfl
  obtain ⟨h1, ao, cap, rfl, h2, h3, h4⟩ := h
  unfold eyes at hk
  split at hk
  · rename_i a n' cap' he
    simp only [Value.slice.injEq] at he
    obtain ⟨rfl, rfl, rfl⟩ := he
    split at hk
    · simp at hk
    · rename_i hn0
      simp at hk
      subst hk
      have hx : (Sk l)[0]? = some ((Sk l)[0]'(by omega)) := by simp
      have := h4 a rfl 0 _ hx
      have h0 : w.cell? a = some ((Sk l)[0]'(by omega)) := by simpa [Addr.add] using this
      unfold World.cell? at h0
      rw [hb] at h0
      simp at h0
  · simp at hk
end Go.Aq.Dg
namespace Go.Aq
open Go.RowKit Go.Maps
/-- m[k] = v, said of one operation. -/
theorem wp_put {P : Program} {w : World} {o : Oper} {a : Act} {K : Act → World → Prop} {Q : Exit → Act → World → Prop} (m x v : Operand) (t : TypeId) (hop : o.op = Op.mapUpdate t m x v)
    {k e : TypeId} (KK : Keyed P k) (ht : P.underlying t = some (.map k e)) {b : Nat} {f : Value → Option Value} (h : MapF P k w b f) (hm : a.eval m = .map (some b)) {key val : Value} (hkey : GoodKey P k key) (hx : a.eval x = key) (hv : a.eval v = val)
    (hK : ∀ w', MapF P k w' b (updF f key val) → Chg [b] w w' → K (a.put o.dst undef) w') : o.wp P a w K Q := by
  obtain ⟨w', hrun, r1, r2⟩ := h.put (v := val) KK ht hkey
  unfold Oper.wp
  simp [execOp, hop, hm, hx, hv, hrun, Result.andThen]
  exact hK w' r1 r2
end Go.Aq
namespace Go.Proofs.Ytphmplbcegibjaa
open Go.RowKit Go.Aq Go.Aq.Dg Go.Maps

theorem clone_any (w : World) (v : Value) (l : List (List UInt8)) (h : Sees w 1 v l.length (Sk l)) (hl : l.length ≤ 2097152) :
    Calls Try.prog 24 #[v] w fun e w' => ∃ ao c, e = .returned (.slice ao l.length c) ∧ Sees w' 1 (.slice ao l.length c) l.length (Sk l) ∧ Chg [] w w' := by
  obtain ⟨ao, cap, rfl, hc, hno⟩ := h.shape
  cases ao with
  | none =>
    obtain ⟨h0, rfl⟩ := hno rfl
    have : l = [] := List.eq_nil_of_length_eq_zero h0
    subst this
    exact (Try.slices_Clone_string_nil _ _ w).mono fun e w' ⟨he, hw⟩ => ⟨none, 0, he, by subst hw; exact Sees.nil _ _, by subst hw; exact Chg.refl _ _⟩
  | some a =>
    by_cases h0 : l.length = 0
    · have : l = [] := List.eq_nil_of_length_eq_zero h0
      subst this
      refine (Try.slices_Clone_string_zero a cap w).mono ?_
      rintro e w' ⟨v', rfl, ho, _, hb⟩
      have hO : Own w' 9 1 v' 0 [] := by
        rcases ho.2 with h1 | ⟨g0, cp, cur, h1, h2, h3⟩
        · exact ⟨rfl, .inl h1⟩
        · exact ⟨rfl, .inr ⟨g0, cp, cur, h1, Nat.zero_le _, h3⟩⟩
      obtain ⟨a1, c1, rfl, _, _⟩ := hO.sees.shape
      exact ⟨a1, c1, rfl, hO.sees, Chg.of_below hb⟩
    · obtain ⟨g, off, cp, e, _, hcell⟩ := h.at1 (by omega)
      injection e with e1 _ e2
      injection e1 with e1
      subst e1 e2
      refine (Try.slices_Clone_string g off l.length cap (l.map str) w (by simp) (by omega) fun j hj => ?_).mono ?_
      · have hj' : j < l.length := by simpa using hj
        rw [hcell j hj']
        simp [Sk, hj', List.getD]
      · rintro e w' ⟨v', rfl, ho, _, hb⟩
        have e3 : ((l.map str).take l.length).map Value.string = Sk l := by
          rw [List.take_of_length_le (by simp)]; simp [Sk]
        rw [e3] at ho
        have hO : Own w' 9 1 v' l.length (Sk l) := by
          rcases ho.2 with h1 | ⟨g0, cp, cur, h1, h2, h3⟩
          · exact ⟨ho.1, .inl h1⟩
          · exact ⟨ho.1, .inr ⟨g0, cp, cur, h1, Nat.zero_le _, h3⟩⟩
        obtain ⟨a1, c1, rfl, _, _⟩ := hO.sees.shape
        exact ⟨a1, c1, rfl, hO.sees, Chg.of_below hb⟩

/-- A node more. -/
theorem GraphB.put {w w' : World} {p b : Nat} {f : Value → Option Value} {g : List NodeD} (h : GraphB w p b f g) {x : NodeD} (hx : hasK g x.key = false) {pv : Value} (hv : Sees w 1 pv x.parents.length (Sk x.parents))
    (h5 : MapF Try.prog 9 w' b (updF f (.string (str x.key)) (.agg #[.string (str x.key), pv, .int .i64 x.stamp]))) (c : Chg [b] w w') : ∃ f', GraphB w' p b f' (g ++ [x]) := by
  obtain ⟨h1, h2, h3, h4⟩ := h
  have hpb : p ≠ b := fun e => h2.blk h1 e.symm
  obtain ⟨es, ck, hb, _⟩ := id h2
  refine ⟨_, h1.chg c (by simpa using hpb), h5, fun y hy => ?_, fun k v hk => ?_⟩
  · rcases List.mem_append.1 hy with h6 | h6
    · obtain ⟨v, h7, pv', rfl, h8⟩ := h3 y h6
      have hne : y.key ≠ x.key := fun e => by
        have : hasK g x.key = true := hasK_iff.2 ⟨y, h6, e⟩
        rw [hx] at this; cases this
      refine ⟨_, ?_, pv', rfl, sees_map h8 hb c⟩
      unfold updF
      rw [if_neg (fun e => hne (str_inj (by injection e)))]
      exact h7
    · rw [List.mem_singleton.1 h6]
      exact ⟨_, by unfold updF; rw [if_pos rfl], pv, rfl, sees_map hv hb c⟩
  · unfold updF at hk
    rw [hasK_iff]
    split at hk
    · rename_i e
      exact ⟨x, by simp, (str_inj (by injection e)).symm⟩
    · obtain ⟨y, hy, e⟩ := hasK_iff.1 (h4 k v hk)
      exact ⟨y, by simp [hy], e⟩
end Go.Proofs.Ytphmplbcegibjaa
