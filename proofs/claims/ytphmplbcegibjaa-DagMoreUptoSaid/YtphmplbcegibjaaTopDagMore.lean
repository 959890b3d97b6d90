/- DagMore: the law's function returns true at all arguments, and what it was handed reads as before: the statement Rows.DagMoreUptoSaid, with no condition but the second form's bound on what was handed. -/
import Derived.Test.YtphmplbcegibjaaRows
import Derived.Test.YtphmplbcegibjaaDmOpen
import Derived.ProofKit
import Derived.OpenShut
import Derived.ShutString
import Derived.ChangeOld
namespace Go.Proofs.Ytphmplbcegibjaa.dagMore
open Go.ChangeShapes Go.WideShapes Go.ChangeAt Go.RowKit Go.Aq
open Go.ChangeMaps (open_string shut_string)
set_option linter.unusedVariables false

theorem own : ownKnob Try.prog.godebug = none := by kernel_rfl
theorem laidOut : laidOutB Try.prog = true := by kernel_rfl

set_option maxRecDepth 100000 in
theorem lifted (os : Os) (started : os.Started) (H : Type) (enc : TypeId × Value → H) (F : Stop.Interp) :
    ReturnsInHanded {} Try.checked os 4 .any ((Rows.OpenSpec.upto Rows.dagMoreSpec).pre6 enc Try.prog Try.f4 Rows.dagMoreUptoRow.domain false) (((Rows.OpenSpec.upto Rows.dagMoreSpec).at F).post enc Try.prog Try.f4 false true false false) := by
  refine returnsInHanded_of_cond (C := Try.checked) (s := Rows.OpenSpec.upto Rows.dagMoreSpec) (k := Rows.uptoSmall) rfl own started (by kernel_rfl) Try.func4
    (OpenSpec.witness (enc := enc) (C := Try.checked) (s := Rows.OpenSpec.upto Rows.dagMoreSpec) (k := Rows.uptoSmall) rfl false ⟨#[], #[.slice none 0 0, .string ⟨#[]⟩, .string ⟨#[]⟩, .string ⟨#[]⟩], []⟩ 8 (by kernel_rfl) (by kernel_rfl) (by kernel_rfl)
      (x := ([.nil, .lit (.string []), .lit (.string []), .lit (.string [])], [], [])) (by kernel_rfl) rfl (by kernel_rfl)) ?_
  intro W base args ds gs before hval0 hW _ hk _
  have hval : ∀ (j : Nat) t v, Try.f4.params[j]? = some t → args[j]? = some v → Value.okWide Try.prog W .any base t v := hval0
  have hW' := hW
  obtain ⟨p, q, hA0, hV, rfl, hfz, hnd⟩ := hW
  have hA : DataW.TrodAll enc Try.prog W 0 (fun _ => true) true Try.f4.params.toList args.toList ds p := hA0
  rw [Try.params4] at hA hval
  obtain ⟨v0, vs0, d0, ds0, p0, q0, hargs, rfl, rfl, h0, r0⟩ := trodAll_cons hA
  obtain ⟨v1, vs1, d1, ds1, p1, q1, rfl, rfl, rfl, h1, r1⟩ := trodAll_cons r0
  obtain ⟨v2, vs2, d2, ds2, p2, q2, rfl, rfl, rfl, h2, r2⟩ := trodAll_cons r1
  obtain ⟨v3, vs3, d3, ds3, p3, q3, rfl, rfl, rfl, h3, r3⟩ := trodAll_cons r2
  obtain ⟨rfl, rfl, rfl⟩ := trodAll_nil r3
  obtain rfl : args = #[v0, v1, v2, v3] := by cases args; simp_all
  obtain ⟨rfl, rfl⟩ := trodVars_none hV
  have k0 := h0
  have lt0 : ∀ x ∈ p0, x.block < W.heap.size := by obtain ⟨m, hm⟩ := k0; exact DataW.trod_lt m _ _ _ hm
  have k1 := h1
  have lt1 : ∀ x ∈ p1, x.block < W.heap.size := by obtain ⟨m, hm⟩ := k1; exact DataW.trod_lt m _ _ _ hm
  have k2 := h2
  have lt2 : ∀ x ∈ p2, x.block < W.heap.size := by obtain ⟨m, hm⟩ := k2; exact DataW.trod_lt m _ _ _ hm
  have k3 := h3
  have lt3 : ∀ x ∈ p3, x.block < W.heap.size := by obtain ⟨m, hm⟩ := k3; exact DataW.trod_lt m _ _ _ hm
  have hbulk := bulk_all hk
  simp only [List.append_nil, Rows.uptoBulkAll] at hbulk
  have hb0 : Rows.uptoBulk d0 ≤ 1048576 := by omega
  have hb1 : Rows.uptoBulk d1 ≤ 1048576 := by omega
  have hb2 : Rows.uptoBulk d2 ≤ 1048576 := by omega
  have hb3 : Rows.uptoBulk d3 ≤ 1048576 := by omega
  obtain ⟨x0, s0⟩ := open_nodes_w (hval 0 22 v0 rfl rfl) h0 hb0
  obtain ⟨s1, rfl, b1⟩ := open_str_u Try.underlying9 (hval 1 9 v1 rfl rfl) h1 hb1
  obtain ⟨s2, rfl, b2⟩ := open_str_u Try.underlying9 (hval 2 9 v2 rfl rfl) h2 hb2
  obtain ⟨s3, rfl, b3⟩ := open_str_u Try.underlying9 (hval 3 9 v3 rfl rfl) h3 hb3
  clear hA0 hval0
  refine (more_walk v0 x0 s0 s1 b1 s2 b2 s3 b3 (w := W)).mono fun e W' ⟨he, hc⟩ => ?_
  subst he
  have bel := hc.below0
  exact ⟨_, rfl, _, _, _, [], _, [], hW', trodAll_mk1 (shut_bool Try.underlying4 _), (trodAll_cons_mk (Below.trod laidOut (by kernel_rfl) (of_decide_eq_true (by kernel_rfl)) k0 bel lt0) (trodAll_cons_mk (Below.trod laidOut (by kernel_rfl) (of_decide_eq_true (by kernel_rfl)) k1 bel lt1) (trodAll_cons_mk (Below.trod laidOut (by kernel_rfl) (of_decide_eq_true (by kernel_rfl)) k2 bel lt2) (trodAll_cons_mk (Below.trod laidOut (by kernel_rfl) (of_decide_eq_true (by kernel_rfl)) k3 bel lt3) trodAll_mk0)))), rfl, bel.frame _, fun h => by cases h⟩

theorem over : Rows.dagMoreUptoRow.holds Try.pinned (Rows.OpenSpec.upto Rows.dagMoreSpec) :=
  OpenClaim.holds_of_cond 4 Try.f4 rfl rfl rfl rfl rfl rfl rfl ⟨rfl, rfl, rfl, rfl, rfl⟩ rfl rfl rfl rfl rfl (by kernel_rfl) Try.func4 (by kernel_rfl)
    (of_decide_eq_true (by kernel_rfl)) (by unfold Func.isWrapper; first | (rw [if_pos (by decide +kernel)]; kernel_rfl) | (rw [if_neg (by decide +kernel)]; exact ⟨rfl, rfl⟩))
    (fun os started H enc _ F => lifted os started H enc F)
end Go.Proofs.Ytphmplbcegibjaa.dagMore
namespace Go.Proofs.Ytphmplbcegibjaa
theorem dagMore_holds : Rows.DagMoreUptoSaid := dagMore.over
#print axioms dagMore_holds
end Go.Proofs.Ytphmplbcegibjaa
