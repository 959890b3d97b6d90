/- What the examples of chapter 4 fix (function first of aqulaw4): it returns true. No statement of the seat is proved here. -/
import Derived.Test.YtoacegccpajkoaaBits2
import Derived.Test.YtoacegccpajkoaaSame
namespace Go.Proofs.Ytoacegccpajkoaa
open Go.RowKit Go.Aq

set_option maxHeartbeats 800000 in
theorem first4 (w : World) : Calls Try.prog 14 #[] w fun e w' => e = .returned (.bool true) ∧ Chg [] w w' := by
  go_enter Try.func14, Try.ntmps14
  go_wp2_with fail
  refine (newWriter_any _).mono ?_
  rintro e w1 ⟨p, rfl, hp, c1, lp⟩
  go_wp2_with fail
  refine (newWriter_any _).mono ?_
  rintro e w2 ⟨q, rfl, hq, c2, lq⟩
  have hp2 := hp.chg c2 (fun _ _ => by simp)
  have dpq : Disj [p] [q] := fun k hk => by have := hp.lt p (by simp); simp at hk ⊢; omega
  have dq : Disj [q] [p] := dpq.symm
  go_wp2_with fail
  refine (put_right _ _ _ _ 1 1 (by decide) (by decide) (by simp) hp2).mono ?_
  rintro e w3 ⟨rfl, S3, hp3, u3⟩
  have hq3 := hq.chg u3.chg dq
  have d3 := dq.upd u3 hq.lt
  go_wp2_with fail
  refine (put_right _ _ _ _ 2 2 (by decide) (by decide) (by simp [lowBits]) hp3).mono ?_
  rintro e w4 ⟨rfl, S4, hp4, u4⟩
  have hq4 := hq3.chg u4.chg d3
  have d4 := d3.upd u4 hq3.lt
  go_wp2_with fail
  refine (code_right _ _ _ _ 6 3 (by decide) (by decide) (by simp) hq4).mono ?_
  rintro e w5 ⟨rfl, S5, hq5, u5⟩
  have hp5 := hp4.chg u5.chg d4.symm
  go_wp2_with fail
  refine (bytes_any _ _ _ _ (by simp [lowBits]) hp5).mono ?_
  rintro e w6 ⟨v6, rfl, o6, c6, n6⟩
  have hq6 := hq5.chg c6 (fun _ _ => by simp)
  rw [show pack ([] ++ lowBits 1 1 ++ lowBits 2 2) = [5] from by decide] at o6
  replace o6 : Own w6 5 1 v6 1 (Bs [5]) := o6
  have r6 := run_str8 o6.sees
  obtain ⟨ao6, cap6, rfl, -⟩ := o6.sees.shape
  have t5 : ((str [5]).toList == [5]) = true := by rw [str_toList]; rfl
  have t3 : ((str [3]).toList == [3]) = true := by rw [str_toList]; rfl
  go_wp2_with fail
  refine (bytes_any _ _ _ _ (by simp [highBits, lowBits]) hq6).mono ?_
  rintro e w7 ⟨v7, rfl, o7, c7, n7⟩
  rw [show pack ([] ++ highBits 6 3) = [3] from by decide] at o7
  replace o7 : Own w7 5 1 v7 1 (Bs [3]) := o7
  have r7 := run_str8 o7.sees
  obtain ⟨ao7, cap7, rfl, -⟩ := o7.sees.shape
  go_wp2_with fail
  go_ret
  have a2 : Chg [] w w2 := c1.nil c2
  have a3 : ∀ k ∈ S3, w.heap.size ≤ k := u3.above a2.size (by simp; exact lp)
  have a4 : ∀ k ∈ S4, w.heap.size ≤ k := u4.above (a2.trans u3.chg (by simp; exact lp)).size a3
  refine ⟨rfl, Chg.nil (Chg.nil (Chg.trans (Chg.trans (a2.trans u3.chg (by simp; exact lp)) u4.chg fun i hi => .inr (a3 i hi)) u5.chg fun i hi => ?_) c6) c7⟩
  have := c1.size
  simp at hi
  right; omega
end Go.Proofs.Ytoacegccpajkoaa
