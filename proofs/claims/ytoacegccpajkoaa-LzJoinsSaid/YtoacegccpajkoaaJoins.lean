/- LzJoins: two lists of tokens, one behind the other: the law's function returns true at all arguments. -/
import Derived.Test.YtoacegccpajkoaaExpand
import Derived.Test.YtoacegccpajkoaaJoinPlain
import Derived.Test.YtoacegccpajkoaaSame
import Derived.Test.YtoacegccpajkoaaOpenTok
namespace Go.Proofs.Ytoacegccpajkoaa
open Go.RowKit Go.Aq Go.Maps

/-- append at an operation under a guard that holds. -/
theorem wpList_appG {P : Program} {W : World} {ops : Array Oper} {rest : List Oper} {o : Oper} {a : Act} {Q : Exit → Act → World → Prop} (hw : Region.wanted o (yielded ops a.tmps) = true) (s x : Operand) (t : TypeId)
    (ho : o.op = .call { callee := .builtin .append, args := #[s, x], argTypes := #[t, t] })
    {e : TypeId} {z : Value} {size bytes : Nat} (ht : SliceTy P t e z size bytes)
    {v : Value} {n : Nat} {xs : List Value} (hown : Own W e size v n xs) (hs : a.eval s = v) {vx : Value} {m : Nat} {news : List Value} (hsrc : Sees W size vx m news) (hx : a.eval x = vx)
    (h1 : ∀ u ∈ news, u.oneCell' = true) (hb : (n + m) * bytes ≤ 140737488355328) (h63 : n + m ≤ 9223372036854775807)
    (h : ∀ v' W', Own W' e size v' (n + m) (xs ++ news) → Chg v.ownBlock.toList W W' → (∀ k ∈ v'.ownBlock.toList, k ∈ v.ownBlock.toList ∨ W.heap.size ≤ k) → wpList P ops Q rest (a.put o.dst v') W') : wpList P ops Q (o :: rest) a W :=
  wpList_step fun K hK => by
    rw [if_pos hw]
    exact wp_app s x t ho ht hown hs hsrc hx h1 hb h63 fun v' W' p1 p2 p3 => hK _ _ (h v' W' p1 p2 p3)

theorem joins_out (va vb : Value) (n m : Nat) (xs ys : List Value) (w : World) (ha : Sees w 3 va n xs) (hb : Sees w 3 vb m ys) (h : 500 < n ∨ 500 < m) (h63 : n ≤ 9223372036854775807) (h64 : m ≤ 9223372036854775807) :
    Calls Try.prog 13 #[va, vb] w fun e w' => e = .returned (.bool true) ∧ Chg [] w w' := by
  obtain ⟨ao, cap, rfl, hcap, hno⟩ := ha.shape
  obtain ⟨bo, capb, rfl, hcapb, hnob⟩ := hb.shape
  have HNO := Lib.hid hno; clear hno
  have HNOb := Lib.hid hnob; clear hnob
  by_cases h5 : 500 < n
  · have t1 : decide (500 < (n : Int)) = true := by simp; omega
    have t1' : decide (500 < n) = true := by simp; omega
    go_enter Try.func13, Try.ntmps13
    go_wp2_with fail
    refine (first6 _).mono ?_
    rintro e w0 ⟨rfl, c0⟩
    go_wp2_with fail
    refine (first6 _).mono ?_
    rintro e w1 ⟨rfl, c1⟩
    go_wp2_with fail
    go_ret
    exact ⟨rfl, c0.nil c1⟩
  · have t1 : decide (500 < (n : Int)) = false := by simp; omega
    have t1' : decide (500 < n) = false := by simp; omega
    have t2 : decide (500 < (m : Int)) = true := by simp; omega
    have t2' : decide (500 < m) = true := by simp; omega
    go_enter Try.func13, Try.ntmps13
    go_wp2_with fail
    refine (first6 _).mono ?_
    rintro e w0 ⟨rfl, c0⟩
    go_wp2_with fail
    refine (first6 _).mono ?_
    rintro e w1 ⟨rfl, c1⟩
    go_wp2_with fail
    go_ret
    exact ⟨rfl, c0.nil c1⟩

set_option maxHeartbeats 2000000 in
theorem joins_in (va vb : Value) (a b : List TokD) (w : World) (ha : Sees w 3 va a.length (a.flatMap tokCells)) (hb : Sees w 3 vb b.length (b.flatMap tokCells)) (h2 : a.length ≤ 500) (h3 : b.length ≤ 500) :
    Calls Try.prog 13 #[va, vb] w fun e w' => e = .returned (.bool true) ∧ Chg [] w w' := by
  have ha0 := Lib.hid ha
  have hb0 := Lib.hid hb
  have h20 := Lib.hid h2
  have h30 := Lib.hid h3
  obtain ⟨na, HA⟩ : ∃ n, Hid (a.length = n) := ⟨_, rfl⟩
  obtain ⟨nb, HB⟩ : ∃ n, Hid (b.length = n) := ⟨_, rfl⟩
  rw [HA.out] at ha h2
  rw [HB.out] at hb h3
  obtain ⟨ao, cap, rfl, hcap, hno⟩ := ha.shape
  obtain ⟨bo, capb, rfl, hcapb, hnob⟩ := hb.shape
  have HNO := Lib.hid hno; clear hno
  have HNOb := Lib.hid hnob; clear hnob
  have t1 : decide (500 < (na : Int)) = false := by simp; omega
  have t1' : decide (500 < na) = false := by simp; omega
  have t2 : decide (500 < (nb : Int)) = false := by simp; omega
  have t2' : decide (500 < nb) = false := by simp; omega
  go_enter Try.func13, Try.ntmps13
  go_wp2_with fail
  refine (first6 _).mono ?_
  rintro e w0 ⟨rfl, c0⟩
  go_wp2_with fail
  refine (expand_any _ _ a (ha0.out.chg0 c0) (by have := h20.out; omega)).mono ?_
  rintro e w1 ⟨vx, rfl, hx, c1, fx⟩
  go_wp2_with fail
  refine (expand_any _ _ b ((hb0.out.chg0 c0).chg0 c1) (by have := h30.out; omega)).mono ?_
  rintro e w2 ⟨vy, rfl, hy, c2, fy⟩
  have c02 := (c0.nil c1).nil c2
  have hx2 := hx.chg c2 (fun _ _ => by simp)
  clear hx
  obtain ⟨RA, hRA⟩ : ∃ R, resE (expandL a []) = R := ⟨_, rfl⟩
  obtain ⟨RB, hRB⟩ : ∃ R, resE (expandL b []) = R := ⟨_, rfl⟩
  rw [hRA] at hx2
  rw [hRB] at hy
  rw [hRA, hRB]
  obtain ⟨xa, ca⟩ := RA
  obtain ⟨xb, cb⟩ := RB
  simp only at hx2 hy ⊢
  cases hRa : expandL a [] with
  | error ea =>
    have hc := expandL_code a [] ea hRa
    rw [hRa] at hRA
    obtain ⟨rfl, rfl⟩ : [] = xa ∧ ea = ca := by injection hRA with h1 h2; exact ⟨h1, h2⟩
    clear hRA hRB
    have te : ((ea : Int) != 0) = true := by simp; omega
    have te' : ((ea : Int) == 0) = false := by simp; omega
    go_wp2_with fail
    refine (first6 _).mono ?_
    rintro e w3 ⟨rfl, c3⟩
    go_wp2_with fail
    go_ret
    exact ⟨rfl, c02.nil c3⟩
  | ok x =>
    have hxl := (expandL_length a [] x hRa).2 (by simp)
    rw [hRa] at hRA
    obtain ⟨rfl, rfl⟩ : x = xa ∧ 0 = ca := by injection hRA with h1 h2; exact ⟨h1, h2⟩
    clear hRA
    cases hRb : expandL b [] with
    | error eb =>
      have hc := expandL_code b [] eb hRb
      rw [hRb] at hRB
      obtain ⟨rfl, rfl⟩ : [] = xb ∧ eb = cb := by injection hRB with h1 h2; exact ⟨h1, h2⟩
      clear hRB
      have te : ((eb : Int) != 0) = true := by simp; omega
      have te' : ((eb : Int) == 0) = false := by simp; omega
      go_wp2_with fail
      refine (first6 _).mono ?_
      rintro e w3 ⟨rfl, c3⟩
      go_wp2_with fail
      go_ret
      exact ⟨rfl, c02.nil c3⟩
    | ok y =>
      have hyl := (expandL_length b [] y hRb).2 (by simp)
      rw [hRb] at hRB
      obtain ⟨rfl, rfl⟩ : y = xb ∧ 0 = cb := by injection hRB with h1 h2; exact ⟨h1, h2⟩
      clear hRB
      obtain ⟨nx, HX⟩ : ∃ n, Hid (x.length = n) := ⟨_, rfl⟩
      obtain ⟨ny, HY⟩ : ∃ n, Hid (y.length = n) := ⟨_, rfl⟩
      have HRa := Lib.hid hRa; clear hRa
      have HRb := Lib.hid hRb; clear hRb
      rw [HX.out] at hx2 hxl
      rw [HY.out] at hy hyl
      obtain ⟨aox, capx, rfl, hcapx, hnox⟩ := hx2.sees.shape
      obtain ⟨aoy, capy, rfl, hcapy, hnoy⟩ := hy.sees.shape
      have HNOx := Lib.hid hnox; clear hnox
      have HNOy := Lib.hid hnoy; clear hnoy
      have hbx : (nx : Int) ≤ 50000 := by omega
      have hby : (ny : Int) ≤ 50000 := by omega
      by_cases hs : 40000 < (nx : Int) + ny
      · have t3 : decide (40000 < (nx : Int) + ny) = true := by simp; omega
        clear hs hxl hyl
        go_wp2_with fail
        refine (first6 _).mono ?_
        rintro e w3 ⟨rfl, c3⟩
        go_wp2_with fail
        go_ret
        exact ⟨rfl, c02.nil c3⟩
      · have t3 : decide (40000 < (nx : Int) + ny) = false := by simp; omega
        have hsum : Hid (nx + ny ≤ 40000) := Lib.hid (by omega)
        clear hs hxl hyl
        have hj := expandL_join HRa.out HRb.out (by rw [HX.out, HY.out]; exact hsum.out)
        have HJ := Lib.hid hj; clear hj
        have hone : ∀ (l : List TokD), ∀ u ∈ l.flatMap tokCells, u.oneCell' = true := fun l u hu => by
          simp only [List.mem_flatMap] at hu
          obtain ⟨t, -, ht⟩ := hu
          simp only [tokCells, List.mem_cons, List.not_mem_nil, or_false] at ht
          rcases ht with rfl | rfl | rfl <;> rfl
        have ha2 : Sees w2 3 (.slice ao na cap) na (a.flatMap tokCells) := ha.chg0 c02
        have hb2 : Sees w2 3 (.slice bo nb capb) nb (b.flatMap tokCells) := hb.chg0 c02
        have hm0 : Own (w2.alloc (.cells #[] 61)) 61 3 (.slice (some ⟨w2.heap.size, 0, none⟩) 0 0) 0 [] := Own.made _ _ _
        have hH := Lib.hid hone; clear hone
        have ca : Chg [] w2 (w2.alloc (.cells #[] 61)) := (Chg.refl _ _).alloc _
        go_wp2_with (first
          | (at_builtin; refine wpList_app (v := .slice (some ⟨w2.heap.size, 0, none⟩) 0 0) rfl _ _ 51 rfl sl_tok (by exact hm0) rfl (vx := .slice ao na cap) (by exact ha2.chg0 ca) rfl (hH.out a) (by omega) (by omega) ?_; intro v3 w3 hO3 c3 n3)
          | (at_builtin; refine wpList_app (v := v3) rfl _ _ 51 rfl sl_tok (by exact hO3) rfl (vx := .slice bo nb capb) (by exact (hb2.chg0 ca).chg c3 (fun k hk h => by have := hb2.lt (by decide) k hk; simp [Value.ownBlock] at h; omega)) rfl (hH.out b) (by omega) (by omega) ?_; intro v4 w4 hO4 c4 n4))
        have hf3 : ∀ k ∈ v3.ownBlock.toList, w2.heap.size ≤ k := fun k h => by
          rcases n3 k h with h1 | h1
          · simp [Value.ownBlock] at h1; omega
          · have := ca.size; omega
        have c24 : Chg [] w2 w4 := (ca.trans c3 (fun i hi => .inr (by simp [Value.ownBlock] at hi; omega))).trans c4 (fun i hi => .inr (hf3 i hi))
        have hs4 : Sees w4 3 v4 (a ++ b).length ((a ++ b).flatMap tokCells) := by
          have := hO4.sees
          rw [List.length_append, List.flatMap_append, HA.out, HB.out]
          simpa using this
        clear hO3 c3 n3 c4 n4 hO4 hm0 ca hf3
        refine (expand_any _ _ (a ++ b) hs4 (by rw [List.length_append, HA.out, HB.out]; omega)).mono ?_
        rintro e w5 ⟨vz, rfl, hz, c5, -⟩
        rw [HJ.out] at hz ⊢
        change Own w5 5 1 vz (x ++ y).length (Bs (x ++ y)) at hz
        have c25 := c24.nil c5
        have hx5 : Own w5 5 1 (.slice aox nx capx) nx (Bs x) := hx2.chg c25 (fun _ _ => by simp)
        have hy5 : Own w5 5 1 (.slice aoy ny capy) ny (Bs y) := hy.chg c25 (fun _ _ => by simp)
        simp only [resE]
        go_wp2_with fail
        refine (first6 _).mono ?_
        rintro e w6 ⟨rfl, c6⟩
        go_wp2_with fail
        refine (copy_any _ _ nx x (hx5.sees.chg0 c6) (by omega) sl_u8').mono ?_
        rintro e w7 ⟨vc, rfl, hc7, c7, f7⟩
        have hy7 : Sees w7 1 (.slice aoy ny capy) ny (Bs y) := (hy5.sees.chg0 c6).chg0 c7
        have hz7 := (hz.sees.chg0 c6).chg0 c7
        have hy7' : ∀ k ∈ (Value.slice aoy ny capy).ownBlock.toList, k < w6.heap.size := fun k hk => by have := hy5.lt k hk; have := c6.size; omega
        have hz7' : ∀ k ∈ vz.ownBlock.toList, k < w6.heap.size := fun k hk => by have := hz.lt k hk; have := c6.size; omega
        have hone : ∀ u ∈ Bs y, u.oneCell' = true := fun u hu => by
          simp only [Bs, List.mem_map] at hu
          obtain ⟨t, -, rfl⟩ := hu
          rfl
        have hH2 := Lib.hid hone; clear hone
        go_wp2_with (at_builtin; refine wpList_appG (v := vc) (by first | rfl | decide | simp [Region.wanted, yielded]) _ _ 31 rfl sl_u8' (by exact hc7) rfl (vx := .slice aoy ny capy) (by exact hy7) rfl hH2.out (by omega) (by omega) ?_; intro v8 w8 hO8 c8 n8)
        have hz8 : Sees w8 1 vz (x ++ y).length (Bs (x ++ y)) := hz7.chg c8 (fun k hk h => by have := hz7' k (eyes_own _ k hk); have := f7 k h; omega)
        have e8 : Bs x ++ Bs y = Bs (x ++ y) := by simp [Bs]
        rw [e8] at hO8
        refine (same_yes _ _ _ _ _ (x ++ y) (x ++ y) hz8 hO8.sees rfl).mono ?_
        rintro e w9 ⟨rfl, rfl⟩
        go_wp2_with fail
        go_ret
        have c67 : Chg [] w6 w8 := c7.trans c8 (fun i hi => .inr (f7 i hi))
        exact ⟨rfl, ((c02.nil c25).nil c6).nil c67⟩

theorem joinsTop (va : Value) (a : List TokD) {w : World} (ha : Sees w 3 va a.length (a.flatMap tokCells) ∧ a.length ≤ 9223372036854775807) (vb : Value) (b : List TokD) (hb : Sees w 3 vb b.length (b.flatMap tokCells) ∧ b.length ≤ 9223372036854775807) :
    Calls Try.prog 13 #[va, vb] w fun e w' => e = .returned (.bool true) ∧ Chg [] w w' := by
  by_cases h : a.length ≤ 500 ∧ b.length ≤ 500
  · exact joins_in va vb a b w ha.1 hb.1 h.1 h.2
  · exact joins_out va vb _ _ _ _ w ha.1 hb.1 (by omega) ha.2 hb.2
end Go.Proofs.Ytoacegccpajkoaa
