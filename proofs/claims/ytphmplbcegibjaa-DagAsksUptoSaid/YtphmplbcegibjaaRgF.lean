/- The document's Base. No statement of the seat is proved here. -/
import Derived.Test.YtphmplbcegibjaaRgE
set_option linter.unusedVariables false
set_option linter.unusedSimpArgs false
namespace Go.Aq.Dg
open Go.Aq.So
theorem beats_total (g : List NodeD) (x y : List UInt8) : beats g x y ∨ beats g y x := by
  rcases Int.lt_trichotomy (stampK g x) (stampK g y) with h | h | h
  · exact .inl (.inl h)
  · rcases List.le_total x y with k | k
    · exact .inl (.inr ⟨h, k⟩)
    · exact .inr (.inr ⟨h.symm, k⟩)
  · exact .inr (.inl h)
theorem max_in (g : List NodeD) : ∀ (C : List (List UInt8)), C ≠ [] → ∃ M ∈ C, ∀ k ∈ C, beats g k M
  | [], h => absurd rfl h
  | [a], _ => ⟨a, by simp, fun k hk => by rw [List.mem_singleton.1 hk]; exact beats_refl g a⟩
  | a :: b :: t, _ => by
    obtain ⟨M, hM, h⟩ := max_in g (b :: t) (by simp)
    rcases beats_total g a M with k | k
    · exact ⟨M, List.mem_cons_of_mem _ hM, fun z hz => (List.mem_cons.1 hz).elim (fun e => by rw [e]; exact k) (h z)⟩
    · exact ⟨a, by simp, fun z hz => (List.mem_cons.1 hz).elim (fun e => by rw [e]; exact beats_refl g a) fun hz => beats_trans (h z hz) k⟩
/-- Nobody of the others reaches it. -/
def NearIn (g : List NodeD) (C : List (List UInt8)) (x : List UInt8) : Prop := ∀ z ∈ C, z ≠ x → ¬ Rch g z x
theorem max_near {g : List NodeD} (G : Good g) {C : List (List UInt8)} {M : List UInt8} (h : ∀ k ∈ C, beats g k M) : NearIn g C M := fun z hz hne hr => by
  rcases hr.elder G with e | e
  · exact hne e
  · rcases h z hz with h1 | ⟨h1, _⟩ <;> omega
theorem base_best {g : List NodeD} (G : Good g) {C : List (List UInt8)} {a b best : List UInt8} (hC : ∀ k, k ∈ C ↔ Rch g a k ∧ Rch g b k) (hab : hasK g a = true ∧ hasK g b = true) (hb : best ∈ C) (h : ∀ x ∈ C, NearIn g C x → beats g x best) : BaseR g a b best 0 := by
  obtain ⟨M, hM, hk⟩ := max_in g C (fun e => by rw [e] at hb; cases hb)
  have hMb := h M hM (max_near G hk)
  exact .inr (.inr ⟨rfl, hab, (hC best).1 hb, fun k h1 h2 => beats_trans (hk k ((hC k).2 ⟨h1, h2⟩)) hMb⟩)
theorem base_no {g : List NodeD} (G : Good g) {C : List (List UInt8)} {a b : List UInt8} (hC : ∀ k, k ∈ C ↔ Rch g a k ∧ Rch g b k) (hab : hasK g a = true ∧ hasK g b = true) (h : ∀ x ∈ C, ¬ NearIn g C x) : BaseR g a b [] 14 := by
  refine .inr (.inl ⟨rfl, rfl, hab, fun k h1 h2 => ?_⟩)
  have hk := (hC k).2 ⟨h1, h2⟩
  obtain ⟨M, hM, hM2⟩ := max_in g C (fun e => by rw [e] at hk; cases hk)
  exact h M hM (max_near G hM2)
/-- A step of the search. -/
def BestAt (g : List NodeD) (C : List (List UInt8)) (i : Nat) (best : List UInt8) (fd : Bool) : Prop :=
  (fd = false → ∀ x ∈ C.take i, ¬ NearIn g C x) ∧ (fd = true → best ∈ C ∧ ∀ x ∈ C.take i, NearIn g C x → beats g x best)
theorem BestAt.init (g : List NodeD) (C : List (List UInt8)) : BestAt g C 0 [] false := ⟨fun _ x hx => by simp at hx, fun h => by cases h⟩
theorem mem_take1 {C : List (List UInt8)} {i : Nat} (hi : i < C.length) {x : List UInt8} (h : x ∈ C.take (i + 1)) : x ∈ C.take i ∨ x = C[i] := by
  rw [List.take_succ_eq_append_getElem hi, List.mem_append, List.mem_singleton] at h; exact h
theorem BestAt.skip {g : List NodeD} {C : List (List UInt8)} {i : Nat} {best : List UInt8} {fd : Bool} (h : BestAt g C i best fd) (hi : i < C.length) (hn : ¬ NearIn g C C[i]) : BestAt g C (i + 1) best fd :=
  ⟨fun e x hx => (mem_take1 hi hx).elim (h.1 e x) fun e => by rw [e]; exact hn, fun e => ⟨(h.2 e).1, fun x hx hN => (mem_take1 hi hx).elim (fun hx => (h.2 e).2 x hx hN) fun e => by rw [e] at hN; exact absurd hN hn⟩⟩
theorem BestAt.first {g : List NodeD} {C : List (List UInt8)} {i : Nat} {best : List UInt8} (h : BestAt g C i best false) (hi : i < C.length) : BestAt g C (i + 1) C[i] true :=
  ⟨fun e => (by cases e), fun _ => ⟨List.getElem_mem hi, fun x hx hN => (mem_take1 hi hx).elim (fun hx => absurd hN (h.1 rfl x hx)) fun e => by rw [e]; exact beats_refl g _⟩⟩
theorem BestAt.keep {g : List NodeD} {C : List (List UInt8)} {i : Nat} {best : List UInt8} (h : BestAt g C i best true) (hi : i < C.length) (hs : ¬ stampK g best ≤ stampK g C[i]) : BestAt g C (i + 1) best true :=
  ⟨fun e => (by cases e), fun _ => ⟨(h.2 rfl).1, fun x hx hN => (mem_take1 hi hx).elim (fun hx => (h.2 rfl).2 x hx hN) fun e => by rw [e]; exact .inl (by omega)⟩⟩
theorem BestAt.turn {g : List NodeD} {C : List (List UInt8)} (hU : C.Pairwise fun x y => x ≤ y) {i : Nat} {best : List UInt8} (h : BestAt g C i best true) (hi : i < C.length) (hs : stampK g best ≤ stampK g C[i]) : BestAt g C (i + 1) C[i] true :=
  ⟨fun e => (by cases e), fun _ => ⟨List.getElem_mem hi, fun x hx hN => (mem_take1 hi hx).elim (fun hx => by
    have hxi : x ≤ C[i] := by
      obtain ⟨j, hj, rfl⟩ := List.getElem_of_mem hx
      rw [List.length_take] at hj
      rw [List.getElem_take]
      exact List.pairwise_iff_getElem.1 hU j i (by omega) hi (by omega)
    rcases (h.2 rfl).2 x hx hN with h1 | ⟨h1, _⟩
    · exact .inl (by omega)
    · rcases Int.lt_or_eq_of_le hs with h2 | h2
      · exact .inl (by omega)
      · exact .inr ⟨by omega, hxi⟩) fun e => by rw [e]; exact beats_refl g _⟩⟩
end Go.Aq.Dg
namespace Go.Proofs.Ytphmplbcegibjaa
open Go.RowKit Go.Aq Go.Aq.Dg Go.Maps Go.Aq.So

open Classical in
/-- Is, with the answer's own value. -/
theorem ris_at {w : World} {p : Nat} {L : List (NodeD × Value)} (hR : RefG w p L) (G : Dg.Good (L.map (·.1))) (S : SmallG (L.map (·.1))) (hl : L.length ≤ 2097152) (a b : List UInt8) (r : Bool) (hr : r = true ↔ Rch (L.map (·.1)) b a) :
    Calls Try.prog 22 #[.pointer (some ⟨p, 0, none⟩), .string (str a), .string (str b)] w fun e w' => e = .returned (.bool r) ∧ Chg [] w w' :=
  (ris_any hR G S hl a b).mono fun e w' ⟨q, h1, h2, h3⟩ => ⟨by rw [h1]; congr 2; rw [Bool.eq_iff_iff, h2, hr], h3⟩
theorem geq_i64 (a b : Int) (w : World) : (binOp BinOp.geq 3 (.int .i64 a) (.int .i64 b)).run Try.prog w = .ok (.bool (decide (b ≤ a))) w := by rfl

set_option maxHeartbeats 4000000 in
set_option maxRecDepth 100000 in
theorem rbase_any {w : World} {p : Nat} {L : List (NodeD × Value)} (hR : RefG w p L) (GG : Dg.Good (L.map (·.1))) (S : SmallG (L.map (·.1))) (hll : L.length ≤ 2097152) (a b : List UInt8) :
    Calls Try.prog 18 #[.pointer (some ⟨p, 0, none⟩), .string (str a), .string (str b)] w fun e w' => ∃ (x : List UInt8) (r : Int), e = .returned (.tuple #[.string (str x), .int .i64 r]) ∧ BaseR (L.map (·.1)) a b x r ∧ Chg [] w w' := by
  have kha := rhas_any hR hll a
  have khb := rhas_any hR hll b
  cases hA : hasK (L.map (·.1)) a with
  | false =>
    rw [hA] at kha
    have hRes : Hid (BaseR (L.map (·.1)) a b [] 6) := .inl ⟨rfl, rfl, fun h4 => by rw [hA] at h4; cases h4.1⟩
    clear hA hR GG S hll khb
    go_enter Try.func18, Try.ntmps18
    go_wp2_with (go_at_call 20; refine kha.mono ?_; rintro e w1 ⟨rfl, rfl⟩)
    go_ret2
    exact ⟨[], 6, rfl, hRes.out, Chg.refl _ _⟩
  | true =>
    rw [hA] at kha
    cases hB : hasK (L.map (·.1)) b with
    | false =>
      rw [hB] at khb
      have hRes : Hid (BaseR (L.map (·.1)) a b [] 6) := .inl ⟨rfl, rfl, fun h4 => by rw [hB] at h4; cases h4.2⟩
      clear hA hB hR GG S hll
      go_enter Try.func18, Try.ntmps18
      go_wp2_with fail
      refine kha.mono ?_
      rintro e w1 ⟨rfl, hw1⟩
      have hw1' := hw1.symm
      clear hw1 kha
      subst hw1'
      go_wp2_with fail
      refine khb.mono ?_
      rintro e w1 ⟨rfl, hw1⟩
      have hw1' := hw1.symm
      clear hw1 khb
      subst hw1'
      go_wp2_with fail
      go_ret2
      exact ⟨[], 6, rfl, hRes.out, Chg.refl _ _⟩
    | true =>
      rw [hB] at khb
      have hAB : Hid (hasK (L.map (·.1)) a = true ∧ hasK (L.map (·.1)) b = true) := ⟨hA, hB⟩
      have kra := ranc_any hR GG S hll a
      have krb := fun W (c : Chg [] w W) => ranc_any (hR.chg c) GG S hll b
      have HH := Lib.hid (And.intro hR (And.intro GG (And.intro S hll)))
      clear hA hB hR GG S hll
      go_enter Try.func18, Try.ntmps18
      go_wp2_with fail
      refine kha.mono ?_
      rintro e w1 ⟨rfl, hw1⟩
      have hw1' := hw1.symm
      clear hw1 kha
      subst hw1'
      go_wp2_with fail
      refine khb.mono ?_
      rintro e w1 ⟨rfl, hw1⟩
      have hw1' := hw1.symm
      clear hw1 khb
      subst hw1'
      go_wp2_with fail
      refine kra.mono ?_
      rintro e w1 ⟨v8, X, rfl, hAX, hXl, hFX⟩
      clear kra
      have krb := krb w1 hFX.chg
      go_wp2_with fail
      refine krb.mono ?_
      rintro e w2 ⟨v9, Y, rfl, hAY, hYl, hFY⟩
      clear krb
      have hvX := hFX.own.sees.chg0 hFY.chg
      have hvY := hFY.own.sees
      have c2 := hFX.chg.nil hFY.chg
      obtain ⟨n, HN⟩ : ∃ n, Hid (X.length = n) := ⟨_, rfl⟩
      rw [HN.out] at hvX hXl
      obtain ⟨ao8, cap8, rfl, hcap8, -⟩ := hvX.shape
      have HX := Lib.hid (And.intro hAX (And.intro hXl hvX))
      have HY := Lib.hid (And.intro hAY (And.intro hYl hvY))
      have HC2 := Lib.hid c2
      clear hAX hXl hvX hAY hYl hvY c2 hFX hFY
      go_wp2_with fail
      go_loopg [10, 11] n (fun gk (v10 v11 : Value) wr => ∃ (i : Nat), v11 = .int .i64 (i : Int) ∧ i + gk = n ∧ Fresh w2 wr 9 1 v10 ((X.take i).filter (fun x => decide (x ∈ Y))).length (Sk ((X.take i).filter (fun x => decide (x ∈ Y)))))
      case atStart => exact ⟨0, rfl, by omega, by simp only [List.take_zero, List.filter_nil]; exact Fresh.nil _ _ _⟩
      case round =>
        obtain ⟨i, rfl, hik, hF⟩ := hrel
        by_cases hin : i < n
        · have t1 : decide ((i : Int) < (n : Int)) = true := decide_eq_true (by omega)
          have t1' : decide (i < n) = true := decide_eq_true hin
          obtain ⟨gl, offl, capl, e, -, hcl⟩ := (HX.out.2.2.chg0 hF.chg).at1 (by omega)
          injection e with e1 _ e2
          subst e1 e2
          have xl := hcl i hin
          have hil : i < X.length := by rw [HN.out]; exact hin
          have hg : (Sk X)[i]? = some (.string (str X[i])) := by simp [Sk, hil]
          rw [hg] at xl
          have htk : X.take (i + 1) = X.take i ++ [X[i]] := List.take_succ_eq_append_getElem hil
          clear hcl hg
          have kx := hasL_any v9 Y X[i] wr (HY.out.2.2.chg0 hF.chg) (by have := HY.out.2.1; omega)
          have w3 : wrap64 ((i : Int) + 1) = ((i + 1 : Nat) : Int) := by have := HX.out.2.1; unfold wrap64; omega
          generalize X[i] = x at *
          have i2 : (i : Int) < n := by omega
          obtain ⟨C, hC⟩ : ∃ C, C = (X.take i).filter (fun x => decide (x ∈ Y)) := ⟨_, rfl⟩
          rw [← hC] at hF
          have hCl : C.length ≤ 2097152 := by
            have h1 := List.length_filter_le (fun x => decide (x ∈ Y)) (X.take i)
            rw [← hC, List.length_take] at h1
            have := HX.out.2.1
            omega
          cases hd : decide (x ∈ Y) with
          | true =>
            rw [hd] at kx
            have hC2 : (X.take (i + 1)).filter (fun x => decide (x ∈ Y)) = C ++ [x] := by rw [htk, List.filter_append, ← hC, List.filter_cons_of_pos (by exact hd)]; rfl
            have HI := Lib.hid (And.intro hik hC2)
            have HCl := Lib.hid hCl
            clear hik hC hC2 hd htk hCl
            go_upto_region 9 with (go_at_call 34; refine kx.mono ?_; rintro e w4 ⟨rfl, rfl⟩)
            have hF5 := hF.to ((Chg.refl [] w4).alloc (.cells #[.string (str x)] 9))
            clear hF kx
            generalize hcl : C.length = m at *
            obtain ⟨ao, cp, rfl, hcp⟩ := hF5.shape
            clear hcp
            go_wp2_with (first
              | (refine wpList_appF (w0 := w2) rfl _ _ 30 rfl sl_S (v := .slice ao m cp) (n := m) (xs := Sk C) (by exact hF5) rfl (vx := .slice (some ⟨w4.heap.size, 0, none⟩) 1 1) (m := 1) (news := [.string (str x)]) (by exact (Own.one (by exact Blk.new w4 _ 9)).sees) rfl (by exact Sk_one1 x []) (by have := HCl.out; omega) (by have := HCl.out; omega) ?_; intro v6 w6 hF6 c6)
              | fail)
            obtain ⟨hik, hC2⟩ := HI.out
            go_roundg (gk - 1)
            case measure => omega
            case rel =>
              refine ⟨i + 1, by first | rfl | rw [w3], by omega, ?_⟩
              rw [hC2, List.length_append, hcl, Sk_app]
              exact hF6
          | false =>
            rw [hd] at kx
            have hC2 : (X.take (i + 1)).filter (fun x => decide (x ∈ Y)) = C := by rw [htk, List.filter_append, ← hC, List.filter_cons_of_neg (by simpa using hd)]; simp
            have HI := Lib.hid (And.intro hik (And.intro hC2 hF))
            clear hik hC hC2 hd htk hCl hF
            go_wp2_with (go_at_call 34; refine kx.mono ?_; rintro e w4 ⟨rfl, rfl⟩)
            obtain ⟨hik, hC2, hF⟩ := HI.out
            go_roundg (gk - 1)
            case measure => omega
            case rel => exact ⟨i + 1, by first | rfl | rw [w3], by omega, by rw [hC2]; exact hF⟩
        · have t1 : decide ((i : Int) < (n : Int)) = false := decide_eq_false (by omega)
          have t1' : decide (i < n) = false := decide_eq_false hin
          obtain rfl : i = n := by omega
          have hlt : X.take i = X := by rw [← HN.out, List.take_length]
          rw [hlt] at hF
          obtain ⟨C, hC⟩ : ∃ C, C = X.filter (fun x => decide (x ∈ Y)) := ⟨_, rfl⟩
          rw [← hC] at hF
          have hCm : ∀ k, k ∈ C ↔ Rch (L.map (·.1)) a k ∧ Rch (L.map (·.1)) b k := fun k => by
            rw [hC, List.mem_filter, decide_eq_true_iff, HX.out.1.mem, HY.out.1.mem]
          have hCu : C.Pairwise fun x y => x ≤ y := by rw [hC]; exact HX.out.1.up.filter _
          have hCn : C.Nodup := by rw [hC]; exact HX.out.1.nd.filter _
          have hCl : C.length ≤ 2097152 := by
            have h1 := List.length_filter_le (fun x => decide (x ∈ Y)) X
            rw [← hC, HN.out] at h1
            have := HX.out.2.1
            omega
          have hcw : Chg [] w wr := HC2.out.nil hF.chg
          have HCC := Lib.hid (And.intro hCm (And.intro hCu (And.intro hCn hCl)))
          have hOw := hF.own
          clear hik hlt hC hCm hCu hCn hCl hF
          generalize hm : C.length = m at *
          obtain ⟨ao, cp, rfl, hcp⟩ := hOw.sees.shape
          have hcell : Hid (∀ j (hj : j < C.length), ∃ gC, ao = some ⟨gC, 0, none⟩ ∧ ∀ W, Chg [] wr W → W.cell? ⟨gC, j, none⟩ = some (.string (str C[j]))) := Lib.hid fun j hj => by
            obtain ⟨gC, cq, hsv, -, -, -⟩ := hOw.pos (by omega)
            injection hsv with e1 _ e2
            subst e1 e2
            refine ⟨gC, rfl, fun W c => c.cell_some ?_ (by simp)⟩
            rw [Own.cellAt hOw j (by omega)]; simp [Sk, hj]
          have Hm := Lib.hid hm
          clear hOw hcp hm
          go_wp2_with fail
          obtain ⟨G1, rfl⟩ : ∃ G, G = gk := ⟨_, rfl⟩
          obtain ⟨W3, hW3⟩ : ∃ W, W = wr := ⟨_, rfl⟩
          rw [← hW3] at hcw hcell
          rw [← hW3]
          clear hW3
          have HCW := Lib.hid hcw
          clear hcw
          go_loopg [12, 13, 14, 15, 16] m (fun gk (v12 v13 v14 v15 v16 : Value) wr => ∃ (i : Nat) (best : List UInt8) (fd : Bool), v12 = .string (str best) ∧ v13 = .bool fd ∧ v14 = .int .i64 (i : Int) ∧ i + gk = m ∧ Chg [] W3 wr ∧ Hid (BestAt (L.map (·.1)) C i best fd))
          case atStart => exact ⟨0, [], false, rfl, rfl, rfl, by omega, Chg.refl _ _, Lib.hid (BestAt.init _ _)⟩
          case round =>
            obtain ⟨i, best, fd, rfl, rfl, rfl, hik, hc, hB⟩ := hrel
            by_cases hin : i < m
            · have t1 : decide ((i : Int) < (m : Int)) = true := decide_eq_true (by omega)
              have t1' : decide (i < m) = true := decide_eq_true hin
              have hiC : i < C.length := by rw [Hm.out]; exact hin
              obtain ⟨gC, hao, hci⟩ := hcell.out i hiC
              subst hao
              have hcj : Hid (∀ j (hj : j < C.length), ∀ W, Chg [] W3 W → W.cell? ⟨gC, j, none⟩ = some (.string (str C[j]))) := Lib.hid fun j hj => by
                obtain ⟨gC', e, h⟩ := hcell.out j hj
                injection e with e
                injection e with e1
                subst e1
                exact h
              have hCl := HCC.out.2.2.2
              have hm2 : m ≤ 2097152 := hCl
              have w3 : wrap64 ((i : Int) + 1) = ((i + 1 : Nat) : Int) := by unfold wrap64; omega
              have HI := Lib.hid (And.intro hik hm2)
              have i2 : (i : Int) < m := by omega
              have HC := Lib.hid hc
              clear hik hCl hm2
              go_wp2_with fail
              obtain ⟨G2, rfl⟩ : ∃ G, G = gk := ⟨_, rfl⟩
              obtain ⟨W4, hW4⟩ : ∃ W, W = wr := ⟨_, rfl⟩
              rw [← hW4] at hc HC
              rw [← hW4]
              clear hW4
              go_loopg [15, 16] m (fun gk (v15 v16 : Value) wr => ∃ (j : Nat) (nr : Bool), v15 = .bool nr ∧ v16 = .int .i64 (j : Int) ∧ j + gk = m ∧ Chg [] W3 wr ∧ Hid (nr = true ↔ ∀ k (hk : k < C.length), k < j → k ≠ i → ¬ Rch (L.map (·.1)) C[k] C[i]))
              case atStart => exact ⟨0, true, rfl, rfl, by omega, hc, Lib.hid ⟨fun _ k _ h => absurd h (by omega), fun _ => rfl⟩⟩
              case round =>
                obtain ⟨j, nr, rfl, rfl, hjk, hcJ, hNr⟩ := hrel
                by_cases hjm : j < m
                · have u1 : decide ((j : Int) < (m : Int)) = true := decide_eq_true (by omega)
                  have u1' : decide (j < m) = true := decide_eq_true hjm
                  have w4 : wrap64 ((j : Int) + 1) = ((j + 1 : Nat) : Int) := by have := HI.out.2; unfold wrap64; omega
                  have hjC : j < C.length := by rw [Hm.out]; exact hjm
                  have HJ := Lib.hid hjk
                  have HCJ := Lib.hid hcJ
                  -- the next answer
                  have hstep : ∀ nr' : Bool, (nr' = true ↔ nr = true ∧ (j ≠ i → ¬ Rch (L.map (·.1)) C[j] C[i])) → (nr' = true ↔ ∀ k (hk : k < C.length), k < j + 1 → k ≠ i → ¬ Rch (L.map (·.1)) C[k] C[i]) := fun nr' h => by
                    rw [h, hNr.out]
                    constructor
                    · rintro ⟨h1, h2⟩ k hk hkj hki
                      rcases Nat.lt_or_ge k j with h3 | h3
                      · exact h1 k hk h3 hki
                      · have : k = j := by omega
                        subst this; exact h2 hki
                    · intro h1
                      exact ⟨fun k hk hkj => h1 k hk (by omega), fun hji => h1 j hjC (by omega) hji⟩
                  have HS := Lib.hid hstep
                  clear hjk hstep
                  cases nr with
                  | false =>
                    clear hcJ hci
                    go_upto_region 18 with (fail)
                    go_quiet (fail)
                    go_wp2_with fail
                    have hjk := HJ.out
                    go_roundg (gk - 1)
                    case measure => omega
                    case rel => exact ⟨j + 1, false, rfl, by first | rfl | rw [w4], by omega, HCJ.out.drewN _, Lib.hid (HS.out false ⟨fun h => (by cases h), fun h => (by cases h.1)⟩)⟩
                  | true =>
                    by_cases hij : i = j
                    · have q1 : decide ((i : Int) = (j : Int)) = true := decide_eq_true (by omega)
                      have q2 : ((i : Int) == (j : Int)) = true := by rw [hij]; simp
                      have q3 : (i == j) = true := by rw [hij]; simp
                      have HE := Lib.hid hij
                      subst hij
                      clear hcJ hci
                      go_upto_region 18 with (fail)
                      go_quiet (fail)
                      go_wp2_with fail
                      have hjk := HJ.out
                      go_roundg (gk - 1)
                      case measure => omega
                      case rel => exact ⟨i + 1, true, rfl, by first | rfl | rw [w4], by omega, HCJ.out.drewN _, Lib.hid (HS.out true ⟨fun _ => ⟨by trivial, fun h => absurd rfl h⟩, fun _ => by trivial⟩)⟩
                    · have q1 : decide ((i : Int) = (j : Int)) = false := decide_eq_false (by omega)
                      have q2 : ((i : Int) == (j : Int)) = false := by simp; omega
                      have q3 : (i == j) = false := by simp; omega
                      obtain ⟨r, hr⟩ : ∃ r : Bool, r = true ↔ Rch (L.map (·.1)) C[j] C[i] := by
                        by_cases h : Rch (L.map (·.1)) C[j] C[i]
                        · exact ⟨true, fun _ => h, fun _ => rfl⟩
                        · exact ⟨false, fun e => (by cases e), fun h' => absurd h' h⟩
                      have hnext := HS.out (!r) (by
                        rw [Bool.not_eq_true', ← Bool.not_eq_true, hr]
                        exact ⟨fun h => ⟨rfl, fun _ => h⟩, fun h => h.2 (fun e => hij e.symm)⟩)
                      have HNx := Lib.hid hnext
                      have kis := fun W (c : Chg [] w W) => ris_at (HH.out.1.chg c) HH.out.2.1 HH.out.2.2.1 HH.out.2.2.2 C[i] C[j] r hr
                      have cW : Chg [] w wr := HCW.out.nil hcJ
                      have yi := hcj.out i hiC wr hcJ
                      have yj := hcj.out j hjC wr hcJ
                      have i3 : (j : Int) < m := by omega
                      clear hr hnext hij hci hcJ HS
                      generalize str C[i] = sI at *
                      generalize str C[j] = sJ at *
                      clear hjC hin hjm
                      go_upto_region 18 with (fail)
                      obtain ⟨XX, hnX, F, x0, hF0, hF, hX⟩ := fam0 wr
                      have z1 := fun u => (hF u).cell_some yi (by simp)
                      have z2 := fun u => (hF u).cell_some yj (by simp)
                      have kb := fun u => kis (F u) (cW.nil (hF u))
                      refine wp_fam F (by kernel_rfl) (by kernel_rfl) x0 hF0 ?_
                      repeat (go_big_quiet_step (with_reducible exact fam_call hF hX (kb _)))
                      refine wpQuiet_nil ?_
                      rintro w' ⟨xx, rfl⟩
                      have cF := hF xx
                      clear hF hX hF0 z1 z2 yi yj kis kb
                      generalize F xx = w2' at *
                      go_wp2_with fail
                      have hjk := HJ.out
                      go_roundg (gk - 1)
                      case measure => omega
                      case rel => exact ⟨j + 1, !r, rfl, by first | rfl | rw [w4], by omega, HCJ.out.nil cF, HNx⟩
                · have u1 : decide ((j : Int) < (m : Int)) = false := decide_eq_false (by omega)
                  have u1' : decide (j < m) = false := decide_eq_false hjm
                  have hnear : nr = true ↔ NearIn (L.map (·.1)) C C[i] := by
                    rw [hNr.out]
                    constructor
                    · intro h z hz hne
                      obtain ⟨k, hk, rfl⟩ := List.getElem_of_mem hz
                      exact h k hk (by have := Hm.out; omega) fun e => hne (by subst e; rfl)
                    · intro h k hk _ hki
                      refine h C[k] (List.getElem_mem hk) fun e => hki ?_
                      rcases Nat.lt_trichotomy k i with h1 | h1 | h1
                      · exact absurd e (List.pairwise_iff_getElem.1 HCC.out.2.2.1 k i hk hiC h1)
                      · exact h1
                      · exact absurd e.symm (List.pairwise_iff_getElem.1 HCC.out.2.2.1 i k hiC hk h1)
                  have HCJ := Lib.hid hcJ
                  have Hn := Lib.hid hnear
                  clear hjk hjm hnear hNr hci hc
                  cases nr with
                  | false =>
                    clear hcJ
                    go_upto_region 19 with (fail)
                    go_quiet (fail)
                    go_wp2_with fail
                    have hik := HI.out.1
                    go_roundg (G2 - 1)
                    case measure => omega
                    case rel => exact ⟨i + 1, best, fd, rfl, rfl, by first | rfl | rw [w3], by omega, HCJ.out.drewN _, Lib.hid (hB.out.skip hiC fun h => by have := Hn.out.2 h; cases this)⟩
                  | true =>
                    cases fd with
                    | false =>
                      have hnx : Hid (BestAt (L.map (·.1)) C (i + 1) C[i] true) := Lib.hid (hB.out.first hiC)
                      have yi := hcj.out i hiC
                      generalize C[i] = x at *
                      have yi' := yi wr hcJ
                      clear hcJ yi
                      go_upto_region 19 with (fail)
                      go_quiet (fail)
                      go_wp2_with fail
                      have hik := HI.out.1
                      go_roundg (G2 - 1)
                      case measure => omega
                      case rel => exact ⟨i + 1, x, true, rfl, rfl, by first | rfl | rw [w3], by omega, HCJ.out.drewN _, hnx⟩
                    | true =>
                      have hbC := (hB.out.2 rfl).1
                      have hhas : ∀ k ∈ C, hasK (L.map (·.1)) k = true := fun k hk => ((HCC.out.1 k).1 hk).1.has
                      obtain ⟨q1, gn, offn, capn, hq1, y0, y1, ka1⟩ := HH.out.1.stamp HH.out.2.1.1 HH.out.2.2.2 (hhas C[i] (List.getElem_mem hiC))
                      obtain ⟨q2, gn', offn', capn', hq2, y0', y2, ka2⟩ := HH.out.1.stamp HH.out.2.1.1 HH.out.2.2.2 (hhas best hbC)
                      rw [y0] at y0'
                      injection y0' with y0'
                      injection y0' with e3 _ e4
                      injection e3 with e3
                      injection e3 with e5 e6
                      subst e4 e5 e6
                      have cW : Chg [] w wr := HCW.out.nil hcJ
                      obtain ⟨sx, hsx⟩ : ∃ z, z = stampK (L.map (·.1)) C[i] := ⟨_, rfl⟩
                      obtain ⟨sz, hsz⟩ : ∃ z, z = stampK (L.map (·.1)) best := ⟨_, rfl⟩
                      rw [← hsx] at y1
                      rw [← hsz] at y2
                      obtain ⟨nl, hnl⟩ : ∃ nl, nl = L.length := ⟨_, rfl⟩
                      rw [← hnl] at y0 hq1 hq2
                      have yi := hcj.out i hiC wr hcJ
                      replace y0 := cW.cell_some y0 (by simp)
                      replace y1 := cW.cell_some y1 (by simp)
                      replace y2 := cW.cell_some y2 (by simp)
                      have i3 : (0 : Int) ≤ (q1 : Int) := by omega
                      have i4 : (q1 : Int) < nl := by omega
                      have i5 : (0 : Int) ≤ (q2 : Int) := by omega
                      have i6 : (q2 : Int) < nl := by omega
                      have hnx : Hid ((sz ≤ sx → BestAt (L.map (·.1)) C (i + 1) C[i] true) ∧ (¬ sz ≤ sx → BestAt (L.map (·.1)) C (i + 1) best true)) := Lib.hid (by
                        rw [hsx, hsz]
                        exact ⟨fun h => hB.out.turn HCC.out.2.1 hiC h, fun h => hB.out.keep hiC h⟩)
                      clear hq1 hq2 hnl hbC hhas hsx hsz hB hcJ
                      generalize C[i] = x at *
                      obtain ⟨sX, hsX⟩ : ∃ z, z = str x := ⟨_, rfl⟩
                      obtain ⟨sB, hsB⟩ : ∃ z, z = str best := ⟨_, rfl⟩
                      have HsX := Lib.hid hsX
                      have HsB := Lib.hid hsB
                      rw [← hsX] at yi ka1
                      rw [← hsB] at ka2
                      rw [← hsB]
                      clear hsX hsB hiC hin
                      go_upto_region 19 with (fail)
                      obtain ⟨XX, hnX, F, x0, hF0, hF, hX⟩ := fam0 wr
                      have z0 := fun u => (hF u).cell_some y0 (by simp)
                      have z1 := fun u => (hF u).cell_some y1 (by simp)
                      have z2 := fun u => (hF u).cell_some y2 (by simp)
                      have z3 := fun u => (hF u).cell_some yi (by simp)
                      have kb1 := fun u => ka1 (F u) (cW.nil (hF u))
                      have kb2 := fun u => ka2 (F u) (cW.nil (hF u))
                      refine wp_fam F (by kernel_rfl) (by kernel_rfl) x0 hF0 ?_
                      repeat (go_big_quiet_step (first | with_reducible exact fam_same (kb1 _) | with_reducible exact fam_same (kb2 _)))
                      refine wpQuiet_nil ?_
                      rintro w' ⟨xx, rfl⟩
                      have cF := hF xx
                      replace yi := z3 xx
                      clear hF hX hF0 z0 z1 z2 z3 y0 y1 y2 ka1 ka2 kb1 kb2
                      generalize F xx = w2' at *
                      by_cases hle : sz ≤ sx
                      · have r3 : decide (sz ≤ sx) = true := decide_eq_true hle
                        have hb2 := Lib.hid (hnx.out.1 hle)
                        try rw [r3]
                        clear hle
                        go_wp2_with fail
                        have hik := HI.out.1
                        go_roundg (G2 - 1)
                        case measure => omega
                        case rel => exact ⟨i + 1, x, true, by rw [HsX.out], rfl, by first | rfl | rw [w3], by omega, HCJ.out.nil cF, hb2⟩
                      · have r3 : decide (sz ≤ sx) = false := decide_eq_false hle
                        have hb2 := Lib.hid (hnx.out.2 hle)
                        try rw [r3]
                        clear hle
                        go_wp2_with fail
                        have hik := HI.out.1
                        go_roundg (G2 - 1)
                        case measure => omega
                        case rel => exact ⟨i + 1, best, true, by rw [HsB.out], rfl, by first | rfl | rw [w3], by omega, HCJ.out.nil cF, hb2⟩
            · have t1 : decide ((i : Int) < (m : Int)) = false := decide_eq_false (by omega)
              have t1' : decide (i < m) = false := decide_eq_false hin
              have him : i = m := by omega
              have htC : C.take i = C := by rw [him, ← Hm.out, List.take_length]
              have hres : Hid (BaseR (L.map (·.1)) a b (if fd = true then best else []) (if fd = true then 0 else 14)) := Lib.hid (by
                have h := hB.out
                unfold BestAt at h
                rw [htC] at h
                cases fd with
                | false => exact base_no HH.out.2.1 HCC.out.1 hAB.out (h.1 rfl)
                | true => exact base_best HH.out.2.1 HCC.out.1 hAB.out (h.2 rfl).1 (h.2 rfl).2)
              have HC := Lib.hid hc
              clear hik him htC hB hc
              cases fd with
              | false =>
                go_wp2_with fail
                go_ret2
                exact ⟨[], 14, rfl, hres.out, HCW.out.nil HC.out⟩
              | true =>
                go_wp2_with fail
                go_ret2
                exact ⟨best, 0, rfl, hres.out, HCW.out.nil HC.out⟩
end Go.Proofs.Ytphmplbcegibjaa
