/- slices.swapRangeCmpFunc and rotateCmpFunc at texts. No statement of the seat is proved here. -/
import Derived.Test.YtphmplbcegibjaaSoPlain
import Derived.Test.YtphmplbcegibjaaDgA
import Derived.BigRegion
set_option linter.unusedVariables false
set_option linter.unusedSimpArgs false
namespace Go.Proofs.Ytphmplbcegibjaa
open Go.RowKit Go.Aq Go.Aq.Dg Go.Aq.So

theorem Sk_set (l : List (List UInt8)) (i : Nat) (y : List UInt8) : (Sk l).set i (.string (str y)) = Sk (l.set i y) := by simp [Sk, List.map_set]
theorem Sk_get {l : List (List UInt8)} {i : Nat} {x : List UInt8} (h : l[i]? = some x) : (Sk l)[i]? = some (.string (str x)) := by simp [Sk, h]
/-- The row of texts D in block K. -/
abbrev RowK (w : World) (K n cap : Nat) (D : List (List UInt8)) : Prop := Own w 9 1 (.slice (some ⟨K, 0, none⟩) n cap) n (Sk D)
theorem RowK.cell {w : World} {K n cap : Nat} {D : List (List UInt8)} (h : RowK w K n cap D) {j : Nat} {x : List UInt8} (hx : D[j]? = some x) : w.cell? ⟨K, j, none⟩ = some (.string (str x)) := by
  have hl : D.length = n := by have := Own.len h; simpa [Sk] using this
  have hj : j < D.length := (List.getElem?_eq_some_iff.1 hx).1
  rw [Own.cellAt h j (by omega), Sk_get hx]
theorem RowK.length {w : World} {K n cap : Nat} {D : List (List UInt8)} (h : RowK w K n cap D) : D.length = n := by have := Own.len h; simpa [Sk] using this
theorem RowK.set {w : World} {K n cap : Nat} {D : List (List UInt8)} (h : RowK w K n cap D) (j : Nat) (y : List UInt8) : RowK (w.setCell ⟨K, j, none⟩ (.string (str y))) K n cap (D.set j y) := by
  have := Own.set h j (.string (str y))
  rwa [Sk_set] at this
theorem RowK.chg {w w' : World} {K n cap : Nat} {D : List (List UInt8)} (h : RowK w K n cap D) (c : Chg [] w w') : RowK w' K n cap D := Own.chg h c (fun _ _ => by simp)

set_option maxRecDepth 100000 in
theorem swapRange_any (w : World) (K n cap a b k : Nat) (P X Q Y Z : List (List UInt8)) (C : Value) (hv : RowK w K n cap (P ++ (X ++ (Q ++ (Y ++ Z))))) (ha : P.length = a) (hx : X.length = k) (hy : Y.length = k) (hb : a + k + Q.length = b) (hn : n ≤ 4611686018427387904) :
    Calls Try.prog 59 #[.slice (some ⟨K, 0, none⟩) n cap, .int .i64 (a : Int), .int .i64 (b : Int), .int .i64 (k : Int), C] w fun e w' => e = .returned (.tuple #[]) ∧ RowK w' K n cap (P ++ (Y ++ (Q ++ (X ++ Z)))) ∧ Chg [K] w w' := by
  have hlen := hv.length
  simp only [List.length_append] at hlen
  have HX := Lib.hid hx
  have HY := Lib.hid hy
  have HA := Lib.hid ha
  have HB := Lib.hid hb
  have HL := Lib.hid hlen
  have hab : a + k ≤ b := by omega
  have hbn : b + k ≤ n := by omega
  clear hx hy ha hb hlen
  go_enter Try.func59, Try.ntmps59
  go_wp2_with fail
  go_loopg [10] k (fun gk (v10 : Value) wr => ∃ (i : Nat) (X1 X2 Y1 Y2 : List (List UInt8)), v10 = .int .i64 (i : Int) ∧ i + gk = k ∧ X = X1 ++ X2 ∧ Y = Y1 ++ Y2 ∧ X1.length = i ∧ Y1.length = i ∧ RowK wr K n cap (P ++ (Y1 ++ (X2 ++ (Q ++ (X1 ++ (Y2 ++ Z)))))) ∧ Chg [K] w wr)
  case atStart => exact ⟨0, [], X, [], Y, rfl, by omega, rfl, rfl, rfl, rfl, hv, Chg.refl _ _⟩
  case round =>
    obtain ⟨i, X1, X2, Y1, Y2, rfl, hik, rfl, rfl, hx1, hy1, ho, hc⟩ := hrel
    have hX := HX.out
    have hY := HY.out
    rw [List.length_append] at hX hY
    by_cases hlt : i < k
    · match X2, Y2, hX, hY with
      | x :: X2, y :: Y2, hX, hY =>
        rw [List.length_cons] at hX hY
        have hA := HA.out
        have hB := HB.out
        have e1 : P ++ (Y1 ++ (x :: X2 ++ (Q ++ (X1 ++ (y :: Y2 ++ Z))))) = (P ++ Y1) ++ x :: ((X2 ++ (Q ++ X1)) ++ y :: (Y2 ++ Z)) := by simp
        have hi1 : a + i = (P ++ Y1).length := by rw [List.length_append]; omega
        have hi2 : b + i = (P ++ Y1).length + 1 + (X2 ++ (Q ++ X1)).length := by simp only [List.length_append]; omega
        rw [e1] at ho
        have x0 := ho.cell (get_mid (P ++ Y1) _ x hi1)
        have x1 := ho.cell (get_mid2 (P ++ Y1) (X2 ++ (Q ++ X1)) (Y2 ++ Z) x y hi2)
        have f0 := Own.frozenAt ho (a + i)
        have f1 := Own.frozenAt ho (b + i)
        have ho2 := (ho.set (a + i) y).set (b + i) x
        rw [swap_mid (P ++ Y1) (X2 ++ (Q ++ X1)) (Y2 ++ Z) x y hi1 hi2] at ho2
        have e2 : (P ++ Y1) ++ y :: ((X2 ++ (Q ++ X1)) ++ x :: (Y2 ++ Z)) = P ++ ((Y1 ++ [y]) ++ (X2 ++ (Q ++ ((X1 ++ [x]) ++ (Y2 ++ Z))))) := by simp
        rw [e2] at ho2
        have hc2 := (hc.setCell (p := ⟨K, a + i, none⟩) (by simp) (.string (str y))).setCell (p := ⟨K, b + i, none⟩) (by simp) (.string (str x))
        have hne : (b + i = a + i) = False := by simp; omega
        have hne' : (a + i = b + i) = False := by simp; omega
        have i1 : (a : Int) + i < n := by omega
        have i2 : (b : Int) + i < n := by omega
        have t1 : decide ((i : Int) < (k : Int)) = true := decide_eq_true (by omega)
        have t1' : decide (i < k) = true := decide_eq_true hlt
        have ho3 : RowK ((wr.setCell ⟨K, a + i, none⟩ (.string (str y))).setCell ⟨K, b + i, none⟩ (.string (str x))).drew K n cap (P ++ ((Y1 ++ [y]) ++ (X2 ++ (Q ++ ((X1 ++ [x]) ++ (Y2 ++ Z)))))) := ho2
        have hc3 := hc2.drew
        have HS := Lib.hid (And.intro hik (And.intro hx1 hy1))
        clear ho2 hc2 hik hx1 hy1 hX hY hA hB e1 e2 hi1 hi2 ho hc hv
        go_wp2
        go_region
        generalize ((wr.setCell ⟨K, a + i, none⟩ (.string (str y))).setCell ⟨K, b + i, none⟩ (.string (str x))).drew = w3 at *
        go_wp2
        obtain ⟨hik, hx1, hy1⟩ := HS.out
        go_roundg (gk - 1)
        case measure => omega
        case rel => exact ⟨i + 1, X1 ++ [x], X2, Y1 ++ [y], Y2, by go_num, by omega, by simp, by simp, by simp [hx1], by simp [hy1], ho3, hc3⟩
      | [], _, hX, _ => simp at hX; omega
      | _ :: _, [], _, hY => simp at hY; omega
    · have t1 : decide ((i : Int) < (k : Int)) = false := decide_eq_false (by omega)
      have t1' : decide (i < k) = false := decide_eq_false hlt
      obtain rfl : X2 = [] := List.length_eq_zero_iff.1 (by omega)
      obtain rfl : Y2 = [] := List.length_eq_zero_iff.1 (by omega)
      clear hik hx1 hy1 hX hY hv
      go_wp2
      go_end0
      exact ⟨rfl, by simpa using ho, hc⟩
theorem swapRange_i (w : World) (K n cap a b k : Nat) (av bv kv : Int) (P X Q Y Z : List (List UInt8)) (C : Value) (hv : RowK w K n cap (P ++ (X ++ (Q ++ (Y ++ Z))))) (h1 : av = (a : Int)) (h2 : bv = (b : Int)) (h3 : kv = (k : Int)) (ha : P.length = a) (hx : X.length = k) (hy : Y.length = k) (hb : a + k + Q.length = b) (hn : n ≤ 4611686018427387904) :
    Calls Try.prog 59 #[.slice (some ⟨K, 0, none⟩) n cap, .int .i64 av, .int .i64 bv, .int .i64 kv, C] w fun e w' => e = .returned (.tuple #[]) ∧ RowK w' K n cap (P ++ (Y ++ (Q ++ (X ++ Z)))) ∧ Chg [K] w w' := by
  subst h1 h2 h3
  exact swapRange_any w K n cap a b k P X Q Y Z C hv ha hx hy hb hn

set_option maxRecDepth 100000 in
theorem rotate_any (w : World) (K n cap a m b : Nat) (P X Y Z : List (List UInt8)) (C : Value) (hv : RowK w K n cap (P ++ (X ++ (Y ++ Z)))) (ha : P.length = a) (hm : a + X.length = m) (hb : m + Y.length = b) (hx : 0 < X.length) (hy : 0 < Y.length) (hn : n ≤ 4611686018427387904) :
    Calls Try.prog 47 #[.slice (some ⟨K, 0, none⟩) n cap, .int .i64 (a : Int), .int .i64 (m : Int), .int .i64 (b : Int), C] w fun e w' => e = .returned (.tuple #[]) ∧ RowK w' K n cap (P ++ (Y ++ (X ++ Z))) ∧ Chg [K] w w' := by
  have hlen := hv.length
  simp only [List.length_append] at hlen
  obtain ⟨u1, e1⟩ : ∃ u : Int, u = (m : Int) - a := ⟨_, rfl⟩
  obtain ⟨u2, e2⟩ : ∃ u : Int, u = (b : Int) - m := ⟨_, rfl⟩
  have hx1 : u1 = (X.length : Int) := by omega
  have hy1 : u2 = (Y.length : Int) := by omega
  have HL := Lib.hid (And.intro ha (And.intro hm (And.intro hb (And.intro hx (And.intro hy hlen)))))
  have b1 : (a : Int) ≤ m := by omega
  have b2 : (m : Int) ≤ b := by omega
  have b3 : (b : Int) ≤ 4611686018427387904 := by omega
  clear ha hm hb hx hy hlen
  go_enter Try.func47, Try.ntmps47
  go_wp2_with fail
  go_loopg [10, 11] (X.length + Y.length) (fun gk (v10 v11 : Value) wr => ∃ (i j : Nat) (A X' Y' B : List (List UInt8)), v10 = .int .i64 (i : Int) ∧ v11 = .int .i64 (j : Int) ∧ i + j = gk ∧ X'.length = i ∧ Y'.length = j ∧ 0 < i ∧ 0 < j ∧ a + A.length + i = m ∧ m + j + B.length = b ∧
    RowK wr K n cap (P ++ (A ++ (X' ++ (Y' ++ (B ++ Z))))) ∧ Y ++ X = A ++ (Y' ++ (X' ++ B)) ∧ Chg [K] w wr)
  case atStart =>
    obtain ⟨ha, hm, hb, hx, hy, hlen⟩ := HL.out
    exact ⟨X.length, Y.length, [], X, Y, [], by rw [← hx1, e1], by rw [← hy1, e2], rfl, rfl, rfl, hx, hy, by simp; omega, by simp; omega, by simpa using hv, by simp, Chg.refl _ _⟩
  case round =>
    obtain ⟨i, j, A, X', Y', B, rfl, rfl, hg, hX, hY, hi, hj, hma, hmb, ho, he, hc⟩ := hrel
    obtain ⟨ha, hm, hb, hx, hy, hlen⟩ := HL.out
    have hbn : b ≤ n := by omega
    have hPA : (P ++ A).length = a + A.length := by rw [List.length_append]; omega
    clear hv hlen hm hb hx hy e1 e2 hx1 hy1
    have i0 : (i : Int) ≤ m := by omega
    have i1 : (m : Int) + j ≤ b := by omega
    rcases Nat.lt_trichotomy i j with hlt | rfl | hlt
    · have t1 : ((i : Int) != (j : Int)) = true := by simp; omega
      have t1' : (i != j) = true := by simp; omega
      have t2 : decide ((j : Int) < (i : Int)) = false := decide_eq_false (by omega)
      have t2' : decide (j < i) = false := decide_eq_false (by omega)
      obtain ⟨Y1, Y2, rfl, h2⟩ : ∃ Y1 Y2, Y' = Y1 ++ Y2 ∧ Y2.length = i := ⟨Y'.take (j - i), Y'.drop (j - i), by simp, by simp; omega⟩
      rw [List.length_append] at hY
      have eD : P ++ (A ++ (X' ++ (Y1 ++ Y2 ++ (B ++ Z)))) = (P ++ A) ++ (X' ++ (Y1 ++ (Y2 ++ (B ++ Z)))) := by simp
      rw [eD] at ho
      have i2 : (i : Int) < j := by omega
      have HS := Lib.hid (And.intro hg (And.intro hX (And.intro hY (And.intro hma (And.intro hmb (And.intro hPA (And.intro h2 (And.intro ha he))))))))
      clear hg hX hY hma hmb hPA h2 ha he eD
      go_wp2_with fail
      obtain ⟨hg, hX, hY, hma, hmb, hPA, h2, ha, he⟩ := HS.out
      refine (swapRange_i wr K n cap (a + A.length) (m + j - i) i _ _ _ (P ++ A) X' Y1 Y2 (B ++ Z) C ho (by omega) (by omega) rfl hPA hX h2 (by omega) hn).mono ?_
      rintro e w3 ⟨rfl, ho3, hc3⟩
      clear hg hX hY hma hmb hPA h2 ha he
      go_wp2_with fail
      obtain ⟨hg, hX, hY, hma, hmb, hPA, h2, ha, he⟩ := HS.out
      go_roundg (i + (j - i))
      case measure => omega
      case rel => exact ⟨i, j - i, A, Y2, Y1, X' ++ B, rfl, by congr 1; omega, rfl, h2, by omega, hi, by omega, hma, by rw [List.length_append]; omega, by simpa using ho3, by rw [he]; simp, hc.tr hc3⟩
    · have t1 : ((i : Int) != (i : Int)) = false := by simp
      have t1' : (i != i) = false := by simp
      have eD : P ++ (A ++ (X' ++ (Y' ++ (B ++ Z)))) = (P ++ A) ++ (X' ++ ([] ++ (Y' ++ (B ++ Z)))) := by simp
      rw [eD] at ho
      have HS := Lib.hid (And.intro hg (And.intro hX (And.intro hY (And.intro hma (And.intro hmb (And.intro hPA (And.intro ha he)))))))
      clear hg hX hY hma hmb hPA ha he eD
      go_wp2_with fail
      obtain ⟨hg, hX, hY, hma, hmb, hPA, ha, he⟩ := HS.out
      refine (swapRange_i wr K n cap (a + A.length) m i _ _ _ (P ++ A) X' [] Y' (B ++ Z) C ho (by omega) rfl rfl hPA hX hY (by simp; omega) hn).mono ?_
      rintro e w3 ⟨rfl, ho3, hc3⟩
      clear hg hX hY hma hmb hPA ha he
      go_wp2_with fail
      go_end0
      refine ⟨rfl, ?_, hc.tr hc3⟩
      have e3 : P ++ (Y ++ (X ++ Z)) = (P ++ A) ++ (Y' ++ ([] ++ (X' ++ (B ++ Z)))) := by
        have he := HS.out.2.2.2.2.2.2.2
        rw [← List.append_assoc Y, he]; simp
      rw [e3]; exact ho3
    · have t1 : ((i : Int) != (j : Int)) = true := by simp; omega
      have t1' : (i != j) = true := by simp; omega
      have t2 : decide ((j : Int) < (i : Int)) = true := decide_eq_true (by omega)
      have t2' : decide (j < i) = true := decide_eq_true (by omega)
      obtain ⟨X1, X2, rfl, h2⟩ : ∃ X1 X2, X' = X1 ++ X2 ∧ X1.length = j := ⟨X'.take j, X'.drop j, by simp, by simp; omega⟩
      rw [List.length_append] at hX
      have eD : P ++ (A ++ (X1 ++ X2 ++ (Y' ++ (B ++ Z)))) = (P ++ A) ++ (X1 ++ (X2 ++ (Y' ++ (B ++ Z)))) := by simp
      rw [eD] at ho
      have i2 : (j : Int) < i := by omega
      have HS := Lib.hid (And.intro hg (And.intro hX (And.intro hY (And.intro hma (And.intro hmb (And.intro hPA (And.intro h2 (And.intro ha he))))))))
      clear hg hX hY hma hmb hPA h2 ha he eD
      go_wp2_with fail
      obtain ⟨hg, hX, hY, hma, hmb, hPA, h2, ha, he⟩ := HS.out
      refine (swapRange_i wr K n cap (a + A.length) m j _ _ _ (P ++ A) X1 X2 Y' (B ++ Z) C ho (by omega) rfl rfl hPA h2 hY (by omega) hn).mono ?_
      rintro e w3 ⟨rfl, ho3, hc3⟩
      clear hg hX hY hma hmb hPA h2 ha he
      go_wp2_with fail
      obtain ⟨hg, hX, hY, hma, hmb, hPA, h2, ha, he⟩ := HS.out
      go_roundg ((i - j) + j)
      case measure => omega
      case rel => exact ⟨i - j, j, A ++ Y', X2, X1, B, by congr 1; omega, rfl, rfl, by omega, h2, by omega, hj, by rw [List.length_append]; omega, hmb, by simpa using ho3, by rw [he]; simp, hc.tr hc3⟩
end Go.Proofs.Ytphmplbcegibjaa
