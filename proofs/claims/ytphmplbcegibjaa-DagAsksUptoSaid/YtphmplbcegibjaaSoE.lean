/- slices.stableCmpFunc and SortStableFunc at texts, by stamps. No statement of the seat is proved here. -/
import Derived.Test.YtphmplbcegibjaaSoD
set_option linter.unusedVariables false
set_option linter.unusedSimpArgs false
namespace Go.Aq.So
theorem up_take {l : List (List UInt8)} (h : KeyUp l) (k : Nat) : KeyUp (l.take k) := List.Pairwise.sublist (List.take_sublist k l) h
theorem up_drop {l : List (List UInt8)} (h : KeyUp l) (k : Nat) : KeyUp (l.drop k) := List.Pairwise.sublist (List.drop_sublist k l) h
theorem up_td {l : List (List UInt8)} (h : KeyUp l) (k : Nat) : ∀ x ∈ l.take k, ∀ y ∈ l.drop k, x ≤ y := by
  intro x hx y hy
  have : KeyUp (l.take k ++ l.drop k) := by rw [List.take_append_drop]; exact h
  exact (List.pairwise_append.1 this).2.2 x hx y hy
theorem sortT_two (st : List UInt8 → Int) (X Y : List (List UInt8)) : sortT st (sortT st X ++ sortT st Y) = sortT st (X ++ Y) := sortT_congr st ((sortT_perm st X).append (sortT_perm st Y))
end Go.Aq.So
namespace Go.Proofs.Ytphmplbcegibjaa
open Go.RowKit Go.Aq Go.Aq.Dg Go.Aq.So

theorem wN {x : Int} {q : Nat} (h : x = q) (h2 : q ≤ 4611686018427387904) : wrap64 x = (q : Int) := by rw [h]; unfold wrap64; omega
set_option maxHeartbeats 2000000 in
set_option maxRecDepth 100000 in
theorem stable_any (w0 w : World) (K n cap : Nat) (O : List (List UInt8)) (gp : Value) (st : List UInt8 → Int) (hC : CmpOK w0 K gp st) (hw : Chg [K] w0 w) (hv : RowK w K n cap O)
    (hl : ∀ x ∈ O, x.length ≤ 1048576) (ho : KeyUp O) (hn : n ≤ 1152921504606846976) :
    Calls Try.prog 36 #[.slice (some ⟨K, 0, none⟩) n cap, .int .i64 (n : Int), cmpF gp] w fun e w' => e = .returned (.tuple #[]) ∧ RowK w' K n cap (sortT st O) ∧ Chg [K] w w' := by
  have hlen : O.length = n := hv.length
  have HL := Lib.hid (And.intro hlen (And.intro hl ho))
  have HC := Lib.hid hC
  clear hlen hl ho hC
  go_enter Try.func36, Try.ntmps36
  go_wp2_with fail
  go_loopg [7, 8] n (fun gk (v7 v8 : Value) wr => ∃ (a B : Nat) (Q rest : List (List UInt8)), v7 = .int .i64 (a : Int) ∧ v8 = .int .i64 (B : Int) ∧ B = a + 20 ∧ a ≤ n ∧ gk = n - a ∧ rest = O.drop a ∧ Q.length = a ∧ Q ++ chunk st 20 rest = chunk st 20 O ∧ RowK wr K n cap (Q ++ rest) ∧ Chg [K] w wr)
  case atStart => exact ⟨0, 20, [], O, rfl, rfl, rfl, by omega, rfl, by simp, rfl, by simp, by simpa using hv, Chg.refl _ _⟩
  case round =>
    obtain ⟨a, B, Q, rest, rfl, rfl, hB, han, hgk, hrest, hQ, hch, hr, hc⟩ := hrel
    obtain ⟨hlen, hl, ho⟩ := HL.out
    have hrl : rest.length = n - a := by rw [hrest, List.length_drop, hlen]
    by_cases hlt : B ≤ n
    · have t1 : decide ((B : Int) ≤ (n : Int)) = true := decide_eq_true (by omega)
      have t1' : decide (B ≤ n) = true := decide_eq_true hlt
      have e1 : wrap64 ((B : Int) + 20) = ((B + 20 : Nat) : Int) := by unfold wrap64; omega
      have e2 : IntKind.i64.wrap ((B : Int) + 20) = ((B + 20 : Nat) : Int) := wI (by omega) (by omega)
      have hup : KeyUp rest := by rw [hrest]; exact up_drop ho a
      have hrm : ∀ x ∈ rest, x.length ≤ 1048576 := fun x hx => hl x (by rw [hrest] at hx; exact List.mem_of_mem_drop hx)
      have ki := insertion_any w0 wr K n cap a B Q (rest.take 20) (rest.drop 20) gp st HC.out (hw.tr hc) (by rw [List.take_append_drop]; exact hr) hQ (by rw [List.length_take]; omega) (fun x hx => hrm x (List.mem_of_mem_take hx)) (up_take hup 20) (by omega)
      have HS := Lib.hid (And.intro hB (And.intro han (And.intro hgk (And.intro hrest (And.intro hQ (And.intro hch (And.intro hrl hlt)))))))
      clear hB han hgk hrest hQ hch hrl hlt hup hrm hlen hl ho hr hv
      go_wp2_with fail
      refine ki.mono ?_
      rintro e w2 ⟨rfl, hr2, c2⟩
      have c3 := hc.tr c2
      clear ki hc c2
      go_wp2_with fail
      obtain ⟨hB, han, hgk, hrest, hQ, hch, hrl, hlt⟩ := HS.out
      go_roundg (n - B)
      case measure => omega
      case rel =>
        refine ⟨B, B + 20, Q ++ sortT st (rest.take 20), rest.drop 20, rfl, by first | rfl | (rw [e1]) | (push_cast; rfl), rfl, hlt, rfl, by rw [hrest, List.drop_drop, hB], by rw [List.length_append, sortT_len, List.length_take]; omega, ?_, by simpa using hr2, c3⟩
        rw [List.append_assoc, ← chunk_cons st (by decide) (by omega)]
        exact hch
    · have t1 : decide ((B : Int) ≤ (n : Int)) = false := decide_eq_false (by omega)
      have t1' : decide (B ≤ n) = false := decide_eq_false hlt
      have hup : KeyUp rest := by rw [hrest]; exact up_drop ho a
      have hrm : ∀ x ∈ rest, x.length ≤ 1048576 := fun x hx => hl x (by rw [hrest] at hx; exact List.mem_of_mem_drop hx)
      have ki := insertion_any w0 wr K n cap a n Q rest [] gp st HC.out (hw.tr hc) (by rw [List.append_nil]; exact hr) hQ (by omega) hrm hup (by omega)
      have hD : Q ++ (sortT st rest ++ []) = chunk st 20 O := by rw [← hch, chunk_le st (by omega), List.append_nil]
      rw [hD] at ki
      clear hB han hgk hrest hQ hch hrl hlt hup hrm hlen hl ho hr hv hD
      go_wp2_with fail
      refine ki.mono ?_
      rintro e w2 ⟨rfl, hr2, c2⟩
      have c3 := hc.tr c2
      clear ki hc c2
      go_wp2_with fail
      obtain ⟨G, rfl⟩ : ∃ G, G = gk := ⟨_, rfl⟩
      obtain ⟨W1, rfl⟩ : ∃ W, W = wr := ⟨_, rfl⟩
      go_loopg [6, 7, 8, 9] (n - 20) (fun gk (v6 v7 v8 v9 : Value) wr => ∃ (bs : Nat), v6 = .int .i64 (bs : Int) ∧ 20 ≤ bs ∧ bs ≤ 2 * n + 20 ∧ gk = n - bs ∧ RowK wr K n cap (chunk st bs O) ∧ Chg [K] w wr)
      case atStart => exact ⟨20, rfl, by omega, by omega, rfl, hr2, c3⟩
      case round =>
        clear hr2 c3
        obtain ⟨bs, rfl, h20, hb2, hgk, hr, hc⟩ := hrel
        obtain ⟨hlen, hl, ho⟩ := HL.out
        by_cases hlt : bs < n
        · have s1 : decide ((bs : Int) < (n : Int)) = true := decide_eq_true (by omega)
          have s1' : decide (bs < n) = true := decide_eq_true hlt
          obtain ⟨c, hcc⟩ : ∃ c, c = 2 * bs := ⟨_, rfl⟩
          have hc62 : c ≤ 4611686018427387904 := by omega
          have hc1 : 2 * (bs : Int) = (c : Int) := by omega
          have hc2 : (bs : Int) * 2 = (c : Int) := by omega
          have HE := Lib.hid (And.intro (wN hc2 hc62) (wI hc2 hc62))
          have e1 : wrap64 (2 * (bs : Int)) = (c : Int) := wN hc1 hc62
          have e2 : IntKind.i64.wrap (2 * (bs : Int)) = (c : Int) := wI hc1 hc62
          clear hc62 hc1 hc2
          have HS := Lib.hid (And.intro h20 (And.intro hb2 (And.intro hgk (And.intro hlt hcc))))
          clear h20 hb2 hgk hlt hcc hlen hl ho
          have HE1 := Lib.hid (And.intro e1 e2)
          go_upto_region 9 with (fail)
          clear e1 e2
          obtain ⟨G2, rfl⟩ : ∃ G, G = gk := ⟨_, rfl⟩
          obtain ⟨W2, rfl⟩ : ∃ W, W = wr := ⟨_, rfl⟩
          go_loopg [7, 8] n (fun gk (v7 v8 : Value) wr => ∃ (a B : Nat) (Q rest : List (List UInt8)), v7 = .int .i64 (a : Int) ∧ v8 = .int .i64 (B : Int) ∧ B = a + c ∧ a ≤ n ∧ gk = n - a ∧ rest = O.drop a ∧ Q.length = a ∧ Q ++ chunk st c rest = chunk st c O ∧ RowK wr K n cap (Q ++ chunk st bs rest) ∧ Chg [K] w wr)
          case atStart => exact ⟨0, c, [], O, rfl, rfl, by omega, by omega, rfl, by simp, rfl, by simp, by simpa using hr, hc⟩
          case round =>
            clear hr hc
            obtain ⟨a, B, Q, rest, rfl, rfl, hB, han, hgk2, hrest, hQ, hch, hr, hc⟩ := hrel
            obtain ⟨hlen, hl, ho⟩ := HL.out
            obtain ⟨h20, hb2, hgk, hlt, hcc⟩ := HS.out
            have hrl : rest.length = n - a := by rw [hrest, List.length_drop, hlen]
            have hup : KeyUp rest := by rw [hrest]; exact up_drop ho a
            have hrm : ∀ x ∈ rest, x.length ≤ 1048576 := fun x hx => hl x (by rw [hrest] at hx; exact List.mem_of_mem_drop hx)
            by_cases hBn : B ≤ n
            · have t2 : decide ((B : Int) ≤ (n : Int)) = true := decide_eq_true (by omega)
              have t2' : decide (B ≤ n) = true := decide_eq_true hBn
              have g1 : a + bs ≤ 4611686018427387904 := by omega
              have g2 : B + c ≤ 4611686018427387904 := by omega
              have ed : chunk st bs rest = sortT st (rest.take bs) ++ (sortT st ((rest.drop bs).take bs) ++ chunk st bs (rest.drop c)) := by
                rw [chunk_cons st (by omega) (by omega), chunk_cons st (l := rest.drop bs) (by omega) (by rw [List.length_drop]; omega), List.drop_drop, show bs + bs = c by omega]
              rw [ed] at hr
              have lX : (sortT st (rest.take bs)).length = bs := by rw [sortT_len, List.length_take]; omega
              have lY : (sortT st ((rest.drop bs).take bs)).length = bs := by rw [sortT_len, List.length_take, List.length_drop]; omega
              have ex : sortT st (sortT st (rest.take bs) ++ sortT st ((rest.drop bs).take bs)) = sortT st (rest.take c) := by
                rw [sortT_two, ← List.take_add, show bs + bs = c by omega]
              have ki := sym_any (bs + bs) w0 wr K n cap a (a + bs) B Q (sortT st (rest.take bs)) (sortT st ((rest.drop bs).take bs)) (chunk st bs (rest.drop c)) gp st HC.out (hw.tr hc) hr hQ (by omega) (by omega) (by omega) (by omega) (by omega)
                ⟨fun x hx => hrm x (by rw [sortT_mem] at hx; exact List.mem_of_mem_take hx), fun x hx => hrm x (by rw [sortT_mem] at hx; exact List.mem_of_mem_drop (List.mem_of_mem_take hx))⟩ (sortT_srt st _) (sortT_srt st _)
                (fun x hx y hy => by rw [sortT_mem] at hx hy; exact up_td hup bs x hx y (List.mem_of_mem_take hy)) hn
              rw [ex] at ki
              have HJ := Lib.hid (And.intro hB (And.intro han (And.intro hgk2 (And.intro hrest (And.intro hQ (And.intro hch (And.intro hrl hBn)))))))
              have e5 : wrap64 ((a : Int) + (bs : Int)) = ((a + bs : Nat) : Int) := wN (Int.natCast_add a bs).symm g1
              have e6 : IntKind.i64.wrap ((a : Int) + (bs : Int)) = ((a + bs : Nat) : Int) := wI (Int.natCast_add a bs).symm g1
              have e7 : wrap64 ((B : Int) + (c : Int)) = ((B + c : Nat) : Int) := wN (Int.natCast_add B c).symm g2
              have e8 : IntKind.i64.wrap ((B : Int) + (c : Int)) = ((B + c : Nat) : Int) := wI (Int.natCast_add B c).symm g2
              clear hB han hgk2 hrest hQ hch hrl hBn hup hrm hlen hl ho hr ed lX lY ex h20 hb2 hgk hlt hcc g1 g2
              go_wp2_with fail
              refine ki.mono ?_
              rintro e w3 ⟨rfl, hr3, c3⟩
              have c4 := hc.tr c3
              clear ki hc c3
              go_wp2_with fail
              obtain ⟨hB, han, hgk2, hrest, hQ, hch, hrl, hBn⟩ := HJ.out
              obtain ⟨h20, hb2, hgk, hlt, hcc⟩ := HS.out
              clear e5 e6 e8
              go_roundg (n - B)
              case measure => clear e7; omega
              case rel =>
                refine ⟨B, B + c, Q ++ sortT st (rest.take c), rest.drop c, rfl, by first | rfl | (rw [e7]) | (rw [HE1.out.1, e7]), rfl, hBn, rfl, by rw [hrest, List.drop_drop, hB], by clear e7; rw [List.length_append, sortT_len, List.length_take]; omega, ?_, by simpa using hr3, c4⟩
                clear e7
                rw [List.append_assoc, ← chunk_cons st (by omega) (by omega)]
                exact hch
            · have t2 : decide ((B : Int) ≤ (n : Int)) = false := decide_eq_false (by omega)
              have t2' : decide (B ≤ n) = false := decide_eq_false hBn
              obtain ⟨m, hm⟩ : ∃ m, m = a + bs := ⟨_, rfl⟩
              have g1 : m ≤ 4611686018427387904 := by omega
              have g2 : (a : Int) + (bs : Int) = (m : Int) := by omega
              by_cases hmn : m < n
              · have t3 : decide ((m : Int) < (n : Int)) = true := decide_eq_true (by omega)
                have t3' : decide (m < n) = true := decide_eq_true hmn
                have ed : chunk st bs rest = sortT st (rest.take bs) ++ (sortT st (rest.drop bs) ++ []) := by
                  rw [chunk_cons st (by omega) (by omega), chunk_le st (l := rest.drop bs) (by rw [List.length_drop]; omega), List.append_nil]
                rw [ed] at hr
                have lX : (sortT st (rest.take bs)).length = bs := by rw [sortT_len, List.length_take]; omega
                have lY : (sortT st (rest.drop bs)).length = n - m := by rw [sortT_len, List.length_drop]; omega
                have ex : Q ++ (sortT st (sortT st (rest.take bs) ++ sortT st (rest.drop bs)) ++ []) = chunk st c O := by
                  rw [sortT_two, List.take_append_drop, List.append_nil, ← chunk_le st (c := c) (by omega), hch]
                have ki := sym_any n w0 wr K n cap a m n Q (sortT st (rest.take bs)) (sortT st (rest.drop bs)) [] gp st HC.out (hw.tr hc) hr hQ (by omega) (by omega) (by omega) (by omega) (by omega)
                  ⟨fun x hx => hrm x (by rw [sortT_mem] at hx; exact List.mem_of_mem_take hx), fun x hx => hrm x (by rw [sortT_mem] at hx; exact List.mem_of_mem_drop hx)⟩ (sortT_srt st _) (sortT_srt st _)
                  (fun x hx y hy => by rw [sortT_mem] at hx hy; exact up_td hup bs x hx y hy) hn
                rw [ex] at ki
                clear hB han hgk2 hrest hQ hch hrl hBn hup hrm hlen hl ho hr ed lX lY ex h20 hb2 hgk hlt hcc hm hmn
                have e5 := wN g2 g1
                have e6 := wI g2 g1
                obtain ⟨e3, e4⟩ := HE.out
                clear g1 g2
                go_wp2_with fail
                refine ki.mono ?_
                rintro e w3 ⟨rfl, hr3, c3⟩
                have c4 := hc.tr c3
                clear ki hc c3
                go_wp2_with fail
                obtain ⟨h20, hb2, hgk, hlt, hcc⟩ := HS.out
                clear e4 e5 e6
                go_roundg (n - c)
                case measure => clear e3; omega
                case rel => exact ⟨c, by first | rfl | (rw [e3]), by clear e3; omega, by clear e3; omega, rfl, hr3, c4⟩
              · have t3 : decide ((m : Int) < (n : Int)) = false := decide_eq_false (by omega)
                have t3' : decide (m < n) = false := decide_eq_false hmn
                have ex : Q ++ chunk st bs rest = chunk st c O := by rw [← hch, chunk_le st (by omega), chunk_le st (by omega)]
                rw [ex] at hr
                clear hB han hgk2 hrest hQ hch hrl hBn hup hrm hlen hl ho ex h20 hb2 hgk hlt hcc hm hmn
                have e5 := wN g2 g1
                have e6 := wI g2 g1
                obtain ⟨e3, e4⟩ := HE.out
                clear g1 g2
                go_wp2_with fail
                obtain ⟨h20, hb2, hgk, hlt, hcc⟩ := HS.out
                clear e4 e5 e6
                go_roundg (n - c)
                case measure => clear e3; omega
                case rel => exact ⟨c, by first | rfl | (rw [e3]), by clear e3; omega, by clear e3; omega, rfl, hr, hc⟩
        · have s1 : decide ((bs : Int) < (n : Int)) = false := decide_eq_false (by omega)
          have s1' : decide (bs < n) = false := decide_eq_false hlt
          rw [chunk_le st (by omega)] at hr
          clear h20 hb2 hgk hlt hlen hl ho
          go_wp2_with fail
          go_end0
          exact ⟨rfl, hr, hc⟩

set_option maxRecDepth 100000 in
theorem sortStable_any (w0 w : World) (K n cap : Nat) (O : List (List UInt8)) (gp : Value) (st : List UInt8 → Int) (hC : CmpOK w0 K gp st) (hw : Chg [K] w0 w) (hv : RowK w K n cap O)
    (hl : ∀ x ∈ O, x.length ≤ 1048576) (ho : KeyUp O) (hn : n ≤ 1152921504606846976) :
    Calls Try.prog 25 #[.slice (some ⟨K, 0, none⟩) n cap, cmpF gp] w fun e w' => e = .returned (.tuple #[]) ∧ RowK w' K n cap (sortT st O) ∧ Chg [K] w w' := by
  have ks := stable_any w0 w K n cap O gp st hC hw hv hl ho hn
  clear hC hw hv hl ho
  go_enter Try.func25, Try.ntmps25
  go_wp2_with fail
  refine ks.mono ?_
  rintro e w1 ⟨rfl, h1, h2⟩
  go_wp2_with fail
  go_end0
  exact ⟨rfl, h1, h2⟩
end Go.Proofs.Ytphmplbcegibjaa
