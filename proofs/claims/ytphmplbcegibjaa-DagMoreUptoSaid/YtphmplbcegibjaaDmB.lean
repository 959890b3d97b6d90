/- The law DagMore walked. No statement of the seat is proved here. -/
import Derived.Test.YtphmplbcegibjaaDmA
set_option linter.unusedVariables false
set_option linter.unusedSimpArgs false
namespace Go.Proofs.Ytphmplbcegibjaa
open Go.RowKit Go.Aq Go.Aq.Dg Go.Maps Go.Aq.So

set_option maxHeartbeats 2000000 in
set_option maxRecDepth 100000 in
theorem more_any (w : World) (v : Value) (L : List (NodeD × Value)) (h : NodesR w v L) (hl : L.length ≤ 2097152) (hk : ∀ q ∈ L, q.1.key.length ≤ 1048576 ∧ q.1.parents.length ≤ 2097152 ∧ ∀ p ∈ q.1.parents, p.length ≤ 1048576)
    (S : SmallG (L.map (·.1))) (hwt : wt (L.map (·.1)) [] ≤ 2097149) (a b key : List UInt8) (ha : a.length ≤ 1048576) (hb : b.length ≤ 1048576) (hkey : key.length ≤ 1048576) :
    Calls Try.prog 4 #[v, .string (str a), .string (str b), .string (str key)] w fun e w' => e = .returned (.bool true) ∧ Chg [] w w' := by
  obtain ⟨A, HA⟩ : ∃ A, Hid (a.length = A) := ⟨_, rfl⟩
  obtain ⟨B, HB⟩ : ∃ B, Hid (b.length = B) := ⟨_, rfl⟩
  obtain ⟨C, HCl⟩ : ∃ C, Hid (key.length = C) := ⟨_, rfl⟩
  have sa : (str a).size = A := by rw [str_size]; exact HA.out
  have sb : (str b).size = B := by rw [str_size]; exact HB.out
  have sk : (str key).size = C := by rw [str_size]; exact HCl.out
  have kf := fun w1 (c : Chg [] w w1) => few_any w1 v L (h.chg c) hl hk
  have kn := fun w1 (c : Chg [] w w1) => new_any w1 v L (h.chg c) hl hk
  have HH := Lib.hid (And.intro h (And.intro hl (And.intro hk (And.intro S (And.intro hwt (And.intro ha (And.intro hb hkey)))))))
  obtain ⟨ao, cap, rfl, hcap, hno⟩ := h.sees.shape
  obtain ⟨n, HN⟩ : ∃ n, Hid (L.length = n) := ⟨_, rfl⟩
  clear h hl hk S hwt ha hb hkey
  have k1 := first_any
  rw [show L.length = n from HN.out] at hcap hno kf kn ⊢
  go_enter Try.func4, Try.ntmps4
  go_wp2_with (go_at_call 6; refine (k1 _).mono ?_; rintro e w1 ⟨rfl, c1⟩)
  refine (kf w1 c1).mono ?_
  rintro e w2 ⟨r, rfl, c2⟩
  have c2 := c1.nil c2
  clear kf
  by_cases hbad : r = true ∧ A ≤ 300 ∧ B ≤ 300 ∧ C ≤ 300 ∧ n ≤ 50
  case neg =>
    clear kn
    have hend : ∀ (r1 r2 r3 r4 : Bool), r = r1 → decide ((300 : Int) < (A : Int)) = r2 → decide ((300 : Int) < (B : Int)) = r3 → decide ((300 : Int) < (C : Int)) = r4 → True := fun _ _ _ _ _ _ _ _ => trivial
    clear hend
    cases r with
    | false =>
      go_wp2_with (go_at_call 6; refine (k1 _).mono ?_; rintro e w3 ⟨rfl, c3⟩)
      go_ret
      exact ⟨rfl, c2.nil c3⟩
    | true =>
      by_cases h1 : 300 < A
      · have t1 : decide ((300 : Int) < (A : Int)) = true := decide_eq_true (by omega)
        have t1' : decide (300 < A) = true := decide_eq_true h1
        clear hbad h1
        go_wp2_with (go_at_call 6; refine (k1 _).mono ?_; rintro e w3 ⟨rfl, c3⟩)
        go_ret
        exact ⟨rfl, c2.nil c3⟩
      · have t1 : decide ((300 : Int) < (A : Int)) = false := decide_eq_false (by omega)
        have t1' : decide (300 < A) = false := decide_eq_false h1
        by_cases h2 : 300 < B
        · have t2 : decide ((300 : Int) < (B : Int)) = true := decide_eq_true (by omega)
          have t2' : decide (300 < B) = true := decide_eq_true h2
          clear hbad h1 h2
          go_wp2_with (go_at_call 6; refine (k1 _).mono ?_; rintro e w3 ⟨rfl, c3⟩)
          go_ret
          exact ⟨rfl, c2.nil c3⟩
        · have t2 : decide ((300 : Int) < (B : Int)) = false := decide_eq_false (by omega)
          have t2' : decide (300 < B) = false := decide_eq_false h2
          by_cases h3 : 300 < C
          · have t3 : decide ((300 : Int) < (C : Int)) = true := decide_eq_true (by omega)
            have t3' : decide (300 < C) = true := decide_eq_true h3
            clear hbad h1 h2 h3
            go_wp2_with (go_at_call 6; refine (k1 _).mono ?_; rintro e w3 ⟨rfl, c3⟩)
            go_ret
            exact ⟨rfl, c2.nil c3⟩
          · have t3 : decide ((300 : Int) < (C : Int)) = false := decide_eq_false (by omega)
            have t3' : decide (300 < C) = false := decide_eq_false h3
            have h4 : 50 < n := by
              rcases Nat.lt_or_ge 50 n with h | h
              · exact h
              · exact absurd ⟨rfl, by omega, by omega, by omega, h⟩ hbad
            have t4 : decide ((50 : Int) < (n : Int)) = true := decide_eq_true (by omega)
            have t4' : decide (50 < n) = true := decide_eq_true h4
            clear hbad h1 h2 h3 h4
            go_wp2_with (go_at_call 6; refine (k1 _).mono ?_; rintro e w3 ⟨rfl, c3⟩)
            go_ret
            exact ⟨rfl, c2.nil c3⟩
  case pos =>
    obtain ⟨rfl, h1, h2, h3, h4⟩ := hbad
    have t1 : decide ((300 : Int) < (A : Int)) = false := decide_eq_false (by omega)
    have t1' : decide (300 < A) = false := decide_eq_false (by omega)
    have t2 : decide ((300 : Int) < (B : Int)) = false := decide_eq_false (by omega)
    have t2' : decide (300 < B) = false := decide_eq_false (by omega)
    have t3 : decide ((300 : Int) < (C : Int)) = false := decide_eq_false (by omega)
    have t3' : decide (300 < C) = false := decide_eq_false (by omega)
    have t4 : decide ((50 : Int) < (n : Int)) = false := decide_eq_false (by omega)
    have t4' : decide (50 < n) = false := decide_eq_false (by omega)
    have HB50 := Lib.hid h4
    clear h1 h2 h3 h4
    go_wp2_with fail
    refine (kn w2 c2).mono ?_
    clear kn t1 t1' t2 t2' t3 t3' t4 t4'
    rintro e w3 ⟨c3, ⟨hE, p, rfl, hG⟩ | ⟨hE, rfl⟩⟩
    case inr =>
      have c3 := c2.nil c3
      generalize newE (L.map (·.1)) = E at *
      have z1 : (E != 0) = true := by simpa using hE
      have z2 : (E == 0) = false := by simpa using hE
      clear hE
      go_wp2_with (go_at_call 6; refine (k1 _).mono ?_; rintro e w4 ⟨rfl, c4⟩)
      go_ret
      exact ⟨rfl, c3.nil c4⟩
    have c3 := c2.nil c3
    have HE := Lib.hid hE
    have hgood := Lib.hid (newE_good hE)
    clear hE
    have kA := fun w1 (c : Chg [] w3 w1) => has_any (hG.chg c) a HH.out.2.2.2.2.2.1
    have kB := fun w1 (c : Chg [] w3 w1) => has_any (hG.chg c) b HH.out.2.2.2.2.2.2.1
    have kK := fun w1 (c : Chg [] w3 w1) => has_any (hG.chg c) key HH.out.2.2.2.2.2.2.2
    cases hasA : hasK (L.map (·.1)) a with
    | false =>
      rw [hasA] at kA
      clear kB kK
      go_wp2_with (first
        | (go_at_call 6; refine (k1 _).mono ?_; rintro e w5 ⟨rfl, c5⟩)
        | (go_at_call 13; refine (kA w3 (Chg.refl _ _)).mono ?_; rintro e w4 ⟨rfl, c4⟩))
      go_ret
      exact ⟨rfl, (c3.nil c4).nil c5⟩
    | true =>
      rw [hasA] at kA
      cases hasB : hasK (L.map (·.1)) b with
      | false =>
        rw [hasB] at kB
        clear kK
        go_wp2_with (first
          | (go_at_call 6; refine (k1 _).mono ?_; rintro e w6 ⟨rfl, c6⟩)
          | (go_at_call 13; refine (kB w4 c4).mono ?_; rintro e w5 ⟨rfl, c5⟩)
          | (go_at_call 13; refine (kA w3 (Chg.refl _ _)).mono ?_; rintro e w4 ⟨rfl, c4⟩))
        go_ret
        exact ⟨rfl, ((c3.nil c4).nil c5).nil c6⟩
      | true =>
        rw [hasB] at kB
        cases hasN : hasK (L.map (·.1)) key with
        | true =>
          rw [hasN] at kK
          go_wp2_with (first
            | (go_at_call 6; refine (k1 _).mono ?_; rintro e w7 ⟨rfl, c7⟩)
            | (go_at_call 13; refine (kK w5 (c4.nil c5)).mono ?_; rintro e w6 ⟨rfl, c6⟩)
            | (go_at_call 13; refine (kB w4 c4).mono ?_; rintro e w5 ⟨rfl, c5⟩)
            | (go_at_call 13; refine (kA w3 (Chg.refl _ _)).mono ?_; rintro e w4 ⟨rfl, c4⟩))
          go_ret
          exact ⟨rfl, (((c3.nil c4).nil c5).nil c6).nil c7⟩
        | false =>
          rw [hasN] at kK
          go_upto_region 8 with (first
            | (go_at_call 13; refine (kK w5 (c4.nil c5)).mono ?_; rintro e w6 ⟨rfl, c6⟩)
            | (go_at_call 13; refine (kB w4 c4).mono ?_; rintro e w5 ⟨rfl, c5⟩)
            | (go_at_call 13; refine (kA w3 (Chg.refl _ _)).mono ?_; rintro e w4 ⟨rfl, c4⟩))
          have cA : Chg [] w3 w6 := (c4.nil c5).nil c6
          have HAS := Lib.hid (And.intro hasA (And.intro hasB hasN))
          have cD := Lib.hid (c3.nil cA)
          have hG6 := hG.chg cA
          have HG := Lib.hid hG6
          clear kA kB kK hasA hasB hasN c4 c5 c6 cA hG hG6 c3
          go_wp2_with fail
          obtain ⟨W0, hW0⟩ : ∃ W, W = w6 := ⟨_, rfl⟩
          rw [← hW0]
          rw [← hW0] at cD HG
          clear hW0
          go_loopg [11, 12] n (fun gk (v11 v12 : Value) wr => ∃ (i : Nat) (st : Int), v11 = .int .i64 st ∧ v12 = .int .i64 (i : Int) ∧ i + gk = n ∧ (0 ≤ st ∧ st ≤ 1099511627777) ∧ (∀ q ∈ L.take i, q.1.key = a ∨ q.1.key = b → q.1.stamp < st) ∧ Chg [] W0 wr)
          case atStart => exact ⟨0, 0, rfl, rfl, by omega, by omega, by simp, Chg.refl _ _⟩
          case round =>
            obtain ⟨i, st, rfl, rfl, hik, hst, hlt, ci⟩ := hrel
            by_cases hin : i < n
            · have t1 : decide ((i : Int) < (n : Int)) = true := decide_eq_true (by omega)
              have t1' : decide (i < n) = true := decide_eq_true hin
              have hil : i < L.length := by rw [HN.out]; exact hin
              obtain ⟨g1, off1, cap1, aq, cq, hs, -, -, x0, -, x2, -⟩ := (HH.out.1.chg (cD.out.nil ci)).cells hil
              injection hs with hs1 hs2 hs3
              clear hs2 hs3
              subst hs1
              have htk : L.take (i + 1) = L.take i ++ [L[i]] := List.take_succ_eq_append_getElem hil
              have hnext : ∀ st' : Int, st ≤ st' → ((L[i].1.key = a ∨ L[i].1.key = b) → L[i].1.stamp < st') → ∀ q ∈ L.take (i + 1), q.1.key = a ∨ q.1.key = b → q.1.stamp < st' := fun st' h1 h2 q hq hab => by
                rw [htk] at hq
                rcases List.mem_append.1 hq with h | h
                · have := hlt q h hab; omega
                · rw [List.mem_singleton.1 h] at hab ⊢; exact h2 hab
              clear htk
              generalize L[i].1.key = ky at *
              generalize L[i].1.stamp = sq at *
              have ea := str_eq ky a
              have eb := str_eq ky b
              have hi1 : (i : Int) < n := by omega
              have HI := Lib.hid (And.intro hik (And.intro hst (And.intro hnext ci)))
              clear hik hnext hlt
              by_cases hbig : 1099511627776 < sq
              · have r1 : decide (1099511627776 < sq) = true := decide_eq_true hbig
                clear hbig hst ea eb
                go_wp2_with (go_at_call 6; refine (k1 _).mono ?_; rintro e w7 ⟨rfl, c7⟩)
                go_ret
                exact ⟨rfl, (cD.out.nil ci).nil c7⟩
              · have r1 : decide (1099511627776 < sq) = false := decide_eq_false hbig
                by_cases hsm : sq < -1099511627776
                · have r2 : decide (sq < -1099511627776) = true := decide_eq_true hsm
                  clear hbig hsm hst ea eb
                  go_wp2_with (go_at_call 6; refine (k1 _).mono ?_; rintro e w7 ⟨rfl, c7⟩)
                  go_ret
                  exact ⟨rfl, (cD.out.nil ci).nil c7⟩
                · have r2 : decide (sq < -1099511627776) = false := decide_eq_false hsm
                  have wS : wrap64 (sq + 1) = sq + 1 := by unfold wrap64; omega
                  have HQ := Lib.hid (And.intro hbig hsm)
                  clear hbig hsm hst
                  by_cases hle : st ≤ sq
                  · have r3 : decide (st ≤ sq) = true := decide_eq_true hle
                    have HLE := Lib.hid hle
                    clear hle
                    by_cases hka : ky = a
                    · rw [decide_eq_true hka] at ea
                      clear hka
                      go_wp2_with fail
                      obtain ⟨hik, hst, hnext, ci⟩ := HI.out
                      have hle := HLE.out
                      go_roundg (gk - 1)
                      case measure => omega
                      case rel => exact ⟨i + 1, sq + 1, by first | rfl | exact congrArg (Value.int .i64) wS, congrArg (Value.int .i64) (wN (by push_cast; rfl) (by have := HB50.out; clear wS; omega)), by clear wS; omega, by have := HQ.out; clear wS; omega, hnext _ (by clear wS; omega) (fun _ => by clear wS; omega), ci⟩
                    · rw [decide_eq_false hka] at ea
                      by_cases hkb : ky = b
                      · rw [decide_eq_true hkb] at eb
                        clear hka hkb
                        go_wp2_with fail
                        obtain ⟨hik, hst, hnext, ci⟩ := HI.out
                        have hle := HLE.out
                        go_roundg (gk - 1)
                        case measure => omega
                        case rel => exact ⟨i + 1, sq + 1, by first | rfl | exact congrArg (Value.int .i64) wS, congrArg (Value.int .i64) (wN (by push_cast; rfl) (by have := HB50.out; clear wS; omega)), by clear wS; omega, by have := HQ.out; clear wS; omega, hnext _ (by clear wS; omega) (fun _ => by clear wS; omega), ci⟩
                      · rw [decide_eq_false hkb] at eb
                        have HK := Lib.hid (And.intro hka hkb)
                        clear hka hkb
                        go_wp2_with fail
                        obtain ⟨hik, hst, hnext, ci⟩ := HI.out
                        go_roundg (gk - 1)
                        case measure => omega
                        case rel => exact ⟨i + 1, st, rfl, congrArg (Value.int .i64) (wN (by push_cast; rfl) (by have := HB50.out; clear wS; omega)), by clear wS; omega, hst, hnext _ (Int.le_refl _) (fun h => absurd h (by rintro (h | h); exact HK.out.1 h; exact HK.out.2 h)), ci⟩
                  · have r3 : decide (st ≤ sq) = false := decide_eq_false hle
                    have HLE := Lib.hid hle
                    clear hle
                    by_cases hka : ky = a
                    · rw [decide_eq_true hka] at ea
                      clear hka
                      go_wp2_with fail
                      obtain ⟨hik, hst, hnext, ci⟩ := HI.out
                      have hle := HLE.out
                      go_roundg (gk - 1)
                      case measure => omega
                      case rel => exact ⟨i + 1, st, rfl, congrArg (Value.int .i64) (wN (by push_cast; rfl) (by have := HB50.out; clear wS; omega)), by clear wS; omega, hst, hnext _ (Int.le_refl _) (fun _ => by clear wS; omega), ci⟩
                    · rw [decide_eq_false hka] at ea
                      by_cases hkb : ky = b
                      · rw [decide_eq_true hkb] at eb
                        clear hka hkb
                        go_wp2_with fail
                        obtain ⟨hik, hst, hnext, ci⟩ := HI.out
                        have hle := HLE.out
                        go_roundg (gk - 1)
                        case measure => omega
                        case rel => exact ⟨i + 1, st, rfl, congrArg (Value.int .i64) (wN (by push_cast; rfl) (by have := HB50.out; clear wS; omega)), by clear wS; omega, hst, hnext _ (Int.le_refl _) (fun _ => by clear wS; omega), ci⟩
                      · rw [decide_eq_false hkb] at eb
                        have HK := Lib.hid (And.intro hka hkb)
                        clear hka hkb
                        go_wp2_with fail
                        obtain ⟨hik, hst, hnext, ci⟩ := HI.out
                        go_roundg (gk - 1)
                        case measure => omega
                        case rel => exact ⟨i + 1, st, rfl, congrArg (Value.int .i64) (wN (by push_cast; rfl) (by have := HB50.out; clear wS; omega)), by clear wS; omega, hst, hnext _ (Int.le_refl _) (fun h => absurd h (by rintro (h | h); exact HK.out.1 h; exact HK.out.2 h)), ci⟩
            · have t1 : decide ((i : Int) < (n : Int)) = false := decide_eq_false (by omega)
              have t1' : decide (i < n) = false := decide_eq_false hin
              have htl : L.take i = L := List.take_of_length_le (by rw [HN.out]; omega)
              rw [htl] at hlt
              have hstk : ∀ k, hasK (L.map (·.1)) k = true → (k = a ∨ k = b) → stampK (L.map (·.1)) k < st := fun k hk hab => by
                obtain ⟨x, hx, rfl⟩ := hasK_iff.1 hk
                rw [stampK_of hgood.out.1 hx]
                obtain ⟨q, hq, rfl⟩ := List.mem_map.1 hx
                exact hlt q hq hab
              have hm : More (L.map (·.1)) (L.map (·.1) ++ [⟨key, [a, b], st⟩]) key a b st := ⟨hgood.out, rfl, HAS.out.1, HAS.out.2.1, HAS.out.2.2, hstk a HAS.out.1 (.inl rfl), hstk b HAS.out.2.1 (.inr rfl)⟩
              have m := Lib.hid hm
              have cW : Hid (Chg [] w wr) := Lib.hid (cD.out.nil ci)
              have hGr : Hid (GraphR wr p (L.map (·.1))) := Lib.hid (HG.out.chg ci)
              have hNR := HH.out.1.chg cW.out
              rw [show L.length = n from HN.out] at hNR
              have hsees : Sees wr 3 (.slice ao n cap) n (L.flatMap ndC) := by have := hNR.sees; rw [HN.out] at this; exact this
              have hoc : ∀ u ∈ L.flatMap ndC, u.oneCell' = true := fun u hu => by
                obtain ⟨q, hq, hu⟩ := List.mem_flatMap.1 hu
                obtain ⟨ao', c', e5, -, -⟩ := (hNR.pars q hq).shape
                simp only [ndC, List.mem_cons, List.not_mem_nil, or_false] at hu
                rcases hu with rfl | rfl | rfl
                · rfl
                · rw [e5]; rfl
                · rfl
              have hf0 : Fresh wr (wr.alloc (.cells #[] 35)) 35 3 (.slice (some ⟨wr.heap.size, 0, none⟩) 0 0) 0 [] :=
                ⟨Own.made _ _ _, (Chg.refl [] wr).alloc _, fun b hb => by simp [Value.ownBlock] at hb; omega⟩
              have kn2 : ∀ (v7 v8 : Value) (w7 w8 : World), Fresh wr w7 35 3 v7 (0 + n) ([] ++ L.flatMap ndC) →
                  Fresh wr w8 35 3 v8 (0 + n + 1) ([] ++ L.flatMap ndC ++ [.string (str key), .slice (some ⟨w7.heap.size, 0, none⟩) 2 2, .int .i64 st]) →
                  Chg v7.ownBlock.toList ((w7.alloc (.cells #[.string (str a), .string (str b)] 9)).alloc (.cells #[.string (str key), .slice (some ⟨w7.heap.size, 0, none⟩) 2 2, .int .i64 st] 35)) w8 →
                  Calls Try.prog 8 #[v8] w8 fun e w'' => Chg [] w8 w'' ∧ ∃ p2, e = .returned (.tuple #[.pointer (some ⟨p2, 0, none⟩), .int .i64 0]) ∧ GraphR w'' p2 (L.map (·.1) ++ [⟨key, [a, b], st⟩]) := fun v7 v8 w7 w8 hf7 hf8 c8 => by
                have hAB : Blk ((w7.alloc (.cells #[.string (str a), .string (str b)] 9)).alloc (.cells #[.string (str key), .slice (some ⟨w7.heap.size, 0, none⟩) 2 2, .int .i64 st] 35)) w7.heap.size #[.string (str a), .string (str b)] 9 := (Blk.new w7 _ _).alloc _
                have hA8 := hAB.chg c8 (fun h => Nat.lt_irrefl _ (hf7.own.lt _ h))
                have hlen2 : (L ++ [((⟨key, [a, b], st⟩ : NodeD), Value.slice (some ⟨w7.heap.size, 0, none⟩) 2 2)]).length = n + 1 := by rw [List.length_append, HN.out]; rfl
                have hN2 : NodesR w8 v8 (L ++ [((⟨key, [a, b], st⟩ : NodeD), Value.slice (some ⟨w7.heap.size, 0, none⟩) 2 2)]) := by
                  refine ⟨?_, fun q hq => ?_⟩
                  · rw [hlen2, List.flatMap_append]
                    have := Own.sees hf8.own
                    rw [show 0 + n + 1 = n + 1 by omega, List.nil_append] at this
                    exact this
                  · rcases List.mem_append.1 hq with h | h
                    · exact (hNR.pars q h).chg0 hf8.chg
                    · rw [List.mem_singleton.1 h]
                      exact Sees.row (m := 2) hA8 rfl
                have emap : (L ++ [((⟨key, [a, b], st⟩ : NodeD), Value.slice (some ⟨w7.heap.size, 0, none⟩) 2 2)]).map (·.1) = L.map (·.1) ++ [⟨key, [a, b], st⟩] := by simp
                refine (new_any w8 v8 _ hN2 (by rw [hlen2]; have := HB50.out; omega) (fun q hq => ?_)).mono ?_
                · rcases List.mem_append.1 hq with h | h
                  · exact HH.out.2.2.1 q h
                  · rw [List.mem_singleton.1 h]
                    refine ⟨HH.out.2.2.2.2.2.2.2, by simp, fun x hx => ?_⟩
                    simp only [List.mem_cons, List.not_mem_nil, or_false] at hx
                    rcases hx with rfl | rfl
                    · exact HH.out.2.2.2.2.2.1
                    · exact HH.out.2.2.2.2.2.2.1
                · rintro e w'' ⟨c6, h⟩
                  rw [emap] at h
                  rcases h with ⟨-, p2, h1, h2⟩ | ⟨h1, -⟩
                  · exact ⟨c6, p2, h1, h2⟩
                  · exact absurd (m.out.newE (by rw [List.length_map, HN.out]; have := HB50.out; omega)) h1
              clear hik hst hlt hin htl hstk hm ci hNR
              go_wp2_with (at_builtin; first
                | (refine wpList_appF (w0 := wr) rfl _ _ 22 rfl sl_N (v := v7) (n := 0 + n) (xs := [] ++ L.flatMap ndC) (by exact (hf7.to ((Chg.refl [] w7).alloc (.cells #[.string (str a), .string (str b)] 9))).to ((Chg.refl [] (w7.alloc (.cells #[.string (str a), .string (str b)] 9))).alloc (.cells #[.string (str key), .slice (some ⟨w7.heap.size, 0, none⟩) 2 2, .int .i64 st] 35))) rfl (vx := .slice (some ⟨w7.heap.size + 1, 0, none⟩) 1 1) (m := 1) (news := [.string (str key), .slice (some ⟨w7.heap.size, 0, none⟩) 2 2, .int .i64 st]) (by exact Sees.blk (Blk.new_at (w7.alloc (.cells #[.string (str a), .string (str b)] 9)) #[.string (str key), .slice (some ⟨w7.heap.size, 0, none⟩) 2 2, .int .i64 st] 35 (k := w7.heap.size + 1) (by simp))) rfl (by simp [Value.oneCell']) (by have := HB50.out; omega) (by have := HB50.out; omega) ?_; intro v8 w8 hf8 c8)
                | (refine wpList_appF (w0 := wr) rfl _ _ 22 rfl sl_N (v := .slice (some ⟨wr.heap.size, 0, none⟩) 0 0) (n := 0) (xs := []) (by exact hf0) rfl (vx := .slice ao n cap) (m := n) (news := L.flatMap ndC) (by exact hsees.chg0 ((Chg.refl [] wr).alloc _)) rfl (by exact hoc) (by have := HB50.out; omega) (by have := HB50.out; omega) ?_; intro v7 w7 hf7 c7))
              refine (kn2 v7 v8 w7 w8 hf7 hf8 c8).mono ?_
              rintro e w9 ⟨c9, p2, rfl, hG2⟩
              have c9 := hf8.chg.nil c9
              clear kn2 hf7 hf8 c8 c7 hf0 hsees hoc
              obtain ⟨f, hf⟩ : ∃ f, f = L.map (·.1) ++ [(⟨key, [a, b], st⟩ : NodeD)] := ⟨_, rfl⟩
              have hfl : f.length = n + 1 := by rw [hf, List.length_append, List.length_map, HN.out]; rfl
              rw [← hf] at hG2 m
              clear hf
              have hn50 := HB50.out
              have hS2 := Lib.hid (m.out.small HH.out.2.2.2.1 HH.out.2.2.2.2.1 HH.out.2.2.2.2.2.2.2 HH.out.2.2.2.2.2.1 HH.out.2.2.2.2.2.2.1)
              have hN2 := m.out.nd
              have kb2 := fun w' (c : Chg [] w9 w') (x y : List UInt8) hx hy => base_any hN2 hS2.out (hG2.chg c) x y hx hy
              have kb1 := fun w' (c : Chg [] w9 w') => base_any hgood.out.1 HH.out.2.2.2.1 ((hGr.out.chg c9).chg c) a b HH.out.2.2.2.2.2.1 HH.out.2.2.2.2.2.2.1
              have kF := fun w' (c : Chg [] w9 w') (x : List UInt8) hx => anc_fresh hgood.out.1 HH.out.2.2.2.1 ((hGr.out.chg c9).chg c) x hx
              have kF2 := fun w' (c : Chg [] w9 w') => anc_fresh hN2 hS2.out (hG2.chg c) key HH.out.2.2.2.2.2.2.2
              have kA1 := fun w' (c : Chg [] w9 w') (x : List UInt8) hx ss (hA : Anc (L.map (·.1)) x ss) => anc_at hgood.out.1 HH.out.2.2.2.1 ((hGr.out.chg c9).chg c) x hx hA
              have kA2 := fun w' (c : Chg [] w9 w') (x : List UInt8) hx ss (hA : Anc f x ss) => anc_at hN2 hS2.out (hG2.chg c) x hx hA
              have kL1 := fun w' (c : Chg [] w9 w') => log_any hgood.out.1 HH.out.2.2.2.1 ((hGr.out.chg c9).chg c) b HH.out.2.2.2.2.2.2.1
              have kL2 := fun w' (c : Chg [] w9 w') => log_any hN2 hS2.out (hG2.chg c) b HH.out.2.2.2.2.2.2.1
              have kN1 := fun w' (c : Chg [] w9 w') => len_any hgood.out.1 ((hGr.out.chg c9).chg c)
              have kN2 := fun w' (c : Chg [] w9 w') => len_any hN2 (hG2.chg c)
              rw [hfl] at kN2
              rw [show (L.map (·.1)).length = n by rw [List.length_map, HN.out]] at kN1
              have cW9 := Lib.hid (cW.out.nil c9)
              have wN1 := wN (x := (n : Int) + 1) (q := n + 1) (by push_cast; rfl) (by omega)
              clear hfl hG2 hn50 c9 hN2
              go_wp2_with fail
              refine (kb2 w9 (Chg.refl _ _) key a HH.out.2.2.2.2.2.2.2 HH.out.2.2.2.2.2.1).mono ?_
              rintro e w10 ⟨x1, f1, rfl, hb1, -, c10⟩
              obtain ⟨hx1, hf1⟩ := m.out.base1 hb1
              have hx1' := hx1.symm
              clear hx1
              subst hx1' hf1
              clear hb1
              go_wp2_with fail
              refine (kb2 w10 c10 b key HH.out.2.2.2.2.2.2.1 HH.out.2.2.2.2.2.2.2).mono ?_
              rintro e w11 ⟨x2, f2, rfl, hb2, -, c11⟩
              obtain ⟨hx2, hf2⟩ := m.out.base2 hb2
              have hx2' := hx2.symm
              clear hx2
              subst hx2' hf2
              clear hb2
              have c11 := c10.nil c11
              go_wp2_with fail
              refine (kb1 w11 c11).mono ?_
              rintro e w12 ⟨x3, f3, rfl, hb3, -, c12⟩
              have c12 := c11.nil c12
              go_wp2_with fail
              refine (kb2 w12 c12 _ _ HH.out.2.2.2.2.2.1 HH.out.2.2.2.2.2.2.1).mono ?_
              rintro e w13 ⟨x4, f4, rfl, hb4, -, c13⟩
              have c13 := c12.nil c13
              obtain ⟨hx4, hf4⟩ := m.out.base hb3 hb4
              subst hx4 hf4
              clear hb3 hb4 kb1 kb2 c10 c11 c12
              go_wp2_with fail
              refine (kF w13 c13 a HH.out.2.2.2.2.2.1).mono ?_
              rintro e w14 ⟨v1, s1, rfl, hA1, hl1, hF1⟩
              have c14 := c13.nil hF1.chg
              go_wp2_with fail
              refine (kF w14 c14 b HH.out.2.2.2.2.2.2.1).mono ?_
              rintro e w15 ⟨v2, s2, rfl, hA2, hl2, hF2⟩
              have hF1' := hF1.to hF2.chg
              have HLn := Lib.hid (And.intro hl1 hl2)
              have HAn := Lib.hid (And.intro hA1 hA2)
              clear hF1 hl1 hl2 hA1 hA2 kF
              go_wp2_with (at_builtin; first
                | (refine wpList_appF (w0 := w13) rfl _ _ 30 rfl sl_S (v := v3) (n := s1.length + s2.length) (xs := Sk s1 ++ Sk s2) (by exact hF3.to ((Chg.refl [] w16).alloc (.cells #[.string (str key)] 9))) rfl (vx := .slice (some ⟨w16.heap.size, 0, none⟩) 1 1) (m := 1) (news := [.string (str key)]) (by exact Sees.blk (Blk.new w16 #[.string (str key)] 9)) rfl (by simp [Value.oneCell']) (by have := HLn.out; omega) (by have := HLn.out; omega) ?_; intro v4 w17 hF4 c17)
                | (refine wpList_appF (w0 := w13) rfl _ _ 30 rfl sl_S (v := v1) (n := s1.length) (xs := Sk s1) (by exact hF1') rfl (vx := v2) (m := s2.length) (news := Sk s2) (by exact hF2.own.sees) rfl (by exact Sk_one _) (by have := HLn.out; omega) (by have := HLn.out; omega) ?_; intro v3 w16 hF3 c16))
              have hse : Sees w17 1 v4 (s1 ++ s2 ++ [key]).length (Sk (s1 ++ s2 ++ [key])) := by
                have h := hF4.own.sees
                have e1 : (s1 ++ s2 ++ [key]).length = s1.length + s2.length + 1 := by simp only [List.length_append, List.length_singleton]
                have e2 : Sk (s1 ++ s2 ++ [key]) = Sk s1 ++ Sk s2 ++ [.string (str key)] := by simp [Sk]
                rw [e1, e2]; exact h
              refine (unique_any w17 v4 (s1 ++ s2 ++ [key]) hse (by have := HLn.out; simp only [List.length_append, List.length_singleton]; omega)).mono ?_
              rintro e w18 ⟨v5, U, rfl, hFU, hU, hUm⟩
              have c18 : Chg [] w9 w18 := (c13.nil hF4.chg).nil hFU.chg
              have hsU := hFU.own.sees
              have kT : ∀ (w' : World) (l : List (List UInt8)) (va vb : Value), Sees w' 1 va l.length (Sk l) → Sees w' 1 vb l.length (Sk l) → l.length ≤ 1000000000 → Calls Try.prog 9 #[va, vb] w' fun e w'' => e = .returned (.bool true) ∧ Chg [] w' w'' := fun w' l va vb h1 h2 h3 =>
                (texts_same w' va vb l h1 h2 h3).mono fun e w'' ⟨h4, q, h5⟩ => ⟨h4, by rw [h5]; exact (Chg.refl [] w').drewN q⟩
              have lU : U.length ≤ 4194305 := by
                have := nodup_le U (s1 ++ s2 ++ [key]) hU.nd (fun x hx => (hUm x).1 hx)
                simp only [List.length_append, List.length_singleton] at this
                have := HLn.out; omega
              have kH1 : ∀ w', Chg [] w18 w' → Calls Try.prog 12 #[.pointer (some ⟨p2, 0, none⟩), .string (str key)] w' fun e w'' => ∃ v, e = .returned v ∧ Sees w'' 1 v U.length (Sk U) ∧ Chg [] w' w'' := fun w' c => by
                refine (kF2 w' (c18.nil c)).mono ?_
                rintro e w'' ⟨v, sk', rfl, hA, -, hF⟩
                have := m.out.all HAn.out.1 HAn.out.2 hA hU.up hU.nd hUm
                subst this
                exact ⟨v, rfl, hF.own.sees, hF.chg⟩
              have kG1 := fun w' (c : Chg [] w18 w') => kA1 w' (c18.nil c) a HH.out.2.2.2.2.2.1 s1 HAn.out.1
              have kG2 := fun w' (c : Chg [] w18 w') => kA2 w' (c18.nil c) a HH.out.2.2.2.2.2.1 s1 (m.out.anc HAS.out.1 HAn.out.1)
              obtain ⟨lg, hlg⟩ : ∃ lg, lg = sortT (stampK (L.map (·.1))) s2 := ⟨_, rfl⟩
              have llg : lg.length = s2.length := by rw [hlg, sortT_len]
              have kM1 : ∀ w', Chg [] w18 w' → Calls Try.prog 10 #[.pointer (some ⟨p, 0, none⟩), .string (str b)] w' fun e w'' => ∃ v, e = .returned v ∧ Sees w'' 1 v lg.length (Sk lg) ∧ Chg [] w' w'' := fun w' c => by
                refine (kL1 w' (c18.nil c)).mono ?_
                rintro e w'' ⟨v, ss, rfl, hA, -, hs, hc⟩
                have e1 := hA.one HAn.out.2
                rw [llg, hlg]
                rw [e1] at hs
                exact ⟨v, rfl, hs, hc⟩
              have kM2 : ∀ w', Chg [] w18 w' → Calls Try.prog 10 #[.pointer (some ⟨p2, 0, none⟩), .string (str b)] w' fun e w'' => ∃ v, e = .returned v ∧ Sees w'' 1 v lg.length (Sk lg) ∧ Chg [] w' w'' := fun w' c => by
                refine (kL2 w' (c18.nil c)).mono ?_
                rintro e w'' ⟨v, ss, rfl, hA, -, hs, hc⟩
                have e1 := hA.one (m.out.anc HAS.out.2.1 HAn.out.2)
                rw [llg, hlg, ← m.out.log HAS.out.2.1 HAn.out.2]
                rw [e1] at hs
                exact ⟨v, rfl, hs, hc⟩
              have kP1 := fun w' (c : Chg [] w18 w') => kN1 w' (c18.nil c)
              have kP2 := fun w' (c : Chg [] w18 w') => kN2 w' (c18.nil c)
              have l1 : s1.length ≤ 1000000000 := by have := HLn.out; omega
              have l2 : lg.length ≤ 1000000000 := by have := HLn.out; omega
              have l3 : U.length ≤ 1000000000 := by omega
              have HLL := Lib.hid (And.intro l1 (And.intro l2 l3))
              have cZ := Lib.hid (cW9.out.nil c18)
              have d18 : Chg [] w18 w18 := Chg.refl _ _
              clear hse hFU hU hUm lU llg hlg c13 c14 c16 c17 hF1' hF2 hF3 hF4 kA1 kA2 kL1 kL2 kF2 kN1 kN2 l1 l2 l3 c18
              go_wp2_with (first
                | (go_at_call 16; refine (kP1 w28 d28).mono ?_; rintro e w29 ⟨rfl, c29⟩; have d29 := d28.nil c29)
                | (go_at_call 16; refine (kP2 w27 d27).mono ?_; rintro e w28 ⟨rfl, c28⟩; have d28 := d27.nil c28)
                | (go_at_call 9; refine (kT w26 lg vH3 vG3 (by exact hs25.chg0 c26) (by exact hs26) HLL.out.2.1).mono ?_; rintro e w27 ⟨rfl, c27⟩; have d27 := d26.nil c27)
                | (go_at_call 10; refine (kM1 w25 d25).mono ?_; rintro e w26 ⟨vG3, rfl, hs26, c26⟩; have d26 := d25.nil c26)
                | (go_at_call 10; refine (kM2 w24 d24).mono ?_; rintro e w25 ⟨vH3, rfl, hs25, c25⟩; have d25 := d24.nil c25)
                | (go_at_call 9; refine (kT w23 s1 vH2 vG2 (by exact hs22.chg0 c23) (by exact hs23) HLL.out.1).mono ?_; rintro e w24 ⟨rfl, c24⟩; have d24 := d23.nil c24)
                | (go_at_call 12; refine (kG1 w22 d22).mono ?_; rintro e w23 ⟨vG2, rfl, hs23, c23⟩; have d23 := d22.nil c23)
                | (go_at_call 12; refine (kG2 w21 d21).mono ?_; rintro e w22 ⟨vH2, rfl, hs22, c22⟩; have d22 := d21.nil c22)
                | (go_at_call 9; refine (kT w20 U vH1 v5 (by exact hs20) (by exact hsU.chg0 d20) HLL.out.2.2).mono ?_; rintro e w21 ⟨rfl, c21⟩; have d21 := d20.nil c21)
                | (go_at_call 12; refine (kH1 w19 d19).mono ?_; rintro e w20 ⟨vH1, rfl, hs20, c20⟩; have d20 := d19.nil c20)
                | (go_at_call 6; refine (k1 _).mono ?_; rintro e w19 ⟨rfl, c19⟩; have d19 := d18.nil c19))
              go_ret
              exact ⟨rfl, cZ.out.nil d29⟩
end Go.Proofs.Ytphmplbcegibjaa
