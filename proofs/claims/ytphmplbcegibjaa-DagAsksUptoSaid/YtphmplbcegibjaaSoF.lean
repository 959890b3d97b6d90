/- dag.Log: the ancestors, the latest first. No statement of the seat is proved here. -/
import Derived.Test.YtphmplbcegibjaaSoE
import Derived.Test.YtphmplbcegibjaaDgB
set_option linter.unusedVariables false
set_option linter.unusedSimpArgs false
namespace Go.Aq.So
/-- Each once, and as many at most: the same ones. -/
theorem perm_of {α : Type} [DecidableEq α] : ∀ (m l : List α), m.Nodup → (∀ x ∈ m, x ∈ l) → l.length ≤ m.length → l.Perm m
  | [], l, _, _, h => by
    have : l = [] := List.length_eq_zero_iff.1 (by simpa using h)
    subst this; exact List.Perm.refl _
  | a :: t, l, nd, h, hl => by
    obtain ⟨n1, n2⟩ := List.nodup_cons.1 nd
    have ha := h a (by simp)
    have h1 : ∀ x ∈ t, x ∈ l.erase a := fun x hx => by
      have hne : x ≠ a := fun e => n1 (by rw [← e]; exact hx)
      exact (List.mem_erase_of_ne hne).2 (h x (by simp [hx]))
    have h2 : (l.erase a).length ≤ t.length := by rw [List.length_erase_of_mem ha]; simp only [List.length_cons] at hl; omega
    exact (List.perm_cons_erase ha).trans ((perm_of t (l.erase a) n2 h1 h2).cons a)
end Go.Aq.So
namespace Go.Aq.Dg
open Go.Aq.So
/-- What is reached from a key, rising. -/
structure Anc (g : List NodeD) (key : List UInt8) (ss : List (List UInt8)) : Prop where
  up : KeyUp ss
  nd : ss.Nodup
  mem : ∀ k, k ∈ ss ↔ Rch g key k
theorem up_eq {l m : List (List UInt8)} (h1 : KeyUp l) (h2 : l.Nodup) (k1 : KeyUp m) (k2 : m.Nodup) (hm : ∀ x, x ∈ l ↔ x ∈ m) : l = m := by
  have hp : l.Perm m := perm_of m l k2 (fun x hx => (hm x).2 hx) (nodup_le l m h2 fun x hx => (hm x).1 hx)
  exact List.Perm.eq_of_pairwise (le := fun x y => x ≤ y) (fun _ _ _ _ a b => List.le_antisymm a b) h1 k1 hp
theorem Anc.one {g : List NodeD} {key : List UInt8} {l m : List (List UInt8)} (h : Anc g key l) (k : Anc g key m) : l = m := up_eq h.up h.nd k.up k.nd fun x => by rw [h.mem, k.mem]
end Go.Aq.Dg
namespace Go.Proofs.Ytphmplbcegibjaa
open Go.RowKit Go.Aq Go.Aq.Dg Go.Maps Go.Aq.So

set_option maxRecDepth 100000 in
theorem ancestors_own {w : World} {p : Nat} {g : List NodeD} (nd : (g.map (·.key)).Nodup) (S : SmallG g) (h : GraphR w p g) (a : List UInt8) (ha : a.length ≤ 1048576) :
    Calls Try.prog 12 #[.pointer (some ⟨p, 0, none⟩), .string (str a)] w fun e w' => ∃ ss : List (List UInt8), Anc g a ss ∧ ss.length ≤ 2097152 ∧ Chg [] w w' ∧ ((e = .returned (.slice none 0 0) ∧ ss = []) ∨ ∃ K cap, e = .returned (.slice (some ⟨K, 0, none⟩) ss.length cap) ∧ w.heap.size ≤ K ∧ RowK w' K ss.length cap ss) := by
  have kr := reached_any nd S h a ha
  have hsm := S.all
  have hgw := len_wt g
  go_enter Try.func12, Try.ntmps12
  go_wp2_with (first
    | (go_at_call 29; refine kr.mono ?_; rintro e w1 ⟨m, met, rfl, hm1, hm, hr, hnd, c1⟩; have hml := met_le hnd fun j hj => ((hr j).1 hj).has)
    | (go_at_call 28; refine (callsIn_wide.1 (Try.maps_Keys_28 _ _)).mono ?_; rintro e w' ⟨rfl, rfl⟩)
    | (go_at_call 27; refine (callsIn_wide.1 (Try.slices_Sorted_keys_27_28 m met.length (setK met) (plainElem Try.prog 4) w1 hm (by have := hm.size_le; unfold maxLen; omega) (by have := hm.size_le; omega))).mono ?_; rintro e w' ⟨v, ss, rfl, hS, hrow, hnil, hb⟩))
  go_ret
  have hlen : (ss.mergeSort fun x y => decide (x ≤ y)).length = ss.length := List.length_mergeSort _
  have hsz : ss.length ≤ met.length := by
    have h1 := hS.length_eq
    have h2 : (strKeys (setK met)).length = Maps.size (setK met) := by
      obtain ⟨es, he, _⟩ := hm.keysOf
      rw [he]; simp [strKeys, size_eq]
    have := hm.size_le
    omega
  have hmem : ∀ k, k ∈ ss ↔ k ∈ met := fun k => by rw [hS.mem_iff, mem_strKeys hm k]
  have hperm : ss.Perm met := perm_of met ss hnd (fun x hx => (hmem x).2 hx) hsz
  refine ⟨ss.mergeSort fun x y => decide (x ≤ y), ⟨?_, ?_, fun k => ?_⟩, by rw [hlen]; omega, (c1.alloc _).nil (Chg.of_below hb), ?_⟩
  · have := List.pairwise_mergeSort (le := fun x y : List UInt8 => decide (x ≤ y)) (fun _ _ _ h k => by rw [decide_eq_true_eq] at h k ⊢; exact List.le_trans h k) (fun x y => by rw [Bool.or_eq_true, decide_eq_true_eq, decide_eq_true_eq]; exact List.le_total x y) ss
    exact this.imp fun h => by simpa using h
  · exact (List.mergeSort_perm ss _).symm.nodup (hperm.symm.nodup hnd)
  · rw [(List.mergeSort_perm ss _).mem_iff, hmem k]; exact hr k
  · rcases hrow.2 with h1 | ⟨g0, cap, cur, h1, h2, h3⟩
    · refine .inl ⟨?_, ?_⟩
      · exact congrArg Ending.returned h1.1
      · have := hnil.1 h1.1
        rw [this]; simp
    · refine .inr ⟨g0, cap, by rw [hlen]; exact congrArg Ending.returned h1, ?_, ?_⟩
      · have := c1.size
        simp at h2
        omega
      · rw [hlen]
        have hO : Own w' 9 1 v ss.length (Sk (ss.mergeSort fun x y => decide (x ≤ y))) := ⟨hrow.1, .inr ⟨g0, cap, cur, h1, Nat.zero_le _, h3⟩⟩
        rw [h1] at hO
        exact hO

/-- Nothing is sorted in a slice that is nil. -/
theorem insertion_nil (w : World) (C : Value) : Calls Try.prog 41 #[.slice none 0 0, .int .i64 0, .int .i64 0, C] w fun e w' => e = .returned (.tuple #[]) ∧ w' = w := by
  go_enter Try.func41, Try.ntmps41
  go_wp2_with fail
  go_loopg [8, 9] 0 (fun gk (v8 v9 : Value) wr => v8 = .int .i64 1 ∧ wr = w)
  case atStart => exact ⟨rfl, rfl⟩
  case round =>
    obtain ⟨rfl, rfl⟩ := hrel
    go_wp2_with fail
    go_end0
    exact ⟨rfl, rfl⟩
set_option maxRecDepth 100000 in
theorem sortStable_nil (w : World) (C : Value) : Calls Try.prog 25 #[.slice none 0 0, C] w fun e w' => e = .returned (.tuple #[]) ∧ w' = w := by
  have ks : Calls Try.prog 36 #[.slice none 0 0, .int .i64 0, C] w fun e w' => e = .returned (.tuple #[]) ∧ w' = w := by
    go_enter Try.func36, Try.ntmps36
    go_wp2_with fail
    go_loopg [7, 8] 0 (fun gk (v7 v8 : Value) wr => v7 = .int .i64 0 ∧ v8 = .int .i64 20 ∧ Hid (wr = w))
    case atStart => exact ⟨rfl, rfl, Lib.hid rfl⟩
    case round =>
      obtain ⟨rfl, rfl, hw⟩ := hrel
      go_wp2_with fail
      refine (insertion_nil _ _).mono ?_
      rintro e w1 ⟨rfl, hw1⟩
      have hw2 := Lib.hid (hw1.trans hw.out)
      clear hw1
      go_wp2_with fail
      obtain ⟨G, rfl⟩ : ∃ G, G = gk := ⟨_, rfl⟩
      obtain ⟨W1, hW1⟩ : ∃ W, W = wr := ⟨_, rfl⟩
      rw [hW1.symm] at hw
      clear hW1
      go_loopg [6, 7, 8, 9] 0 (fun gk (v6 v7 v8 v9 : Value) wr => v6 = .int .i64 20 ∧ Hid (wr = w))
      case atStart => exact ⟨rfl, hw2⟩
      case round =>
        obtain ⟨rfl, hw3⟩ := hrel
        go_wp2_with fail
        go_end0
        exact ⟨rfl, hw3.out⟩
  go_enter Try.func25, Try.ntmps25
  go_wp2_with fail
  refine ks.mono ?_
  rintro e w1 ⟨rfl, rfl⟩
  go_wp2_with fail
  go_end0
  exact ⟨rfl, rfl⟩

set_option maxRecDepth 100000 in
theorem log_any {w : World} {p : Nat} {g : List NodeD} (nd : (g.map (·.key)).Nodup) (S : SmallG g) (h : GraphR w p g) (a : List UInt8) (ha : a.length ≤ 1048576) :
    Calls Try.prog 10 #[.pointer (some ⟨p, 0, none⟩), .string (str a)] w fun e w' => ∃ (v : Value) (ss : List (List UInt8)), e = .returned v ∧ Anc g a ss ∧ ss.length ≤ 2097152 ∧ Sees w' 1 v ss.length (Sk (sortT (stampK g) ss)) ∧ Chg [] w w' := by
  have ka := ancestors_own nd S h a ha
  go_enter Try.func10, Try.ntmps10
  go_wp2_with fail
  refine ka.mono ?_
  clear ka
  rintro e w1 ⟨ss, hA, hl, c1, ⟨rfl, rfl⟩ | ⟨K, cap, rfl, hK, hr⟩⟩
  · have HA := Lib.hid (And.intro hA c1)
    clear hA c1 hl nd S h
    go_wp2_with fail
    refine (sortStable_nil _ _).mono ?_
    rintro e w2 ⟨rfl, rfl⟩
    go_wp2_with fail
    go_ret
    exact ⟨_, [], rfl, HA.out.1, by simp, by rw [sortT_nil]; exact Sees.nil _ _, HA.out.2⟩
  · have hC : CmpOK w1 K (.pointer (some ⟨p, 0, none⟩)) (stampK g) := fun W hW x y hx hy => later_any nd (h.chg (c1.trans hW fun i hi => .inr (by rw [List.mem_singleton.1 hi]; exact hK))) x y hx hy
    have ks := sortStable_any w1 w1 K ss.length cap ss (.pointer (some ⟨p, 0, none⟩)) (stampK g) hC (Chg.refl _ _) hr (fun x hx => by
      obtain ⟨y, hy, rfl⟩ := hasK_iff.1 ((hA.mem x).1 hx).has
      exact S.keys y hy) hA.up (by omega)
    have HA := Lib.hid (And.intro hA (And.intro hl (And.intro c1 hK)))
    clear hA hl c1 hK hC hr nd S h
    generalize ss.length = n at *
    go_wp2_with fail
    refine ks.mono ?_
    rintro e w2 ⟨rfl, hr2, c2⟩
    clear ks
    go_wp2_with fail
    go_ret
    obtain ⟨hA, hl, c1, hK⟩ := HA.out
    have hn : n = ss.length := by have := hr2.length; rw [sortT_len] at this; omega
    subst hn
    exact ⟨_, ss, rfl, hA, hl, Own.sees hr2, c1.trans c2 fun i hi => .inr (by rw [List.mem_singleton.1 hi]; exact hK)⟩
end Go.Proofs.Ytphmplbcegibjaa
