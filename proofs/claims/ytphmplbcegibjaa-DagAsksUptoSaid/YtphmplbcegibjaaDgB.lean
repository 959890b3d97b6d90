/- dag.Is, dag.Ancestors, aquref.Has. No statement of the seat is proved here. -/
import Derived.Test.YtphmplbcegibjaaDgA
import Derived.Test.YtphmplbcegibjaaShelfC
set_option linter.unusedVariables false
namespace Go.Proofs.Ytphmplbcegibjaa
open Go.RowKit Go.Aq Go.Aq.Dg Go.Maps

set_option maxRecDepth 100000 in
theorem is_any {w : World} {p : Nat} {g : List NodeD} (nd : (g.map (·.key)).Nodup) (S : SmallG g) (h : GraphR w p g) (a b : List UInt8) (ha : a.length ≤ 1048576) (hb : b.length ≤ 1048576) :
    Calls Try.prog 14 #[.pointer (some ⟨p, 0, none⟩), .string (str a), .string (str b)] w fun e w' => ∃ r : Bool, e = .returned (.bool r) ∧ (r = true ↔ Rch g b a) ∧ Chg [] w w' := by
  have kr := reached_any nd S h b hb
  go_enter Try.func14, Try.ntmps14
  go_wp2_with (go_at_call 29; refine kr.mono ?_; rintro e w1 ⟨m, met, rfl, hm1, hm, hr, hnd, c1⟩; have hl := setK_look hm a (by omega))
  go_ret
  exact ⟨_, rfl, by rw [decide_eq_true_eq]; exact hr a, c1⟩

set_option maxRecDepth 100000 in
theorem hasL_any (v : Value) (l : List (List UInt8)) (s : List UInt8) (w : World) (hv : Sees w 1 v l.length (Sk l)) (hl : l.length ≤ 4611686018427387904) :
    Calls Try.prog 34 #[v, .string (str s)] w fun e w' => e = .returned (.bool (decide (s ∈ l))) ∧ w' = w := by
  obtain ⟨ao, cap, rfl, hcap, hno⟩ := hv.shape
  have HV := Lib.hid hv
  clear hv
  obtain ⟨r, hr⟩ : ∃ r, r = decide (s ∈ l) := ⟨_, rfl⟩
  rw [← hr]
  have HR := Lib.hid hr
  clear hr
  go_enter Try.func34, Try.ntmps34
  go_wp2_with fail
  go_loopg [5] l.length (fun k (v5 : Value) wr => ∃ j : Nat, v5 = .int .i64 (j : Int) ∧ j ≤ l.length ∧ k = l.length - j ∧ wr = w ∧ s ∉ l.take j)
  case atStart => exact ⟨0, rfl, by omega, by omega, rfl, by simp⟩
  case round =>
    obtain ⟨j, rfl, hj, hk, rfl, hs⟩ := hrel
    by_cases hjl : j < l.length
    · obtain ⟨gb, off, cp, e, -, hc⟩ := HV.out.at1 (by omega)
      injection e with e1 _ e2
      subst e1 e2
      have hcell := hc j hjl
      have hg : (Sk l)[j]? = some (.string (str l[j])) := by simp [Sk, hjl]
      rw [hg] at hcell
      have t1 : decide ((j : Int) < (l.length : Int)) = true := decide_eq_true (by omega)
      have hse := str_eq l[j] s
      have HS := Lib.hid (And.intro hj (And.intro hk (And.intro hs hjl)))
      by_cases hq : l[j] = s
      · rw [decide_eq_true hq] at hse
        have hmem : r = true := by rw [HR.out]; exact decide_eq_true (by rw [← hq]; exact List.getElem_mem _)
        subst hmem
        clear hj hk hs hc hg hq
        go_wp2_with fail
        go_ret
        exact ⟨rfl, rfl⟩
      · rw [decide_eq_false hq] at hse
        clear hj hk hs hc hg
        go_wp2_with fail
        obtain ⟨hj, hk, hs, hjl⟩ := HS.out
        go_roundg (l.length - (j + 1))
        case measure => omega
        case rel =>
          refine ⟨j + 1, by push_cast; rfl, by omega, rfl, rfl, fun hm => ?_⟩
          rw [List.take_succ_eq_append_getElem hjl] at hm
          rcases List.mem_append.1 hm with h1 | h1
          · exact hs h1
          · exact hq (List.mem_singleton.1 h1).symm
    · have : j = l.length := by omega
      subst this
      rw [List.take_length] at hs
      have t1 : decide ((l.length : Int) < (l.length : Int)) = false := decide_eq_false (by omega)
      have hmem : r = false := by rw [HR.out]; exact decide_eq_false hs
      subst hmem
      clear hs hk
      go_wp2_with fail
      go_ret
      exact ⟨rfl, rfl⟩

theorem mem_strKeys {w : World} {b n : Nat} {met : List (List UInt8)} (h : w.ownsMap Try.prog 9 (plainElem Try.prog 4) b n (setK met)) (k : List UInt8) : k ∈ strKeys (setK met) ↔ k ∈ met := by
  obtain ⟨es, he, hk⟩ := h.keysOf
  have h1 : has (setK met) (.string k) = decide (k ∈ met) := has_setK met k
  rw [he] at h1 ⊢
  rw [has_eq] at h1
  have h2 : k ∈ met ↔ (es.any fun p => p.1.sameKey (.string k)) = true := by rw [h1, decide_eq_true_eq]
  rw [h2, List.any_eq_true]
  show k ∈ es.map (fun p => strOf p.1) ↔ _
  rw [List.mem_map]
  constructor
  · rintro ⟨p, hp, e⟩
    obtain ⟨v, hv⟩ := hk p hp
    obtain ⟨x, _, hx, _⟩ := Maps.keyOf_str Try.underlying9 hv
    refine ⟨p, hp, ?_⟩
    rw [hx] at e ⊢
    have : x = k := e
    subst this
    exact WideAt.sameKey_self trivial
  · rintro ⟨p, hp, e⟩
    refine ⟨p, hp, ?_⟩
    rw [WideAt.sameKey_eq e]
    rfl

set_option maxRecDepth 100000 in
theorem ancestors_any {w : World} {p : Nat} {g : List NodeD} (nd : (g.map (·.key)).Nodup) (S : SmallG g) (h : GraphR w p g) (a : List UInt8) (ha : a.length ≤ 1048576) :
    Calls Try.prog 12 #[.pointer (some ⟨p, 0, none⟩), .string (str a)] w fun e w' => ∃ (v : Value) (ss : List (List UInt8)), e = .returned v ∧ Sees w' 1 v ss.length (Sk ss) ∧ (∀ k, k ∈ ss ↔ Rch g a k) ∧ ss.length ≤ 2097152 ∧ Chg [] w w' := by
  have kr := reached_any nd S h a ha
  have hsm := S.all
  have hgw := len_wt g
  go_enter Try.func12, Try.ntmps12
  go_wp2_with (first
    | (go_at_call 29; refine kr.mono ?_; rintro e w1 ⟨m, met, rfl, hm1, hm, hr, hnd, c1⟩; have hml := met_le hnd fun j hj => ((hr j).1 hj).has)
    | (go_at_call 28; refine (callsIn_wide.1 (Try.maps_Keys_28 _ _)).mono ?_; rintro e w' ⟨rfl, rfl⟩)
    | (go_at_call 27; refine (callsIn_wide.1 (Try.slices_Sorted_keys_27_28 m met.length (setK met) (plainElem Try.prog 4) w1 hm (by have := hm.size_le; unfold maxLen; omega) (by have := hm.size_le; omega))).mono ?_; rintro e w' ⟨v, ss, rfl, hS, hrow, hnil, hb⟩))
  go_ret
  have hO : Own w' 9 1 v ss.length (Sk (ss.mergeSort fun x y => decide (x ≤ y))) := by
    rcases hrow.2 with h1 | ⟨g0, cap, cur, h1, h2, h3⟩
    · exact ⟨hrow.1, .inl h1⟩
    · exact ⟨hrow.1, .inr ⟨g0, cap, cur, h1, Nat.zero_le _, h3⟩⟩
  have hlen : (ss.mergeSort fun x y => decide (x ≤ y)).length = ss.length := List.length_mergeSort _
  have hsz : ss.length ≤ 2097152 := by
    have h1 := hS.length_eq
    have h2 : (strKeys (setK met)).length = Maps.size (setK met) := by
      obtain ⟨es, he, _⟩ := hm.keysOf
      rw [he]; simp [strKeys, size_eq]
    have := hm.size_le
    omega
  refine ⟨v, _, rfl, by rw [hlen]; exact hO.sees, fun k => ?_, by rw [hlen]; exact hsz, (c1.alloc _).nil (Chg.of_below hb)⟩
  rw [(List.mergeSort_perm ss _).mem_iff, hS.mem_iff, mem_strKeys hm k]
  exact hr k

end Go.Proofs.Ytphmplbcegibjaa
