/- The document's graph (aquref17.Graph): at, Has, Len. No statement of the seat is proved here. -/
import Derived.Test.YtphmplbcegibjaaDlA
set_option linter.unusedVariables false
set_option linter.unusedSimpArgs false
namespace Go.Aq.Dg
/-- The place of a key; -1: it is not there. -/
def atI (g : List NodeD) (k : List UInt8) : Int := match g.findIdx? (fun x => x.key == k) with | some i => (i : Int) | none => -1
theorem atI_of {g : List NodeD} {k : List UInt8} {i : Nat} (hi : i < g.length) (h : g[i].key = k) (hf : ∀ j (hj : j < i), (g[j]'(by omega)).key ≠ k) : atI g k = i := by
  unfold atI
  have : g.findIdx? (fun x => x.key == k) = some i := by
    rw [List.findIdx?_eq_some_iff_getElem]
    exact ⟨hi, by simp [h], fun j hj => by simpa using hf j hj⟩
  rw [this]
theorem atI_no {g : List NodeD} {k : List UInt8} (h : hasK g k = false) : atI g k = -1 := by
  unfold atI
  have : g.findIdx? (fun x => x.key == k) = none := by
    rw [List.findIdx?_eq_none_iff]
    intro x hx
    cases hb : x.key == k
    · rfl
    · have : hasK g k = true := hasK_iff.2 ⟨x, hx, by simpa using hb⟩
      rw [h] at this; cases this
  rw [this]
theorem atI_has {g : List NodeD} {k : List UInt8} (h : hasK g k = true) : ∃ (i : Nat) (hi : i < g.length), atI g k = i ∧ g[i].key = k ∧ ∀ j (hj : j < i), (g[j]'(by omega)).key ≠ k := by
  cases hf : g.findIdx? (fun x => x.key == k) with
  | none =>
    rw [List.findIdx?_eq_none_iff] at hf
    obtain ⟨x, hx, e⟩ := hasK_iff.1 h
    have := hf x hx
    rw [e] at this
    simp at this
  | some i =>
    rw [List.findIdx?_eq_some_iff_getElem] at hf
    obtain ⟨hi, h1, h2⟩ := hf
    have e1 : g[i].key = k := by simpa using h1
    have e2 : ∀ j (hj : j < i), (g[j]'(by omega)).key ≠ k := fun j hj => by simpa using h2 j hj
    exact ⟨i, hi, atI_of hi e1 e2, e1, e2⟩
theorem atI_pos (g : List NodeD) (k : List UInt8) : decide (0 ≤ atI g k) = hasK g k := by
  cases h : hasK g k
  · rw [atI_no h]; rfl
  · obtain ⟨i, hi, e, -, -⟩ := atI_has h
    rw [e]; simp
end Go.Aq.Dg
namespace Go.Proofs.Ytphmplbcegibjaa
open Go.RowKit Go.Aq Go.Aq.Dg Go.Maps Go.Aq.So

/-- Pointer p is a graph of the document's: its nodes as they were told. -/
def RefG (w : World) (p : Nat) (L : List (NodeD × Value)) : Prop := ∃ v, Blk w p #[v] 66 ∧ NodesR w v L
theorem RefG.chg {w w' : World} {p : Nat} {L : List (NodeD × Value)} (h : RefG w p L) (c : Chg [] w w') : RefG w' p L := by
  obtain ⟨v, h1, h2⟩ := h
  exact ⟨v, h1.chg0 c, h2.chg c⟩

set_option maxRecDepth 100000 in
theorem at_any {w : World} {p : Nat} {L : List (NodeD × Value)} (h : RefG w p L) (hl : L.length ≤ 2097152) (k : List UInt8) :
    Calls Try.prog 35 #[.pointer (some ⟨p, 0, none⟩), .string (str k)] w fun e w' => e = .returned (.int .i64 (atI (L.map (·.1)) k)) ∧ w' = w := by
  obtain ⟨v, hb, hN⟩ := h
  obtain ⟨ao, cap, rfl, hcap, hno⟩ := hN.sees.shape
  obtain ⟨n, HNl⟩ : ∃ n, Hid (L.length = n) := ⟨_, rfl⟩
  have c0 := hb.c1
  have HN := Lib.hid hN
  have HLl := Lib.hid hl
  rw [show L.length = n from HNl.out] at hcap hno c0
  obtain ⟨R, hR⟩ : ∃ R, R = atI (L.map (·.1)) k := ⟨_, rfl⟩
  rw [← hR]
  have HR := Lib.hid hR
  clear hN hl hb hno hR
  go_enter Try.func35, Try.ntmps35
  go_wp2_with fail
  go_loopg [5] n (fun gk (v5 : Value) wr => ∃ i : Nat, v5 = .int .i64 (i : Int) ∧ i + gk = n ∧ (∀ j (hj : j < L.length), j < i → L[j].1.key ≠ k) ∧ Hid (wr = w))
  case atStart => exact ⟨0, rfl, by omega, fun j _ h => absurd h (by omega), Lib.hid rfl⟩
  case round =>
    obtain ⟨i, rfl, hik, hall, hw⟩ := hrel
    have hwe := hw.out
    subst hwe
    by_cases hin : i < n
    · have t1 : decide ((i : Int) < (n : Int)) = true := decide_eq_true (by omega)
      have t1' : decide (i < n) = true := decide_eq_true hin
      have hil : i < L.length := by rw [HNl.out]; exact hin
      obtain ⟨g1, off1, cap1, aq, cq, hs, -, -, x0, -, -, -⟩ := HN.out.cells hil
      injection hs with hs1 hs2 hs3
      clear hs2 hs3
      subst hs1
      have ek := str_eq L[i].1.key k
      have hi1 : (i : Int) < n := by omega
      by_cases hkk : L[i].1.key = k
      · rw [decide_eq_true hkk] at ek
        have hRi : R = (i : Int) := by
          rw [HR.out]
          refine atI_of (by rw [List.length_map]; exact hil) (by simpa using hkk) (fun j hj => ?_)
          have := hall j (by omega) hj
          simpa using this
        subst hRi
        generalize L[i].1.key = ky at *
        clear hik hall hkk
        go_wp2_with fail
        go_ret
        exact ⟨rfl, rfl⟩
      · rw [decide_eq_false hkk] at ek
        have hall' : ∀ j (hj : j < L.length), j < i + 1 → L[j].1.key ≠ k := fun j hj h => by
          rcases Nat.lt_or_ge j i with h1 | h1
          · exact hall j hj h1
          · have : j = i := by omega
            subst this; exact hkk
        generalize L[i].1.key = ky at *
        have HA := Lib.hid (And.intro hik hall')
        clear hik hall hall' hkk
        go_wp2_with fail
        obtain ⟨hik, hall'⟩ := HA.out
        go_roundg (gk - 1)
        case measure => omega
        case rel => exact ⟨i + 1, congrArg (Value.int .i64) (wN (by push_cast; rfl) (by have := HLl.out; have := HNl.out; omega)), by omega, hall', Lib.hid rfl⟩
    · have t1 : decide ((i : Int) < (n : Int)) = false := decide_eq_false (by omega)
      have t1' : decide (i < n) = false := decide_eq_false hin
      have hRi : R = -1 := by
        rw [HR.out]
        refine atI_no ?_
        cases hb : hasK (L.map (·.1)) k
        · rfl
        · obtain ⟨x, hx, e⟩ := hasK_iff.1 hb
          obtain ⟨q, hq, rfl⟩ := List.mem_map.1 hx
          obtain ⟨j, hj, rfl⟩ := List.getElem_of_mem hq
          exact absurd e (hall j hj (by have := HNl.out; omega))
      subst hRi
      clear hik hall
      go_wp2_with fail
      go_ret
      exact ⟨rfl, rfl⟩
set_option maxRecDepth 100000 in
theorem rhas_any {w : World} {p : Nat} {L : List (NodeD × Value)} (h : RefG w p L) (hl : L.length ≤ 2097152) (k : List UInt8) :
    Calls Try.prog 20 #[.pointer (some ⟨p, 0, none⟩), .string (str k)] w fun e w' => e = .returned (.bool (hasK (L.map (·.1)) k)) ∧ w' = w := by
  have ka := at_any h hl k
  have hp := atI_pos (L.map (·.1)) k
  rw [← hp]
  clear hp h hl
  generalize atI (L.map (·.1)) k = R at *
  go_enter Try.func20, Try.ntmps20
  go_wp2_with fail
  refine ka.mono ?_
  rintro e w1 ⟨rfl, rfl⟩
  go_wp2_with fail
  go_ret
  exact ⟨rfl, rfl⟩
set_option maxRecDepth 100000 in
theorem rlen_any {w : World} {p : Nat} {L : List (NodeD × Value)} (h : RefG w p L) :
    Calls Try.prog 19 #[.pointer (some ⟨p, 0, none⟩)] w fun e w' => e = .returned (.int .i64 (L.length : Int)) ∧ w' = w := by
  obtain ⟨v, hb, hN⟩ := h
  obtain ⟨ao, cap, rfl, hcap, hno⟩ := hN.sees.shape
  have c0 := hb.c1
  clear hN hb hno
  generalize L.length = n at *
  go_enter Try.func19, Try.ntmps19
  go_wp2_with fail
  go_ret
  exact ⟨rfl, rfl⟩
end Go.Proofs.Ytphmplbcegibjaa
