/- A list of nodes in memory; aqulaw22.few. No statement of the seat is proved here. -/
import Derived.Test.YtphmplbcegibjaaDgC
import Derived.Test.YtphmplbcegibjaaOpenS
import Derived.Deep.QuietTactic
import Derived.BigQuiet
set_option linter.unusedVariables false
namespace Go.Proofs.Ytphmplbcegibjaa
open Go.RowKit Go.Aq Go.Aq.Dg Go.Maps

/-- A node's three cells; its parents' slice stands beside it. -/
def ndC (q : NodeD × Value) : List Value := [.string (str q.1.key), q.2, .int .i64 q.1.stamp]
/-- v is a slice of nodes. -/
structure NodesR (w : World) (v : Value) (L : List (NodeD × Value)) : Prop where
  sees : Sees w 3 v L.length (L.flatMap ndC)
  pars : ∀ q ∈ L, Sees w 1 q.2 q.1.parents.length (Sk q.1.parents)
theorem NodesR.chg {w w' : World} {v : Value} {L : List (NodeD × Value)} (h : NodesR w v L) (c : Chg [] w w') : NodesR w' v L := ⟨h.sees.chg0 c, fun q hq => (h.pars q hq).chg0 c⟩
theorem NodesR.cells {w : World} {v : Value} {L : List (NodeD × Value)} (h : NodesR w v L) {i : Nat} (hi : i < L.length) :
    ∃ g off cap ao c, v = .slice (some ⟨g, off, none⟩) L.length cap ∧ L.length ≤ cap ∧ L[i].2 = .slice ao L[i].1.parents.length c ∧ w.cell? ⟨g, off + i * 3, none⟩ = some (.string (str L[i].1.key)) ∧ w.cell? ⟨g, off + i * 3 + 1, none⟩ = some (.slice ao L[i].1.parents.length c) ∧
      w.cell? ⟨g, off + i * 3 + 2, none⟩ = some (.int .i64 L[i].1.stamp) ∧ L[i].1.parents.length ≤ c := by
  obtain ⟨g, off, cap, rfl, hc, _, hcell⟩ := h.sees.cells (by omega)
  obtain ⟨ao, c, e, hcc, _⟩ := (h.pars _ (List.getElem_mem hi)).shape
  have hg : ∀ j, j < 3 → w.cell? ⟨g, off + (i * 3 + j), none⟩ = (ndC L[i])[j]? := fun j hj => by
    rw [hcell (i * 3 + j) (by omega), flatMap_get ndC 3 (fun _ => rfl) (by decide) L (i * 3 + j) (by omega)]
    have e1 : (i * 3 + j) / 3 = i := by omega
    have e2 : (i * 3 + j) % 3 = j := by omega
    rw [e1, e2, List.getElem?_eq_getElem hi]
    rfl
  refine ⟨g, off, cap, ao, c, rfl, hc, e, hg 0 (by omega), ?_, hg 2 (by omega), hcc⟩
  rw [← e]; exact hg 1 (by omega)
theorem Sk_cells {w : World} {ao : Option Addr} {c : Nat} {l : List (List UInt8)} (h : Sees w 1 (.slice ao l.length c) l.length (Sk l)) {j : Nat} (hj : j < l.length) :
    ∃ g off, ao = some ⟨g, off, none⟩ ∧ w.cell? ⟨g, off + j, none⟩ = some (.string (str l[j])) := by
  obtain ⟨g, off, cap, e, _, hc⟩ := h.at1 (by omega)
  injection e with e1
  refine ⟨g, off, e1, ?_⟩
  rw [hc j hj]
  simp [Sk, hj]

set_option maxHeartbeats 2000000 in
set_option maxRecDepth 100000 in
theorem few_any (w : World) (v : Value) (L : List (NodeD × Value)) (h : NodesR w v L) (hl : L.length ≤ 2097152) (hk : ∀ q ∈ L, q.1.key.length ≤ 1048576 ∧ q.1.parents.length ≤ 2097152 ∧ ∀ p ∈ q.1.parents, p.length ≤ 1048576) :
    Calls Try.prog 7 #[v] w fun e w' => ∃ r : Bool, e = .returned (.bool r) ∧ Chg [] w w' := by
  obtain ⟨nl, HL⟩ : ∃ n, Hid (L.length = n) := ⟨_, rfl⟩
  have hv := h.sees
  rw [HL.out] at hl
  obtain ⟨ao, cap, rfl, hcap, -⟩ := hv.shape
  rw [HL.out] at hcap hv
  clear hv
  have h' : NodesR w (.slice ao nl cap) L := by rw [← HL.out]; exact h
  have HH := Lib.hid h'
  clear h h'
  rw [show L.length = nl from HL.out]
  go_enter Try.func7, Try.ntmps7
  go_wp2_with fail
  go_loopg [3, 4, 5] 60 (fun k vn vi vk wr => ∃ (i m : Nat), vn = .int .i64 m ∧ vi = .int .i64 i ∧ i + k = 60 ∧ m ≤ i * 1002000 ∧ ∃ q, wr = w.drewN q)
  case atStart => exact ⟨0, 0, rfl, rfl, rfl, by omega, 0, rfl⟩
  case round =>
    obtain ⟨i, m, rfl, rfl, hik, hm, q, rfl⟩ := hrel
    have hmb : (m : Int) ≤ 60120000 := by omega
    have hib : (i : Int) ≤ 60 := by omega
    by_cases hi : i < nl ∧ i < 60
    · obtain ⟨h1, h2⟩ := hi
      have t1 : decide ((i : Int) < (nl : Int)) = true := decide_eq_true (by omega)
      have t1' : decide (i < nl) = true := decide_eq_true h1
      have t2 : decide ((i : Int) < 60) = true := decide_eq_true (by omega)
      have t2' : decide (i < 60) = true := decide_eq_true h2
      have hil : i < L.length := by rw [HL.out]; exact h1
      obtain ⟨g, off, cap', aq, cq, hs, -, e2, x0, x1, x2, hcq⟩ := HH.out.cells hil
      injection hs with hs1 hs0 hs2
      subst hs1 hs2
      clear hs0
      have hb := hk _ (List.getElem_mem hil)
      have hpp := HH.out.pars _ (List.getElem_mem hil)
      rw [e2] at hpp
      generalize L[i] = nd at *
      obtain ⟨⟨ky, ps, st⟩, pv⟩ := nd
      simp only at x0 x1 x2 hb hpp hcq e2
      clear e2
      obtain ⟨A, HA⟩ : ∃ A, Hid (ky.length = A) := ⟨_, rfl⟩
      obtain ⟨B, HB⟩ : ∃ B, Hid (ps.length = B) := ⟨_, rfl⟩
      have s1 : (str ky).size = A := by rw [str_size]; exact HA.out
      have hAb : A ≤ 1048576 := by rw [← HA.out]; exact hb.1
      have hBb : B ≤ 2097152 := by rw [← HB.out]; exact hb.2.1
      have HPS := Lib.hid hb.2.2
      have HPP := Lib.hid hpp
      rw [HB.out] at x1 hcq
      have eA : 0 ≤ min (A : Int) 1000 ∧ min (A : Int) 1000 ≤ 1000 := by omega
      have eB : 0 ≤ min (B : Int) 1000 ∧ min (B : Int) 1000 ≤ 1000 := by omega
      obtain ⟨m2, HM2⟩ : ∃ m2, Hid (m + min B 1000 + min A 1000 = m2) := ⟨_, rfl⟩
      have em : (m : Int) + min (B : Int) 1000 + min (A : Int) 1000 = (m2 : Int) := by have := HM2.out; omega
      have hm2 : m2 ≤ i * 1002000 + 2000 := by have := HM2.out; omega
      have HP := Lib.hid (And.intro hik hm)
      clear hb hpp hil hik hm x2
      go_wp2_with fail
      go_quiet (fail)
      go_wp2_with fail
      obtain ⟨G, rfl⟩ : ∃ G, G = gk := ⟨_, rfl⟩
      have x0' : ∀ q, (w.drewN q).cell? ⟨g, off + i * 3, none⟩ = some (.string (str ky)) := fun q => x0
      have x1' : ∀ q, (w.drewN q).cell? ⟨g, off + i * 3 + 1, none⟩ = some (.slice aq B cq) := fun q => x1
      clear x0 x1 t2 t2' eA eB em s1
      go_loopg [3, 5] 1000 (fun k vn vk wr => ∃ (j m : Nat), vn = .int .i64 m ∧ vk = .int .i64 j ∧ j + k = 1000 ∧ m ≤ i * 1002000 + 2000 + j * 1000 ∧ ∃ q, wr = w.drewN q)
      case atStart => exact ⟨0, m2, rfl, rfl, rfl, by omega, q + nq, World.drewN_drewN _ _ _⟩
      case round =>
        obtain ⟨j, m3, rfl, rfl, hjk, hm3, q3, rfl⟩ := hrel
        have y1 := x1' q3
        have hmb3 : (m3 : Int) ≤ 62120000 := by omega
        have hjb : (j : Int) ≤ 1000 := by omega
        clear x0' x1'
        by_cases hj : j < B ∧ j < 1000
        · obtain ⟨j1, j2⟩ := hj
          have r1 : decide ((j : Int) < (B : Int)) = true := decide_eq_true (by omega)
          have r1' : decide (j < B) = true := decide_eq_true j1
          have r2 : decide ((j : Int) < 1000) = true := decide_eq_true (by omega)
          have r2' : decide (j < 1000) = true := decide_eq_true j2
          have hjl : j < ps.length := by rw [HB.out]; exact j1
          obtain ⟨g2, o2, rfl, hcl⟩ := Sk_cells HPP.out hjl
          have hpl := HPS.out _ (List.getElem_mem hjl)
          have hcl' : (w.drewN q3).cell? ⟨g2, o2 + j, none⟩ = some (.string (str ps[j])) := hcl
          clear hcl
          generalize ps[j] = pj at *
          obtain ⟨C, HC⟩ : ∃ C, Hid (pj.length = C) := ⟨_, rfl⟩
          have s1 : (str pj).size = C := by rw [str_size]; exact HC.out
          have hCb : C ≤ 1048576 := by rw [← HC.out]; exact hpl
          have eC : 0 ≤ min (C : Int) 1000 ∧ min (C : Int) 1000 ≤ 1000 := by omega
          obtain ⟨m4, HM4⟩ : ∃ m4, Hid (m3 + min C 1000 = m4) := ⟨_, rfl⟩
          have em : (m3 : Int) + min (C : Int) 1000 = (m4 : Int) := by have := HM4.out; omega
          have HP2 := Lib.hid (And.intro hjk hm3)
          clear hjk hm3 hpl hjl
          go_wp2_with fail
          go_roundg (gk - 1)
          case measure => have := HP2.out; omega
          case rel => exact ⟨j + 1, m4, rfl, by go_num, by have := HP2.out; omega, by have := HP2.out; have := HM4.out; omega, q3, rfl⟩
        · have HP2 := Lib.hid (And.intro hjk hm3)
          by_cases j1 : j < B
          · have r1 : decide ((j : Int) < (B : Int)) = true := decide_eq_true (by omega)
            have r1' : decide (j < B) = true := decide_eq_true j1
            have r2 : decide ((j : Int) < 1000) = false := decide_eq_false (by omega)
            have r2' : decide (j < 1000) = false := decide_eq_false (by omega)
            clear hjk hm3 hj j1
            go_wp2_with fail
            go_roundg (G - 1)
            case measure => have := HP.out; omega
            case rel => exact ⟨i + 1, m3, rfl, by go_num, by have := HP.out; omega, by have := HP2.out; omega, q3, rfl⟩
          · have r1 : decide ((j : Int) < (B : Int)) = false := decide_eq_false (by omega)
            have r1' : decide (j < B) = false := decide_eq_false j1
            clear hjk hm3 hj j1
            go_wp2_with fail
            go_roundg (G - 1)
            case measure => have := HP.out; omega
            case rel => exact ⟨i + 1, m3, rfl, by go_num, by have := HP.out; omega, by have := HP2.out; omega, q3, rfl⟩
    · by_cases h1 : i < nl
      · have t1 : decide ((i : Int) < (nl : Int)) = true := decide_eq_true (by omega)
        have t1' : decide (i < nl) = true := decide_eq_true h1
        have t2 : decide ((i : Int) < 60) = false := decide_eq_false (by omega)
        have t2' : decide (i < 60) = false := decide_eq_false (by omega)
        by_cases h3 : nl ≤ 60
        · have t3 : decide ((nl : Int) ≤ 60) = true := decide_eq_true (by omega)
          have t3' : decide (nl ≤ 60) = true := decide_eq_true h3
          clear hi h1 h3 hik hm
          go_wp2_with fail
          go_ret
          exact ⟨_, rfl, (Chg.refl [] w).drewN q⟩
        · have t3 : decide ((nl : Int) ≤ 60) = false := decide_eq_false (by omega)
          have t3' : decide (nl ≤ 60) = false := decide_eq_false h3
          clear hi h1 h3 hik hm
          go_wp2_with fail
          go_ret
          exact ⟨_, rfl, (Chg.refl [] w).drewN q⟩
      · have t1 : decide ((i : Int) < (nl : Int)) = false := decide_eq_false (by omega)
        have t1' : decide (i < nl) = false := decide_eq_false h1
        by_cases h3 : nl ≤ 60
        · have t3 : decide ((nl : Int) ≤ 60) = true := decide_eq_true (by omega)
          have t3' : decide (nl ≤ 60) = true := decide_eq_true h3
          clear hi h1 h3 hik hm
          go_wp2_with fail
          go_ret
          exact ⟨_, rfl, (Chg.refl [] w).drewN q⟩
        · have t3 : decide ((nl : Int) ≤ 60) = false := decide_eq_false (by omega)
          have t3' : decide (nl ≤ 60) = false := decide_eq_false h3
          clear hi h1 h3 hik hm
          go_wp2_with fail
          go_ret
          exact ⟨_, rfl, (Chg.refl [] w).drewN q⟩
end Go.Proofs.Ytphmplbcegibjaa
