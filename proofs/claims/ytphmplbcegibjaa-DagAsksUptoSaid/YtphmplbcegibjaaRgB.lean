/- The document's NewGraph. No statement of the seat is proved here. -/
import Derived.Test.YtphmplbcegibjaaRgA
set_option linter.unusedVariables false
set_option linter.unusedSimpArgs false
namespace Go.Aq.Dg
theorem newE_17 {g : List NodeD} (h : 500 < g.length) : newE g = 17 := by unfold newE; rw [if_pos h]
theorem newE_7 {g : List NodeD} (h : ¬ 500 < g.length) (h2 : ¬ (g.map (·.key)).Nodup) : newE g = 7 := by unfold newE; rw [if_neg h, if_pos h2]
theorem newE_6 {g : List NodeD} (h : ¬ 500 < g.length) (h2 : (g.map (·.key)).Nodup) {x : NodeD} (hx : x ∈ g) {p : List UInt8} (hp : p ∈ x.parents) (hk : hasK g p = false) : newE g = 6 := by
  unfold newE
  rw [if_neg h, if_neg (fun hn => hn h2), if_pos]
  exact List.any_eq_true.2 ⟨x, hx, List.any_eq_true.2 ⟨p, hp, by rw [hk]; rfl⟩⟩
theorem none_missing {g : List NodeD} (h3 : ∀ x ∈ g, ∀ p ∈ x.parents, hasK g p = true) : ¬ (g.any fun x => x.parents.any fun p => !hasK g p) = true := by
  intro hn
  obtain ⟨x, hx, hq⟩ := List.any_eq_true.1 hn
  obtain ⟨p, hp, hk⟩ := List.any_eq_true.1 hq
  rw [h3 x hx p hp] at hk; cases hk
theorem newE_1 {g : List NodeD} (h : ¬ 500 < g.length) (h2 : (g.map (·.key)).Nodup) (h3 : ∀ x ∈ g, ∀ p ∈ x.parents, hasK g p = true) {x : NodeD} (hx : x ∈ g) {p : List UInt8} (hp : p ∈ x.parents) (hk : x.stamp ≤ stampK g p) : newE g = 1 := by
  unfold newE
  rw [if_neg h, if_neg (fun hn => hn h2), if_neg (none_missing h3), if_pos]
  exact List.any_eq_true.2 ⟨x, hx, List.any_eq_true.2 ⟨p, hp, decide_eq_true hk⟩⟩
theorem newE_0 {g : List NodeD} (h : ¬ 500 < g.length) (h2 : (g.map (·.key)).Nodup) (h3 : ∀ x ∈ g, ∀ p ∈ x.parents, hasK g p = true) (h4 : ∀ x ∈ g, ∀ p ∈ x.parents, ¬ x.stamp ≤ stampK g p) : newE g = 0 := by
  unfold newE
  rw [if_neg h, if_neg (fun hn => hn h2), if_neg (none_missing h3), if_neg]
  intro hl
  unfold lateN at hl
  obtain ⟨x, hx, hq⟩ := List.any_eq_true.1 hl
  obtain ⟨p, hp, hk⟩ := List.any_eq_true.1 hq
  exact h4 x hx p hp (of_decide_eq_true hk)
theorem nodup_at {g : List NodeD} (h : ∀ i (hi : i < g.length), atI g g[i].key = i) : (g.map (·.key)).Nodup := by
  refine List.pairwise_iff_getElem.2 fun i j hi hj hij => ?_
  rw [List.length_map] at hi hj
  rw [List.getElem_map, List.getElem_map]
  obtain ⟨k, hk, e, -, hf⟩ := atI_has (g := g) (k := g[j].key) (hasK_iff.2 ⟨_, List.getElem_mem hj, rfl⟩)
  have e2 := h j hj
  rw [e] at e2
  have : k = j := by omega
  subst this
  exact hf i hij
theorem at_nodup {g : List NodeD} (h : (g.map (·.key)).Nodup) {i : Nat} (hi : i < g.length) : atI g g[i].key = i := by
  refine atI_of hi rfl fun j hj e => ?_
  have := List.pairwise_iff_getElem.1 h j i (by rw [List.length_map]; omega) (by rw [List.length_map]; exact hi) hj
  rw [List.getElem_map, List.getElem_map] at this
  exact this e
end Go.Aq.Dg
namespace Go.Proofs.Ytphmplbcegibjaa
open Go.RowKit Go.Aq Go.Aq.Dg Go.Maps Go.Aq.So

/-- What a node's cells hold, wherever nothing that was there turned. -/
theorem node_at {w : World} {ao : Option Addr} {cap n : Nat} {L : List (NodeD × Value)} (h : NodesR w (.slice ao n cap) L) (hn : L.length = n) {i : Nat} (hi : i < L.length) :
    ∃ g off aq cq, ao = some ⟨g, off, none⟩ ∧ ∀ W, Chg [] w W → W.cell? ⟨g, off + i * 3, none⟩ = some (.string (str L[i].1.key)) ∧ W.cell? ⟨g, off + i * 3 + 1, none⟩ = some (.slice aq L[i].1.parents.length cq) ∧ W.cell? ⟨g, off + i * 3 + 2, none⟩ = some (.int .i64 L[i].1.stamp) ∧
      ∀ j (hj : j < L[i].1.parents.length), ∃ g2 o2, aq = some ⟨g2, o2, none⟩ ∧ W.cell? ⟨g2, o2 + j, none⟩ = some (.string (str L[i].1.parents[j])) := by
  subst hn
  obtain ⟨g, off, cap1, aq, cq, hs, -, e2, -⟩ := h.cells hi
  injection hs with hs1
  refine ⟨g, off, aq, cq, hs1, fun W c => ?_⟩
  obtain ⟨g', off', cap1', aq', cq', hs', -, e2', x0, x1, x2, -⟩ := (h.chg c).cells hi
  injection hs' with hs1'
  rw [hs1] at hs1'
  injection hs1' with h3
  injection h3 with h4 h5
  subst h4 h5
  rw [e2] at e2'
  injection e2' with h6 _ h7
  subst h6 h7
  refine ⟨x0, x1, x2, fun j hj => ?_⟩
  have hp := (h.pars _ (List.getElem_mem hi)).chg0 c
  rw [e2] at hp
  obtain ⟨g2, o2, h8, h9⟩ := Sk_cells hp hj
  exact ⟨g2, o2, h8, h9⟩

set_option maxHeartbeats 2000000 in
set_option maxRecDepth 100000 in
theorem rnew_any (w : World) (v : Value) (L : List (NodeD × Value)) (h : NodesR w v L) (hl : L.length ≤ 2097152) (hk : ∀ q ∈ L, q.1.parents.length ≤ 2097152) :
    Calls Try.prog 33 #[v] w fun e w' => Chg [] w w' ∧ ((newE (L.map (·.1)) = 0 ∧ ∃ p, e = .returned (.tuple #[.pointer (some ⟨p, 0, none⟩), .int .i64 0]) ∧ RefG w' p L) ∨
      (newE (L.map (·.1)) ≠ 0 ∧ e = .returned (.tuple #[.pointer none, .int .i64 (newE (L.map (·.1)))]))) := by
  obtain ⟨ao, cap, rfl, hcap, hno⟩ := h.sees.shape
  obtain ⟨n, HN⟩ : ∃ n, Hid (L.length = n) := ⟨_, rfl⟩
  have hgl : Hid ((L.map (·.1)).length = n) := Lib.hid (by rw [List.length_map, HN.out])
  rw [show L.length = n from HN.out] at h hcap hno hl ⊢
  have HP := Lib.hid (And.intro h (And.intro hl hk))
  clear hno hk
  obtain ⟨E, hE⟩ : ∃ E, E = newE (L.map (·.1)) := ⟨_, rfl⟩
  rw [← hE]
  have HE := Lib.hid hE
  clear hE
  by_cases h500 : 500 < n
  · have t1 : decide ((500 : Int) < (n : Int)) = true := decide_eq_true (by omega)
    have t1' : decide (500 < n) = true := decide_eq_true h500
    have hE : E = 17 := by rw [HE.out]; exact newE_17 (by rw [hgl.out]; exact h500)
    subst hE
    clear h500 hl h
    go_enter Try.func33, Try.ntmps33
    go_wp2_with fail
    go_ret2
    exact ⟨Chg.refl _ _, .inr ⟨by decide, rfl⟩⟩
  · have t1 : decide ((500 : Int) < (n : Int)) = false := decide_eq_false (by omega)
    have t1' : decide (500 < n) = false := decide_eq_false h500
    obtain ⟨K, hK⟩ : ∃ K, w.heap.size = K := ⟨_, rfl⟩
    have hb : Blk (w.alloc (.cells #[.slice ao n cap] 66)) K #[.slice ao n cap] 66 := Blk.new_at w _ _ hK
    have hc1 : Chg [] w (w.alloc (.cells #[.slice ao n cap] 66)) := (Chg.refl [] w).alloc _
    have hR : RefG (w.alloc (.cells #[.slice ao n cap] 66)) K L := ⟨_, hb, HP.out.1.chg hc1⟩
    have H5 := Lib.hid h500
    clear h500 hl h
    go_enter Try.func33, Try.ntmps33
    go_wp2_with fail
    generalize w.alloc (.cells #[.slice ao n cap] 66) = w1 at *
    have HR := Lib.hid hR
    have HC1 := Lib.hid hc1
    clear hb hc1 hR t1 t1' hK
    have ka := fun (k : List UInt8) W (c : Chg [] w1 W) => at_any (HR.out.chg c) (by rw [HN.out]; exact HP.out.2.1) k
    have hnd := fun (i : Nat) (hi : i < L.length) => node_at (HP.out.1.chg HC1.out) HN.out hi
    have HND := Lib.hid hnd
    clear hnd
    go_loopg [5] n (fun gk (v5 : Value) wr => ∃ i : Nat, v5 = .int .i64 (i : Int) ∧ i + gk = n ∧ (∀ j (hj : j < L.length), j < i → atI (L.map (·.1)) L[j].1.key = j) ∧ Chg [] w1 wr)
    case atStart => exact ⟨0, rfl, by omega, fun j _ h => absurd h (by omega), Chg.refl _ _⟩
    case round =>
      obtain ⟨i, rfl, hik, hall, ci⟩ := hrel
      by_cases hin : i < n
      · have t1 : decide ((i : Int) < (n : Int)) = true := decide_eq_true (by omega)
        have t1' : decide (i < n) = true := decide_eq_true hin
        have hil : i < L.length := by rw [HN.out]; exact hin
        obtain ⟨g1, off1, aq, cq, rfl, hcc⟩ := HND.out i hil
        obtain ⟨x0, -, -, -⟩ := hcc wr ci
        have hi1 : (i : Int) < n := by omega
        have kat := ka L[i].1.key wr ci
        obtain ⟨R, hRR⟩ : ∃ R, R = atI (L.map (·.1)) L[i].1.key := ⟨_, rfl⟩
        rw [← hRR] at kat
        obtain ⟨ky, hky⟩ : ∃ ky, ky = L[i].1.key := ⟨_, rfl⟩
        rw [← hky] at x0 kat
        have HA := Lib.hid (And.intro hik (And.intro hall (And.intro hRR hky)))
        clear hik hall hRR hcc hky
        by_cases hRi : R = (i : Int)
        · subst hRi
          have e1 : ((i : Int) != (i : Int)) = false := by simp
          go_wp2_with (go_at_call 35; refine kat.mono ?_; rintro e w2 ⟨rfl, rfl⟩)
          obtain ⟨hik, hall, hRR, hky⟩ := HA.out
          go_roundg (gk - 1)
          case measure => omega
          case rel =>
            refine ⟨i + 1, congrArg (Value.int .i64) (wN (by push_cast; rfl) (by have := HP.out.2.1; omega)), by omega, fun j hj h => ?_, ci⟩
            rcases Nat.lt_or_ge j i with h1 | h1
            · exact hall j hj h1
            · have : j = i := by omega
              subst this
              exact hRR.symm
        · have e1 : (R != (i : Int)) = true := by simpa using hRi
          have hE : E = 7 := by
            rw [HE.out]
            refine newE_7 (by rw [hgl.out]; exact H5.out) fun hnd => ?_
            obtain ⟨hik, hall, hRR, hky⟩ := HA.out
            have := at_nodup hnd (i := i) (by rw [List.length_map]; exact hil)
            rw [List.getElem_map] at this
            exact hRi (hRR.trans this)
          subst hE
          clear hRi
          go_wp2_with (go_at_call 35; refine kat.mono ?_; rintro e w2 ⟨rfl, rfl⟩)
          go_ret2
          exact ⟨HC1.out.nil ci, .inr ⟨by decide, rfl⟩⟩
      · have t1 : decide ((i : Int) < (n : Int)) = false := decide_eq_false (by omega)
        have t1' : decide (i < n) = false := decide_eq_false hin
        have hnod : Hid (((L.map (·.1)).map (·.key)).Nodup) := Lib.hid (nodup_at fun j hj => by
          rw [List.length_map] at hj
          have := hall j hj (by have := HN.out; omega)
          rw [List.getElem_map]; exact this)
        clear hik hall
        go_wp2_with fail
        obtain ⟨G, rfl⟩ : ∃ G, G = gk := ⟨_, rfl⟩
        obtain ⟨W1, hW1⟩ : ∃ W, W = wr := ⟨_, rfl⟩
        rw [← hW1]
        rw [← hW1] at ci
        clear hW1
        go_loopg [6, 7] n (fun gk (v6 v7 : Value) wr => ∃ i : Nat, v6 = .int .i64 (i : Int) ∧ i + gk = n ∧ (∀ j (hj : j < L.length), j < i → ∀ p ∈ L[j].1.parents, hasK (L.map (·.1)) p = true) ∧ Chg [] w1 wr)
        case atStart => exact ⟨0, rfl, by omega, fun j _ h => absurd h (by omega), ci⟩
        case round =>
          clear ci
          obtain ⟨i, rfl, hik, hall, ci⟩ := hrel
          by_cases hin : i < n
          · have t1 : decide ((i : Int) < (n : Int)) = true := decide_eq_true (by omega)
            have t1' : decide (i < n) = true := decide_eq_true hin
            have hil : i < L.length := by rw [HN.out]; exact hin
            obtain ⟨g1, off1, aq, cq, rfl, hcc⟩ := HND.out i hil
            obtain ⟨ps, hps⟩ : ∃ ps, ps = L[i].1.parents := ⟨_, rfl⟩
            obtain ⟨B, hB⟩ : ∃ B, B = ps.length := ⟨_, rfl⟩
            have hcc2 : ∀ W, Chg [] w1 W → W.cell? ⟨g1, off1 + i * 3 + 1, none⟩ = some (.slice aq B cq) ∧ ∀ j (hj : j < ps.length), ∃ g2 o2, aq = some ⟨g2, o2, none⟩ ∧ W.cell? ⟨g2, o2 + j, none⟩ = some (.string (str ps[j])) := fun W c => by
              subst hps; subst hB
              exact ⟨(hcc W c).2.1, (hcc W c).2.2.2⟩
            have hB2 : B ≤ 2097152 := by rw [hB, hps]; exact HP.out.2.2 _ (List.getElem_mem hil)
            have hi1 : (i : Int) < n := by omega
            have HA := Lib.hid (And.intro hik (And.intro hall (And.intro hps (And.intro hB hB2))))
            have x1 := (hcc2 wr ci).1
            clear hik hall hcc hps hB hB2
            go_wp2_with fail
            obtain ⟨G2, rfl⟩ : ∃ G, G = gk := ⟨_, rfl⟩
            obtain ⟨W2, hW2⟩ : ∃ W, W = wr := ⟨_, rfl⟩
            rw [← hW2]
            rw [← hW2] at ci
            clear hW2 x1
            go_loopg [7] B (fun gk (v7 : Value) wr => ∃ j : Nat, v7 = .int .i64 (j : Int) ∧ j + gk = B ∧ (∀ k (hk : k < ps.length), k < j → hasK (L.map (·.1)) ps[k] = true) ∧ Chg [] w1 wr)
            case atStart => exact ⟨0, rfl, by omega, fun j _ h => absurd h (by omega), ci⟩
            case round =>
              clear ci
              obtain ⟨j, rfl, hjk, hpk, cj⟩ := hrel
              have x1 := (hcc2 wr cj).1
              by_cases hjB : j < B
              · have r1 : decide ((j : Int) < (B : Int)) = true := decide_eq_true (by omega)
                have r1' : decide (j < B) = true := decide_eq_true hjB
                have hjl : j < ps.length := by rw [← HA.out.2.2.2.1]; exact hjB
                obtain ⟨g2, o2, hao2, x2⟩ := (hcc2 wr cj).2 j hjl
                subst hao2
                have kat := ka ps[j] wr cj
                have hmem : ps[j] ∈ L[i].1.parents := by rw [← HA.out.2.2.1]; exact List.getElem_mem hjl
                have hpos := atI_pos (L.map (·.1)) ps[j]
                obtain ⟨pj, hpj⟩ : ∃ pj, pj = ps[j] := ⟨_, rfl⟩
                rw [← hpj] at x2 kat hmem hpos
                generalize atI (L.map (·.1)) pj = R at *
                have hj1 : (j : Int) < B := by omega
                have HJ := Lib.hid (And.intro hjk (And.intro hpk (And.intro hmem hpj)))
                clear hjk hpk hmem hpj
                cases hh : hasK (L.map (·.1)) pj with
                | true =>
                  rw [hh] at hpos
                  have e1 : decide (R < 0) = false := decide_eq_false (by have := of_decide_eq_true hpos; omega)
                  have HH := Lib.hid hh
                  clear hh hpos
                  go_wp2_with (go_at_call 35; refine kat.mono ?_; rintro e w2 ⟨rfl, rfl⟩)
                  obtain ⟨hjk, hpk, hmem, hpj⟩ := HJ.out
                  go_roundg (gk - 1)
                  case measure => omega
                  case rel =>
                    refine ⟨j + 1, congrArg (Value.int .i64) (wN (by push_cast; rfl) (by have := HA.out.2.2.2.2; omega)), by omega, fun k hk h => ?_, cj⟩
                    rcases Nat.lt_or_ge k j with h1 | h1
                    · exact hpk k hk h1
                    · have : k = j := by omega
                      subst this
                      rw [← hpj]; exact HH.out
                | false =>
                  rw [hh] at hpos
                  have e1 : decide (R < 0) = true := decide_eq_true (by have := of_decide_eq_false hpos; omega)
                  have hE : E = 6 := by
                    rw [HE.out]
                    exact newE_6 (by rw [hgl.out]; exact H5.out) hnod.out (x := L[i].1) (List.mem_map.2 ⟨_, List.getElem_mem hil, rfl⟩) HJ.out.2.2.1 hh
                  subst hE
                  clear hh hpos
                  go_wp2_with (go_at_call 35; refine kat.mono ?_; rintro e w2 ⟨rfl, rfl⟩)
                  go_ret2
                  exact ⟨HC1.out.nil cj, .inr ⟨by decide, rfl⟩⟩
              · have r1 : decide ((j : Int) < (B : Int)) = false := decide_eq_false (by omega)
                have r1' : decide (j < B) = false := decide_eq_false hjB
                have HK := Lib.hid (And.intro hpk hjB)
                clear hjk hpk hjB
                go_wp2_with fail
                obtain ⟨hik, hall, hps, hB, hB2⟩ := HA.out
                obtain ⟨hpk, hjB⟩ := HK.out
                go_roundg (G2 - 1)
                case measure => omega
                case rel =>
                  refine ⟨i + 1, congrArg (Value.int .i64) (wN (by push_cast; rfl) (by have := HP.out.2.1; omega)), by omega, fun k hk h => ?_, cj⟩
                  rcases Nat.lt_or_ge k i with h1 | h1
                  · exact hall k hk h1
                  · have : k = i := by omega
                    subst this
                    intro p hp
                    rw [← hps] at hp
                    obtain ⟨q, hq, rfl⟩ := List.getElem_of_mem hp
                    exact hpk q hq (by omega)
          · have t1 : decide ((i : Int) < (n : Int)) = false := decide_eq_false (by omega)
            have t1' : decide (i < n) = false := decide_eq_false hin
            have hex : Hid (∀ x ∈ L.map (·.1), ∀ p ∈ x.parents, hasK (L.map (·.1)) p = true) := Lib.hid fun x hx p hp => by
              obtain ⟨q, hq, rfl⟩ := List.mem_map.1 hx
              obtain ⟨j, hj, rfl⟩ := List.getElem_of_mem hq
              exact hall j hj (by have := HN.out; omega) p hp
            clear hik hall
            go_wp2_with fail
            obtain ⟨G3, rfl⟩ : ∃ G, G = gk := ⟨_, rfl⟩
            obtain ⟨W3, hW3⟩ : ∃ W, W = wr := ⟨_, rfl⟩
            rw [← hW3]
            rw [← hW3] at ci
            clear hW3
            go_loopg [8, 9] n (fun gk (v8 v9 : Value) wr => ∃ i : Nat, v8 = .int .i64 (i : Int) ∧ i + gk = n ∧ (∀ j (hj : j < L.length), j < i → ∀ p ∈ L[j].1.parents, ¬ L[j].1.stamp ≤ stampK (L.map (·.1)) p) ∧ Chg [] w1 wr)
            case atStart => exact ⟨0, rfl, by omega, fun j _ h => absurd h (by omega), ci⟩
            case round =>
              clear ci
              obtain ⟨i, rfl, hik, hall, ci⟩ := hrel
              by_cases hin : i < n
              · have t1 : decide ((i : Int) < (n : Int)) = true := decide_eq_true (by omega)
                have t1' : decide (i < n) = true := decide_eq_true hin
                have hil : i < L.length := by rw [HN.out]; exact hin
                obtain ⟨g1, off1, aq, cq, rfl, hcc⟩ := HND.out i hil
                obtain ⟨ps, hps⟩ : ∃ ps, ps = L[i].1.parents := ⟨_, rfl⟩
                obtain ⟨si, hsi⟩ : ∃ si, si = L[i].1.stamp := ⟨_, rfl⟩
                obtain ⟨B, hB⟩ : ∃ B, B = ps.length := ⟨_, rfl⟩
                have hcc2 : ∀ W, Chg [] w1 W → W.cell? ⟨g1, off1 + i * 3 + 1, none⟩ = some (.slice aq B cq) ∧ W.cell? ⟨g1, off1 + i * 3 + 2, none⟩ = some (.int .i64 si) ∧ ∀ j (hj : j < ps.length), ∃ g2 o2, aq = some ⟨g2, o2, none⟩ ∧ W.cell? ⟨g2, o2 + j, none⟩ = some (.string (str ps[j])) := fun W c => by
                  subst hps; subst hB; subst hsi
                  exact ⟨(hcc W c).2.1, (hcc W c).2.2.1, (hcc W c).2.2.2⟩
                have hother : ∀ k (hk : k < L.length), ∀ W, Chg [] w1 W → W.cell? ⟨g1, off1 + k * 3 + 2, none⟩ = some (.int .i64 L[k].1.stamp) := fun k hk W c => by
                  obtain ⟨g1', off1', aq', cq', e, h⟩ := HND.out k hk
                  injection e with e
                  injection e with e3 e4
                  subst e3 e4
                  exact (h W c).2.2.1
                have hB2 : B ≤ 2097152 := by rw [hB, hps]; exact HP.out.2.2 _ (List.getElem_mem hil)
                have hi1 : (i : Int) < n := by omega
                have HA := Lib.hid (And.intro hik (And.intro hall (And.intro hps (And.intro hB (And.intro hB2 hsi)))))
                have HO := Lib.hid hother
                have x1 := (hcc2 wr ci).1
                clear hik hall hcc hps hB hB2 hsi hother
                go_wp2_with fail
                obtain ⟨G4, rfl⟩ : ∃ G, G = gk := ⟨_, rfl⟩
                obtain ⟨W4, hW4⟩ : ∃ W, W = wr := ⟨_, rfl⟩
                rw [← hW4]
                rw [← hW4] at ci
                clear hW4 x1
                go_loopg [9] B (fun gk (v9 : Value) wr => ∃ j : Nat, v9 = .int .i64 (j : Int) ∧ j + gk = B ∧ (∀ k (hk : k < ps.length), k < j → ¬ si ≤ stampK (L.map (·.1)) ps[k]) ∧ Chg [] w1 wr)
                case atStart => exact ⟨0, rfl, by omega, fun j _ h => absurd h (by omega), ci⟩
                case round =>
                  clear ci
                  obtain ⟨j, rfl, hjk, hpk, cj⟩ := hrel
                  have x1 := (hcc2 wr cj).1
                  by_cases hjB : j < B
                  · have r1 : decide ((j : Int) < (B : Int)) = true := decide_eq_true (by omega)
                    have r1' : decide (j < B) = true := decide_eq_true hjB
                    have hjl : j < ps.length := by rw [← HA.out.2.2.2.1]; exact hjB
                    obtain ⟨g2, o2, hao2, x2⟩ := (hcc2 wr cj).2.2 j hjl
                    subst hao2
                    have hmem : ps[j] ∈ L[i].1.parents := by rw [← HA.out.2.2.1]; exact List.getElem_mem hjl
                    have hin2 : L[i].1 ∈ L.map (·.1) := List.mem_map.2 ⟨_, List.getElem_mem hil, rfl⟩
                    obtain ⟨q, hq, hat, hqk, -⟩ := atI_has (hex.out _ hin2 _ hmem)
                    have hqL : q < L.length := by rw [List.length_map] at hq; exact hq
                    rw [List.getElem_map] at hqk
                    have hsq : stampK (L.map (·.1)) ps[j] = L[q].1.stamp := by rw [← hqk]; exact stampK_of hnod.out (List.mem_map.2 ⟨_, List.getElem_mem hqL, rfl⟩)
                    obtain ⟨pj, hpj⟩ : ∃ pj, pj = ps[j] := ⟨_, rfl⟩
                    obtain ⟨sq, hsq2⟩ : ∃ sq, sq = L[q].1.stamp := ⟨_, rfl⟩
                    have kat := fun W c => ka pj W c
                    rw [← hpj] at x2 hmem hat
                    rw [hat] at kat
                    have hother := HO.out q hqL
                    rw [← hsq2] at hother
                    have hj1 : (j : Int) < B := by omega
                    have hq1 : (q : Int) < n := by have := HN.out; omega
                    have hq0 : 0 ≤ (q : Int) := by omega
                    have HJ := Lib.hid (And.intro hjk (And.intro hpk (And.intro hmem (And.intro hpj (And.intro hsq hsq2)))))
                    clear hjk hpk hmem hpj hsq hsq2 hat hqk hq
                    go_upto_region 23 with (fail)
                    obtain ⟨X, hnX, F, x0, hF0, hF, hX⟩ := fam0 wr
                    have z1 := fun u => (hcc2 (F u) (cj.nil (hF u))).1
                    have z2 := fun u => (hcc2 (F u) (cj.nil (hF u))).2.1
                    have z3 := fun u => (hF u).cell_some x2 (by simp)
                    have z4 := fun u => hother (F u) (cj.nil (hF u))
                    refine wp_fam F (by kernel_rfl) (by kernel_rfl) x0 hF0 ?_
                    repeat (go_big_quiet_step (exact fam_same (kat _ (cj.nil (hF _)))))
                    refine wpQuiet_nil ?_
                    rintro w' ⟨xx, rfl⟩
                    have cF := hF xx
                    clear hF hX hF0 z1 z2 z3 z4 x2 hother kat
                    generalize F xx = w2 at *
                    by_cases hle : si ≤ sq
                    · have r3 : decide (si ≤ sq) = true := decide_eq_true hle
                      rw [r3]
                      obtain ⟨hjk, hpk, hmem, hpj, hsq, hsq2⟩ := HJ.out
                      have hE : E = 1 := by
                        rw [HE.out]
                        refine newE_1 (by rw [hgl.out]; exact H5.out) hnod.out hex.out hin2 hmem ?_
                        rw [hpj, hsq, ← hsq2, ← HA.out.2.2.2.2.2]; exact hle
                      subst hE
                      clear hjk hpk hmem hpj hsq hsq2 hle
                      go_wp2_with fail
                      go_ret2
                      first | exact ⟨HC1.out.nil (cj.nil cF), .inr ⟨by decide, rfl⟩⟩ | exact ⟨HC1.out.nil (cj.nil cF), rfl⟩
                    · have r3 : decide (si ≤ sq) = false := decide_eq_false hle
                      rw [r3]
                      have HLE := Lib.hid hle
                      clear hle
                      go_wp2_with fail
                      obtain ⟨hjk, hpk, hmem, hpj, hsq, hsq2⟩ := HJ.out
                      go_roundg (gk - 1)
                      case measure => omega
                      case rel =>
                        refine ⟨j + 1, congrArg (Value.int .i64) (wN (by push_cast; rfl) (by have := HA.out.2.2.2.2.1; omega)), by omega, fun k hk h => ?_, cj.nil cF⟩
                        rcases Nat.lt_or_ge k j with h1 | h1
                        · exact hpk k hk h1
                        · have : k = j := by omega
                          subst this
                          rw [hsq, ← hsq2]; exact HLE.out
                  · have r1 : decide ((j : Int) < (B : Int)) = false := decide_eq_false (by omega)
                    have r1' : decide (j < B) = false := decide_eq_false hjB
                    have HK := Lib.hid (And.intro hpk hjB)
                    clear hjk hpk hjB
                    go_wp2_with fail
                    obtain ⟨hik, hall, hps, hB, hB2, hsi⟩ := HA.out
                    obtain ⟨hpk, hjB⟩ := HK.out
                    go_roundg (G4 - 1)
                    case measure => omega
                    case rel =>
                      refine ⟨i + 1, congrArg (Value.int .i64) (wN (by push_cast; rfl) (by have := HP.out.2.1; omega)), by omega, fun k hk h => ?_, cj⟩
                      rcases Nat.lt_or_ge k i with h1 | h1
                      · exact hall k hk h1
                      · have : k = i := by omega
                        subst this
                        intro p hp
                        rw [← hps] at hp
                        obtain ⟨q, hq, rfl⟩ := List.getElem_of_mem hp
                        rw [← hsi]
                        exact hpk q hq (by omega)
              · have t1 : decide ((i : Int) < (n : Int)) = false := decide_eq_false (by omega)
                have t1' : decide (i < n) = false := decide_eq_false hin
                have hE : E = 0 := by
                  rw [HE.out]
                  refine newE_0 (by rw [hgl.out]; exact H5.out) hnod.out hex.out fun x hx p hp => ?_
                  obtain ⟨q, hq, rfl⟩ := List.mem_map.1 hx
                  obtain ⟨j, hj, rfl⟩ := List.getElem_of_mem hq
                  exact hall j hj (by have := HN.out; omega) p hp
                subst hE
                clear hik hall
                go_wp2_with fail
                go_ret2
                first | exact ⟨HC1.out.nil ci, .inl ⟨rfl, K, rfl, HR.out.chg ci⟩⟩ | exact ⟨HC1.out.nil ci, K, rfl, HR.out.chg ci⟩
end Go.Proofs.Ytphmplbcegibjaa
