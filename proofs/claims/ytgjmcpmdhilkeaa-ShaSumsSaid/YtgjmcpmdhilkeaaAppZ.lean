/- append(s, make([]T, k)...) onto a slice of the call's own; bytes.Clone. No statement of the seat is proved here. -/
import Derived.Test.YtgjmcpmdhilkeaaArr
import Derived.Lib.AppendZerosOnto
import Derived.Lib.AppendZeros
namespace Go.Aq
open Go.RowKit
theorem zeroCells_one (z : Value) (k : Nat) : (Builtin.zeroCells #[z] k).toList = List.replicate k z := by
  apply List.ext_getElem
  · simp [Builtin.zeroCells]
  · intro i h1 h2
    simp [Builtin.zeroCells, Nat.mod_one]
theorem run_appZ {P : Program} (w : World) (t tn ty e : TypeId) (i : TypeInfo) (z : Value) (ht : P.underlying t = some (.slice e)) (kn kq : IntKind) (htn : P.underlying tn = some (.int kn)) (hi : P.info? e = some i) (hz : i.zero = some z)
    (hzc : z.cells = #[z]) (hs1 : i.size = 1) (hz1 : z.oneCell' = true) (g n cap : Nat) (xs : List Value) (hown : Own w e 1 (.slice (some ⟨g, 0, none⟩) n cap) n xs) (k : Nat) (hk : 0 < k)
    (h63 : n + k ≤ 9223372036854775807) (hbytes : (n + k) * i.bytes ≤ 140737488355328) :
    ∃ v' w', (Builtin.append_ #[t, tn] ty #[.slice (some ⟨g, 0, none⟩) n cap, .int kq k]).run P w = .ok v' w' ∧ Own w' e 1 v' (n + k) (xs ++ List.replicate k z) ∧ Chg [g] w w' ∧
      (∀ b ∈ v'.ownBlock.toList, b ∈ [g] ∨ w.heap.size ≤ b) := by
  have h63' : n + k ≤ maxLen := by simpa [maxLen] using h63
  have hxl : xs.length = n := by have := hown.1; omega
  have hkb : k * i.bytes ≤ 140737488355328 := Nat.le_trans (Nat.mul_le_mul_right _ (by omega)) hbytes
  obtain ⟨cur, hg, hnc, hcm, hcs, htake⟩ : ∃ cur : Array Value, w.heap[g]? = some (.cells cur e (0, 0)) ∧ n ≤ cap ∧ cap ≤ maxLen ∧ cur.size = cap ∧ xs = cur.toList.take n := by
    rcases hown.2 with ⟨h, _⟩ | ⟨g', cap', cur, hv, hbg, hg, hnc, hcm, hcs, htake⟩
    · simp at h
    · simp only [Value.slice.injEq, Option.some.injEq, Addr.mk.injEq, and_true, true_and] at hv
      obtain ⟨rfl, rfl⟩ := hv
      exact ⟨cur, hg, hnc, hcm, by simpa using hcs, by simpa using htake.symm⟩
  by_cases hroom : n + k ≤ cap
  · have hw : IntKind.i64.wrap (k : Int) = k := by rw [IntKind.wrap_i64]; omega
    have hst := run_storeCells_at P g n e (List.replicate k z) 0 cur w hg (by simp; omega) (by simp [hz1])
    simp only [Nat.add_zero] at hst
    have h48i : ¬ (281474976710656 < (k : Int) * (i.bytes : Int)) := by rw [← Int.natCast_mul]; omega
    have hneg : ¬ ((k : Int) < 0) := by omega
    have hk0 : k ≠ 0 := by omega
    refine ⟨.slice (some ⟨g, 0, none⟩) (n + k) cap, w.setRow g (cur.toList.take n ++ List.replicate k z ++ cur.toList.drop (n + k)).toArray, ?_, ?_, ?_, ?_⟩
    · simp only [List.length_replicate] at hst
      simp [Builtin.append_, run_underlying ht, run_underlying htn, sizeOf, typeInfo, zeroValue, hi, hz, asInt, asIntOf, hw, hneg, hk0, h48i, hroom, hs1, hzc, zeroCells_one, Addr.add_lit]
      rw [hst]
      simp
    · refine ⟨by simp; omega, .inr ⟨g, cap, _, rfl, Nat.zero_le _, setRow_heap w g cur _ e _ hg, hroom, hcm, ?_, ?_⟩⟩
      · simp; omega
      · rw [htake]
        simp only [Nat.mul_one]
        have : (cur.toList.take n ++ List.replicate k z).length = n + k := by simp; omega
        rw [← this]
        exact List.take_left
    · exact ⟨rfl, rfl, rfl, by simp, fun b _ hb => setRow_other w g b _ (fun e => hb (by simp [e]))⟩
    · intro b hb
      left
      simpa [Value.ownBlock] using hb
  · have hold : ∀ j u, xs[j]? = some u → w.cell? ((⟨g, 0, none⟩ : Addr).add j) = some u := World.ownsRow.cells hown (g := g) rfl
    have hfc : (Builtin.firstCells i.size n (.slice (some ⟨g, 0, none⟩) n cap)).run P w.drew = .ok xs.toArray w.drew :=
      run_firstCells_some (P := P) w.drew i.size n ⟨g, 0, none⟩ n cap xs (by rw [hs1]; omega) hold
    have hr := Lib.run_append_grow_zeros (P := P) w t tn ty e i z kq kn ht htn hi hz (some ⟨g, 0, none⟩) n cap xs hfc k hk (by omega) (by omega) (by omega) (by omega) (growslice_fits (by omega) hbytes)
    have hge := grownCap_ge w (n + k) cap e
    have hcm : grownCap w (n + k) cap e ≤ maxLen := grownCap_le_maxLen w (n + k) cap e h63'
    refine ⟨_, _, hr, ⟨by simp; omega, .inr ⟨w.heap.size, _, _, rfl, Nat.zero_le _, heap_alloc_new w.drew _, hge, hcm, ?_, ?_⟩⟩, ((Chg.refl [g] w).drew).alloc _, by simp [Value.ownBlock]⟩
    · rw [hzc]
      simp [size_zeroCells]
      omega
    · rw [hzc]
      simp only [Array.toList_append, zeroCells_one, Nat.mul_one]
      have : (xs ++ List.replicate k z).length = n + k := by simp; omega
      rw [← this]
      exact List.take_left
theorem wpList_appZ {P : Program} {w0 W : World} {ops : Array Oper} {rest : List Oper} {o : Oper} {a : Act} {Q : Exit → Act → World → Prop} (hgd : o.guard = none) (s x : Operand) (t tn : TypeId)
    (ho : o.op = .call { callee := .builtin .append, args := #[s, x], argTypes := #[t, tn] }) {e : TypeId} {z : Value} {bytes : Nat} (ht : SliceTy P t e z 1 bytes) (hzc : z.cells = #[z]) (hz1 : z.oneCell' = true) {kn kq : IntKind} (htn : P.underlying tn = some (.int kn))
    {g n cap : Nat} {xs : List Value} (hf : Fresh w0 W e 1 (.slice (some ⟨g, 0, none⟩) n cap) n xs) (hs : a.eval s = .slice (some ⟨g, 0, none⟩) n cap) {k : Nat} {L : Int} (hx : a.eval x = .int kq L) (hL : L = (k : Int)) (hk : 0 < k)
    (hb : (n + k) * bytes ≤ 140737488355328) (h63 : n + k ≤ 9223372036854775807)
    (h : ∀ v' W', Fresh w0 W' e 1 v' (n + k) (xs ++ List.replicate k z) → Chg [g] W W' → wpList P ops Q rest (a.put o.dst v') W') : wpList P ops Q (o :: rest) a W := by
  obtain ⟨ht1, ht2, ht3, ht4⟩ := ht
  obtain ⟨i, hi, hz0, h1, rfl⟩ := info_parts ht2
  subst hL
  obtain ⟨v', w', hr, h2, h3, h4⟩ := run_appZ (P := P) W t tn o.type e i z ht1 kn kq htn hi hz0 hzc h1 hz1 g n cap xs hf.own k hk h63 hb
  exact Lib.wpList_append_run W hgd s x t tn ho _ _ hs hx v' w' hr (h v' w' (hf.app h2 h3 h4) h3)
theorem Fresh.of_owns {w w' : World} {e : TypeId} {v : Value} {n : Nat} {xs : List Value} (h : w'.ownsRow w.heap.size e 1 v n xs) (hb : Below w.heap.size w w') : Fresh w w' e 1 v n xs := by
  refine ⟨⟨h.1, ?_⟩, Chg.of_below hb, ?_⟩
  · rcases h.2 with h2 | ⟨g, cap, cur, h3, _, h4⟩
    · exact .inl h2
    · exact .inr ⟨g, cap, cur, h3, Nat.zero_le _, h4⟩
  · intro k hk
    rcases h.2 with ⟨rfl, _⟩ | ⟨g, cap, cur, rfl, hg, _⟩
    · simp [Value.ownBlock] at hk
    · simp [Value.ownBlock] at hk
      omega
end Go.Aq
