/- Contracts of aquref1.constants, aquref1.turn; a law for copy. No statement of the seat is proved here. -/
import Derived.Test.YtgjmcpmdhilkeaaShaKeys
import Derived.Laws.CopyOwn
set_option linter.unusedVariables false
namespace Go.Aq
open Go.RowKit
theorem Own.blk {w : World} {e : TypeId} {g n : Nat} {xs : List Value} (h : Own w e 1 (.slice (some ⟨g, 0, none⟩) n n) n xs) : Blk w g xs.toArray e := by
  rcases h.2 with ⟨h, _⟩ | ⟨g', cap', cur, hv, hbg, hg, hnc, hcm, hcs, htake⟩
  · simp at h
  · simp only [Value.slice.injEq, Option.some.injEq, Addr.mk.injEq, and_true, true_and] at hv
    obtain ⟨rfl, rfl⟩ := hv
    have : xs.toArray = cur := by
      rw [← htake, List.take_of_length_le (by simp only [Array.length_toList]; omega)]
    rw [this]
    exact hg
/-- copy of a whole array or slice into one of the same length that is known whole. -/
theorem wpList_cp {P : Program} {w : World} {ops : Array Oper} {rest : List Oper} {o : Oper} {a : Act} {Q : Exit → Act → World → Prop} (hgd : o.guard = none) (d s : Operand) (dT sT : TypeId)
    (ho : o.op = .call { callee := .builtin .copy, args := #[d, s], argTypes := #[dT, sT] }) (elem : TypeId) (hu : P.underlying dT = some (.slice elem)) (hsz : (P.info? elem).map (·.size) = some 1)
    {g n c gs cs' : Nat} {cur src : List Value} {t ts : TypeId} (hb : Blk w g cur.toArray t) (hs : Blk w gs src.toArray ts) (hcl : cur.length = n) (hsl : src.length = n) (h1 : ∀ v ∈ src, v.oneCell' = true)
    (hd : a.eval d = .slice (some ⟨g, 0, none⟩) n c) (hx : a.eval s = .slice (some ⟨gs, 0, none⟩) n cs')
    (h : ∀ w', Blk w' g src.toArray t → Chg [g] w w' → w'.heap.size = w.heap.size → wpList P ops Q rest (a.put o.dst (goInt n)) w') : wpList P ops Q (o :: rest) a w := by
  refine wpList_copy_own hgd d s dT sT ho elem hu hsz g 0 n c ⟨gs, 0, none⟩ n cs' hd hx cur.toArray t hb src (by rw [hsl]; exact (Nat.min_self n).symm) (fun j v hv => ?_) (by simp; omega) h1 ?_
  · rw [Addr.add_lit, Nat.zero_add, hs.cell]
    simpa using hv
  · have e : (cur.toArray.toList.take 0 ++ (src ++ cur.toArray.toList.drop (0 + src.length))) = src := by
      simp only [List.take_zero, List.nil_append, Nat.zero_add]
      rw [List.drop_of_length_le (by show cur.length ≤ src.length; omega), List.append_nil]
    rw [e, hsl]
    exact h _ (setRow_heap w g cur.toArray src.toArray t _ hb) ⟨rfl, rfl, rfl, by simp, fun k _ hk => setRow_other w g k _ (fun e => hk (by simp [e]))⟩ (by simp)
end Go.Aq
namespace Go.Proofs.Ytgjmcpmdhilkeaa
open Go.RowKit Go.Aq Go.Aq.Sha
theorem rot_or' (x k : Nat) (hx : x < 4294967296) (h1 : 1 ≤ k) (h2 : k ≤ 31) : bits .or .u32 ((x : Int) / 2 ^ k) (IntKind.u32.wrap ((x : Int) * 2 ^ (32 - k))) = ((rotr x k : Nat) : Int) := by
  have e1 : IntKind.u32.wrap ((x : Int) * 2 ^ (32 - k)) = ((x * 2 ^ (32 - k) % 4294967296 : Nat) : Int) := by rw [IntKind.wrap_u32]; simp
  have e2 : (x : Int) / 2 ^ k = ((x / 2 ^ k : Nat) : Int) := by simp
  have hlt : x / 2 ^ k < 4294967296 := Nat.lt_of_le_of_lt (Nat.div_le_self _ _) hx
  have h := rot_or x k hx h1 h2
  rw [e1, e2] at h ⊢
  rw [(bits_u32 _ _ (Nat.mod_lt _ (by decide)) hlt).2.1] at h
  rw [(bits_u32 _ _ hlt (Nat.mod_lt _ (by decide))).2.1, Nat.or_comm]
  exact h
set_option maxHeartbeats 400000 in
theorem turn_any (x k : Nat) (hx : x < 4294967296) (h1 : 1 ≤ k) (h2 : k ≤ 31) (w : World) : Calls Try.prog 20 #[.int .u32 x, .int .i64 k] w fun e w' => e = .returned (.int .u32 (rotr x k : Nat)) ∧ ∃ n, w' = w.drewN n := by
  have HO := Lib.hid (rot_or' x k hx h1 h2)
  obtain ⟨s, hs⟩ : ∃ s, 32 - k = s := ⟨_, rfl⟩
  rw [hs] at HO
  have hsi : (32 : Int) - (k : Int) = (s : Int) := by omega
  have hsb : 1 ≤ s ∧ s ≤ 31 := by omega
  obtain ⟨hs1, hs2⟩ := hsb
  clear hs
  go_enter Try.func20, Try.ntmps20
  go_wp2_with fail
  go_quiet (fail)
  go_wp2_with fail
  go_ret
  exact ⟨ret_int HO.out, _, rfl⟩
set_option maxHeartbeats 400000 in
theorem const_any (w : World) : Calls Try.prog 19 #[] w fun e w' => ∃ B, e = .returned (.slice (some ⟨B, 0, none⟩) 64 64) ∧ Blk w' B (Ws K).toArray 33 ∧ Chg [] w w' ∧ w.heap.size ≤ B := by
  go_enter Try.func19, Try.ntmps19
  go_wp2_with fail
  go_ret
  exact ⟨w.heap.size, rfl, Blk.new w _ _, (Chg.refl _ _).alloc _, Nat.le_refl _⟩
end Go.Proofs.Ytgjmcpmdhilkeaa
