/- Contracts of package bits: the writer. A writer in memory stands for the list of the bits that it has been given. No statement of the seat is proved here. -/
import Derived.Test.YtoacegccpajkoaaChecked
import Derived.Test.YtoacegccpajkoaaNum
namespace Go.Proofs.Ytoacegccpajkoaa
open Go.RowKit Go.Aq

theorem sl_u8 : SliceTy Try.prog 31 5 (.int .u8 0) 1 1 := ⟨Try.underlying31, by kernel_rfl, rfl, by decide⟩

/-- At block p lies a writer that has the bits l; its blocks are S. -/
def Wr (w : World) (S : List Nat) (p : Nat) (l : List Bool) : Prop :=
  ∃ v, Blk w p #[v, .int .i64 l.length] 72 ∧ Own w 5 1 v ((l.length + 7) / 8) (Bs (pack l)) ∧ S = p :: v.ownBlock.toList

theorem Wr.chg {w w' : World} {S T : List Nat} {p : Nat} {l : List Bool} (h : Wr w S p l) (c : Chg T w w') (hd : Disj S T) : Wr w' S p l := by
  obtain ⟨v, h1, h2, rfl⟩ := h
  exact ⟨v, h1.chg c (hd p (by simp)), h2.chg c (fun k hk => hd k (by simp at hk ⊢; exact .inr hk)), rfl⟩
theorem Wr.drew {w : World} {S : List Nat} {p : Nat} {l : List Bool} (h : Wr w S p l) : Wr w.drew S p l := h
theorem Wr.lt {w : World} {S : List Nat} {p : Nat} {l : List Bool} (h : Wr w S p l) : In w S := by
  obtain ⟨v, h1, h2, rfl⟩ := h
  intro k hk
  rcases List.mem_cons.1 hk with rfl | hk
  · exact h1.lt
  · exact h2.lt k hk

theorem bit_whole (x : Nat) (hx : x < 4294967296) : (bits BinOp.or IntKind.u8 0 (bits BinOp.and IntKind.u32 (x : Int) 1 % 256)) = ((UInt8.ofNat (x.testBit 0).toNat).toNat : Int) := by
  rw [u32and1N x hx]
  have h : (((x % 2 : Nat) : Int) % 256) = ((x % 2 : Nat) : Int) := by omega
  rw [h]
  have h2 := u8orN 0 (x % 2) (by decide) (by omega)
  rw [Nat.zero_or] at h2
  have e : (x.testBit 0).toNat = x % 2 := by rw [Nat.testBit_zero]; rcases Nat.mod_two_eq_zero_or_one x with h | h <;> simp [h]
  rw [e]
  rw [show ((0 : Nat) : Int) = 0 from rfl] at h2
  rw [h2]
  have : (UInt8.ofNat (x % 2)).toNat = x % 2 := by simp [UInt8.toNat_ofNat']; omega
  rw [this]
theorem bit_part (x a k : Nat) (hx : x < 4294967296) (hk : k < 8) (ha : a < 2 ^ k) :
    (bits BinOp.or IntKind.u8 (a : Int) (bits BinOp.and IntKind.u32 (x : Int) 1 % 256 * 2 ^ k % 256)) = ((UInt8.ofNat (a + 2 ^ k * (x.testBit 0).toNat)).toNat : Int) := by
  rw [u32and1N x hx]
  have e : (x.testBit 0).toNat = x % 2 := by rw [Nat.testBit_zero]; rcases Nat.mod_two_eq_zero_or_one x with h | h <;> simp [h]
  rw [e]
  have h8 : 2 ^ k ≤ 2 ^ 7 := Nat.pow_le_pow_right (by decide) (by omega)
  have hb : (x % 2) * 2 ^ k < 256 := by
    have : (x % 2) * 2 ^ k ≤ 1 * 2 ^ k := Nat.mul_le_mul_right _ (by omega)
    omega
  have h : ((((x % 2 : Nat) : Int) % 256) * 2 ^ k % 256) = (((x % 2) * 2 ^ k : Nat) : Int) := by
    have h1 : (((x % 2 : Nat) : Int) % 256) = ((x % 2 : Nat) : Int) := by omega
    rw [h1]
    have h2 : (((x % 2 : Nat) : Int)) * 2 ^ k = (((x % 2) * 2 ^ k : Nat) : Int) := by simp
    rw [h2]; omega
  rw [h, u8orN a _ (by omega) hb, or_shift a (x % 2) k ha]
  have hs : a + 2 ^ k * (x % 2) < 2 ^ (k + 1) := by
    rw [Nat.pow_succ]
    have : 2 ^ k * (x % 2) ≤ 2 ^ k * 1 := Nat.mul_le_mul_left _ (by omega)
    omega
  have hs2 : 2 ^ (k + 1) ≤ 2 ^ 8 := Nat.pow_le_pow_right (by decide) (by omega)
  have : (UInt8.ofNat (a + 2 ^ k * (x % 2))).toNat = a + 2 ^ k * (x % 2) := by rw [UInt8.toNat_ofNat']; exact Nat.mod_eq_of_lt (Nat.lt_of_lt_of_le hs hs2)
  rw [this]

theorem Wr.mk {w : World} {p : Nat} {l : List Bool} {v : Value} {n m : Nat} {bs : List UInt8} (h1 : Blk w p #[v, .int .i64 n] 72) (h2 : Own w 5 1 v m (Bs bs))
    (e1 : n = l.length) (e2 : m = (l.length + 7) / 8) (e3 : bs = pack l) : Wr w (p :: v.ownBlock.toList) p l := by
  subst e1 e2 e3; exact ⟨v, h1, h2, rfl⟩

set_option maxHeartbeats 400000 in
theorem one_whole (w : World) (S : List Nat) (p : Nat) (l : List Bool) (x : Nat) (hx : x < 4294967296) (hn : l.length % 8 = 0) (hn2 : l.length ≤ 1000000000000) (h : Wr w S p l) :
    Calls Try.prog 44 #[.pointer (some ⟨p, 0, none⟩), .int .u32 x] w fun e w' => e = .returned (.tuple #[]) ∧ ∃ S', Wr w' S' p (l ++ [x.testBit 0]) ∧ Upd S S' w w' := by
  obtain ⟨v, hp, hown, rfl⟩ := h
  have HN := Lib.hid (rfl : l.length = l.length)
  generalize hl : l.length = n at *
  have HL := Lib.hid hl; clear hl HN
  rw [show (n + 7) / 8 = n / 8 by omega] at hown
  obtain ⟨⟨c0, c1⟩, f0, f1⟩ := hp.c2
  have hpo := hown.ne hp (by decide)
  have ht : ((n : Int) % 8 == 0) = true := by simp; omega
  go_enter Try.func44, Try.ntmps44
  go_wp2_with (at_builtin; refine wpList_push rfl _ _ 31 rfl sl_u8 hown rfl rfl rfl (by omega) (by omega) ?_)
  intro g cap w1 ho1 hc1 hg1 hcap hgl
  have hp1 := hp.chg hc1 hpo
  obtain ⟨⟨d0, d1⟩, e0, e1⟩ := hp1.c2
  have gg := ho1.ne hp1 (by decide)
  have gg' : g ≠ p := by rintro rfl; exact gg (by simp [Value.ownBlock])
  have x0 : w1.cell? ⟨g, n/8, none⟩ = some (.int .u8 0) := by
    rw [ho1.cellAt (n/8) (by omega)]; rw [List.getElem?_append_right (by have := hown.len; omega)]; have := hown.len; simp [this]
  have x1 : w1.frozen? ⟨g, n/8, none⟩ = false := ho1.frozenAt _
  go_wp2
  go_region
  all_goals go_wp2
  all_goals go_end0
  rw [bit_whole x hx]
  refine ⟨rfl, _, Wr.mk (v := .slice (some ⟨g, 0, none⟩) (n / 8 + 1) cap) (n := n + 1) (m := n / 8 + 1) (bs := pack l ++ [UInt8.ofNat (x.testBit 0).toNat]) ?_ ?_ ?_ ?_ ?_, ?_, ?_⟩
  · exact (((hp1.set 0 _).set_ne (a := ⟨g, n / 8, none⟩) (fun h => gg' h.symm) _).set 1 _).drew
  · have h2 : Bs (pack l ++ [UInt8.ofNat (x.testBit 0).toNat]) = (Bs (pack l) ++ [Value.int IntKind.u8 0]).set (n / 8) (.int .u8 ((UInt8.ofNat (x.testBit 0).toNat).toNat : Int)) := by
      have hl := hown.len
      rw [Bs_append, List.set_append_right _ _ (by omega), show n / 8 - (Bs (pack l)).length = 0 by omega]
      rfl
    rw [h2]
    exact ((ho1.set_ne (a := ⟨p, 0, none⟩) gg _).set (n / 8) _).set_ne (a := ⟨p, 1, none⟩) gg _
  · rw [← HL.out]; simp
  · rw [List.length_append, HL.out]; simp; omega
  · exact (pack_snoc_whole l _ (by rw [HL.out]; exact hn)).symm
  · refine Chg.drew (Chg.setCell (Chg.setCell (Chg.setCell (hc1.mono (fun i hi => .inl (List.mem_cons_of_mem _ hi))) (by simp) _) ?_ _) (by simp) _)
    rcases hg1 with h | h
    · left; simp [h]
    · right; exact h
  · intro k hk
    simp [Value.ownBlock] at hk
    rcases hk with rfl | rfl
    · simp
    · rcases hg1 with h | h
      · left; simp [h]
      · right; exact h

set_option maxHeartbeats 400000 in
theorem one_part (w : World) (S : List Nat) (p : Nat) (l : List Bool) (x : Nat) (hx : x < 4294967296) (hn : l.length % 8 ≠ 0) (hn2 : l.length ≤ 1000000000000) (h : Wr w S p l) :
    Calls Try.prog 44 #[.pointer (some ⟨p, 0, none⟩), .int .u32 x] w fun e w' => e = .returned (.tuple #[]) ∧ ∃ S', Wr w' S' p (l ++ [x.testBit 0]) ∧ Upd S S' w w' := by
  obtain ⟨v, hp, hown, rfl⟩ := h
  have HPL := Lib.hid (pack_last l hn)
  have HPS := Lib.hid (pack_snoc_part l (x.testBit 0) hn)
  have HW : l.length / 8 < (pack l).length := by rw [pack_length]; omega
  generalize hl : l.length = n at *
  have HL := Lib.hid hl; clear hl
  have hpo := hown.ne hp (by decide)
  obtain ⟨g, cap, rfl, hcap, hcap2, hgl⟩ := hown.pos (by omega)
  obtain ⟨⟨c0, c1⟩, f0, f1⟩ := hp.c2
  have ht : ((n : Int) % 8 == 0) = false := by simp; omega
  have gg' : g ≠ p := by rintro rfl; exact hpo (by simp [Value.ownBlock])
  have x0 : w.cell? ⟨g, n/8, none⟩ = some (.int .u8 ((pack l)[n/8]'HW).toNat) := by
    rw [hown.cellAt (n/8) (by omega), Bs_get]
  have x1 : w.frozen? ⟨g, n/8, none⟩ = false := hown.frozenAt _
  go_enter Try.func44, Try.ntmps44
  go_wp2
  go_region
  all_goals go_wp2
  all_goals go_end0
  have hb8 := bval_lt (l.drop (8 * (n / 8)))
  have hlen8 : (l.drop (8 * (n / 8))).length = n % 8 := by rw [List.length_drop, HL.out]; omega
  rw [hlen8] at hb8
  have hget : ((pack l)[n / 8]'HW).toNat = bval (l.drop (8 * (n / 8))) := by
    have h := HPL.out
    rw [List.getElem?_eq_getElem HW] at h
    simp only [Option.some.injEq] at h
    rw [h, UInt8.toNat_ofNat']
    exact Nat.mod_eq_of_lt (Nat.lt_of_lt_of_le hb8 (Nat.pow_le_pow_right (by decide) (by omega : n % 8 ≤ 8)))
  rw [hget, bit_part x _ (n % 8) hx (by omega) hb8]
  refine ⟨rfl, _, Wr.mk (v := .slice (some ⟨g, 0, none⟩) ((n + 7) / 8) cap) (n := n + 1) (m := (n + 7) / 8) (bs := (pack l).set (n / 8) (UInt8.ofNat (bval (List.drop (8 * (n / 8)) l) + 2 ^ (n % 8) * (x.testBit 0).toNat))) ?_ ?_ ?_ ?_ ?_, ?_, ?_⟩
  · exact ((hp.set_ne (a := ⟨g, n / 8, none⟩) (fun h => gg' h.symm) _).set 1 _).drew
  · rw [← Bs_set]
    exact (hown.set (n / 8) _).set_ne (a := ⟨p, 1, none⟩) hpo _
  · rw [← HL.out]; simp
  · rw [List.length_append, HL.out]; simp; omega
  · exact HPS.out.symm
  · exact Chg.drew (Chg.setCell (Chg.setCell (Chg.refl _ _) (by simp [Value.ownBlock]) _) (by simp) _)
  · intro k hk; exact .inl hk

theorem one_any (w : World) (S : List Nat) (p : Nat) (l : List Bool) (x : Nat) (hx : x < 4294967296) (hn2 : l.length ≤ 1000000000000) (h : Wr w S p l) :
    Calls Try.prog 44 #[.pointer (some ⟨p, 0, none⟩), .int .u32 x] w fun e w' => e = .returned (.tuple #[]) ∧ ∃ S', Wr w' S' p (l ++ [x.testBit 0]) ∧ Upd S S' w w' := by
  by_cases hn : l.length % 8 = 0
  · exact one_whole w S p l x hx hn hn2 h
  · exact one_part w S p l x hx hn hn2 h
end Go.Proofs.Ytoacegccpajkoaa
