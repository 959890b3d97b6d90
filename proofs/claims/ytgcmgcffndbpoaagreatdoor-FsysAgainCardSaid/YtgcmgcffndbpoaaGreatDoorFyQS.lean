/- FyQ, FyR, FyS in one text. No statement of the seat is proved here. -/
import Derived.Test.YtgcmgcffndbpoaaGreatDoorFyJP
set_option linter.unusedSimpArgs false
set_option linter.unusedVariables false
/- Files in memory: the relations; has, gone. No statement of the seat is proved here. -/
namespace Go.Aq
theorem Blk.c3b {w : World} {p : Nat} {a b c : Value} {t : TypeId} (h : Blk w p #[a, b, c] t) :
    (w.cell? ⟨p, 0, none⟩ = some a ∧ w.cell? ⟨p, 1, none⟩ = some b ∧ w.cell? ⟨p, 2, none⟩ = some c) ∧ w.frozen? ⟨p, 0, none⟩ = false ∧ w.frozen? ⟨p, 1, none⟩ = false ∧ w.frozen? ⟨p, 2, none⟩ = false :=
  ⟨⟨h.cell 0, h.cell 1, h.cell 2⟩, h.frozen 0, h.frozen 1, h.frozen 2⟩
/-- A store into a map, said of one operation. -/
theorem wp_upd {P : Program} {w w' : World} {o : Oper} {a : Act} {K : Act → World → Prop} {Q : Exit → Act → World → Prop} (m x v : Operand) (t : TypeId) (hop : o.op = Op.mapUpdate t m x v) {mv xv vv : Value}
    (hm : a.eval m = mv) (hx : a.eval x = xv) (hv : a.eval v = vv) (hr : (Instr.mapUpdate t mv xv vv).run P w = .ok () w') (hK : K (a.put o.dst undef) w') : o.wp P a w K Q := by
  unfold Oper.wp
  simp [execOp, hop, hm, hx, hv, hr, Result.andThen]
  exact hK
end Go.Aq
namespace Go.Proofs.YtgcmgcffndbpoaaGreatDoor
open Go.RowKit Go.Aq Go.Aq.Fy Go.Maps
theorem keyS : (Tryz.prog).underlying 9 = some .string := Tryz.underlying9
def ints (l : List Nat) : List Value := l.map fun k : Nat => Value.int .i64 (k : Int)
theorem ints_len (l : List Nat) : (ints l).length = l.length := by simp [ints]
/-- A file in memory. -/
def FileV (w : World) (S : List Nat) (x : FileD) (y : Value) : Prop := ∃ v, y = .agg #[.int .i64 x.size, v] ∧ Sees w 1 v x.blocks.length (ints x.blocks) ∧ Disj (eyes v) S
/-- Bytes in memory. -/
def BytesV (w : World) (S : List Nat) (b : Sec) (v : Value) : Prop := Sees w 1 v b.length (Bs b) ∧ Disj (eyes v) S
theorem FileV.chg {w w' : World} {S T : List Nat} {x : FileD} {y : Value} (h : FileV w S x y) (c : Chg T w w') (hT : ∀ k ∈ T, k ∈ S ∨ w.heap.size ≤ k) : FileV w' S x y := by
  obtain ⟨v, rfl, h1, h2⟩ := h
  exact ⟨v, rfl, h1.chg c fun k hk hk' => by
    rcases hT k hk' with h3 | h3
    · exact h2 k hk h3
    · have := h1.lt (by decide) k hk; omega, h2⟩
theorem BytesV.chg {w w' : World} {S T : List Nat} {b : Sec} {v : Value} (h : BytesV w S b v) (c : Chg T w w') (hT : ∀ k ∈ T, k ∈ S ∨ w.heap.size ≤ k) : BytesV w' S b v :=
  ⟨h.1.chg c fun k hk hk' => by
    rcases hT k hk' with h3 | h3
    · exact h.2 k hk h3
    · have := h.1.lt (by decide) k hk; omega, h.2⟩
theorem FileV.wide {w : World} {S S' : List Nat} {x : FileD} {y : Value} (h : FileV w S x y) (hs : ∀ k ∈ S', k ∈ S ∨ w.heap.size ≤ k) : FileV w S' x y := by
  obtain ⟨v, rfl, h1, h2⟩ := h
  exact ⟨v, rfl, h1, fun k hk hk' => by
    rcases hs k hk' with h3 | h3
    · exact h2 k hk h3
    · have := h1.lt (by decide) k hk; omega⟩
theorem BytesV.wide {w : World} {S S' : List Nat} {b : Sec} {v : Value} (h : BytesV w S b v) (hs : ∀ k ∈ S', k ∈ S ∨ w.heap.size ≤ k) : BytesV w S' b v :=
  ⟨h.1, fun k hk hk' => by
    rcases hs k hk' with h3 | h3
    · exact h.2 k hk h3
    · have := h.1.lt (by decide) k hk; omega⟩
/-- Block b is the map of the files L. -/
def FilesR (w : World) (S : List Nat) (b : Nat) (L : Files) : Prop := ∃ l, MapS Tryz.prog 9 w b l ∧ Two (fun _ => FileV w S) L l
/-- Block b is the map of texts to bytes L. -/
def FreshR (w : World) (S : List Nat) (b : Nat) (L : List (Nm × Sec)) : Prop := ∃ l, MapS Tryz.prog 9 w b l ∧ Two (fun _ => BytesV w S) L l
section
variable {w w' : World} {S T : List Nat} {b : Nat}
theorem FilesR.chg {L : Files} (h : FilesR w S b L) (c : Chg T w w') (hT : ∀ k ∈ T, k ∈ S ∨ w.heap.size ≤ k) (hb : b ∉ T) : FilesR w' S b L := by
  obtain ⟨l, h1, h2⟩ := h
  exact ⟨l, h1.chg c hb, h2.imp fun _ _ _ h => h.chg c hT⟩
theorem FreshR.chg {L : List (Nm × Sec)} (h : FreshR w S b L) (c : Chg T w w') (hT : ∀ k ∈ T, k ∈ S ∨ w.heap.size ≤ k) (hb : b ∉ T) : FreshR w' S b L := by
  obtain ⟨l, h1, h2⟩ := h
  exact ⟨l, h1.chg c hb, h2.imp fun _ _ _ h => h.chg c hT⟩
theorem FilesR.chg0 {L : Files} (h : FilesR w S b L) (c : Chg [] w w') : FilesR w' S b L := h.chg c (by simp) (by simp)
theorem FreshR.chg0 {L : List (Nm × Sec)} (h : FreshR w S b L) (c : Chg [] w w') : FreshR w' S b L := h.chg c (by simp) (by simp)
theorem FilesR.wide {L : Files} (h : FilesR w S b L) (hs : ∀ k ∈ T, k ∈ S ∨ w.heap.size ≤ k) : FilesR w T b L := by
  obtain ⟨l, h1, h2⟩ := h
  exact ⟨l, h1, h2.imp fun _ _ _ h => h.wide hs⟩
theorem FreshR.wide {L : List (Nm × Sec)} (h : FreshR w S b L) (hs : ∀ k ∈ T, k ∈ S ∨ w.heap.size ≤ k) : FreshR w T b L := by
  obtain ⟨l, h1, h2⟩ := h
  exact ⟨l, h1, h2.imp fun _ _ _ h => h.wide hs⟩
theorem FilesR.lt {L : Files} (h : FilesR w S b L) : b < w.heap.size := by obtain ⟨l, h1, -⟩ := h; exact h1.lt
theorem FreshR.lt {L : List (Nm × Sec)} (h : FreshR w S b L) : b < w.heap.size := by obtain ⟨l, h1, -⟩ := h; exact h1.lt
theorem FilesR.asc {L : Files} (h : FilesR w S b L) : (L.map (·.1)).Pairwise (· < ·) := by
  obtain ⟨l, h1, h2⟩ := h
  rw [h2.keys]
  exact List.pairwise_map.2 h1.asc
theorem FilesR.asc' {L : Files} (h : FilesR w S b L) : Asc L := List.pairwise_map.1 h.asc
end
/-- Files under change: the work at g has the files' map bl and the told bytes' map br. -/
structure WorkR (w : World) (S : List Nat) (g f bl br : Nat) (W : WorkD) : Prop where
  blk : Blk w g #[.pointer (some ⟨f, 0, none⟩), .map (some bl), .map (some br)] 78
  files : FilesR w (bl :: br :: S) bl W.files
  fresh : FreshR w (bl :: br :: S) br W.fresh
  ne : bl ≠ br
  offg : g ∉ bl :: br :: S
  offl : bl ∉ S
  offr : br ∉ S
section
variable {w w' : World} {S T : List Nat} {g f bl br : Nat} {W : WorkD}
theorem WorkR.chg (h : WorkR w S g f bl br W) (c : Chg T w w') (hT : ∀ k ∈ T, k ∈ S ∨ w.heap.size ≤ k) : WorkR w' S g f bl br W := by
  have hT' : ∀ k ∈ T, k ∈ bl :: br :: S ∨ w.heap.size ≤ k := fun k hk => (hT k hk).imp (fun h => by simp [h]) id
  refine ⟨h.blk.chg c fun hg => ?_, h.files.chg c hT' fun hg => ?_, h.fresh.chg c hT' fun hg => ?_, h.ne, h.offg, h.offl, h.offr⟩
  · rcases hT _ hg with h1 | h1
    · exact h.offg (by simp [h1])
    · have := h.blk.lt; omega
  · rcases hT _ hg with h1 | h1
    · exact h.offl h1
    · have := h.files.lt; omega
  · rcases hT _ hg with h1 | h1
    · exact h.offr h1
    · have := h.fresh.lt; omega
theorem WorkR.chg0 (h : WorkR w S g f bl br W) (c : Chg [] w w') : WorkR w' S g f bl br W := h.chg c (by simp)
/-- The files have turned. -/
theorem WorkR.putL (h : WorkR w S g f bl br W) (c : Chg [bl] w w') {L : Files} (hL : FilesR w' (bl :: br :: S) bl L) : WorkR w' S g f bl br { W with files := L } := by
  refine ⟨h.blk.chg c fun hg => ?_, hL, h.fresh.chg c (fun k hk => .inl (by simp at hk; simp [hk])) fun hg => ?_, h.ne, h.offg, h.offl, h.offr⟩
  · exact h.offg (by simp at hg; simp [hg])
  · simp at hg; exact h.ne hg.symm
theorem WorkR.putR (h : WorkR w S g f bl br W) (c : Chg [br] w w') {L : List (Nm × Sec)} (hL : FreshR w' (bl :: br :: S) br L) : WorkR w' S g f bl br { W with fresh := L } := by
  refine ⟨h.blk.chg c fun hg => ?_, h.files.chg c (fun k hk => .inl (by simp at hk; simp [hk])) fun hg => ?_, hL, h.ne, h.offg, h.offl, h.offr⟩
  · exact h.offg (by simp at hg; simp [hg])
  · simp at hg; exact h.ne hg
end
theorem zeroFile (w : World) : (zeroValue 72).run Tryz.prog w = .ok (.agg #[.int .i64 0, .slice none 0 0]) w := by kernel_rfl
set_option maxRecDepth 100000 in
set_option maxHeartbeats 2000000 in
theorem has_ok (w : World) (S : List Nat) (g f bl br : Nat) (W : WorkD) (h : WorkR w S g f bl br W) (s : Nm) (hs : s.length ≤ 1048576) :
    Calls Tryz.prog 60 #[.pointer (some ⟨g, 0, none⟩), .string (str s)] w fun e w' => e = .returned (.bool (hasF W.files s)) ∧ Chg [] w w' := by
  obtain ⟨⟨-, y1, -⟩, -⟩ := h.blk.c3b
  obtain ⟨l, hM, h2⟩ := h.files
  obtain ⟨-, l2⟩ := hM.look keyS Tryz.underlying69 (zeroFile w) s hs
  have e : (lookK s l).isSome = hasF W.files s := by
    unfold hasF
    rcases h2.look s with ⟨e1, e2⟩ | ⟨x, y, e1, e2, -⟩ <;> simp [e1, e2]
  have sh : ∃ (n : Nat) (ao : Option Addr) (m cap : Nat), (lookK s l).getD (.agg #[.int .i64 0, .slice none 0 0]) = .agg #[.int .i64 n, .slice ao m cap] := by
    rcases h2.look s with ⟨e1, e2⟩ | ⟨x, y, e1, e2, v, rfl, hv, -⟩
    · rw [e2]; exact ⟨0, none, 0, 0, rfl⟩
    · obtain ⟨ao, cap, rfl, -⟩ := hv.shape
      rw [e2]; exact ⟨_, _, _, _, rfl⟩
  obtain ⟨n, ao, m, cap, sh⟩ := sh
  rw [e, sh] at l2
  clear h hM h2 e sh
  go_enter Tryz.func60, Tryz.ntmps60
  go_wp2_with fail
  go_ret
  exact ⟨rfl, (Chg.refl _ _).alloc _⟩
theorem FilesR.drop {w : World} {S : List Nat} {b : Nat} {L : Files} (h : FilesR w S b L) (s : Nm) (hs : s.length ≤ 1048576) (hb : b ∈ S) (ty : TypeId) :
    ∃ w', (Builtin.delete_ #[69, 9] ty #[.map (some b), .string (str s)]).run Tryz.prog w = .ok (.tuple #[]) w' ∧ FilesR w' S b (delK s L) ∧ Chg [b] w w' := by
  obtain ⟨l, h1, h2⟩ := h
  obtain ⟨w', r, m, c⟩ := h1.drop keyS Tryz.underlying69 s hs ty
  exact ⟨w', r, ⟨_, m, (h2.del s).imp fun _ _ _ h => h.chg c (fun k hk => .inl (by rw [List.mem_singleton.1 hk]; exact hb))⟩, c⟩
theorem FreshR.drop {w : World} {S : List Nat} {b : Nat} {L : List (Nm × Sec)} (h : FreshR w S b L) (s : Nm) (hs : s.length ≤ 1048576) (hb : b ∈ S) (ty : TypeId) :
    ∃ w', (Builtin.delete_ #[76, 9] ty #[.map (some b), .string (str s)]).run Tryz.prog w = .ok (.tuple #[]) w' ∧ FreshR w' S b (delK s L) ∧ Chg [b] w w' := by
  obtain ⟨l, h1, h2⟩ := h
  obtain ⟨w', r, m, c⟩ := h1.drop keyS Tryz.underlying76 s hs ty
  exact ⟨w', r, ⟨_, m, (h2.del s).imp fun _ _ _ h => h.chg c (fun k hk => .inl (by rw [List.mem_singleton.1 hk]; exact hb))⟩, c⟩
theorem FilesR.put {w : World} {S : List Nat} {b : Nat} {L : Files} (h : FilesR w S b L) (s : Nm) (hs : s.length ≤ 1048576) (hb : b ∈ S) (hn : L.length ≤ 1000000) {x : FileD} {y : Value} (hv : FileV w S x y) :
    ∃ w', (Instr.mapUpdate 69 (.map (some b)) (.string (str s)) y).run Tryz.prog w = .ok () w' ∧ FilesR w' S b (insK s x L) ∧ Chg [b] w w' := by
  obtain ⟨l, h1, h2⟩ := h
  obtain ⟨w', r, m, c⟩ := h1.put keyS Tryz.underlying69 (by rw [← h2.len]; exact hn) s hs y
  exact ⟨w', r, ⟨_, m, (Two.ins hv h2).imp fun _ _ _ h => h.chg c (fun k hk => .inl (by rw [List.mem_singleton.1 hk]; exact hb))⟩, c⟩
theorem FreshR.put {w : World} {S : List Nat} {b : Nat} {L : List (Nm × Sec)} (h : FreshR w S b L) (s : Nm) (hs : s.length ≤ 1048576) (hb : b ∈ S) (hn : L.length ≤ 1000000) {x : Sec} {y : Value} (hv : BytesV w S x y) :
    ∃ w', (Instr.mapUpdate 76 (.map (some b)) (.string (str s)) y).run Tryz.prog w = .ok () w' ∧ FreshR w' S b (insK s x L) ∧ Chg [b] w w' := by
  obtain ⟨l, h1, h2⟩ := h
  obtain ⟨w', r, m, c⟩ := h1.put keyS Tryz.underlying76 (by rw [← h2.len]; exact hn) s hs y
  exact ⟨w', r, ⟨_, m, (Two.ins hv h2).imp fun _ _ _ h => h.chg c (fun k hk => .inl (by rw [List.mem_singleton.1 hk]; exact hb))⟩, c⟩
theorem FilesR.len {w : World} {S : List Nat} {b : Nat} {L : Files} (h : FilesR w S b L) (ty : TypeId) : (Builtin.len_ #[69] ty #[.map (some b)]).run Tryz.prog w = .ok (.int .i64 L.length) w := by
  obtain ⟨l, h1, h2⟩ := h
  rw [h2.len]
  exact h1.len Tryz.underlying69 ty
set_option maxRecDepth 100000 in
set_option maxHeartbeats 2000000 in
theorem gone_ok (w : World) (S : List Nat) (g f bl br : Nat) (W : WorkD) (h : WorkR w S g f bl br W) (s : Nm) (hs : s.length ≤ 1048576) :
    Calls Tryz.prog 64 #[.pointer (some ⟨g, 0, none⟩), .string (str s)] w fun e w' => e = .returned (.tuple #[]) ∧ WorkR w' S g f bl br (goneW W s) ∧ Chg [bl, br] w w' := by
  obtain ⟨⟨-, y1, -⟩, -⟩ := h.blk.c3b
  obtain ⟨w1, r1, m1, c1⟩ := h.files.drop s hs (by simp) 0
  have h1 := h.putL c1 m1
  obtain ⟨⟨-, -, y2⟩, -⟩ := h1.blk.c3b
  obtain ⟨w2, r2, m2, c2⟩ := h1.fresh.drop s hs (by simp) 0
  have h2 := h1.putR c2 m2
  have HH := Lib.hid (And.intro h2 (show Chg [bl, br] w w2 from (c1.mono (fun k hk => .inl (by simp at hk; simp [hk]))).tr (c2.mono (fun k hk => .inl (by simp at hk; simp [hk])))))
  clear h h1 h2 m1 m2 c1 c2
  go_enter Tryz.func64, Tryz.ntmps64
  go_wp2_with fail
  go_end0
  exact ⟨rfl, HH.out⟩
/-- How tell ends. -/
def TellEnd (w : World) (S : List Nat) (g f bl br : Nat) (R : WorkD × Nat) (e : Ending) (w' : World) : Prop :=
  e = .returned (.int .i64 R.2) ∧ WorkR w' S g f bl br R.1 ∧ Chg [bl, br] w w'
set_option maxRecDepth 100000 in
set_option maxHeartbeats 4000000 in
theorem tell_ok (w : World) (S : List Nat) (g f bl br : Nat) (W : WorkD) (h : WorkR w S g f bl br W) (hin : In w S) (s : Nm) (hs : s.length ≤ 1048576) (b : Sec) (v : Value) (hv : Sees w 1 v b.length (Bs b)) (hd : Disj (eyes v) [bl, br]) (hb : b.length ≤ 100000000) (hl : W.files.length ≤ 1000) (hr : W.fresh.length ≤ 1000) :
    Calls Tryz.prog 61 #[.pointer (some ⟨g, 0, none⟩), .string (str s), v] w (TellEnd w S g f bl br (tellW W s b)) := by
  have hh := has_ok w S g f bl br W h s hs
  obtain ⟨ao, cap, rfl, -⟩ := hv.shape
  obtain ⟨n, hn⟩ : ∃ n, b.length = n := ⟨_, rfl⟩
  obtain ⟨m, hm⟩ : ∃ m, W.files.length = m := ⟨_, rfl⟩
  obtain ⟨q, hq⟩ : ∃ q, hasF W.files s = q := ⟨_, rfl⟩
  have HN := Lib.hid (And.intro hn (And.intro hm hq))
  have HV := Lib.hid (And.intro hv (And.intro hd hin))
  have HL := Lib.hid (And.intro hl hr)
  have HR := Lib.hid h
  rw [hn] at hb
  rw [hn]
  rw [hq] at hh
  rw [hm] at hl
  clear h hv hd hn hm hq hr hin
  go_enter Tryz.func61, Tryz.ntmps61
  by_cases hbig : 65535 < n
  · have HB := Lib.hid hbig
    have t1 : decide ((65535 : Int) < (n : Int)) = true := by simp; omega
    clear hbig hh
    go_wp2_with fail
    go_ret
    unfold TellEnd
    rw [show tellW W s b = (W, 10) from if_pos (.inl (by rw [HN.out.1]; exact HB.out))]
    exact ⟨rfl, HR.out, Chg.refl _ _⟩
  · have HB := Lib.hid hbig
    have t1 : decide ((65535 : Int) < (n : Int)) = false := by simp; omega
    clear hbig
    go_wp2_with fail
    refine hh.mono ?_
    rintro e w1 ⟨rfl, c1⟩
    have R1 := Lib.hid (HR.out.chg0 c1)
    obtain ⟨⟨-, y1, -⟩, -⟩ := R1.out.blk.c3b
    have ll := R1.out.files.len 3
    rw [HN.out.2.1] at ll
    clear hh
    by_cases hfull : q = false ∧ 400 ≤ m
    · have HF := Lib.hid hfull
      obtain ⟨rfl, hfull⟩ := hfull
      have t2 : decide ((400 : Int) ≤ (m : Int)) = true := by simp; omega
      clear hfull
      go_wp2_with fail
      go_ret
      unfold TellEnd
      rw [show tellW W s b = (W, 10) from if_pos (.inr (by rw [HN.out.2.1, HN.out.2.2]; exact ⟨rfl, HF.out.2⟩))]
      exact ⟨rfl, R1.out, c1.mono (by simp)⟩
    · have e1 : tellW W s b = (⟨insK s ⟨b.length, []⟩ W.files, insK s b W.fresh⟩, 0) := if_neg (by rw [HN.out.1, HN.out.2.1, HN.out.2.2]; exact fun h => h.elim HB.out hfull)
      have E1 := Lib.hid e1
      obtain ⟨w2, r2, m2, k2⟩ := R1.out.files.put s hs (by simp) (by have := HL.out.1; omega) (show FileV w1 (bl :: br :: S) ⟨n, []⟩ (.agg #[.int .i64 n, .slice none 0 0]) from ⟨_, rfl, Sees.nil _ _, by simp [eyes, Disj]⟩)
      have R2 := Lib.hid (R1.out.putL k2 m2)
      have K2 := Lib.hid (And.intro c1 (And.intro (show Chg [bl] w1 w2 from k2) (HV.out.1.chg0 c1)))
      clear m2 k2 c1 e1
      have hq2 : (q = true) ∨ (q = false ∧ m < 400) := by cases q <;> simp_all
      clear hfull
      have fin : ∀ {a : Act} {Q : Exit → Act → World → Prop}, True := fun {_ _} => trivial
      clear fin
      have hx : (!q && decide ((400 : Int) ≤ (m : Int))) = false := by rcases hq2 with rfl | ⟨rfl, h⟩ <;> simp; omega
      rcases hq2 with rfl | ⟨rfl, hm4⟩
      · clear hx ll
        go_upto_region 4 with (fail)
        obtain ⟨⟨-, -, y2⟩, -⟩ := R2.out.blk.c3b
        refine wp_region_U [] (fun i => decide (7 ≤ i)) (by kernel_rfl) ?_
        have c0 : Chg [] w2 w2.drew := (Chg.refl _ _).drew
        obtain ⟨W0, hW0⟩ : ∃ W0, w2.drew = W0 := ⟨_, rfl⟩
        rw [hW0] at c0 ⊢
        clear hW0
        have C0 : Chg [] W0 W0 := Chg.refl _ _
        have y2' := c0.cell_some y2 (by simp)
        clear y2
        refine wpAnyU_take 0 (v := (.pointer (some ⟨g, 0, none⟩))) C0 rfl (by kernel_rfl) (by kernel_rfl) (by kernel_rfl) (by kernel_rfl) (fun _ _ _ h => h) (by rfl) (fun w4 c4 => ?_) ?_
        · go_simp
        try simp only [Act.put, List.getElem_toArray, List.getElem_cons_succ, List.getElem_cons_zero, List.setIfInBounds_toArray, List.set_cons_zero, List.set_cons_succ]
        refine wpAnyU_take 1 (v := (.pointer (some ⟨g, 0, none⟩))) C0 rfl (by kernel_rfl) (by kernel_rfl) (by kernel_rfl) (by kernel_rfl) (fun _ _ _ h => h) (by rfl) (fun w4 c4 => ?_) ?_
        · go_simp
        try simp only [Act.put, List.getElem_toArray, List.getElem_cons_succ, List.getElem_cons_zero, List.setIfInBounds_toArray, List.set_cons_zero, List.set_cons_succ]
        refine wpAnyU_take 2 (v := (.pointer (some ⟨g, 2, none⟩))) C0 rfl (by kernel_rfl) (by kernel_rfl) (by kernel_rfl) (by kernel_rfl) (fun _ _ _ h => h) (by rfl) (fun w4 c4 => ?_) ?_
        · go_simp
        try simp only [Act.put, List.getElem_toArray, List.getElem_cons_succ, List.getElem_cons_zero, List.setIfInBounds_toArray, List.set_cons_zero, List.set_cons_succ]
        refine wpAnyU_take 3 (v := (.map (some br))) C0 rfl (by kernel_rfl) (by kernel_rfl) (by kernel_rfl) (by kernel_rfl) (fun _ _ _ h => h) (by rfl) (fun w4 c4 => ?_) ?_
        · have z := c4.cell_some y2' (by simp)
          go_simp
        try simp only [Act.put, List.getElem_toArray, List.getElem_cons_succ, List.getElem_cons_zero, List.setIfInBounds_toArray, List.set_cons_zero, List.set_cons_succ]
        refine wpAnyU_take 4 (v := (.string (str s))) C0 rfl (by kernel_rfl) (by kernel_rfl) (by kernel_rfl) (by kernel_rfl) (fun _ _ _ h => h) (by rfl) (fun w4 c4 => ?_) ?_
        · go_simp
        try simp only [Act.put, List.getElem_toArray, List.getElem_cons_succ, List.getElem_cons_zero, List.setIfInBounds_toArray, List.set_cons_zero, List.set_cons_succ]
        refine wpAnyU_take 5 (v := (.slice ao n cap)) C0 rfl (by kernel_rfl) (by kernel_rfl) (by kernel_rfl) (by kernel_rfl) (fun _ _ _ h => h) (by rfl) (fun w4 c4 => ?_) ?_
        · go_simp
        try simp only [Act.put, List.getElem_toArray, List.getElem_cons_succ, List.getElem_cons_zero, List.setIfInBounds_toArray, List.set_cons_zero, List.set_cons_succ]
        have hsz1 := K2.out.1.size
        have hsz2 := K2.out.2.1.size
        have hv0 : Sees W0 1 (.slice ao n cap) n (Bs b) := by
          have h1 := K2.out.2.2
          rw [HN.out.1] at h1
          refine (h1.chg K2.out.2.1 fun k hk hk' => ?_).chg0 c0
          have h2 := HV.out.2.1
          rw [HN.out.1] at h2
          exact h2 k hk (by simp at hk'; simp [hk'])
        refine wpAnyU_only 6 rfl (by kernel_rfl) (by rfl) (by rfl) ?_
        go_simp
        refine (bclone_any W0 _ n b hv0 (by omega)).mono ?_
        rintro e w5 ⟨v5, rfl, hF5⟩
        refine ⟨hF5.chg, ?_⟩
        try simp only [Act.put, List.getElem_toArray, List.getElem_cons_succ, List.getElem_cons_zero, List.setIfInBounds_toArray, List.set_cons_zero, List.set_cons_succ]
        have c5 := c0.nil hF5.chg
        have R5 := R2.out.chg0 c5
        have hb5 : BytesV w5 (bl :: br :: S) b v5 := ⟨by rw [HN.out.1]; exact hF5.own.sees, fun j hj hj' => by
          have h1 := hF5.new j (eyes_own _ j hj)
          have h2 := c0.size
          have h3 := R2.out.files.lt
          have h4 := R2.out.fresh.lt
          simp only [List.mem_cons] at hj'
          rcases hj' with rfl | rfl | hj'
          · omega
          · omega
          · have := HV.out.2.2 j hj'; omega⟩
        obtain ⟨w6, r6, m6, k6⟩ := R5.fresh.put s hs (by simp) (by have := HL.out.2; show W.fresh.length ≤ _; omega) hb5
        have R6 := R5.putR k6 m6
        obtain ⟨a5, q5, rfl, -⟩ := hF5.shape
        refine wpAnyU_last 7 rfl (by kernel_rfl) (by rfl) (by rfl) ?_
        refine wp_upd _ _ _ 76 rfl rfl rfl rfl r6 ?_
        try simp only [Act.put, List.getElem_toArray, List.getElem_cons_succ, List.getElem_cons_zero, List.setIfInBounds_toArray, List.set_cons_zero, List.set_cons_succ]
        refine wpAny_fin (by kernel_rfl) ?_ _
        have hc : Chg [bl, br] w w6 := by
          refine (K2.out.1.toS.tr ?_).tr (k6.mono (fun k hk => .inl (by simp at hk; simp [hk])))
          exact ((K2.out.2.1.nil c5).mono (fun k hk => .inl (by simp at hk; simp [hk])))
        clear K2 R5 m6 k6 r6 hF5 hb5 hv0 c0 C0 c5 y2' R2 hsz1 hsz2 r2 R1 y1
        go_wp2_with fail
        go_ret
        unfold TellEnd
        rw [E1.out, HN.out.1]
        exact ⟨rfl, R6, hc⟩
      · have t2 : decide ((400 : Int) ≤ (m : Int)) = false := by simp; omega
        clear hx hm4
        go_upto_region 4 with (fail)
        obtain ⟨⟨-, -, y2⟩, -⟩ := R2.out.blk.c3b
        refine wp_region_U [] (fun i => decide (7 ≤ i)) (by kernel_rfl) ?_
        have c0 : Chg [] w2 w2.drew := (Chg.refl _ _).drew
        obtain ⟨W0, hW0⟩ : ∃ W0, w2.drew = W0 := ⟨_, rfl⟩
        rw [hW0] at c0 ⊢
        clear hW0
        have C0 : Chg [] W0 W0 := Chg.refl _ _
        have y2' := c0.cell_some y2 (by simp)
        clear y2
        refine wpAnyU_take 0 (v := (.pointer (some ⟨g, 0, none⟩))) C0 rfl (by kernel_rfl) (by kernel_rfl) (by kernel_rfl) (by kernel_rfl) (fun _ _ _ h => h) (by rfl) (fun w4 c4 => ?_) ?_
        · go_simp
        try simp only [Act.put, List.getElem_toArray, List.getElem_cons_succ, List.getElem_cons_zero, List.setIfInBounds_toArray, List.set_cons_zero, List.set_cons_succ]
        refine wpAnyU_take 1 (v := (.pointer (some ⟨g, 0, none⟩))) C0 rfl (by kernel_rfl) (by kernel_rfl) (by kernel_rfl) (by kernel_rfl) (fun _ _ _ h => h) (by rfl) (fun w4 c4 => ?_) ?_
        · go_simp
        try simp only [Act.put, List.getElem_toArray, List.getElem_cons_succ, List.getElem_cons_zero, List.setIfInBounds_toArray, List.set_cons_zero, List.set_cons_succ]
        refine wpAnyU_take 2 (v := (.pointer (some ⟨g, 2, none⟩))) C0 rfl (by kernel_rfl) (by kernel_rfl) (by kernel_rfl) (by kernel_rfl) (fun _ _ _ h => h) (by rfl) (fun w4 c4 => ?_) ?_
        · go_simp
        try simp only [Act.put, List.getElem_toArray, List.getElem_cons_succ, List.getElem_cons_zero, List.setIfInBounds_toArray, List.set_cons_zero, List.set_cons_succ]
        refine wpAnyU_take 3 (v := (.map (some br))) C0 rfl (by kernel_rfl) (by kernel_rfl) (by kernel_rfl) (by kernel_rfl) (fun _ _ _ h => h) (by rfl) (fun w4 c4 => ?_) ?_
        · have z := c4.cell_some y2' (by simp)
          go_simp
        try simp only [Act.put, List.getElem_toArray, List.getElem_cons_succ, List.getElem_cons_zero, List.setIfInBounds_toArray, List.set_cons_zero, List.set_cons_succ]
        refine wpAnyU_take 4 (v := (.string (str s))) C0 rfl (by kernel_rfl) (by kernel_rfl) (by kernel_rfl) (by kernel_rfl) (fun _ _ _ h => h) (by rfl) (fun w4 c4 => ?_) ?_
        · go_simp
        try simp only [Act.put, List.getElem_toArray, List.getElem_cons_succ, List.getElem_cons_zero, List.setIfInBounds_toArray, List.set_cons_zero, List.set_cons_succ]
        refine wpAnyU_take 5 (v := (.slice ao n cap)) C0 rfl (by kernel_rfl) (by kernel_rfl) (by kernel_rfl) (by kernel_rfl) (fun _ _ _ h => h) (by rfl) (fun w4 c4 => ?_) ?_
        · go_simp
        try simp only [Act.put, List.getElem_toArray, List.getElem_cons_succ, List.getElem_cons_zero, List.setIfInBounds_toArray, List.set_cons_zero, List.set_cons_succ]
        have hsz1 := K2.out.1.size
        have hsz2 := K2.out.2.1.size
        have hv0 : Sees W0 1 (.slice ao n cap) n (Bs b) := by
          have h1 := K2.out.2.2
          rw [HN.out.1] at h1
          refine (h1.chg K2.out.2.1 fun k hk hk' => ?_).chg0 c0
          have h2 := HV.out.2.1
          rw [HN.out.1] at h2
          exact h2 k hk (by simp at hk'; simp [hk'])
        refine wpAnyU_only 6 rfl (by kernel_rfl) (by rfl) (by rfl) ?_
        go_simp
        refine (bclone_any W0 _ n b hv0 (by omega)).mono ?_
        rintro e w5 ⟨v5, rfl, hF5⟩
        refine ⟨hF5.chg, ?_⟩
        try simp only [Act.put, List.getElem_toArray, List.getElem_cons_succ, List.getElem_cons_zero, List.setIfInBounds_toArray, List.set_cons_zero, List.set_cons_succ]
        have c5 := c0.nil hF5.chg
        have R5 := R2.out.chg0 c5
        have hb5 : BytesV w5 (bl :: br :: S) b v5 := ⟨by rw [HN.out.1]; exact hF5.own.sees, fun j hj hj' => by
          have h1 := hF5.new j (eyes_own _ j hj)
          have h2 := c0.size
          have h3 := R2.out.files.lt
          have h4 := R2.out.fresh.lt
          simp only [List.mem_cons] at hj'
          rcases hj' with rfl | rfl | hj'
          · omega
          · omega
          · have := HV.out.2.2 j hj'; omega⟩
        obtain ⟨w6, r6, m6, k6⟩ := R5.fresh.put s hs (by simp) (by have := HL.out.2; show W.fresh.length ≤ _; omega) hb5
        have R6 := R5.putR k6 m6
        obtain ⟨a5, q5, rfl, -⟩ := hF5.shape
        refine wpAnyU_last 7 rfl (by kernel_rfl) (by rfl) (by rfl) ?_
        refine wp_upd _ _ _ 76 rfl rfl rfl rfl r6 ?_
        try simp only [Act.put, List.getElem_toArray, List.getElem_cons_succ, List.getElem_cons_zero, List.setIfInBounds_toArray, List.set_cons_zero, List.set_cons_succ]
        refine wpAny_fin (by kernel_rfl) ?_ _
        have hc : Chg [bl, br] w w6 := by
          refine (K2.out.1.toS.tr ?_).tr (k6.mono (fun k hk => .inl (by simp at hk; simp [hk])))
          exact ((K2.out.2.1.nil c5).mono (fun k hk => .inl (by simp at hk; simp [hk])))
        clear K2 R5 m6 k6 r6 hF5 hb5 hv0 c0 C0 c5 y2' R2 hsz1 hsz2 r2 R1 y1
        go_wp2_with fail
        go_ret
        unfold TellEnd
        rw [E1.out, HN.out.1]
        exact ⟨rfl, R6, hc⟩
end Go.Proofs.YtgcmgcffndbpoaaGreatDoor

/- Files in memory: Name. No statement of the seat is proved here. -/
namespace Go.Proofs.YtgcmgcffndbpoaaGreatDoor
open Go.RowKit Go.Aq Go.Aq.Fy Go.Maps
theorem idxS (w : World) (s : List UInt8) (j : Nat) (h : j < s.length) : (Instr.index 9 (.string (str s)) (.int .i64 (j : Int))).run Tryz.prog w = .ok (.int .u8 ((s[j]'h).toNat : Int)) w := by
  have hsz := str_size s
  rw [run_index_string w 9 (str s) .i64 j Tryz.underlying9, dif_pos ⟨by omega, by omega⟩]
  have e : (str s)[(j : Int).toNat]'(by omega) = s[j]'h := by simp [str, ByteArray.getElem_eq_getElem_data]
  rw [e]
def chOk (c : UInt8) : Bool := decide (33 ≤ c.toNat) && decide (c.toNat ≤ 126)
theorem nameOk_bad {l : Nm} {i : Nat} (h : i < l.length) (hc : chOk (l[i]'h) = false) : nameOk l = false := by
  have : (l.all fun c => decide (33 ≤ c.toNat) && decide (c.toNat ≤ 126)) = false := by
    rw [List.all_eq_false]
    exact ⟨_, List.getElem_mem h, by unfold chOk at hc; rw [hc]; simp⟩
  unfold nameOk
  rw [this]
  rfl
theorem nameOk_good {l : Nm} (h : ∀ j (hj : j < l.length), chOk (l[j]'hj) = true) : nameOk l = (decide (l ≠ []) && decide (l.length ≤ 80)) := by
  have : (l.all fun c => decide (33 ≤ c.toNat) && decide (c.toNat ≤ 126)) = true := by
    rw [List.all_eq_true]
    intro c hc
    obtain ⟨j, hj, rfl⟩ := List.getElem_of_mem hc
    exact h j hj
  unfold nameOk
  rw [this]
  rfl
set_option maxRecDepth 100000 in
set_option maxHeartbeats 2000000 in
theorem name_ok (w : World) (l : Nm) (hl : l.length ≤ 1000000000) :
    Calls Tryz.prog 15 #[.string (str l)] w fun e w' => e = .returned (.bool (nameOk l)) ∧ Chg [] w w' := by
  have hsz := str_size l
  go_enter Tryz.func15, Tryz.ntmps15
  go_wp2_with fail
  go_loopg [6] l.length (fun k vn wr => ∃ i : Nat, vn = .int .i64 i ∧ i + k = l.length ∧ (∀ j (hj : j < l.length), j < i → chOk (l[j]'hj) = true) ∧ Chg [] w wr)
  case atStart => exact ⟨0, rfl, by omega, fun j _ h => absurd h (Nat.not_lt_zero _), Chg.refl _ _⟩
  case round =>
    obtain ⟨i, rfl, hk, hall, hc⟩ := hrel
    by_cases hi : i < l.length
    · have hx := idxS wr l i hi
      have t0 : decide ((i : Int) < (l.length : Int)) = true := by simp; omega
      have HH := Lib.hid (And.intro hk (And.intro hall hc))
      obtain ⟨c, hcc⟩ : ∃ c, l[i]'hi = c := ⟨_, rfl⟩
      rw [hcc] at hx
      have HC := Lib.hid hcc
      have HI := Lib.hid hi
      clear hk hall hc hcc
      by_cases h1 : c.toNat < 33
      · have t1 : decide ((c.toNat : Int) < 33) = true := by simp; omega
        have e1 := Lib.hid (nameOk_bad HI.out (by rw [HC.out]; unfold chOk; rw [decide_eq_false (by omega)]; rfl))
        clear h1
        go_wp2_with fail
        go_ret
        exact ⟨by rw [e1.out]; rfl, HH.out.2.2⟩
      · have t1 : decide ((c.toNat : Int) < 33) = false := by simp; omega
        by_cases h2 : 126 < c.toNat
        · have t2 : decide ((126 : Int) < (c.toNat : Int)) = true := by simp; omega
          have e1 := Lib.hid (nameOk_bad HI.out (by rw [HC.out]; unfold chOk; rw [show decide (c.toNat ≤ 126) = false from decide_eq_false (by omega)]; simp))
          clear h1 h2
          go_wp2_with fail
          go_ret
          exact ⟨by rw [e1.out]; rfl, HH.out.2.2⟩
        · have t2 : decide ((126 : Int) < (c.toNat : Int)) = false := by simp; omega
          have e1 := Lib.hid (show chOk (l[i]'HI.out) = true by rw [HC.out]; unfold chOk; simp; omega)
          clear h1 h2
          have e2 : IntKind.i64.wrap ((i : Int) + 1) = ((i + 1 : Nat) : Int) := wIq (by unfold wrap64; have := HI.out; omega)
          have e2' : wrap64 ((i : Int) + 1) = ((i + 1 : Nat) : Int) := by unfold wrap64; have := HI.out; omega
          go_wp2_with fail
          go_roundg (gk - 1)
          case measure => have := HH.out.1; omega
          case rel =>
            refine ⟨i + 1, by simp, by have := HH.out.1; omega, fun j hj hji => ?_, HH.out.2.2⟩
            by_cases h3 : j < i
            · exact HH.out.2.1 j hj h3
            · have h4 : j = i := by omega
              subst h4
              exact e1.out
    · have t0 : decide ((i : Int) < (l.length : Int)) = false := by simp; omega
      have e1 := Lib.hid (nameOk_good fun j hj => hall j hj (by omega))
      have HC := Lib.hid hc
      clear hall hc
      by_cases hn : l = []
      · have z : (str l).toList = [] := by rw [str_toList]; exact hn
        have z2 : nameOk l = false := by rw [hn]; rfl
        have Z2 := Lib.hid z2
        clear z2 e1 hn
        go_wp2_with fail
        go_ret
        exact ⟨by rw [Z2.out]; rfl, HC.out⟩
      · have z : ¬ (str l).toList = [] := by rw [str_toList]; exact hn
        have HN := Lib.hid hn
        clear hn
        go_wp2_with fail
        go_ret
        refine ⟨?_, HC.out⟩
        rw [e1.out]
        show Ending.returned (.bool (!(str l).toList.isEmpty && decide ((l.length : Int) ≤ 80))) = _
        rw [str_toList]
        congr 2
        rw [show l.isEmpty = false by cases l; (exact absurd rfl HN.out); rfl, decide_eq_true HN.out]
        simp only [Bool.not_false, Bool.true_and, decide_eq_decide]
        omega
end Go.Proofs.YtgcmgcffndbpoaaGreatDoor

/- Files in memory: the relation FsR; first, all, Size, Disk. No statement of the seat is proved here. -/
namespace Go.Proofs.YtgcmgcffndbpoaaGreatDoor
open Go.RowKit Go.Aq Go.Aq.Fy Go.Maps
/-- Pointer f is the files F: their disk d (blocks Sd), their log l, their map bf. X: blocks that others may turn. -/
structure FsR (w : World) (Sd X : List Nat) (f d l bf : Nat) (F : FsD) : Prop where
  blk : Blk w f #[.pointer (some ⟨d, 0, none⟩), .pointer (some ⟨l, 0, none⟩), .int .i64 F.mt, .map (some bf)] 75
  disk : DiskR w Sd d F.disk
  log : LogR w l d F.log
  files : FilesR w (X ++ f :: l :: bf :: Sd) bf F.files
  ne : f ≠ l ∧ f ≠ bf ∧ l ≠ bf ∧ f ∉ Sd ∧ l ∉ Sd ∧ bf ∉ Sd
  away : Disj X (f :: l :: bf :: Sd)
  small : F.log.ring + 4 ≤ F.disk.n ∧ 0 < F.log.ring ∧ F.mt ≤ 200 ∧ firstF F < F.disk.n ∧ F.disk.n ≤ 4096
section
variable {w w' : World} {Sd X : List Nat} {f d l bf : Nat} {F : FsD}
theorem FsR.lt (h : FsR w Sd X f d l bf F) : In w (f :: l :: bf :: Sd) := by
  intro k hk
  simp only [List.mem_cons] at hk
  rcases hk with rfl | rfl | rfl | hk
  · exact h.blk.lt
  · exact Blk.lt h.log
  · exact h.files.lt
  · exact h.disk.lt k hk
/-- Only blocks of others have turned. -/
theorem FsR.chg0 (h : FsR w Sd X f d l bf F) (c : Chg [] w w') : FsR w' Sd X f d l bf F :=
  ⟨h.blk.chg0 c, h.disk.chg c, h.log.chg c (by simp), h.files.chg0 c, h.ne, h.away, h.small⟩
end
theorem first_ok (w : World) (Sd X : List Nat) (f d l bf : Nat) (F : FsD) (h : FsR w Sd X f d l bf F) :
    Calls Tryz.prog 43 #[.pointer (some ⟨f, 0, none⟩)] w fun e w' => e = .returned (.int .i64 (firstF F)) ∧ ∃ q, w' = w.drewN q := by
  obtain ⟨⟨-, c1, c2, -⟩, -⟩ := Blk.c4b h.blk
  have hs := h.small
  have hom := fun q => home_ok (w.drewN q) l d F.log (h.log.chg ((Chg.refl [] w).drewN q) (by simp)) (by omega)
  have hh : homeL F.log ≤ 4096 := by unfold homeL; omega
  have e1 : wrap64 ((homeL F.log : Int) + 1) = ((homeL F.log + 1 : Nat) : Int) := by unfold wrap64; omega
  have e2 : wrap64 (((homeL F.log + 1 : Nat) : Int) + (F.mt : Int)) = ((firstF F : Nat) : Int) := by unfold wrap64 firstF; omega
  generalize firstF F = r at *
  generalize homeL F.log = q at *
  generalize q + 1 = q1 at *
  have e1w := wIq e1
  have e2w := wIq e2
  clear h hs hh
  go_enter Tryz.func43, Tryz.ntmps43
  go_wp2_with fail
  go_quiet ((exact Calls.quiet_of_same (hom _)))
  go_wp2_with fail
  go_ret
  exact ⟨ret_int (by first | assumption | rfl), nq, rfl⟩
theorem all_ok (w : World) (Sd X : List Nat) (f d l bf : Nat) (F : FsD) (h : FsR w Sd X f d l bf F) :
    Calls Tryz.prog 52 #[.pointer (some ⟨f, 0, none⟩)] w fun e w' => e = .returned (.int .i64 (allF F)) ∧ ∃ q, w' = w.drewN q := by
  obtain ⟨⟨c0, -, -, -⟩, -⟩ := Blk.c4b h.blk
  have hs := h.small
  have hsec := sectors_ok w Sd d F.disk h.disk
  have hfi := first_ok w Sd X f d l bf F h
  have e1 : wrap64 ((F.disk.n : Int) - (firstF F : Int)) = ((allF F : Nat) : Int) := by unfold wrap64 allF; omega
  generalize firstF F = r at *
  generalize allF F = q at *
  generalize F.disk.n = n at *
  have e1w := wIq e1
  clear h hs
  go_enter Tryz.func52, Tryz.ntmps52
  go_wp2_with fail
  refine hsec.mono ?_
  rintro e w1 ⟨rfl, rfl⟩
  go_wp2_with fail
  refine hfi.mono ?_
  rintro e w1 ⟨rfl, nq, rfl⟩
  go_wp2_with fail
  go_ret
  exact ⟨ret_int (by first | assumption | rfl), nq, rfl⟩
set_option maxRecDepth 100000 in
theorem disk_ok (w : World) (Sd X : List Nat) (f d l bf : Nat) (F : FsD) (h : FsR w Sd X f d l bf F) :
    Calls Tryz.prog 19 #[.pointer (some ⟨f, 0, none⟩)] w fun e w' => e = .returned (.pointer (some ⟨d, 0, none⟩)) ∧ w' = w := by
  obtain ⟨⟨c0, -, -, -⟩, -⟩ := Blk.c4b h.blk
  clear h
  go_enter Tryz.func19, Tryz.ntmps19
  go_wp2_with fail
  go_ret
  exact ⟨rfl, rfl⟩
/-- What a look-up of a file answers. -/
theorem FilesR.look {w : World} {S : List Nat} {b : Nat} {L : Files} (h : FilesR w S b L) (s : Nm) (hs : s.length ≤ 1048576) :
    ∃ (n : Nat) (ao : Option Addr) (m cap : Nat),
    ((Instr.lookup 69 (.map (some b)) (.string (str s)) false).run Tryz.prog w = .ok (.agg #[.int .i64 n, .slice ao m cap]) w ∧
    (Instr.lookup 69 (.map (some b)) (.string (str s)) true).run Tryz.prog w = .ok (.tuple #[.agg #[.int .i64 n, .slice ao m cap], .bool (hasF L s)]) w) ∧
    n = ((lookK s L).getD ⟨0, []⟩).size ∧ m = ((lookK s L).getD ⟨0, []⟩).blocks.length ∧ FileV w S ((lookK s L).getD ⟨0, []⟩) (.agg #[.int .i64 n, .slice ao m cap]) := by
  obtain ⟨l, hM, h2⟩ := h
  obtain ⟨l1, l2⟩ := hM.look keyS Tryz.underlying69 (zeroFile w) s hs
  unfold hasF
  rcases h2.look s with ⟨e1, e2⟩ | ⟨x, y, e1, e2, hv⟩
  · rw [e2] at l1 l2
    rw [e1]
    exact ⟨0, none, 0, 0, ⟨l1, l2⟩, rfl, rfl, _, rfl, Sees.nil _ _, by simp [eyes, Disj]⟩
  · rw [e2] at l1 l2
    rw [e1]
    obtain ⟨v, rfl, hv1, hv2⟩ := hv
    obtain ⟨ao, cap, rfl, -⟩ := hv1.shape
    exact ⟨_, ao, _, cap, ⟨l1, l2⟩, rfl, rfl, _, rfl, hv1, hv2⟩
set_option maxRecDepth 100000 in
theorem size_ok (w : World) (Sd X : List Nat) (f d l bf : Nat) (F : FsD) (h : FsR w Sd X f d l bf F) (s : Nm) (hs : s.length ≤ 1048576) :
    Calls Tryz.prog 28 #[.pointer (some ⟨f, 0, none⟩), .string (str s)] w fun e w' => e = .returned (.int .i64 (match lookK s F.files with | some x => (x.size : Int) | none => -1)) ∧ Chg [] w w' := by
  obtain ⟨⟨-, -, -, c3⟩, -⟩ := Blk.c4b h.blk
  obtain ⟨n, ao, m, cap, ⟨-, l2⟩, h1, -, -⟩ := h.files.look s hs
  unfold hasF at l2
  cases hv : lookK s F.files with
  | none =>
    rw [hv] at l2
    clear h h1 hv
    go_enter Tryz.func28, Tryz.ntmps28
    go_wp2_with fail
    go_ret
    exact ⟨rfl, (Chg.refl _ _).alloc _⟩
  | some x =>
    rw [hv] at l2 h1
    simp only [Option.getD_some] at h1
    subst h1
    clear h hv
    go_enter Tryz.func28, Tryz.ntmps28
    go_wp2_with fail
    go_ret
    exact ⟨rfl, (Chg.refl _ _).alloc _⟩
end Go.Proofs.YtgcmgcffndbpoaaGreatDoor

