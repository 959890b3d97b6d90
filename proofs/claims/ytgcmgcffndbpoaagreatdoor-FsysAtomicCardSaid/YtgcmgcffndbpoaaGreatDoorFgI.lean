/- Two systems of files side by side: what turns one leaves the other. No statement of the seat is proved here. -/
import Derived.Test.YtgcmgcffndbpoaaGreatDoorFgAF
set_option linter.unusedVariables false
set_option linter.unusedSimpArgs false
namespace Go.Proofs.YtgcmgcffndbpoaaGreatDoor
open Go.RowKit Go.Aq Go.Aq.Fy Go.Maps
/-- These blocks hold no byte. -/
def NoU8 (w : World) (T : List Nat) : Prop := ∀ k ∈ T, (∃ cs e, w.heap[k]? = some (.cells cs e (0, 0)) ∧ ∀ (i : Nat) x, cs[i]? ≠ some (.int .u8 x)) ∨ ∃ es c, w.heap[k]? = some (.map es c)
theorem sees_far {w : World} {v : Value} {n : Nat} {b : List UInt8} {T : List Nat} (h : Sees w 1 v n (Bs b)) (hT : NoU8 w T) : Disj (eyes v) T := fun k hk hkT => by
  rcases hT k hkT with ⟨cs, e, hb, hcs⟩ | ⟨es, c, hm⟩
  · exact sees_notin h hb hcs hk
  · obtain ⟨h1, ao, cap, rfl, _, _, hc⟩ := h
    unfold eyes at hk
    split at hk
    · rename_i a n' cap' he
      simp only [Value.slice.injEq] at he
      obtain ⟨rfl, rfl, rfl⟩ := he
      split at hk
      · simp at hk
      · rename_i hn
        simp only [List.mem_singleton] at hk
        have hb0 : 0 < b.length := by rw [Bs_length] at h1; omega
        have h2 := hc a rfl 0 _ (Bs_get b 0 hb0)
        have h3 : w.cell? a = some (.int .u8 ((b[0]'hb0).toNat : Int)) := by simpa [Addr.add] using h2
        unfold World.cell? at h3
        rw [← hk, hm] at h3
        cases h3
    · simp at hk
theorem NoU8.app {w : World} {S T : List Nat} (h : NoU8 w S) (k : NoU8 w T) : NoU8 w (S ++ T) := fun x hx => (List.mem_append.1 hx).elim (h x) (k x)
theorem DiskR.noU8 {w : World} {S : List Nat} {p : Nat} {D : DiskD} (h : DiskR w S p D) (h0 : D.pend = []) : NoU8 w S := by
  obtain ⟨bn, bd, fn, fd, pv, xs, mv, h, rfl⟩ := h
  have hp := h.nil0 h0
  subst hp
  intro k hk
  simp only [List.mem_cons, Value.ownBlock, Option.toList, List.not_mem_nil, or_false] at hk
  rcases hk with rfl | rfl | rfl
  · refine .inl ⟨_, _, h.blk, fun i x => ?_⟩
    rcases i with _ | _ | _ | _ | _ | _ | _ | _ | i <;> simp
    intro e
    obtain ⟨_, _, _, e2, _⟩ := h.mask.1
    rw [e] at e2
    cases e2
  · obtain ⟨es, c, hm, -⟩ := h.now
    exact .inr ⟨es, c, hm⟩
  · obtain ⟨es, c, hm, -⟩ := h.dur
    exact .inr ⟨es, c, hm⟩
theorem FsR.noU8 {w : World} {Sd X : List Nat} {f d l bf : Nat} {F : FsD} (h : FsR w Sd X f d l bf F) (h0 : F.disk.pend = []) : NoU8 w (f :: l :: bf :: Sd) := by
  intro k hk
  simp only [List.mem_cons] at hk
  rcases hk with rfl | rfl | rfl | hk
  · exact .inl ⟨_, _, h.blk, fun i x => by rcases i with _ | _ | _ | _ | i <;> simp⟩
  · exact .inl ⟨_, _, h.log, fun i x => by rcases i with _ | _ | _ | _ | i <;> simp⟩
  · obtain ⟨m, hM, -⟩ := h.files
    obtain ⟨es, c, hm, -⟩ := hM.owns
    exact .inr ⟨es, c, hm⟩
  · exact h.disk.noU8 h0 k hk
/-- Rows beside the disk have turned. -/
theorem DiskR.offN {w w' : World} {S T : List Nat} {p : Nat} {D : DiskD} (h : DiskR w S p D) (hn : NoU8 w T) (c : Chg T w w') (hl : Disj S T) : DiskR w' S p D := by
  obtain ⟨bn, bd, fn, fd, pv, xs, mv, h, rfl⟩ := h
  have sec : ∀ {v : Value} {b : Sec}, SecV w (p :: bn :: bd :: pv.ownBlock.toList) v b → SecV w' (p :: bn :: bd :: pv.ownBlock.toList) v b := fun {v b} hv =>
    ⟨hv.sees.chg c (sees_far hv.sees hn), hv.off⟩
  have secs : ∀ {f : Value → Option Value} {g : Nat → Sec}, SecsF w (p :: bn :: bd :: pv.ownBlock.toList) f g → SecsF w' (p :: bn :: bd :: pv.ownBlock.toList) f g := fun {f g} hf k => by
    rcases hf k with h1 | ⟨v, h1, h2⟩
    · exact .inl h1
    · exact .inr ⟨v, h1, sec h2⟩
  have pend : ∀ {l : Puts} {xs : List Value}, PendR w (p :: bn :: bd :: pv.ownBlock.toList) l xs → PendR w' (p :: bn :: bd :: pv.ownBlock.toList) l xs := by
    intro l xs hx
    induction hx with
    | nil => exact .nil
    | cons h1 _ ih => exact .cons (sec h1) ih
  exact ⟨bn, bd, fn, fd, pv, xs, mv, ⟨h.blk.chg c (hl p (by simp)), h.now.chg c (hl bn (by simp)), h.dur.chg c (hl bd (by simp)), h.ne, secs h.nowS, secs h.durS, h.own.chg c (fun k hk => hl k (by simp [hk])), pend h.pend, ⟨h.mask.1.chg c (sees_far h.mask.1 hn), h.mask.2⟩, h.least, h.plc, h.room, h.nil0⟩, rfl⟩
/-- Others' blocks were turned, and new ones came to them. -/
theorem FsR.farU {w w' : World} {Sd X X' : List Nat} {f d l bf : Nat} {F : FsD} (h : FsR w Sd X f d l bf F) (u : Upd X X' w w') (hn : NoU8 w X) : FsR w' Sd X' f d l bf F := by
  have hlt := h.lt
  have hoff : ∀ k ∈ f :: l :: bf :: Sd, k ∉ X := fun k hk hk' => h.away k hk' hk
  refine ⟨h.blk.chg u.chg (hoff f (by simp)), h.disk.offN hn u.chg (fun k hk => hoff k (by simp [hk])), h.log.chg u.chg (hoff l (by simp)), ?_, h.ne, fun k hk hk' => ?_, h.small⟩
  · have h1 := h.files.wide (T := X ++ (X' ++ f :: l :: bf :: Sd)) (fun k hk => by
      simp only [List.mem_append] at hk ⊢
      rcases hk with h1 | h1 | h1
      · exact .inl (.inl h1)
      · rcases u.new k h1 with h2 | h2
        · exact .inl (.inl h2)
        · exact .inr h2
      · exact .inl (.inr h1))
    exact (h1.chg u.chg (fun k hk => .inl (List.mem_append_left _ hk)) (hoff bf (by simp))).wide fun k hk => .inl (List.mem_append_right _ hk)
  · rcases u.new k hk with h2 | h2
    · exact h.away k h2 hk'
    · have := hlt k hk'; omega
theorem FsR.wideX {w : World} {Sd X X' : List Nat} {f d l bf : Nat} {F : FsD} (h : FsR w Sd X f d l bf F) (hx : ∀ k ∈ X', k ∈ X ∨ w.heap.size ≤ k) : FsR w Sd X' f d l bf F := by
  have hlt := h.lt
  refine ⟨h.blk, h.disk, h.log, h.files.wide fun k hk => ?_, h.ne, fun k hk hk' => ?_, h.small⟩
  · rcases List.mem_append.1 hk with h1 | h1
    · exact (hx k h1).imp (List.mem_append_left _) id
    · exact .inl (List.mem_append_right _ h1)
  · rcases hx k hk with h2 | h2
    · exact h.away k h2 hk'
    · have := hlt k hk'; omega
theorem FsR.nilX {w : World} {Sd X : List Nat} {f d l bf : Nat} {F : FsD} (h : FsR w Sd X f d l bf F) : FsR w Sd [] f d l bf F := h.wideX (by simp)
/-- One change of many, as a list of its own. -/
theorem sees_one {w : World} {cs : List ChangeD} {n : Nat} {a : Option Addr} {cap : Nat} {xs : List Value} (hn : cs.length = n) (h : Sees w 4 (.slice a n cap) n xs) (hx : CellsC w cs xs) {i : Nat} (hi : i < n) {c : ChangeD} (hc : cs[i]? = some c) :
    ∃ g off ys, a = some ⟨g, off, none⟩ ∧ n ≤ cap ∧ Sees w 4 (.slice (some ⟨g, off + i * 4, none⟩) 1 (cap - i)) 1 ys ∧ CellsC w [c] ys := by
  obtain ⟨g, off, cap', e, hcap, -, hcell⟩ := h.cells (by omega)
  simp only [Value.slice.injEq, true_and] at e
  obtain ⟨rfl, rfl⟩ := e
  obtain ⟨dv, x0, x1, x2, x3, hd⟩ := hx.get hc
  refine ⟨g, off, [.int .i64 c.kind, .string (str c.name), .string (str c.tonm), dv], rfl, hcap, ⟨rfl, _, _, rfl, by omega, by simp, fun ad had j u hu => ?_⟩, .cons hd .nil⟩
  cases had
  have hj : j < 4 := (List.getElem?_eq_some_iff.1 hu).1
  have hc2 := hcell (i * 4 + j) (by omega)
  rw [Addr.add_lit, Nat.add_assoc, hc2, ← hu]
  have e4 : i * 4 = 4 * i := by omega
  rw [e4]
  match j, hj with
  | 0, _ => exact x0
  | 1, _ => exact x1
  | 2, _ => exact x2
  | 3, _ => exact x3
end Go.Proofs.YtgcmgcffndbpoaaGreatDoor
namespace Go.Aq.Fy
open Go.Aq Go.RowKit
theorem oneV_pair (v : View) (c : ChangeD) : allV v [c] = oneV v c := by
  show (if (oneV v c).2 = 0 then ((oneV v c).1, 0) else oneV v c) = oneV v c
  split
  · next h => exact Prod.ext rfl h.symm
  · rfl
theorem allV_snoc (c : ChangeD) : ∀ (l : List ChangeD) (v : View), allV v (l ++ [c]) = if (allV v l).2 = 0 then oneV (allV v l).1 c else allV v l
  | [], v => by
    rw [List.nil_append, oneV_pair]
    show oneV v c = if (0 : Nat) = 0 then oneV v c else (v, 0)
    rw [if_pos rfl]
  | a :: l, v => by
    show (if (oneV v a).2 = 0 then allV (oneV v a).1 (l ++ [c]) else oneV v a) = if (if (oneV v a).2 = 0 then allV (oneV v a).1 l else oneV v a).2 = 0 then oneV (if (oneV v a).2 = 0 then allV (oneV v a).1 l else oneV v a).1 c else (if (oneV v a).2 = 0 then allV (oneV v a).1 l else oneV v a)
    by_cases h : (oneV v a).2 = 0
    · simp only [h, if_true]
      exact allV_snoc c l _
    · simp only [h, if_false]
/-- Where the one-by-one stands: the first i changes are done. -/
structure StepF (q : Nat) (V : View) (cs : List ChangeD) (i : Nat) (G : FsD) : Prop where
  inv : FInv q G
  falls : G.disk.falls = 0
  view : viewF G = (allV V (cs.take i)).1
  good : (allV V (cs.take i)).2 = 0
theorem StepF.next {q : Nat} {V : View} {cs : List ChangeD} {i : Nat} {G : FsD} (h : StepF q V cs i G) (hq : q < 2 ^ 47) {c : ChangeD} (hc : cs[i]? = some c) (h0 : (doF G [c]).2 = 0) : StepF (q + 1) V cs (i + 1) (doF G [c]).1 := by
  obtain ⟨a1, a2, -, -, -, ⟨a6, -⟩ | ⟨-, a7, a8, -⟩⟩ := do_law h.inv hq h.falls [c]
  · exact absurd h0 a6
  · obtain ⟨hi, e⟩ := List.getElem?_eq_some_iff.1 hc
    have ht : cs.take (i + 1) = cs.take i ++ [c] := by rw [List.take_succ_eq_append_getElem hi, e]
    rw [oneV_pair, h.view] at a7 a8
    refine ⟨a1, a2, ?_, ?_⟩ <;> rw [ht, allV_snoc, if_pos h.good]
    · exact a8
    · exact a7
/-- All at one blow comes to the same, or there is no room. -/
theorem does_end {q q' : Nat} {F G : FsD} {cs : List ChangeD} {i : Nat} (hF : FInv q F) (hq : q < 2 ^ 47) (hf : F.disk.falls = 0) (hG : StepF q' (viewF F) cs i G) (hi : cs.length ≤ i) :
    ((doF F cs).2 = 0 ∧ viewF (doF F cs).1 = viewF G) ∨ (doF F cs).2 = 8 ∨ (doF F cs).2 = 9 := by
  have hg := hG.good
  have hv := hG.view
  rw [List.take_of_length_le hi] at hg hv
  obtain ⟨-, -, -, -, -, ⟨a6, -, a7 | ⟨-, a8⟩⟩ | ⟨a6, -, a8, -⟩⟩ := do_law hF hq hf cs
  · exact absurd (a7.trans hg) a6
  · exact .inr a8
  · exact .inl ⟨a6, a8.trans hv.symm⟩
end Go.Aq.Fy
