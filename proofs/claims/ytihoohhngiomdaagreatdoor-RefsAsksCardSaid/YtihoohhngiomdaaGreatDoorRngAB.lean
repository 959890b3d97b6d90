/- RngA, RngB in one text. No statement of the seat is proved here. -/
import Derived.Test.YtihoohhngiomdaaGreatDoorBase
import Derived.RangeFuncNested
import Derived.RangeFuncBound
import Derived.RangeFuncCalls
import Derived.RangeFuncLeaves
import Derived.OwnWalkIn
import Derived.Test.YtihoohhngiomdaaGreatDoorTakeAll
import Derived.Test.YtihoohhngiomdaaGreatDoorRefP
import Derived.Shelf.Abstract
import Derived.Shelf.RegionOpen
import Derived.WalkKit
import Derived.TacticsInMore
import Derived.LoopNIn
import Derived.LoopIn
set_option linter.unusedSimpArgs false
set_option linter.unusedVariables false
/- A range over a function whose iterator keeps its place in a captured cell: the law for the caller, at the wide fence; append in a round. No statement of the seat is proved here. -/
namespace Go.Aq
open Go.RowKit
/-- What is no cells lies as it lay, if only blocks of cells were turned. -/
theorem keeps_of_chg {S : List Nat} {W W' : World} (c : Chg S W W') (h : ∀ k ∈ S, ∃ o : Obj, W.heap[k]? = some o ∧ o.isCells = true) : KeepsOthers W W' := by
  refine ⟨c.size, fun k o hk ho => ?_⟩
  have hlt : k < W.heap.size := (Array.getElem?_eq_some_iff.1 hk).1
  rw [c.block k hlt fun hm => ?_]
  · exact hk
  · obtain ⟨o', h1, h2⟩ := h k hm
    rw [hk] at h1
    cases h1
    rw [ho] at h2
    cases h2
/-- How a round's body may be left: off its end (the iterator's own cell B as it was), or by return. -/
def roundEnd {α : Type} (B : Nat) (I Ix : List α → World → Prop) (xs : List α) (W : World) : Exit → Act → World → Prop
  | .normal, _, W' => KeepsOthers W W' ∧ W'.heap[B]? = W.heap[B]? ∧ I xs W'
  | .ret, _, W' => KeepsOthers W W' ∧ Ix xs W'
  | _, _, _ => False
/-- An iterator's contract: its own cell lies in block B; whatever J says between two rounds abides a store there. -/
def SeqB {α : Type} (n : Nat) (P : Program) (gf B : Nat) (lb : Array Value) (enc : α → Value) (S : List α → Prop) (G : List α → α → Prop) (T : World → Prop) : Prop :=
  ∀ (l : Nat) (J Jx : List α → World → Prop) (W : World), T W → (∀ pre W v, J pre W → J pre (W.setCell ⟨B, 0, none⟩ v)) → (∀ pre W, J pre W → J pre W.drew) →
    (∀ pre x W1, G pre x → J pre W1 → YieldAt Fence.wide (n - 1) P l #[enc x] W1 fun e W' => (e = .returned (.bool true) ∧ J (pre ++ [x]) W' ∧ W'.heap[B]? = W1.heap[B]?) ∨ (e = .returned (.bool false) ∧ Jx (pre ++ [x]) W')) →
    J [] W → CallsIn Fence.wide n P gf (#[.func (.yield l) #[] #[]] ++ lb) W fun e W' => (∃ v, e = .returned v) ∧ ((∃ xs, S xs ∧ J xs W') ∨ (∃ pre rest, S (pre ++ rest) ∧ Jx pre W'))
/-- The caller's law. -/
theorem range_cell {P : Program} {n : Nat} (h1 : 1 ≤ n) {g : Operand} {p : Tmp} {assign body : Code} {Q : Exit → Act → World → Prop} {a : Act} {w : World} {gf B : Nat} {lb : Array Value}
    (hg : a.eval g = .func (.func gf) #[] lb) (eg : ∀ args w, (callFunc gf args).run P w = .ok (.enter gf args) w) {α : Type} {enc : α → Value} {S : List α → Prop} {G : List α → α → Prop} {T : World → Prop}
    (hseq : SeqB (n - 1) P gf B lb enc S G T) (hT : ∀ o o', T ((w.alloc o).alloc o')) (hB : B < w.heap.size) (I Ix : List α → World → Prop)
    (hIa : ∀ pre W o, I pre W → I pre (W.alloc o))
    (hIp : ∀ pre W l o, w.heap.size ≤ l → (∃ o0 : Obj, W.heap[l]? = some o0 ∧ o0.isCells = false) → I pre W → I pre (W.putObj l o))
    (hXp : ∀ pre W l o, w.heap.size ≤ l → (∃ o0 : Obj, W.heap[l]? = some o0 ∧ o0.isCells = false) → Ix pre W → Ix pre (W.putObj l o))
    (hIB : ∀ pre W v, I pre W → I pre (W.setCell ⟨B, 0, none⟩ v)) (hId : ∀ pre W, I pre W → I pre W.drew) (h0 : I [] w) (a₁ : α → Act)
    (hassign : ∀ (l : Nat) (x : α) (W : World) (K : Act → World → Prop), K (a₁ x) W →
      assign.wpIn (Fence.wide.inRound l) (n - 1 - 1) P (Exit.then K (fun _ _ _ => False)) { tmps := a.tmps.setIfInBounds p (enc x), defers := [] } W)
    (hbody : ∀ (l : Nat) (pre : List α) (x : α) (W : World), G pre x → I pre W → body.wpIn (Fence.wide.inRound l) (n - 1 - 1) P (roundEnd B I Ix (pre ++ [x]) W) (a₁ x) W)
    (hdone : ∀ (D : Nat) (xs : List α) (W : World), w.heap.size ≤ D → S xs → I xs W → W.heap[D]? = some (.deferred (some [])) → Q .normal { a with defers := { target := .collected D, args := #[] } :: a.defers } W)
    (hstop : ∀ (D : Nat) (pre rest : List α) (W : World), w.heap.size ≤ D → S (pre ++ rest) → Ix pre W → W.heap[D]? = some (.deferred (some [])) → Code.ret.wpIn Fence.wide n P Q { a with defers := { target := .collected D, args := #[] } :: a.defers } W) :
    (Code.rangeFunc g #[p] assign body).wpIn Fence.wide n P Q a w := by
  obtain ⟨D, hD⟩ : ∃ D, w.heap.size = D := ⟨_, rfl⟩
  refine wpIn_rangeFunc fun fn _ => ?_
  obtain ⟨L, hL⟩ : ∃ L : LoopState → Option Code → Loop, L = fun st pe => { state := st, pending := pe, fn, tmps := a.tmps, params := #[p], assign, body, defers := D } := ⟨_, rfl⟩
  have hst : (Instr.enterLoop fn a.tmps #[p] assign body none).run P w = .ok (D + 1, [{ target := .collected D, args := #[] }]) ((w.alloc (.deferred (some []))).alloc (.loop (L .ready none))) := by
    rw [hL, ← hD]; exact run_enterLoop_outer fn a.tmps #[p] assign body
  have eP : (L .ready none).params = #[p] := by rw [hL]
  have eS : (L .ready none).state = .ready := by rw [hL]
  have eBusy : ∀ st pe, { L .ready none with state := st, pending := pe } = L st pe := by intro st pe; rw [hL]
  -- the record and the mark, as the loop goes on
  obtain ⟨W1, hW1⟩ : ∃ W1, W1 = (w.alloc (.deferred (some []))).alloc (.loop (L .ready none)) := ⟨_, rfl⟩
  have hsz : (w.alloc (.deferred (some []))).heap.size = D + 1 := by simp [hD]
  have rec1 : W1.heap[D + 1]? = some (.loop (L .ready none)) := by
    have := World.alloc_heap_new (w.alloc (.deferred (some []))) (.loop (L .ready none))
    rw [hsz] at this; rw [hW1]; exact this
  have mark1 : W1.heap[D]? = some (.deferred (some [])) := by
    rw [hW1, Below.heap_alloc _ _ _ (by omega), ← hD]; exact World.alloc_heap_new w _
  have inv1 : I [] W1 := by rw [hW1]; exact hIa _ _ _ (hIa _ _ _ h0)
  refine ⟨D + 1, [{ target := .collected D, args := #[] }], W1, { target := .fn (.func gf) lb, args := #[.func (.yield (D + 1)) #[] #[]] }, W1, gf, #[.func (.yield (D + 1)) #[] #[]] ++ lb, W1, by rw [hW1]; exact hst, ?_, fun _ _ => trivial, ?_, fun _ => h1, ?_⟩
  · simp only [resolve, hg]; simp [go_sem]
  · simp [invoke, go_sem, eg]
  have other : ∀ {W : World} {v : Value} {k : Nat}, k ≠ B → (W.setCell ⟨B, 0, none⟩ v).heap[k]? = W.heap[k]? := fun {W v k} hk => Below.heap_setCell W _ _ k hk
  refine (hseq (D + 1) (fun pre W => I pre W ∧ W.heap[D + 1]? = some (.loop (L .ready none)) ∧ W.heap[D]? = some (.deferred (some [])))
    (fun pre W => Ix pre W ∧ W.heap[D + 1]? = some (.loop (L .done (some .ret))) ∧ W.heap[D]? = some (.deferred (some []))) W1 (by rw [hW1]; exact hT _ _) ?_ (fun pre W ⟨i1, i2, i3⟩ => ⟨hId _ _ i1, i2, i3⟩) ?_ ⟨inv1, rec1, mark1⟩).mono ?_
  · rintro pre W v ⟨i1, i2, i3⟩
    exact ⟨hIB _ _ _ i1, (other (by omega)).trans i2, (other (by omega)).trans i3⟩
  · rintro pre x W hG ⟨i1, i2, i3⟩
    have hlt : D + 1 < W.heap.size := (Array.getElem?_eq_some_iff.1 i2).1
    have hy := run_yield (P := P) (args := #[enc x]) i2 (by rw [eP]; rfl)
    have ef : (L .ready none).fn = fn := by rw [hL]
    have et : ((L .ready none).params.zip #[enc x]).foldl (fun tmps (t, v) => tmps.setIfInBounds t v) (L .ready none).tmps = a.tmps.setIfInBounds p (enc x) := by rw [hL]; simp
    have ea : (L .ready none).assign = assign := by rw [hL]
    have eb : (L .ready none).body = body := by rw [hL]
    rw [ef, et, ea, eb] at hy
    have hbr := run_beginRound (P := P) i2 eS
    have ebz : { L .ready none with state := .busy } = L .busy none := by rw [hL]
    rw [ebz] at hbr
    have ncells : ∃ o0 : Obj, W.heap[D + 1]? = some o0 ∧ o0.isCells = false := ⟨_, i2, rfl⟩
    obtain ⟨W2, hW2⟩ : ∃ W2, W2 = W.putObj (D + 1) (.loop (L .busy none)) := ⟨_, rfl⟩
    have rec2 : W2.heap[D + 1]? = some (.loop (L .busy none)) := by rw [hW2]; exact World.putObj_heap_same hlt
    have mark2 : W2.heap[D]? = some (.deferred (some [])) := by rw [hW2]; exact (World.putObj_heap_other (by omega)).trans i3
    have cell2 : W2.heap[B]? = W.heap[B]? := by rw [hW2]; exact World.putObj_heap_other (by omega)
    have inv2 : I pre W2 := by rw [hW2]; exact hIp _ _ _ _ (by omega) ncells i1
    have eEnd : ∀ jump : Option Code, { L .busy none with state := if jump.isNone then .ready else .done, pending := jump } = L (if jump.isNone then .ready else .done) jump := by intro j; rw [hL]
    refine ⟨fn, _, assign, body, hy, roundIn_of_wpIn trivial (hassign _ x W _ ⟨W2, by rw [hW2]; exact hbr, wpIn_mono (hbody _ pre x W2 hG inv2) ?_⟩)⟩
    intro e a3 W3 hp
    have ends : ∀ jump : Option Code, KeepsOthers W2 W3 → (Instr.endRound (D + 1) jump).run P W3 = .ok (.bool jump.isNone) (W3.putObj (D + 1) (.loop (L (if jump.isNone then .ready else .done) jump))) ∧
        (W3.putObj (D + 1) (.loop (L (if jump.isNone then .ready else .done) jump))).heap[D + 1]? = some (.loop (L (if jump.isNone then .ready else .done) jump)) ∧
        (W3.putObj (D + 1) (.loop (L (if jump.isNone then .ready else .done) jump))).heap[D]? = some (.deferred (some [])) ∧ (∃ o0 : Obj, W3.heap[D + 1]? = some o0 ∧ o0.isCells = false) := by
      intro jump k3
      have r3 := k3.same _ _ rec2 rfl
      have he := run_endRound (P := P) jump r3
      rw [eEnd] at he
      exact ⟨he, World.putObj_heap_same (Array.getElem?_eq_some_iff.1 r3).1, (World.putObj_heap_other (by omega)).trans (k3.same _ _ mark2 rfl), _, r3, rfl⟩
    cases e with
    | normal =>
      obtain ⟨k3, b3, j3⟩ := hp
      obtain ⟨q1, q2, q3, q4⟩ := ends none k3
      exact ⟨_, _, q1, .inl ⟨rfl, ⟨hIp _ _ _ _ (by omega) q4 j3, q2, q3⟩, (World.putObj_heap_other (by omega)).trans (b3.trans cell2)⟩⟩
    | ret =>
      obtain ⟨k3, j3⟩ := hp
      obtain ⟨q1, q2, q3, q4⟩ := ends (some .ret) k3
      exact ⟨_, _, q1, .inr ⟨rfl, hXp _ _ _ _ (by omega) q4 j3, q2, q3⟩⟩
    | exit id => exact hp.elim
    | goto t => exact hp.elim
    | panic ch => exact hp.elim
    | outgrown => exact hp.elim
  · rintro e W2 ⟨⟨v, rfl⟩, (⟨xs, hS, i1, i2, i3⟩ | ⟨pre, rest, hS, i1, i2, i3⟩)⟩
    · have he := run_endLoop (P := P) i2 (by rw [hL]; simp)
      have ep : (L .ready none).pending = none := by rw [hL]
      rw [ep] at he
      exact ⟨none, _, he, hdone D xs _ (by omega) hS (hIp _ _ _ _ (by omega) ⟨_, i2, rfl⟩ i1) ((World.putObj_heap_other (by omega)).trans i3)⟩
    · have he := run_endLoop (P := P) i2 (by rw [hL]; simp)
      have ep : (L .done (some .ret)).pending = some .ret := by rw [hL]
      rw [ep] at he
      exact ⟨some .ret, _, he, hstop D pre rest _ (by omega) hS (hXp _ _ _ _ (by omega) ⟨_, i2, rfl⟩ i1) ((World.putObj_heap_other (by omega)).trans i3)⟩
/-- append(s, x...) onto a slice that is owned, in a round. -/
theorem wpListIn_app {F : Fence} {N : Nat} {P : Program} {W : World} {ops : Array Oper} {rest : List Oper} {o : Oper} {a : Act} {Q : Exit → Act → World → Prop} (hgd : o.guard = none) (s x : Operand) (t : TypeId)
    (ho : o.op = .call { callee := .builtin .append, args := #[s, x], argTypes := #[t, t] })
    {e : TypeId} {z : Value} {size bytes : Nat} (ht : SliceTy P t e z size bytes)
    {v : Value} {n : Nat} {xs : List Value} (hown : Own W e size v n xs) (hs : a.eval s = v) {ad : Addr} {m cap : Nat} {news : List Value} (hsrc : Sees W size (.slice (some ad) m cap) m news) (hx : a.eval x = .slice (some ad) m cap)
    (h1 : ∀ u ∈ news, u.oneCell' = true) (hb : (n + m) * bytes ≤ 140737488355328) (h63 : n + m ≤ 9223372036854775807)
    (h : ∀ v' W', Own W' e size v' (n + m) (xs ++ news) → Chg v.ownBlock.toList W W' → (∀ k ∈ v'.ownBlock.toList, k ∈ v.ownBlock.toList ∨ W.heap.size ≤ k) → wpListIn F N P ops Q rest (a.put o.dst v') W') : wpListIn F N P ops Q (o :: rest) a W := by
  obtain ⟨ht1, ht2, ht3, ht4⟩ := ht
  obtain ⟨i, hi, hz0, rfl, rfl⟩ := info_parts ht2
  obtain ⟨hl, ao, cap', hv, hc, hno, hcells⟩ := hsrc
  simp only [Value.slice.injEq, true_and] at hv
  obtain ⟨rfl, rfl⟩ := hv
  refine wpListIn_plain hgd fun K hK => ?_
  obtain ⟨v', w', hr, h2, h3, h4⟩ := run_app (P := P) W t o.type e i z ht1 hi hz0 ht3 v n xs hown ad m cap news hl (hcells ad rfl) h1 h63 hb
  unfold Oper.wpIn
  refine ⟨?_, ?_⟩
  · simp [Oper.about, ho, resolve, Target.leads, Sem.run_pure]
  · rw [Oper.semAt_plain F _ _ (by rw [ho]; intro c hc'; cases hc')]
    simp [execOp, ho, resolve, invoke, builtin, hs, hx, hr, Result.andThen]
    exact hK _ _ (h v' w' h2 h3 h4)
end Go.Aq

/- strings.Lines: the lines of a text, one by one: the iterator's contract. No statement of the seat is proved here. -/
namespace Go.Aq
open Go.RowKit
theorem idx_byte : ∀ (l : List UInt8), Lib.indexByte l 10 = if (10 : UInt8) ∈ l then (l.idxOf 10 : Int) else -1
  | [] => rfl
  | a :: t => by
    have ih := idx_byte t
    simp only [Lib.indexByte]
    by_cases h : a = 10
    · subst h; simp
    · have h1 : (a == 10) = false := by simpa using h
      have h2 : ((10 : UInt8) ∈ a :: t) ↔ (10 : UInt8) ∈ t := by simp [Ne.symm h]
      rw [h1, List.idxOf_cons, h1, cond_false, ih]
      by_cases hm : (10 : UInt8) ∈ t
      · rw [if_pos hm, if_pos (h2.2 hm)]
        have : ((t.idxOf 10 : Nat) : Int) ≠ -1 := by omega
        simp
      · rw [if_neg hm, if_neg (fun e => hm (h2.1 e))]
        simp
/-- How much is left in a cell. -/
def leftAt (B : Nat) (W : World) : Nat := match W.cell? ⟨B, 0, none⟩ with | some (.string s) => s.size | _ => 0
theorem leftAt_eq {B : Nat} {W : World} {r : List UInt8} {e : TypeId} (h : Blk W B #[.string (str r)] e) : leftAt B W = r.length := by
  unfold leftAt
  rw [h.cell 0]
  simp [str_size]
theorem Blk.same {W W' : World} {B : Nat} {cs : Array Value} {e : TypeId} (h : Blk W B cs e) (k : W'.heap[B]? = W.heap[B]?) : Blk W' B cs e := k.trans h
end Go.Aq
namespace Go.Proofs.YtihoohhngiomdaaGreatDoor
open Go.RowKit Go.Shelf Go.Aq Go.Aq.Wd
attribute [local go_sem] Oper.semAt_some
set_option maxRecDepth 100000 in
set_option maxHeartbeats 2000000 in
theorem lines_seq (b : List UInt8) (hb : b.length ≤ 1000000000) (n : Nat) (hn : 2 ≤ n) (B : Nat) :
    SeqB n Tryz.prog 49 B #[.pointer (some ⟨B, 0, none⟩)] (fun x : List UInt8 => Value.string (str x)) (fun xs => xs = linesL b) (fun pre x => pre.length ≤ 1000000000 ∧ x.length ≤ b.length) (fun W => Blk W B #[.string (str b)] 9) := by
  intro l J Jx W hT hJB hJd hY h0
  refine callsIn_of_wp Tryz.func49 rfl trivial ?_ rfl
  simp only [Tryz.ntmps49, List.size_toArray, List.length_cons, List.length_nil, Nat.reduceAdd, Nat.reduceSub, Array.replicate_succ, Array.replicate_zero, List.push_toArray, List.append_toArray, List.nil_append, List.cons_append]
  gi_wp2
  gi_loopw [] (fun wr => ∃ (pre : List (List UInt8)) (rest : List UInt8), linesL b = pre ++ linesL rest ∧ rest.length ≤ b.length ∧ Blk wr B #[.string (str rest)] 9 ∧ J pre wr) (fun wr => leftAt B wr)
  case atStart => exact ⟨[], b, rfl, Nat.le_refl _, hT, h0⟩
  case round =>
    obtain ⟨pre, rest, hl, hrl, hbx, hj⟩ := hrel
    by_cases hr : rest = []
    · subst hr
      have x0 : wr.cell? ⟨B, 0, none⟩ = some (.string (str [])) := hbx.cell 0
      have hsz : (str []).size = 0 := rfl
      have HL : Hid (pre = linesL b) := by show _ = _; rw [hl, linesL_nil, List.append_nil]
      clear hl
      gi_wp2
      go_end0
      exact ⟨⟨_, rfl⟩, .inl ⟨pre, HL.out, hj⟩⟩
    · have x0 : wr.cell? ⟨B, 0, none⟩ = some (.string (str rest)) := hbx.cell 0
      have f0 : wr.frozen? ⟨B, 0, none⟩ = false := hbx.frozen 0
      have hsz : (str rest).size = rest.length := str_size rest
      have hpos : 0 < rest.length := List.length_pos_iff.2 hr
      have t1 : decide ((0 : Int) < (rest.length : Int)) = true := by simp; omega
      have t1' : decide (0 < rest.length) = true := by simp; omega
      have hd : (str rest).data.toList = rest := by simp [str]
      have hib := idx_byte rest
      have hix := fun w => Tryz.strings_IndexByte (str rest) 10 w
      rw [hd] at hix
      have hlin := linesL_cons hr
      have hrest := restLn_lt hr
      have hpl : pre.length ≤ 1000000000 := by
        have h1 := linesL_len b.length b (Nat.le_refl _)
        rw [hl, List.length_append] at h1; omega
      have hhl : (headLn rest).length ≤ b.length := by
        have h1 := congrArg List.length (head_rest rest)
        rw [List.length_append] at h1; omega
      have hrl' : rest.length ≤ 1000000000 := by omega
      have HG := Lib.hid (And.intro hpl hhl)
      clear hpl hhl
      have HL := Lib.hid (And.intro hl (And.intro hlin (And.intro hrest (And.intro hrl hpos))))
      by_cases h10 : (10 : UInt8) ∈ rest
      · rw [if_pos h10] at hib
        have e10 : (10 : Int).toNat.toUInt8 = 10 := rfl
        rw [e10, hib] at hix
        have hil : rest.idxOf 10 < rest.length := List.idxOf_lt_length_of_mem h10
        have eh : headLn rest = rest.take (rest.idxOf 10 + 1) := if_pos h10
        have er : restLn rest = rest.drop (rest.idxOf 10 + 1) := if_pos h10
        generalize rest.idxOf 10 = i at *
        obtain ⟨k, hk⟩ : ∃ k, k = i + 1 := ⟨_, rfl⟩
        rw [← hk] at eh er
        have ex1 : (str rest).extract 0 k = str (headLn rest) := by rw [eh]; exact str_upto rest k
        have ex2 : (str rest).extract k rest.length = str (restLn rest) := by rw [er]; exact str_from rest k
        have hi0 : (i : Int) + 1 = (k : Int) := by omega
        have hi2 : (k : Int) ≤ (rest.length : Int) := by omega
        have hi3 : k ≤ rest.length := by omega
        have hi4 : (0 : Int) ≤ (k : Int) := by omega
        have bk : -9223372036854775808 ≤ (k : Int) ∧ (k : Int) ≤ 9223372036854775807 := by omega
        have hi1 : wrap64 ((i : Int) + 1) = (k : Int) := by rw [hi0]; unfold wrap64; omega
        have hi5 : IntKind.i64.wrap (k : Int) = (k : Int) := wrap_i64_nat k (by omega)
        clear hrl'
        have hi6 : wrap64 (k : Int) = (k : Int) := by rw [← hi0]; exact hi1.trans hi0.symm
        clear bk hk
        clear hl hlin hrest hrl hpos hr h10 hib eh er hil
        gi_wp2
        refine ⟨trivial, fun _ => by omega, (callsIn_wide.2 (hix _)).mono ?_⟩
        rintro e w' ⟨rfl, hw⟩
        rw [hw]
        clear hix hw w'
        gi_wp2
        refine wpIn_wide.2 ?_
        refine wp_region_E [B] (by kernel_rfl) ?_
        have y0 : wr.drew.cell? ⟨B, 0, none⟩ = some (.string (str rest)) := x0
        have g0 : wr.drew.frozen? ⟨B, 0, none⟩ = false := f0
        have c0 : Chg [B] wr.drew wr.drew := Chg.refl _ _
        refine wpAnyE_take 1 (v := (.int .i64 (i : Int))) c0 rfl (by kernel_rfl) (by kernel_rfl) (by kernel_rfl) (fun _ _ _ h => h) (by rfl) (fun w4 c4 => ?_) ?_
        · go_simp
        try simp only [Act.put, List.getElem_toArray, List.getElem_cons_succ, List.getElem_cons_zero, List.setIfInBounds_toArray, List.set_cons_zero, List.set_cons_succ]
        refine wpAnyE_take 2 (v := (.int .i64 (k : Int))) c0 rfl (by kernel_rfl) (by kernel_rfl) (by kernel_rfl) (fun _ _ _ h => h) (by rfl) (fun w4 c4 => ?_) ?_
        · go_simp
        try simp only [Act.put, List.getElem_toArray, List.getElem_cons_succ, List.getElem_cons_zero, List.setIfInBounds_toArray, List.set_cons_zero, List.set_cons_succ]
        refine wpAnyE_take 5 (v := (.int .i64 (i : Int))) c0 rfl (by kernel_rfl) (by kernel_rfl) (by kernel_rfl) (fun _ _ _ h => h) (by rfl) (fun w4 c4 => ?_) ?_
        · go_simp
        try simp only [Act.put, List.getElem_toArray, List.getElem_cons_succ, List.getElem_cons_zero, List.setIfInBounds_toArray, List.set_cons_zero, List.set_cons_succ]
        refine wpAnyE_take 6 (v := (.int .i64 (k : Int))) c0 rfl (by kernel_rfl) (by kernel_rfl) (by kernel_rfl) (fun _ _ _ h => h) (by rfl) (fun w4 c4 => ?_) ?_
        · go_simp
        try simp only [Act.put, List.getElem_toArray, List.getElem_cons_succ, List.getElem_cons_zero, List.setIfInBounds_toArray, List.set_cons_zero, List.set_cons_succ]
        refine wpAnyE_two 0 4 rfl rfl (by kernel_rfl) (by rfl) (by rfl) ?_ ?_
        · skip
          have HcC := Lib.hid c0
          clear c0
          go_simp
          have c0 := HcC.out
          refine ⟨c0, ?_⟩
          try simp only [Act.put, List.getElem_toArray, List.getElem_cons_succ, List.getElem_cons_zero, List.setIfInBounds_toArray, List.set_cons_zero, List.set_cons_succ]
          refine wpAnyE_take 3 (v := (.string (str (headLn rest)))) c0 rfl (by kernel_rfl) (by kernel_rfl) (by kernel_rfl) (fun _ _ _ h => h) (by rfl) (fun w4 c4 => ?_) ?_
          · go_simp
          try simp only [Act.put, List.getElem_toArray, List.getElem_cons_succ, List.getElem_cons_zero, List.setIfInBounds_toArray, List.set_cons_zero, List.set_cons_succ]
          refine wpAnyE_take 8 (v := (.string (str (headLn rest)))) c0 rfl (by kernel_rfl) (by kernel_rfl) (by kernel_rfl) (fun _ _ _ h => h) (by rfl) (fun w4 c4 => ?_) ?_
          · go_simp
          try simp only [Act.put, List.getElem_toArray, List.getElem_cons_succ, List.getElem_cons_zero, List.setIfInBounds_toArray, List.set_cons_zero, List.set_cons_succ]
          refine wpAnyE_only 4 rfl (by kernel_rfl) (by rfl) ?_
          have HcC := Lib.hid c0
          clear c0
          go_simp
          have c0 := HcC.out
          refine ⟨c0, ?_⟩
          try simp only [Act.put, List.getElem_toArray, List.getElem_cons_succ, List.getElem_cons_zero, List.setIfInBounds_toArray, List.set_cons_zero, List.set_cons_succ]
          refine wpAnyE_take 7 (v := (.string (str (restLn rest)))) c0 rfl (by kernel_rfl) (by kernel_rfl) (by kernel_rfl) (fun _ _ _ h => h) (by rfl) (fun w4 c4 => ?_) ?_
          · go_simp
          try simp only [Act.put, List.getElem_toArray, List.getElem_cons_succ, List.getElem_cons_zero, List.setIfInBounds_toArray, List.set_cons_zero, List.set_cons_succ]
          refine wpAnyE_only 9 rfl (by kernel_rfl) (by rfl) ?_
          go_simp
          refine ⟨(Chg.refl [B] _).setCell (.inl (by simp)) _, ?_⟩
          try simp only [Act.put, List.getElem_toArray, List.getElem_cons_succ, List.getElem_cons_zero, List.setIfInBounds_toArray, List.set_cons_zero, List.set_cons_succ]
          refine wpAnyE_done (by kernel_rfl) ?_ _
          have hj4 : J pre (wr.setCell ⟨B, 0, none⟩ (.string (str (restLn rest)))).drew := (hJd _ _ (hJB _ _ _ hj))
          have hb4 : Blk (wr.setCell ⟨B, 0, none⟩ (.string (str (restLn rest)))).drew B #[.string (str (restLn rest))] 9 := ((hbx.set 0 (.string (str (restLn rest)))).drew)
          generalize (wr.setCell ⟨B, 0, none⟩ (.string (str (restLn rest)))).drew = wE at *
          clear x0 f0
          obtain ⟨fn, tmps, assign, body, hy, hR⟩ := hY pre (headLn rest) wE HG.out hj4
          try dsimp only at hy
          generalize headLn rest = hd at *
          generalize restLn rest = rl at *
          gi_wp2
          refine ⟨fun _ => by omega, hR.mono ?_⟩
          rintro e W' (⟨rfl, hj', hk⟩ | ⟨rfl, hx'⟩)
          · have hb' := hb4.same hk
            clear hy hR
            gi_wp2
            go_roundw
            case rel =>
              obtain ⟨q1, q2, q3, q4, q5⟩ := HL.out
              exact ⟨pre ++ [hd], rl, by rw [q1, q2]; simp, by omega, hb', hj'⟩
            case measure =>
              obtain ⟨q1, q2, q3, q4, q5⟩ := HL.out
              rw [leftAt_eq hb', leftAt_eq hbx]; exact q3
          · clear hy hR
            gi_wp2
            refine bodyPost_ret (results_none rfl _ _ _) rfl ?_
            obtain ⟨q1, q2, q3, q4, q5⟩ := HL.out
            exact ⟨⟨_, rfl⟩, .inr ⟨pre ++ [hd], linesL rl, by rw [q1, q2]; simp, hx'⟩⟩
        · skip
          have HcC := Lib.hid c0
          clear c0
          go_simp
          have c0 := HcC.out
          refine ⟨c0, ?_⟩
          try simp only [Act.put, List.getElem_toArray, List.getElem_cons_succ, List.getElem_cons_zero, List.setIfInBounds_toArray, List.set_cons_zero, List.set_cons_succ]
          refine wpAnyE_take 7 (v := (.string (str (restLn rest)))) c0 rfl (by kernel_rfl) (by kernel_rfl) (by kernel_rfl) (fun _ _ _ h => h) (by rfl) (fun w4 c4 => ?_) ?_
          · go_simp
          try simp only [Act.put, List.getElem_toArray, List.getElem_cons_succ, List.getElem_cons_zero, List.setIfInBounds_toArray, List.set_cons_zero, List.set_cons_succ]
          refine wpAnyE_only 0 rfl (by kernel_rfl) (by rfl) ?_
          have HcC := Lib.hid c0
          clear c0
          go_simp
          have c0 := HcC.out
          refine ⟨c0, ?_⟩
          try simp only [Act.put, List.getElem_toArray, List.getElem_cons_succ, List.getElem_cons_zero, List.setIfInBounds_toArray, List.set_cons_zero, List.set_cons_succ]
          refine wpAnyE_take 3 (v := (.string (str (headLn rest)))) c0 rfl (by kernel_rfl) (by kernel_rfl) (by kernel_rfl) (fun _ _ _ h => h) (by rfl) (fun w4 c4 => ?_) ?_
          · go_simp
          try simp only [Act.put, List.getElem_toArray, List.getElem_cons_succ, List.getElem_cons_zero, List.setIfInBounds_toArray, List.set_cons_zero, List.set_cons_succ]
          refine wpAnyE_take 8 (v := (.string (str (headLn rest)))) c0 rfl (by kernel_rfl) (by kernel_rfl) (by kernel_rfl) (fun _ _ _ h => h) (by rfl) (fun w4 c4 => ?_) ?_
          · go_simp
          try simp only [Act.put, List.getElem_toArray, List.getElem_cons_succ, List.getElem_cons_zero, List.setIfInBounds_toArray, List.set_cons_zero, List.set_cons_succ]
          refine wpAnyE_only 9 rfl (by kernel_rfl) (by rfl) ?_
          go_simp
          refine ⟨(Chg.refl [B] _).setCell (.inl (by simp)) _, ?_⟩
          try simp only [Act.put, List.getElem_toArray, List.getElem_cons_succ, List.getElem_cons_zero, List.setIfInBounds_toArray, List.set_cons_zero, List.set_cons_succ]
          refine wpAnyE_done (by kernel_rfl) ?_ _
          have hj4 : J pre (wr.setCell ⟨B, 0, none⟩ (.string (str (restLn rest)))).drew := (hJd _ _ (hJB _ _ _ hj))
          have hb4 : Blk (wr.setCell ⟨B, 0, none⟩ (.string (str (restLn rest)))).drew B #[.string (str (restLn rest))] 9 := ((hbx.set 0 (.string (str (restLn rest)))).drew)
          generalize (wr.setCell ⟨B, 0, none⟩ (.string (str (restLn rest)))).drew = wE at *
          clear x0 f0
          obtain ⟨fn, tmps, assign, body, hy, hR⟩ := hY pre (headLn rest) wE HG.out hj4
          try dsimp only at hy
          generalize headLn rest = hd at *
          generalize restLn rest = rl at *
          gi_wp2
          refine ⟨fun _ => by omega, hR.mono ?_⟩
          rintro e W' (⟨rfl, hj', hk⟩ | ⟨rfl, hx'⟩)
          · have hb' := hb4.same hk
            clear hy hR
            gi_wp2
            go_roundw
            case rel =>
              obtain ⟨q1, q2, q3, q4, q5⟩ := HL.out
              exact ⟨pre ++ [hd], rl, by rw [q1, q2]; simp, by omega, hb', hj'⟩
            case measure =>
              obtain ⟨q1, q2, q3, q4, q5⟩ := HL.out
              rw [leftAt_eq hb', leftAt_eq hbx]; exact q3
          · clear hy hR
            gi_wp2
            refine bodyPost_ret (results_none rfl _ _ _) rfl ?_
            obtain ⟨q1, q2, q3, q4, q5⟩ := HL.out
            exact ⟨⟨_, rfl⟩, .inr ⟨pre ++ [hd], linesL rl, by rw [q1, q2]; simp, hx'⟩⟩
      · rw [if_neg h10] at hib
        have e10 : (10 : Int).toNat.toUInt8 = 10 := rfl
        rw [e10, hib] at hix
        have eh : headLn rest = rest := if_neg h10
        have er : restLn rest = [] := if_neg h10
        clear hl hlin hrest hrl hpos hr h10 hib
        gi_wp2
        refine ⟨trivial, fun _ => by omega, (callsIn_wide.2 (hix _)).mono ?_⟩
        rintro e w' ⟨rfl, hw⟩
        rw [hw]
        clear hix hw w'
        rw [eh, er] at HL
        rw [eh] at HG
        clear eh er hrl'
        have hj4 : J pre (wr.setCell ⟨B, 0, none⟩ (.string ⟨#[]⟩)) := hJB _ _ _ hj
        have hb4 : Blk (wr.setCell ⟨B, 0, none⟩ (.string ⟨#[]⟩)) B #[.string (str [])] 9 := hbx.set 0 (.string (str []))
        obtain ⟨fn, tmps, assign, body, hy, hR⟩ := hY pre rest _ HG.out hj4
        try dsimp only at hy
        gi_wp2
        refine ⟨fun _ => by omega, hR.mono ?_⟩
        rintro e W' (⟨rfl, hj', hk⟩ | ⟨rfl, hx'⟩)
        · have hb' := hb4.same hk
          clear hy hR
          gi_wp2
          go_roundw
          case rel =>
            obtain ⟨q1, q2, q3, q4, q5⟩ := HL.out
            exact ⟨pre ++ [rest], [], by rw [q1, q2]; simp, by simp, hb', hj'⟩
          case measure =>
            obtain ⟨q1, q2, q3, q4, q5⟩ := HL.out
            rw [leftAt_eq hb', leftAt_eq hbx]; exact q3
        · clear hy hR
          gi_wp2
          refine bodyPost_ret (results_none rfl _ _ _) rfl ?_
          obtain ⟨q1, q2, q3, q4, q5⟩ := HL.out
          exact ⟨⟨_, rfl⟩, .inr ⟨pre ++ [rest], linesL [], by rw [q1, q2]; simp, hx'⟩⟩
end Go.Proofs.YtihoohhngiomdaaGreatDoor

