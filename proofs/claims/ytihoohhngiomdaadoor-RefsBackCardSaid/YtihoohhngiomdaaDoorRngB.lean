/- strings.Lines: the lines of a text, one by one: the iterator's contract. No statement of the seat is proved here. -/
import Derived.Test.YtihoohhngiomdaaDoorRngA
import Derived.Test.YtihoohhngiomdaaDoorTakeE
import Derived.Test.YtihoohhngiomdaaDoorRefP
import Derived.Shelf.Abstract
import Derived.Shelf.RegionOpen
import Derived.WalkKit
import Derived.TacticsInMore
import Derived.LoopNIn
import Derived.LoopIn
set_option linter.unusedVariables false
set_option linter.unusedSimpArgs false
namespace Go.Aq
open Go.RowKit
theorem idx_byte : ∀ (l : List UInt8), Lib.indexByte l 10 = if (10 : UInt8) ∈ l then (l.idxOf 10 : Int) else -1
  | [] => rfl
  | a :: t => by
    have ih := idx_byte t
    simp only [Lib.indexByte]
    by_cases h : a = 10
    · subst h; simp
    · have h1 : (a == 10) = false := by simpa using h
      have h2 : ((10 : UInt8) ∈ a :: t) ↔ (10 : UInt8) ∈ t := by simp [Ne.symm h]
      rw [h1, List.idxOf_cons, h1, cond_false, ih]
      by_cases hm : (10 : UInt8) ∈ t
      · rw [if_pos hm, if_pos (h2.2 hm)]
        have : ((t.idxOf 10 : Nat) : Int) ≠ -1 := by omega
        simp
      · rw [if_neg hm, if_neg (fun e => hm (h2.1 e))]
        simp
/-- How much is left in a cell. -/
def leftAt (B : Nat) (W : World) : Nat := match W.cell? ⟨B, 0, none⟩ with | some (.string s) => s.size | _ => 0
theorem leftAt_eq {B : Nat} {W : World} {r : List UInt8} {e : TypeId} (h : Blk W B #[.string (str r)] e) : leftAt B W = r.length := by
  unfold leftAt
  rw [h.cell 0]
  simp [str_size]
theorem Blk.same {W W' : World} {B : Nat} {cs : Array Value} {e : TypeId} (h : Blk W B cs e) (k : W'.heap[B]? = W.heap[B]?) : Blk W' B cs e := k.trans h
end Go.Aq
namespace Go.Proofs.YtihoohhngiomdaaDoor
open Go.RowKit Go.Shelf Go.Aq Go.Aq.Wd
attribute [local go_sem] Oper.semAt_some
set_option maxRecDepth 100000 in
set_option maxHeartbeats 2000000 in
theorem lines_seq (b : List UInt8) (hb : b.length ≤ 1000000000) (n : Nat) (hn : 2 ≤ n) (B : Nat) :
    SeqB n Tryd.prog 39 B #[.pointer (some ⟨B, 0, none⟩)] (fun x : List UInt8 => Value.string (str x)) (fun xs => xs = linesL b) (fun pre x => pre.length ≤ 1000000000 ∧ x.length ≤ b.length) (fun W => Blk W B #[.string (str b)] 9) := by
  intro l J Jx W hT hJB hJd hY h0
  refine callsIn_of_wp Tryd.func39 rfl trivial ?_ rfl
  simp only [Tryd.ntmps39, List.size_toArray, List.length_cons, List.length_nil, Nat.reduceAdd, Nat.reduceSub, Array.replicate_succ, Array.replicate_zero, List.push_toArray, List.append_toArray, List.nil_append, List.cons_append]
  gi_wp2
  gi_loopw [] (fun wr => ∃ (pre : List (List UInt8)) (rest : List UInt8), linesL b = pre ++ linesL rest ∧ rest.length ≤ b.length ∧ Blk wr B #[.string (str rest)] 9 ∧ J pre wr) (fun wr => leftAt B wr)
  case atStart => exact ⟨[], b, rfl, Nat.le_refl _, hT, h0⟩
  case round =>
    obtain ⟨pre, rest, hl, hrl, hbx, hj⟩ := hrel
    by_cases hr : rest = []
    · subst hr
      have x0 : wr.cell? ⟨B, 0, none⟩ = some (.string (str [])) := hbx.cell 0
      have hsz : (str []).size = 0 := rfl
      have HL : Hid (pre = linesL b) := by show _ = _; rw [hl, linesL_nil, List.append_nil]
      clear hl
      gi_wp2
      go_end0
      exact ⟨⟨_, rfl⟩, .inl ⟨pre, HL.out, hj⟩⟩
    · have x0 : wr.cell? ⟨B, 0, none⟩ = some (.string (str rest)) := hbx.cell 0
      have f0 : wr.frozen? ⟨B, 0, none⟩ = false := hbx.frozen 0
      have hsz : (str rest).size = rest.length := str_size rest
      have hpos : 0 < rest.length := List.length_pos_iff.2 hr
      have t1 : decide ((0 : Int) < (rest.length : Int)) = true := by simp; omega
      have t1' : decide (0 < rest.length) = true := by simp; omega
      have hd : (str rest).data.toList = rest := by simp [str]
      have hib := idx_byte rest
      have hix := fun w => Tryd.strings_IndexByte (str rest) 10 w
      rw [hd] at hix
      have hlin := linesL_cons hr
      have hrest := restLn_lt hr
      have hpl : pre.length ≤ 1000000000 := by
        have h1 := linesL_len b.length b (Nat.le_refl _)
        rw [hl, List.length_append] at h1; omega
      have hhl : (headLn rest).length ≤ b.length := by
        have h1 := congrArg List.length (head_rest rest)
        rw [List.length_append] at h1; omega
      have hrl' : rest.length ≤ 1000000000 := by omega
      have HG := Lib.hid (And.intro hpl hhl)
      clear hpl hhl
      have HL := Lib.hid (And.intro hl (And.intro hlin (And.intro hrest (And.intro hrl hpos))))
      by_cases h10 : (10 : UInt8) ∈ rest
      · rw [if_pos h10] at hib
        have e10 : (10 : Int).toNat.toUInt8 = 10 := rfl
        rw [e10, hib] at hix
        have hil : rest.idxOf 10 < rest.length := List.idxOf_lt_length_of_mem h10
        have eh : headLn rest = rest.take (rest.idxOf 10 + 1) := if_pos h10
        have er : restLn rest = rest.drop (rest.idxOf 10 + 1) := if_pos h10
        generalize rest.idxOf 10 = i at *
        obtain ⟨k, hk⟩ : ∃ k, k = i + 1 := ⟨_, rfl⟩
        rw [← hk] at eh er
        have ex1 : (str rest).extract 0 k = str (headLn rest) := by rw [eh]; exact str_upto rest k
        have ex2 : (str rest).extract k rest.length = str (restLn rest) := by rw [er]; exact str_from rest k
        have hi0 : (i : Int) + 1 = (k : Int) := by omega
        have hi2 : (k : Int) ≤ (rest.length : Int) := by omega
        have hi3 : k ≤ rest.length := by omega
        have hi4 : (0 : Int) ≤ (k : Int) := by omega
        have bk : -9223372036854775808 ≤ (k : Int) ∧ (k : Int) ≤ 9223372036854775807 := by omega
        have hi1 : wrap64 ((i : Int) + 1) = (k : Int) := by rw [hi0]; unfold wrap64; omega
        have hi5 : IntKind.i64.wrap (k : Int) = (k : Int) := wrap_i64_nat k (by omega)
        clear hrl'
        have hi6 : wrap64 (k : Int) = (k : Int) := by rw [← hi0]; exact hi1.trans hi0.symm
        clear bk hk
        clear hl hlin hrest hrl hpos hr h10 hib eh er hil
        gi_wp2
        refine ⟨trivial, fun _ => by omega, (callsIn_wide.2 (hix _)).mono ?_⟩
        rintro e w' ⟨rfl, hw⟩
        rw [hw]
        clear hix hw w'
        gi_wp2
        refine wpIn_wide.2 ?_
        refine wp_region_E [B] (by kernel_rfl) ?_
        have y0 : wr.drew.cell? ⟨B, 0, none⟩ = some (.string (str rest)) := x0
        have g0 : wr.drew.frozen? ⟨B, 0, none⟩ = false := f0
        have c0 : Chg [B] wr.drew wr.drew := Chg.refl _ _
        refine wpAnyE_take 1 (v := (.int .i64 (i : Int))) c0 rfl (by kernel_rfl) (by kernel_rfl) (by kernel_rfl) (fun _ _ _ h => h) (by rfl) (fun w4 c4 => ?_) ?_
        · go_simp
        try simp only [Act.put, List.getElem_toArray, List.getElem_cons_succ, List.getElem_cons_zero, List.setIfInBounds_toArray, List.set_cons_zero, List.set_cons_succ]
        refine wpAnyE_take 2 (v := (.int .i64 (k : Int))) c0 rfl (by kernel_rfl) (by kernel_rfl) (by kernel_rfl) (fun _ _ _ h => h) (by rfl) (fun w4 c4 => ?_) ?_
        · go_simp
        try simp only [Act.put, List.getElem_toArray, List.getElem_cons_succ, List.getElem_cons_zero, List.setIfInBounds_toArray, List.set_cons_zero, List.set_cons_succ]
        refine wpAnyE_take 5 (v := (.int .i64 (i : Int))) c0 rfl (by kernel_rfl) (by kernel_rfl) (by kernel_rfl) (fun _ _ _ h => h) (by rfl) (fun w4 c4 => ?_) ?_
        · go_simp
        try simp only [Act.put, List.getElem_toArray, List.getElem_cons_succ, List.getElem_cons_zero, List.setIfInBounds_toArray, List.set_cons_zero, List.set_cons_succ]
        refine wpAnyE_take 6 (v := (.int .i64 (k : Int))) c0 rfl (by kernel_rfl) (by kernel_rfl) (by kernel_rfl) (fun _ _ _ h => h) (by rfl) (fun w4 c4 => ?_) ?_
        · go_simp
        try simp only [Act.put, List.getElem_toArray, List.getElem_cons_succ, List.getElem_cons_zero, List.setIfInBounds_toArray, List.set_cons_zero, List.set_cons_succ]
        refine wpAnyE_two 0 4 rfl rfl (by kernel_rfl) (by rfl) (by rfl) ?_ ?_
        · skip
          have HcC := Lib.hid c0
          clear c0
          go_simp
          have c0 := HcC.out
          refine ⟨c0, ?_⟩
          try simp only [Act.put, List.getElem_toArray, List.getElem_cons_succ, List.getElem_cons_zero, List.setIfInBounds_toArray, List.set_cons_zero, List.set_cons_succ]
          refine wpAnyE_take 3 (v := (.string (str (headLn rest)))) c0 rfl (by kernel_rfl) (by kernel_rfl) (by kernel_rfl) (fun _ _ _ h => h) (by rfl) (fun w4 c4 => ?_) ?_
          · go_simp
          try simp only [Act.put, List.getElem_toArray, List.getElem_cons_succ, List.getElem_cons_zero, List.setIfInBounds_toArray, List.set_cons_zero, List.set_cons_succ]
          refine wpAnyE_take 8 (v := (.string (str (headLn rest)))) c0 rfl (by kernel_rfl) (by kernel_rfl) (by kernel_rfl) (fun _ _ _ h => h) (by rfl) (fun w4 c4 => ?_) ?_
          · go_simp
          try simp only [Act.put, List.getElem_toArray, List.getElem_cons_succ, List.getElem_cons_zero, List.setIfInBounds_toArray, List.set_cons_zero, List.set_cons_succ]
          refine wpAnyE_only 4 rfl (by kernel_rfl) (by rfl) ?_
          have HcC := Lib.hid c0
          clear c0
          go_simp
          have c0 := HcC.out
          refine ⟨c0, ?_⟩
          try simp only [Act.put, List.getElem_toArray, List.getElem_cons_succ, List.getElem_cons_zero, List.setIfInBounds_toArray, List.set_cons_zero, List.set_cons_succ]
          refine wpAnyE_take 7 (v := (.string (str (restLn rest)))) c0 rfl (by kernel_rfl) (by kernel_rfl) (by kernel_rfl) (fun _ _ _ h => h) (by rfl) (fun w4 c4 => ?_) ?_
          · go_simp
          try simp only [Act.put, List.getElem_toArray, List.getElem_cons_succ, List.getElem_cons_zero, List.setIfInBounds_toArray, List.set_cons_zero, List.set_cons_succ]
          refine wpAnyE_only 9 rfl (by kernel_rfl) (by rfl) ?_
          go_simp
          refine ⟨(Chg.refl [B] _).setCell (.inl (by simp)) _, ?_⟩
          try simp only [Act.put, List.getElem_toArray, List.getElem_cons_succ, List.getElem_cons_zero, List.setIfInBounds_toArray, List.set_cons_zero, List.set_cons_succ]
          refine wpAnyE_done (by kernel_rfl) ?_ _
          have hj4 : J pre (wr.setCell ⟨B, 0, none⟩ (.string (str (restLn rest)))).drew := (hJd _ _ (hJB _ _ _ hj))
          have hb4 : Blk (wr.setCell ⟨B, 0, none⟩ (.string (str (restLn rest)))).drew B #[.string (str (restLn rest))] 9 := ((hbx.set 0 (.string (str (restLn rest)))).drew)
          generalize (wr.setCell ⟨B, 0, none⟩ (.string (str (restLn rest)))).drew = wE at *
          clear x0 f0
          obtain ⟨fn, tmps, assign, body, hy, hR⟩ := hY pre (headLn rest) wE HG.out hj4
          try dsimp only at hy
          generalize headLn rest = hd at *
          generalize restLn rest = rl at *
          gi_wp2
          refine ⟨fun _ => by omega, hR.mono ?_⟩
          rintro e W' (⟨rfl, hj', hk⟩ | ⟨rfl, hx'⟩)
          · have hb' := hb4.same hk
            clear hy hR
            gi_wp2
            go_roundw
            case rel =>
              obtain ⟨q1, q2, q3, q4, q5⟩ := HL.out
              exact ⟨pre ++ [hd], rl, by rw [q1, q2]; simp, by omega, hb', hj'⟩
            case measure =>
              obtain ⟨q1, q2, q3, q4, q5⟩ := HL.out
              rw [leftAt_eq hb', leftAt_eq hbx]; exact q3
          · clear hy hR
            gi_wp2
            refine bodyPost_ret (results_none rfl _ _ _) rfl ?_
            obtain ⟨q1, q2, q3, q4, q5⟩ := HL.out
            exact ⟨⟨_, rfl⟩, .inr ⟨pre ++ [hd], linesL rl, by rw [q1, q2]; simp, hx'⟩⟩
        · skip
          have HcC := Lib.hid c0
          clear c0
          go_simp
          have c0 := HcC.out
          refine ⟨c0, ?_⟩
          try simp only [Act.put, List.getElem_toArray, List.getElem_cons_succ, List.getElem_cons_zero, List.setIfInBounds_toArray, List.set_cons_zero, List.set_cons_succ]
          refine wpAnyE_take 7 (v := (.string (str (restLn rest)))) c0 rfl (by kernel_rfl) (by kernel_rfl) (by kernel_rfl) (fun _ _ _ h => h) (by rfl) (fun w4 c4 => ?_) ?_
          · go_simp
          try simp only [Act.put, List.getElem_toArray, List.getElem_cons_succ, List.getElem_cons_zero, List.setIfInBounds_toArray, List.set_cons_zero, List.set_cons_succ]
          refine wpAnyE_only 0 rfl (by kernel_rfl) (by rfl) ?_
          have HcC := Lib.hid c0
          clear c0
          go_simp
          have c0 := HcC.out
          refine ⟨c0, ?_⟩
          try simp only [Act.put, List.getElem_toArray, List.getElem_cons_succ, List.getElem_cons_zero, List.setIfInBounds_toArray, List.set_cons_zero, List.set_cons_succ]
          refine wpAnyE_take 3 (v := (.string (str (headLn rest)))) c0 rfl (by kernel_rfl) (by kernel_rfl) (by kernel_rfl) (fun _ _ _ h => h) (by rfl) (fun w4 c4 => ?_) ?_
          · go_simp
          try simp only [Act.put, List.getElem_toArray, List.getElem_cons_succ, List.getElem_cons_zero, List.setIfInBounds_toArray, List.set_cons_zero, List.set_cons_succ]
          refine wpAnyE_take 8 (v := (.string (str (headLn rest)))) c0 rfl (by kernel_rfl) (by kernel_rfl) (by kernel_rfl) (fun _ _ _ h => h) (by rfl) (fun w4 c4 => ?_) ?_
          · go_simp
          try simp only [Act.put, List.getElem_toArray, List.getElem_cons_succ, List.getElem_cons_zero, List.setIfInBounds_toArray, List.set_cons_zero, List.set_cons_succ]
          refine wpAnyE_only 9 rfl (by kernel_rfl) (by rfl) ?_
          go_simp
          refine ⟨(Chg.refl [B] _).setCell (.inl (by simp)) _, ?_⟩
          try simp only [Act.put, List.getElem_toArray, List.getElem_cons_succ, List.getElem_cons_zero, List.setIfInBounds_toArray, List.set_cons_zero, List.set_cons_succ]
          refine wpAnyE_done (by kernel_rfl) ?_ _
          have hj4 : J pre (wr.setCell ⟨B, 0, none⟩ (.string (str (restLn rest)))).drew := (hJd _ _ (hJB _ _ _ hj))
          have hb4 : Blk (wr.setCell ⟨B, 0, none⟩ (.string (str (restLn rest)))).drew B #[.string (str (restLn rest))] 9 := ((hbx.set 0 (.string (str (restLn rest)))).drew)
          generalize (wr.setCell ⟨B, 0, none⟩ (.string (str (restLn rest)))).drew = wE at *
          clear x0 f0
          obtain ⟨fn, tmps, assign, body, hy, hR⟩ := hY pre (headLn rest) wE HG.out hj4
          try dsimp only at hy
          generalize headLn rest = hd at *
          generalize restLn rest = rl at *
          gi_wp2
          refine ⟨fun _ => by omega, hR.mono ?_⟩
          rintro e W' (⟨rfl, hj', hk⟩ | ⟨rfl, hx'⟩)
          · have hb' := hb4.same hk
            clear hy hR
            gi_wp2
            go_roundw
            case rel =>
              obtain ⟨q1, q2, q3, q4, q5⟩ := HL.out
              exact ⟨pre ++ [hd], rl, by rw [q1, q2]; simp, by omega, hb', hj'⟩
            case measure =>
              obtain ⟨q1, q2, q3, q4, q5⟩ := HL.out
              rw [leftAt_eq hb', leftAt_eq hbx]; exact q3
          · clear hy hR
            gi_wp2
            refine bodyPost_ret (results_none rfl _ _ _) rfl ?_
            obtain ⟨q1, q2, q3, q4, q5⟩ := HL.out
            exact ⟨⟨_, rfl⟩, .inr ⟨pre ++ [hd], linesL rl, by rw [q1, q2]; simp, hx'⟩⟩
      · rw [if_neg h10] at hib
        have e10 : (10 : Int).toNat.toUInt8 = 10 := rfl
        rw [e10, hib] at hix
        have eh : headLn rest = rest := if_neg h10
        have er : restLn rest = [] := if_neg h10
        clear hl hlin hrest hrl hpos hr h10 hib
        gi_wp2
        refine ⟨trivial, fun _ => by omega, (callsIn_wide.2 (hix _)).mono ?_⟩
        rintro e w' ⟨rfl, hw⟩
        rw [hw]
        clear hix hw w'
        rw [eh, er] at HL
        rw [eh] at HG
        clear eh er hrl'
        have hj4 : J pre (wr.setCell ⟨B, 0, none⟩ (.string ⟨#[]⟩)) := hJB _ _ _ hj
        have hb4 : Blk (wr.setCell ⟨B, 0, none⟩ (.string ⟨#[]⟩)) B #[.string (str [])] 9 := hbx.set 0 (.string (str []))
        obtain ⟨fn, tmps, assign, body, hy, hR⟩ := hY pre rest _ HG.out hj4
        try dsimp only at hy
        gi_wp2
        refine ⟨fun _ => by omega, hR.mono ?_⟩
        rintro e W' (⟨rfl, hj', hk⟩ | ⟨rfl, hx'⟩)
        · have hb' := hb4.same hk
          clear hy hR
          gi_wp2
          go_roundw
          case rel =>
            obtain ⟨q1, q2, q3, q4, q5⟩ := HL.out
            exact ⟨pre ++ [rest], [], by rw [q1, q2]; simp, by simp, hb', hj'⟩
          case measure =>
            obtain ⟨q1, q2, q3, q4, q5⟩ := HL.out
            rw [leftAt_eq hb', leftAt_eq hbx]; exact q3
        · clear hy hR
          gi_wp2
          refine bodyPost_ret (results_none rfl _ _ _) rfl ?_
          obtain ⟨q1, q2, q3, q4, q5⟩ := HL.out
          exact ⟨⟨_, rfl⟩, .inr ⟨pre ++ [rest], linesL [], by rw [q1, q2]; simp, hx'⟩⟩
end Go.Proofs.YtihoohhngiomdaaDoor
