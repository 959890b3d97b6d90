/- aqulaw22.first; the law DagBases walked. No statement of the seat is proved here. -/
import Derived.Test.YtphmplbcegibjaaDgP
set_option linter.unusedVariables false
set_option linter.unusedSimpArgs false
namespace Go.Proofs.Ytphmplbcegibjaa
open Go.RowKit Go.Aq Go.Aq.Dg Go.Maps

theorem small_l0 : SmallG l0 := ⟨by decide, by decide, by decide⟩

theorem rows3 {W : World} {k : Nat} {cs : Array Value} {e : TypeId} {m s : Nat} (h : Blk W k cs e) (hm : cs.size = m * s) : Sees W s (.slice (some ⟨k, 0, none⟩) m m) m cs.toList := by
  refine ⟨by simpa using hm, _, _, rfl, Nat.le_refl _, by simp, fun ad had j u hu => ?_⟩
  cases had
  rw [Addr.add_lit, Nat.zero_add, h.cell]
  simpa using hu
def L0 (a b : Nat) : List (NodeD × Value) := [(⟨[67], [[65]], 2⟩, .slice (some ⟨a, 0, none⟩) 1 1), (⟨[65], [], 1⟩, .slice none 0 0), (⟨[66], [[65]], 2⟩, .slice (some ⟨b, 0, none⟩) 1 1)]
theorem nodes_L0 {W : World} {a b k : Nat} (h1 : Blk W a #[.string (str [65])] 9) (h2 : Blk W b #[.string (str [65])] 9)
    (h3 : Blk W k #[.string (str [67]), .slice (some ⟨a, 0, none⟩) 1 1, .int .i64 2, .string (str [65]), .slice none 0 0, .int .i64 1, .string (str [66]), .slice (some ⟨b, 0, none⟩) 1 1, .int .i64 2] 35) :
    NodesR W (.slice (some ⟨k, 0, none⟩) 3 3) (L0 a b) := by
  refine ⟨rows3 (m := 3) (s := 3) h3 rfl, fun q hq => ?_⟩
  simp only [L0, List.mem_cons, List.not_mem_nil, or_false] at hq
  rcases hq with rfl | rfl | rfl
  · exact rows3 (m := 1) (s := 1) h1 rfl
  · exact Sees.nil _ _
  · exact rows3 (m := 1) (s := 1) h2 rfl

set_option maxHeartbeats 1000000 in
set_option maxRecDepth 100000 in
theorem first_any (w : World) : Calls Try.prog 6 #[] w fun e w' => e = .returned (.bool true) ∧ Chg [] w w' := by
  go_enter Try.func6, Try.ntmps6
  go_wp2_with fail
  have b1 : Blk (w.alloc (.cells #[.string ⟨#[65]⟩] 9)) w.heap.size #[.string ⟨#[65]⟩] 9 := Blk.new _ _ _
  have b1' := (b1.alloc (.cells #[.string ⟨#[65]⟩] 9)).alloc (.cells #[.string ⟨#[67]⟩, .slice (some ⟨w.heap.size, 0, none⟩) 1 1, .int .i64 2, .string ⟨#[65]⟩, .slice none 0 0, .int .i64 1, .string ⟨#[66]⟩, .slice (some ⟨w.heap.size + 1, 0, none⟩) 1 1, .int .i64 2] 35)
  have b2 : Blk ((w.alloc (.cells #[.string ⟨#[65]⟩] 9)).alloc (.cells #[.string ⟨#[65]⟩] 9)) (w.heap.size + 1) #[.string ⟨#[65]⟩] 9 := Blk.new_at _ _ _ (by simp)
  have b2' := b2.alloc (.cells #[.string ⟨#[67]⟩, .slice (some ⟨w.heap.size, 0, none⟩) 1 1, .int .i64 2, .string ⟨#[65]⟩, .slice none 0 0, .int .i64 1, .string ⟨#[66]⟩, .slice (some ⟨w.heap.size + 1, 0, none⟩) 1 1, .int .i64 2] 35)
  have b3 : Blk (((w.alloc (.cells #[.string ⟨#[65]⟩] 9)).alloc (.cells #[.string ⟨#[65]⟩] 9)).alloc (.cells #[.string ⟨#[67]⟩, .slice (some ⟨w.heap.size, 0, none⟩) 1 1, .int .i64 2, .string ⟨#[65]⟩, .slice none 0 0, .int .i64 1, .string ⟨#[66]⟩, .slice (some ⟨w.heap.size + 1, 0, none⟩) 1 1, .int .i64 2] 35)) (w.heap.size + 1 + 1)
    #[.string ⟨#[67]⟩, .slice (some ⟨w.heap.size, 0, none⟩) 1 1, .int .i64 2, .string ⟨#[65]⟩, .slice none 0 0, .int .i64 1, .string ⟨#[66]⟩, .slice (some ⟨w.heap.size + 1, 0, none⟩) 1 1, .int .i64 2] 35 := Blk.new_at _ _ _ (by simp)
  have hN := nodes_L0 b1' b2' b3
  have hc3 : Chg [] w (((w.alloc (.cells #[.string ⟨#[65]⟩] 9)).alloc (.cells #[.string ⟨#[65]⟩] 9)).alloc (.cells #[.string ⟨#[67]⟩, .slice (some ⟨w.heap.size, 0, none⟩) 1 1, .int .i64 2, .string ⟨#[65]⟩, .slice none 0 0, .int .i64 1, .string ⟨#[66]⟩, .slice (some ⟨w.heap.size + 1, 0, none⟩) 1 1, .int .i64 2] 35)) := (((Chg.refl [] w).alloc _).alloc _).alloc _
  have hs65 : (str [65]).toList = [65] := str_toList _
  have kn := new_any _ _ _ hN (by simp [L0]) (by
    intro q hq
    simp only [L0, List.mem_cons, List.not_mem_nil, or_false] at hq
    rcases hq with rfl | rfl | rfl <;> simp)
  have hL : (L0 w.heap.size (w.heap.size + 1)).map (·.1) = l0 := rfl
  rw [hL, newE_l0] at kn
  generalize ((w.alloc (.cells #[.string ⟨#[65]⟩] 9)).alloc (.cells #[.string ⟨#[65]⟩] 9)).alloc (.cells #[.string ⟨#[67]⟩, .slice (some ⟨w.heap.size, 0, none⟩) 1 1, .int .i64 2, .string ⟨#[65]⟩, .slice none 0 0, .int .i64 1, .string ⟨#[66]⟩, .slice (some ⟨w.heap.size + 1, 0, none⟩) 1 1, .int .i64 2] 35) = w3 at *
  clear b1 b1' b2 b2' b3 hN hL
  refine kn.mono ?_
  rintro e w4 ⟨c4, ⟨-, p, rfl, hG⟩ | ⟨h, -⟩⟩
  case inr => exact absurd rfl h
  have nd := (newE_good newE_l0).1
  have kb1 := base_any nd small_l0 hG [66] [67] (by decide) (by decide)
  have kb2 := fun w' (c : Chg [] w4 w') => base_any nd small_l0 (hG.chg c) [65] [67] (by decide) (by decide)
  clear kn nd
  go_wp2_with (first
    | (go_at_call 15; refine (kb2 w5 c5).mono ?_; rintro e w6 ⟨x6, r6, rfl, hb6, -, c6⟩; obtain ⟨rfl, rfl⟩ := base_l0' hb6)
    | (go_at_call 15; refine kb1.mono ?_; rintro e w5 ⟨x5, r5, rfl, hb5, -, c5⟩; obtain ⟨rfl, rfl⟩ := base_l0 hb5))
  go_ret
  exact ⟨rfl, ((hc3.nil c4).nil c5).nil c6⟩
end Go.Proofs.Ytphmplbcegibjaa
