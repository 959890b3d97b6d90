/- PixEnc, TakeE, TakeS, PixDec, NumUnhex, ParseA, Parse26, PrintW, BackW, NumVal, RParP, SWords, OpenAct, Plain26, Laid2 in one text. No statement of the seat is proved here. -/
import Derived.Test.YtfammoidikdbpaaGreatDoorActs26
import Derived.Test.YtfammoidikdbpaaGreatDoorNumBytes
import Derived.Test.YtfammoidikdbpaaGreatDoorTake
import Derived.Test.YtfammoidikdbpaaGreatDoorPrint26
import Derived.Test.YtfammoidikdbpaaGreatDoorBase
import Derived.OrdersHeld
import Derived.Test.YtfammoidikdbpaaGreatDoorArr
import Derived.StillTail
import Derived.Test.YtfammoidikdbpaaGreatDoorShelf
import Derived.Test.YtfammoidikdbpaaGreatDoorNumHex
import Derived.Test.YtfammoidikdbpaaGreatDoorShelfB
import Derived.Lib.AppendIntMem
import Derived.Lib.ItoaNum
import Derived.WalkKit
import Derived.Test.YtfammoidikdbpaaGreatDoorRWordY
import Derived.Test.YtfammoidikdbpaaGreatDoorOpenS
import Derived.Test.YtfammoidikdbpaaGreatDoorSame26
import Derived.Test.YtfammoidikdbpaaGreatDoorBack26
import Derived.Test.YtfammoidikdbpaaGreatDoorLaid
set_option linter.unusedSimpArgs false
set_option linter.unusedVariables false
/- Contract of pix.Encode. No statement of the seat is proved here. -/
namespace Go.Aq
open Go.RowKit
/-- A picture's bytes; 4: it may not be. -/
def encP (s : ShpD) (px : List UInt8) : List UInt8 := [82] ++ beB s.w.toNat 2 ++ beB s.h.toNat 2 ++ [UInt8.ofNat s.c.toNat, UInt8.ofNat s.d.toNat] ++ px
def encPL (s : ShpD) (px : List UInt8) : List UInt8 × Int := if mayPix s px.length then (encP s px, 0) else ([], 4)
theorem encP_len (s : ShpD) (px : List UInt8) : (encP s px).length = 7 + px.length := by simp [encP, beB_length]; omega
theorem wrap_u8_nat (a : Nat) (h : a < 256) : IntKind.u8.wrap (a : Int) = (a : Int) := by
  simp [IntKind.wrap, IntKind.bits, IntKind.signed]; omega
end Go.Aq
namespace Go.Proofs.YtfammoidikdbpaaGreatDoor
open Go.RowKit Go.Aq Go.Aq.Wd
set_option maxRecDepth 100000 in
set_option maxHeartbeats 4000000 in
theorem enc_good (s : ShpD) (pv : Value) (n : Nat) (px : List UInt8) (w : World) (hv : Sees w 1 pv n (Bs px)) (hm : mayPix s n = true) :
    Calls Tryz.prog 40 #[rasV s pv] w fun e w' => ∃ v', e = .returned (.tuple #[v', .int .i64 0]) ∧ Sees w' 1 v' (7 + n) (Bs (encP s px)) ∧ (∀ k ∈ eyes v', w.heap.size ≤ k) ∧ Chg [] w w' := by
  obtain ⟨K, hK⟩ : ∃ K, w.heap.size = K := ⟨_, rfl⟩
  have hm' := hm
  unfold mayPix maySh at hm'
  simp only [Bool.and_eq_true, decide_eq_true_eq, beq_iff_eq] at hm'
  obtain ⟨⟨hnum, hsz⟩, hns⟩ := hm'
  obtain ⟨hw, hh, hc4, hd8⟩ := (numsB_iff s).1 hnum
  have hn16 : n ≤ 16384 := by omega
  obtain ⟨ao, cap, rfl, hcap, hno⟩ := hv.shape
  have hmp := fun w' => mayPix_any s ao n cap (by omega) w'
  rw [hm] at hmp
  obtain ⟨W, hW⟩ : ∃ W : Nat, s.w = W := ⟨s.w.toNat, by omega⟩
  obtain ⟨H, hH⟩ : ∃ H : Nat, s.h = H := ⟨s.h.toNat, by omega⟩
  obtain ⟨C, hC⟩ : ∃ C : Nat, s.c = C := ⟨s.c.toNat, by omega⟩
  obtain ⟨D, hD⟩ : ∃ D : Nat, s.d = D := ⟨s.d.toNat, by omega⟩
  have hP : encP s px = [82] ++ beB W 2 ++ beB H 2 ++ [UInt8.ofNat C, UInt8.ofNat D] ++ px := by unfold encP; rw [hW, hH, hC, hD]; rfl
  rw [hW] at hw
  rw [hH] at hh
  rw [hC] at hc4
  rw [hD] at hd8
  unfold rasV at hmp ⊢
  rw [hW, hH, hC, hD] at hmp ⊢
  have hbK : Blk (w.alloc (.cells #[.int .i64 W, .int .i64 H, .int .i64 C, .int .i64 D, .slice ao n cap] 26)) K #[.int .i64 W, .int .i64 H, .int .i64 C, .int .i64 D, .slice ao n cap] 26 := Blk.new_at w _ _ hK
  have hc1 : Chg [] w (w.alloc (.cells #[.int .i64 W, .int .i64 H, .int .i64 C, .int .i64 D, .slice ao n cap] 26)) := (Chg.refl [] w).alloc _
  have wC := wrap_u8_nat C (by omega)
  have wD := wrap_u8_nat D (by rcases hd8 with h | h <;> omega)
  have hDl : D ≤ 16 := by rcases hd8 with h | h <;> omega
  have hWl : W ≤ 256 := by omega
  have hHl : H ≤ 256 := by omega
  have hCl : C ≤ 4 := by omega
  have HP := Lib.hid (And.intro hP (And.intro hv hno))
  clear hP hv hno hm hnum hsz hns hw hh hc4 hd8 hW hH hC hD
  obtain ⟨x0, x1, x2, x3, x4⟩ := Blk5 hbK
  go_enter Tryz.func40, Tryz.ntmps40
  go_wp2_with fail
  generalize (w.alloc (.cells #[.int .i64 W, .int .i64 H, .int .i64 C, .int .i64 D, .slice ao n cap] 26)) = w1 at *
  refine (hmp _).mono ?_
  rintro e w2 ⟨rfl, c2⟩
  have hbK2 := hbK.chg0 c2
  have hc2 := hc1.nil c2
  clear x0 x1 x2 x3 x4 hmp hbK hc1 c2
  obtain ⟨x0, x1, x2, x3, x4⟩ := Blk5 hbK2
  obtain ⟨P, hP⟩ : ∃ P, w2.heap.size = P := ⟨_, rfl⟩
  have hbP : Blk (w2.alloc (.cells #[.int .i64 W, .int .i64 H, .int .i64 C, .int .i64 D] 23)) P #[.int .i64 W, .int .i64 H, .int .i64 C, .int .i64 D] 23 := Blk.new_at w2 _ _ hP
  have hbK3 := hbK2.alloc (.cells #[.int .i64 W, .int .i64 H, .int .i64 C, .int .i64 D] 23)
  have hc3 : Chg [] w (w2.alloc (.cells #[.int .i64 W, .int .i64 H, .int .i64 C, .int .i64 D] 23)) := hc2.alloc _
  have hbw : ∀ w', Calls Tryz.prog 70 #[.int .i64 W, .int .i64 2] w' fun e w'' => ∃ g, e = .returned (.tuple #[.slice (some ⟨g, 0, none⟩) 2 2, .int .i64 0]) ∧ Own w'' 5 1 (.slice (some ⟨g, 0, none⟩) 2 2) 2 (Bs (beB W 2)) ∧ Chg [] w' w'' ∧ w'.heap.size ≤ g := fun w' => big_ok w' W 2 (by decide) (by decide) (by omega) sl_u8
  have hbh : ∀ w', Calls Tryz.prog 70 #[.int .i64 H, .int .i64 2] w' fun e w'' => ∃ g, e = .returned (.tuple #[.slice (some ⟨g, 0, none⟩) 2 2, .int .i64 0]) ∧ Own w'' 5 1 (.slice (some ⟨g, 0, none⟩) 2 2) 2 (Bs (beB H 2)) ∧ Chg [] w' w'' ∧ w'.heap.size ≤ g := fun w' => big_ok w' H 2 (by decide) (by decide) (by omega) sl_u8
  clear hbK2 hc2
  obtain ⟨y0, y1, y2, y3⟩ := Blk4 hbP
  have hPs : P < (w2.alloc (.cells #[.int .i64 W, .int .i64 H, .int .i64 C, .int .i64 D] 23)).heap.size := hbP.lt
  go_upto_region 4 with (fail)
  generalize (w2.alloc (.cells #[.int .i64 W, .int .i64 H, .int .i64 C, .int .i64 D] 23)) = w3 at *
  clear x0 x1 x2 x3 x4 hP
  go_wp2_with fail
  refine (hbw _).mono ?_
  rintro e w4 ⟨g4, rfl, hO4, c4, hg4⟩
  clear hbw y0 y1 y2 y3
  obtain ⟨y0, y1, y2, y3⟩ := Blk4 (hbP.chg0 c4)
  go_wp2_with fail
  refine (hbh _).mono ?_
  rintro e w5 ⟨g5, rfl, hO5, c5, hg5⟩
  clear hbh y0 y1 y2 y3
  have hbP5 := (hbP.chg0 c4).chg0 c5
  have hbK5 := (hbK3.chg0 c4).chg0 c5
  have cw5 := (hc3.nil c4).nil c5
  have hw4 := hO4.sees.chg0 c5
  have hw5 := hO5.sees
  have hK5 : K < w5.heap.size := hbK5.lt
  have hP5 : P < w5.heap.size := hbP5.lt
  obtain ⟨Q, hQ⟩ : ∃ Q, w5.heap.size = Q := ⟨_, rfl⟩
  have hwQ : w.heap.size ≤ Q := by have := cw5.size; omega
  have hf6 : Fresh w (w5.alloc (.cells #[.int .u8 82] 5)) 5 1 (.slice (some ⟨Q, 0, none⟩) 1 1) 1 [.int .u8 82] :=
    ⟨own_blk (Blk.new_at w5 _ _ hQ) rfl (by decide), cw5.alloc _, fun k hk => by simp [Value.ownBlock] at hk; omega⟩
  have hs4 := hw4.chg0 ((Chg.refl [] w5).alloc (.cells #[.int .u8 82] 5))
  have hs5 := hw5.chg0 ((Chg.refl [] w5).alloc (.cells #[.int .u8 82] 5))
  have hg4l : g4 < Q := by have := hw4.lt (by decide) g4 (by simp [eyes]); omega
  have hg5l : g5 < Q := by have := hw5.lt (by decide) g5 (by simp [eyes]); omega
  have HB := Lib.hid (And.intro (hbP5.alloc (.cells #[.int .u8 82] 5)) (hbK5.alloc (.cells #[.int .u8 82] 5)))
  clear hbP hbK3 hc3 c4 c5 hO4 hO5 hbP5 hbK5 cw5 hw4 hw5 hg4 hg5
  go_wp2_with (at_builtin; first | (refine wpList_app (v := .slice (some ⟨Q, 0, none⟩) 1 1) rfl _ _ 24 rfl sl_u8 (by exact hf6.own) rfl (vx := .slice (some ⟨g4, 0, none⟩) 2 2) (by exact hs4) rfl (by exact Bs_one _) (by omega) (by omega) ?_; intro v7 w7 hO7 c7 n7; have hf7 := hf6.app hO7 c7 n7; obtain ⟨ao7, cp7, rfl, -, -⟩ := hO7.sees.shape; have hs7 := hs5.chg c7 (fun k hk => by simp [eyes] at hk; simp [Value.ownBlock]; omega)) | (refine wpList_app (v := .slice ao7 3 cp7) rfl _ _ 24 rfl sl_u8 (by exact hf7.own) rfl (vx := .slice (some ⟨g5, 0, none⟩) 2 2) (by exact hs7) rfl (by exact Bs_one _) (by omega) (by omega) ?_; intro v8 w8 hO8 c8 n8; have hf8 := hf7.app hO8 c8 n8; obtain ⟨ao8, cp8, rfl, -, -⟩ := hO8.sees.shape))
  have bP7 := HB.out.1.chg c7 (Own.ne hf6.own HB.out.1 (by decide))
  have bK7 := HB.out.2.chg c7 (Own.ne hf6.own HB.out.2 (by decide))
  have bP8 := (bP7.chg c8 (Own.ne hf7.own bP7 (by decide))).drew
  have bK8 := (bK7.chg c8 (Own.ne hf7.own bK7 (by decide))).drew
  have hf8d := hf8.to (Chg.refl [] w8).drew
  have hPn := Own.ne hf8d.own bP8 (by decide)
  have hKn := Own.ne hf8d.own bK8 (by decide)
  have m2 : w8.drew.cell? ⟨P, 2, none⟩ = some (.int .i64 C) := bP8.cell 2
  have m3 : w8.drew.cell? ⟨P, 3, none⟩ = some (.int .i64 D) := bP8.cell 3
  have m4 : w8.drew.cell? ⟨K, 4, none⟩ = some (.slice ao n cap) := bK8.cell 4
  have l2 : w8.cell? ⟨P, 2, none⟩ = some (.int .i64 C) := m2
  have l3 : w8.cell? ⟨P, 3, none⟩ = some (.int .i64 D) := m3
  have l4 : w8.cell? ⟨K, 4, none⟩ = some (.slice ao n cap) := m4
  have hn' : (n : Int) ≤ 16384 := by omega
  clear hs4 hs5 hO7 n7 hO8 n8 hs7 bP7 bK7 hg4l hg5l hf6 hf7 c7 c8 hK5 hP5 hPs hwQ hQ
  go_upto_region 7 with (fail)
  go_region_held3 (fun w' => w'.cell? ⟨P, 2, none⟩ = some (.int .i64 C) ∧ w'.cell? ⟨P, 3, none⟩ = some (.int .i64 D) ∧ w'.cell? ⟨K, 4, none⟩ = some (.slice ao n cap))
    (first | exact ⟨m2, m3, m4⟩ | exact ⟨cell_al m2 _, cell_al m3 _, cell_al m4 _⟩ | exact ⟨q2, q3, q4⟩ | exact ⟨r2, r3, r4⟩)
    (first
      | (refine step_app (by rfl) _ _ 24 (by rfl) sl_u8 (by exact hf8d.own.alloc (.cells #[.int .u8 C, .int .u8 D] 5)) (by rfl) (Sees.row (cs := #[.int .u8 C, .int .u8 D]) (by exact Blk.new w8.drew _ 5) (m := 2) rfl) (by rfl) (by simp [Value.oneCell']) (by omega) (by omega) ?_; intro v9 w9 hO9 c9 n9; have q2 := c9.cell_some (cell_al m2 _) hPn; have q3 := c9.cell_some (cell_al m3 _) hPn; have q4 := c9.cell_some (cell_al m4 _) hKn; have hf9 := (hf8d.to ((Chg.refl [] w8.drew).alloc (.cells #[.int .u8 C, .int .u8 D] 5))).app hO9 c9 n9; have bP9 := (bP8.alloc (.cells #[.int .u8 C, .int .u8 D] 5)).chg c9 hPn; have bK9 := (bK8.alloc (.cells #[.int .u8 C, .int .u8 D] 5)).chg c9 hKn; have hP9 := Own.ne hO9 bP9 (by decide); have hK9 := Own.ne hO9 bK9 (by decide); have hvw := HP.out.2.1.chg0 hf9.chg)
      | (refine step_app (by rfl) _ _ 24 (by rfl) sl_u8 (by exact hf9.own) (by rfl) (by exact hvw) (by rfl) (by exact Bs_one _) (by omega) (by omega) ?_; intro v10 w10 hO10 c10 n10; have r2 := c10.cell_some q2 hP9; have r3 := c10.cell_some q3 hP9; have r4 := c10.cell_some q4 hK9; have hf10 := hf9.app hO10 c10 n10))
  clear m2 m3 m4 l2 l3 l4 q2 q3 q4 r2 r3 r4
  go_wp2_with fail
  go_ret2
  refine ⟨v10, rfl, ?_, fun k hk => by have := hf10.new k (eyes_own v10 k hk); omega, hf10.chg⟩
  have h := hf10.own.sees
  have e1 : 5 + 2 + n = 7 + n := by omega
  have e2 : [Value.int .u8 82] ++ Bs (beB W 2) ++ Bs (beB H 2) ++ #[Value.int .u8 (C : Int), .int .u8 (D : Int)].toList ++ Bs px = Bs (encP s px) := by
    rw [HP.out.1, Bs_append, Bs_append, Bs_append, Bs_append]
    have hc : Bs [UInt8.ofNat C, UInt8.ofNat D] = #[Value.int .u8 (C : Int), .int .u8 (D : Int)].toList := by
      simp only [Bs, Bc, List.map_cons, List.map_nil]
      rw [u8n C (by omega), u8n D (by omega)]
    rw [hc]; rfl
  rw [← e2, ← e1]
  exact h
set_option maxRecDepth 100000 in
set_option maxHeartbeats 4000000 in
theorem enc_bad (s : ShpD) (pv : Value) (n : Nat) (px : List UInt8) (w : World) (hv : Sees w 1 pv n (Bs px)) (hn : n ≤ 9223372036854775807) (hm : mayPix s n = false) :
    Calls Tryz.prog 40 #[rasV s pv] w fun e w' => e = .returned (.tuple #[.slice none 0 0, .int .i64 4]) ∧ Chg [] w w' := by
  obtain ⟨K, hK⟩ : ∃ K, w.heap.size = K := ⟨_, rfl⟩
  obtain ⟨ao, cap, rfl, hcap, hno⟩ := hv.shape
  have hmp := fun w' => mayPix_any s ao n cap hn w'
  rw [hm] at hmp
  unfold rasV at hmp ⊢
  have hbK : Blk (w.alloc (.cells #[.int .i64 s.w, .int .i64 s.h, .int .i64 s.c, .int .i64 s.d, .slice ao n cap] 26)) K #[.int .i64 s.w, .int .i64 s.h, .int .i64 s.c, .int .i64 s.d, .slice ao n cap] 26 := Blk.new_at w _ _ hK
  have hc1 : Chg [] w (w.alloc (.cells #[.int .i64 s.w, .int .i64 s.h, .int .i64 s.c, .int .i64 s.d, .slice ao n cap] 26)) := (Chg.refl [] w).alloc _
  have HC := Lib.hid hc1
  obtain ⟨x0, x1, x2, x3, x4⟩ := Blk5 hbK
  clear hv hno hm hbK hc1
  go_enter Tryz.func40, Tryz.ntmps40
  go_wp2_with fail
  refine (hmp _).mono ?_
  rintro e w2 ⟨rfl, c2⟩
  clear x0 x1 x2 x3 x4 hmp
  go_wp2_with fail
  go_ret2
  exact ⟨rfl, HC.out.nil c2⟩
theorem encode_pix (s : ShpD) (pv : Value) (px : List UInt8) (w : World) (hv : Sees w 1 pv px.length (Bs px)) (hn : px.length ≤ 9223372036854775807) :
    Calls Tryz.prog 40 #[rasV s pv] w fun e w' => ∃ v', e = .returned (.tuple #[v', .int .i64 (encPL s px).2]) ∧ Sees w' 1 v' (encPL s px).1.length (Bs (encPL s px).1) ∧ (∀ k ∈ eyes v', w.heap.size ≤ k) ∧ Chg [] w w' := by
  cases hm : mayPix s px.length with
  | true =>
    have e : encPL s px = (encP s px, 0) := by unfold encPL; rw [hm]; rfl
    rw [e]
    refine (enc_good s pv _ px w hv hm).mono ?_
    rintro e w' ⟨v', rfl, h1, h2, h3⟩
    exact ⟨v', rfl, by rw [encP_len]; exact h1, h2, h3⟩
  | false =>
    have e : encPL s px = ([], 4) := by unfold encPL; rw [hm]; rfl
    rw [e]
    refine (enc_bad s pv _ px w hv hn hm).mono ?_
    rintro e w' ⟨rfl, h3⟩
    exact ⟨_, rfl, Sees.nil _ _, by simp [eyes], h3⟩
end Go.Proofs.YtfammoidikdbpaaGreatDoor

/- A region that draws its order and holds calls that make memory: what yields one value in every later world is taken first, calls too; what is left comes up one by one, each at its very world; only the blocks S may turn, and what is taken first turns nothing. No statement of the seat is proved here. -/
namespace Go.Aq
open Go.RowKit
section
variable {P : Program} {ops : Array Oper} {Q : Exit → Act → World → Prop} {md : Region.Mode} {S : List Nat} {w0 : World}
/-- In a world w1 the operation yields v, and turns nothing. -/
def yieldsAtE (P : Program) (w1 : World) (v : Value) : Result Next → Prop
  | .ok (.value u) w' => w' = w1 ∧ u = v
  | .ok (.enter f args) w' => w' = w1 ∧ Calls P f args w1 (fun e w'' => e = .returned v ∧ w'' = w1)
  | _ => False
def YieldsE (S : List Nat) (w0 : World) (P : Program) (ops : Array Oper) (o : Oper) (v : Value) (a : Act) : Prop :=
  (Region.wanted o (yielded ops a.tmps) = true ∧ ∀ w1, Chg S w0 w1 → yieldsAtE P w1 v ((execOp a.eval o).run P w1)) ∨
  (Region.wanted o (yielded ops a.tmps) = false ∧ v = undef)
theorem YieldsE.of_same {o : Oper} {v : Value} {a a' : Act} (hy : YieldsE S w0 P ops o v a) (he : execOp a'.eval o = execOp a.eval o)
    (hw : Region.wanted o (yielded ops a'.tmps) = Region.wanted o (yielded ops a.tmps)) : YieldsE S w0 P ops o v a' := by
  unfold YieldsE at *
  rw [he, hw]
  exact hy
theorem YieldsE.wpOp {i : Nat} {o : Oper} {v : Value} {a : Act} {w1 : World} (hi : ops[i]? = some o) (hy : YieldsE S w0 P ops o v a) (c1 : Chg S w0 w1)
    {K : Act → World → Prop} (h : K (a.put o.dst v) w1) : wpOp P ops Q i K a w1 := by
  unfold Go.wpOp
  simp only [hi]
  rcases hy with ⟨hw, hv⟩ | ⟨hw, rfl⟩
  · simp only [hw, if_true]
    refine .inl ?_
    have h3 := hv w1 c1
    unfold Oper.wp
    generalize (execOp a.eval o).run P w1 = r at *
    cases r with
    | ok n w' =>
      cases n <;> simp only [yieldsAtE] at h3 <;> simp only [Oper.upon]
      case value u =>
        obtain ⟨e1, e2⟩ := h3
        rw [e1, e2]
        exact h
      case enter f args =>
        obtain ⟨e1, hc⟩ := h3
        rw [e1]
        exact hc.mono fun e w'' ⟨he, hw''⟩ => by subst he; subst hw''; exact h
    | halt x w' => simp only [yieldsAtE] at h3
  · simp only [hw, Bool.false_eq_true, if_false]; exact h
theorem wpOp_putE {j : Nat} {oi oj : Oper} {v : Value} (hj : ops[j]? = some oj) (hap : oi.apart ops oj = true)
    (hsi : ∀ cs b, oi.op ≠ .select cs b) (hsj : ∀ cs b, oj.op ≠ .select cs b)
    (hQ : ∀ c a w, Q (.panic c) (a.put oi.dst v) w → Q (.panic c) a w) {K : Act → World → Prop} {a : Act} {w : World}
    (hy : YieldsE S w0 P ops oi v a) (h : wpOp P ops Q j K (a.put oi.dst v) w) :
    wpOp P ops Q j (fun a' w' => YieldsE S w0 P ops oi v a' ∧ K (a'.put oi.dst v) w') a w := by
  obtain ⟨h1, h2, h3⟩ := Oper.apart_spec hap
  have keep : ∀ (a : Act), YieldsE S w0 P ops oi v a → ∀ u, YieldsE S w0 P ops oi v (a.put oj.dst u) := fun a hy u =>
    hy.of_same (execOp_put oi hsi a oj.dst u h3) (wanted_put oi a oj.dst u h3)
  have keepD : ∀ d, YieldsE S w0 P ops oi v { a with defers := d :: a.defers } := fun d => hy.of_same rfl rfl
  unfold wpOp at *
  simp only [hj] at *
  rw [wanted_put oj a oi.dst v h1] at h
  split
  · rename_i hw
    simp only [hw, if_true] at h
    rcases h with h | ⟨hasks, hlets⟩
    case inr => exact .inr ⟨by unfold Oper.asks at *; rw [execOp_put oj hsj a oi.dst v h1] at hasks; exact hasks, hlets⟩
    refine .inl ?_
    unfold Oper.wp at *
    rw [execOp_put oj hsj a oi.dst v h1] at h
    generalize (execOp a.eval oj).run P w = r at *
    cases r with
    | ok n w' =>
      cases n <;> simp only [Oper.upon] at h ⊢
      case value u => exact ⟨keep a hy u, by rw [← Act.put_comm a v u h2]; exact h⟩
      case skip => exact ⟨keep a hy _, by rw [← Act.put_comm a v undef h2]; exact h⟩
      case defer d =>
        refine ⟨keep _ (keepD d) _, ?_⟩
        rw [← Act.put_comm _ v undef h2, ← Act.put_defers]
        exact h
      case enter f args =>
        refine Calls.mono h fun e w'' he => ?_
        cases e with
        | returned u => exact ⟨keep a hy u, by rw [← Act.put_comm a v u h2]; exact he⟩
        | panicked c => exact hQ _ _ _ he
        | outgrown => exact he
      case row row args => exact Rows.mono h fun u w'' he => ⟨keep a hy u, by rw [← Act.put_comm a v u h2]; exact he⟩
    | halt x w' =>
      cases x <;> simp only [Oper.upon] at h ⊢
      case panic u => exact hQ _ _ _ h
  · rename_i hw
    simp only [hw] at h
    exact ⟨keep a hy _, by rw [← Act.put_comm a v undef h2]; exact h⟩
/-- Whatever order is picked from here on; nothing but the blocks S turns. -/
def wpAnyE (S : List Nat) (w0 : World) (P : Program) (md : Region.Mode) (ops : Array Oper) (Q : Exit → Act → World → Prop) : Nat → Array Bool → Act → World → Prop
  | 0, listed, a, w => Region.ready md ops listed = [] ∧ Q .normal a w
  | fuel + 1, listed, a, w => (Region.ready md ops listed = [] → Q .normal a w) ∧
    ∀ i ∈ Region.ready md ops listed, wpOp P ops Q i (fun a' w' => Chg S w0 w' ∧ wpAnyE S w0 P md ops Q fuel (listed.setIfInBounds i true) a' w') a w
theorem wpAny_of_E : ∀ (fuel : Nat) (listed : Array Bool) (a : Act) (w : World), wpAnyE S w0 P md ops Q fuel listed a w → wpAny P md ops Q fuel listed a w
  | 0, _, _, w, h => ⟨h.1, h.2⟩
  | fuel + 1, _, _, w, h => ⟨h.1, fun i hi => wpOp_mono (fun a' w' h' => wpAny_of_E fuel _ a' w' h'.2) (h.2 i hi)⟩
theorem wpAnyE_first {i : Nat} {oi : Oper} {v : Value} (hi : ops[i]? = some oi) (hsel : ∀ (j : Nat) (o : Oper) cs b, ops[j]? = some o → o.op ≠ .select cs b)
    (hQ : ∀ c a w, Q (.panic c) (a.put oi.dst v) w → Q (.panic c) a w) :
    ∀ (fuel : Nat) (listed : Array Bool) (a : Act) (w : World),
      (∀ j oj, ops[j]? = some oj → j ≠ i → listed.getD j true = false → (∀ e ∈ oj.after, Region.binds md e = true → e.on ≠ i) → oi.apart ops oj = true) →
      i ∈ Region.ready md ops listed → YieldsE S w0 P ops oi v a → Chg S w0 w →
      wpAnyE S w0 P md ops Q fuel (listed.setIfInBounds i true) (a.put oi.dst v) w → wpAnyE S w0 P md ops Q (fuel + 1) listed a w := by
  intro fuel
  induction fuel with
  | zero =>
    intro listed a w _ hr hy c H
    refine ⟨fun h => (by rw [h] at hr; cases hr), fun j hj => ?_⟩
    by_cases hji : j = i
    · subst hji; exact hy.wpOp hi c ⟨c, H⟩
    · have := ready_mono hj hji
      rw [H.1] at this
      cases this
  | succ fuel ih =>
    intro listed a w hfree hr hy c H
    refine ⟨fun h => (by rw [h] at hr; cases hr), fun j hj => ?_⟩
    by_cases hji : j = i
    · subst hji; exact hy.wpOp hi c ⟨c, H⟩
    · have h1 := H.2 j (ready_mono hj hji)
      obtain ⟨hjun, oj, hoj, hall⟩ := mem_ready.1 hj
      have hnot : ∀ e ∈ oj.after, Region.binds md e = true → e.on ≠ i := fun e he hb heq => by
        have h1 := hall e he hb
        have h0 := (mem_ready.1 hr).1
        rw [heq] at h1
        rcases Nat.lt_or_ge i listed.size with h' | h'
        · simp [h'] at h0 h1; rw [h0] at h1; cases h1
        · simp [Array.getElem?_eq_none h'] at h1
      have h2 := wpOp_putE hoj (hfree j oj hoj hji hjun hnot) (fun cs b => hsel i oi cs b hi) (fun cs b => hsel j oj cs b hoj) hQ hy h1
      have hfree' : ∀ k ok, ops[k]? = some ok → k ≠ i → (listed.setIfInBounds j true).getD k true = false →
          (∀ e ∈ ok.after, Region.binds md e = true → e.on ≠ i) → oi.apart ops ok = true := fun k ok hk hki hun hno => by
        refine hfree k ok hk hki ?_ hno
        by_cases hjk : j = k
        · subst hjk; exact hjun
        · rw [getD_set_ne true hjk] at hun; exact hun
      refine wpOp_mono (fun a' w' h3 => ⟨h3.2.1, ih (listed.setIfInBounds j true) a' w' hfree' (ready_mono hr (Ne.symm hji)) h3.1 h3.2.1 ?_⟩) h2
      rw [Array.setIfInBounds_comm _ _ hji]
      exact h3.2.2
/-- Number i is taken first: no call. -/
theorem wpAnyE_take (i : Nat) {oi : Oper} {v : Value} {fuel : Nat} {listed : Array Bool} {a : Act} {w : World} (c : Chg S w0 w) (hi : ops[i]? = some oi)
    (hs : Region.noSelect ops = true) (hf : Region.free md ops listed i = true) (hr : (Region.ready md ops listed).contains i = true)
    (hQ : ∀ c a w, Q (.panic c) (a.put oi.dst v) w → Q (.panic c) a w) (hw : Region.wanted oi (yielded ops a.tmps) = true)
    (hy : ∀ w1, Chg S w0 w1 → (execOp a.eval oi).run P w1 = .ok (.value v) w1)
    (h : wpAnyE S w0 P md ops Q fuel (listed.setIfInBounds i true) (a.put oi.dst v) w) : wpAnyE S w0 P md ops Q (fuel + 1) listed a w :=
  wpAnyE_first hi (Region.noSelect_spec hs) hQ fuel listed a w (Region.free_spec hi hf) (by simpa using hr)
    (.inl ⟨hw, fun w1 c1 => by rw [hy w1 c1]; exact ⟨rfl, rfl⟩⟩) c h
/-- Number i is taken first: a call that turns nothing. -/
theorem wpAnyE_call (i : Nat) {oi : Oper} {f : FuncId} {args : Array Value} {v : Value} {fuel : Nat} {listed : Array Bool} {a : Act} {w : World} (c : Chg S w0 w) (hi : ops[i]? = some oi)
    (hs : Region.noSelect ops = true) (hf : Region.free md ops listed i = true) (hr : (Region.ready md ops listed).contains i = true)
    (hQ : ∀ c a w, Q (.panic c) (a.put oi.dst v) w → Q (.panic c) a w) (hw : Region.wanted oi (yielded ops a.tmps) = true)
    (hy : ∀ w1, Chg S w0 w1 → (execOp a.eval oi).run P w1 = .ok (.enter f args) w1)
    (hc : ∀ w1, Chg S w0 w1 → Calls P f args w1 (fun e w'' => e = .returned v ∧ w'' = w1))
    (h : wpAnyE S w0 P md ops Q fuel (listed.setIfInBounds i true) (a.put oi.dst v) w) : wpAnyE S w0 P md ops Q (fuel + 1) listed a w :=
  wpAnyE_first hi (Region.noSelect_spec hs) hQ fuel listed a w (Region.free_spec hi hf) (by simpa using hr)
    (.inl ⟨hw, fun w1 c1 => by rw [hy w1 c1]; exact ⟨rfl, hc w1 c1⟩⟩) c h
/-- One alone may come up. -/
theorem wpAnyE_only (i : Nat) {oi : Oper} {fuel : Nat} {listed : Array Bool} {a : Act} {w : World} (hi : ops[i]? = some oi) (hr : Region.ready md ops listed = [i])
    (hw : Region.wanted oi (yielded ops a.tmps) = true)
    (h : oi.wp P a w (fun a' w' => Chg S w0 w' ∧ wpAnyE S w0 P md ops Q fuel (listed.setIfInBounds i true) a' w') Q) : wpAnyE S w0 P md ops Q (fuel + 1) listed a w := by
  refine ⟨fun h0 => (by rw [hr] at h0; cases h0), fun j hj => ?_⟩
  rw [hr] at hj
  simp only [List.mem_singleton] at hj
  subst hj
  unfold wpOp
  simp only [hi, hw, if_true]
  exact .inl h
/-- Two may come up: each is walked first. -/
theorem wpAnyE_two (i j : Nat) {oi oj : Oper} {fuel : Nat} {listed : Array Bool} {a : Act} {w : World} (hi : ops[i]? = some oi) (hj : ops[j]? = some oj) (hr : Region.ready md ops listed = [i, j])
    (hwi : Region.wanted oi (yielded ops a.tmps) = true) (hwj : Region.wanted oj (yielded ops a.tmps) = true)
    (h1 : oi.wp P a w (fun a' w' => Chg S w0 w' ∧ wpAnyE S w0 P md ops Q fuel (listed.setIfInBounds i true) a' w') Q)
    (h2 : oj.wp P a w (fun a' w' => Chg S w0 w' ∧ wpAnyE S w0 P md ops Q fuel (listed.setIfInBounds j true) a' w') Q) : wpAnyE S w0 P md ops Q (fuel + 1) listed a w := by
  refine ⟨fun h0 => (by rw [hr] at h0; cases h0), fun k hk => ?_⟩
  rw [hr] at hk
  simp only [List.mem_cons, List.not_mem_nil, or_false] at hk
  rcases hk with rfl | rfl
  · unfold wpOp
    simp only [hi, hwi, if_true]
    exact .inl h1
  · unfold wpOp
    simp only [hj, hwj, if_true]
    exact .inl h2
theorem wpAnyE_done {listed : Array Bool} {a : Act} {w : World} (hr : Region.ready md ops listed = []) (h : Q .normal a w) : ∀ fuel, wpAnyE S w0 P md ops Q fuel listed a w
  | 0 => ⟨hr, h⟩
  | _ + 1 => ⟨fun _ => h, by rw [hr]; simp⟩
theorem wp_region_E (S : List Nat) {id : Nat} {a : Act} {w : World} (hm : P.follows .mixedOrders = true)
    (h : wpAnyE S w.drew P .any ops Q ops.size (Array.replicate ops.size false) a w.drew) : (Code.region id ops true).wp P Q a w :=
  wp_region_any hm (wpAny_of_E _ _ _ _ h)
end
end Go.Aq

/- As Take; and a last operation (a store, an append) may turn what was there: L tells which; each waits for whatever is taken first. No statement of the seat is proved here. -/
namespace Go.Aq
open Go.RowKit
theorem results_AT {P : Program} {fn : Func} {p u : Tmp} {ty : TypeId} (h : fn.results = #[.cell p ty, .tmp u]) (tmps : Array Value) (w : World) {g : Nat} {e : TypeId} {cs : Array Value}
    (hb : Blk w g cs e) (ht : ArrTy P ty cs.size) (hp : tmps.getD p undef = .pointer (some ⟨g, 0, none⟩)) : (results fn tmps).run P w = .ok (.tuple #[.agg cs, tmps.getD u undef]) w := by
  obtain ⟨⟨d, h1, h2⟩, h3⟩ := ht
  have hp' : tmps[p]?.getD undef = .pointer (some ⟨g, 0, none⟩) := by simpa using hp
  have hl := run_loadVar_row w g e ty cs (0, 0) d hb h1 (by cases d <;> simp_all) h3
  rw [results_cell_tmp h]
  simp [hp', asAddr, Result.andThen, hl]
theorem wp_stA {P : Program} {o : Oper} {a : Act} {w : World} {K : Act → World → Prop} {Q : Exit → Act → World → Prop} (ty : TypeId) (x y : Operand) (ho : o.op = .store ty x y)
    {g : Nat} {old cs : Array Value} {e : TypeId} (hb : Blk w g old e) (ht : ArrTy P ty cs.size) (hs : old.size = cs.size) (h1 : ∀ v ∈ cs.toList, v.oneCell' = true) (hx : a.eval x = .pointer (some ⟨g, 0, none⟩)) (hy : a.eval y = .agg cs)
    (h : ∀ w', Blk w' g cs e → Chg [g] w w' → w'.heap.size = w.heap.size → K (a.put o.dst undef) w') : o.wp P a w K Q := by
  obtain ⟨-, h3⟩ := ht
  refine wp_store_row ty x y ho g cs hx hy e old hb h3 hs (Array.all_eq_true_iff_forall_mem.2 fun v hv => h1 v (by simpa using hv)) ?_
  exact h _ (setRow_heap w g old cs e _ hb) ⟨rfl, rfl, rfl, by simp, fun k _ hk => setRow_other w g k cs (fun e => hk (by simp [e]))⟩ (by simp)
section
variable {P : Program} {ops : Array Oper} {Q : Exit → Act → World → Prop} {md : Region.Mode} {L : Nat → Bool}
def wpAnyS (P : Program) (md : Region.Mode) (ops : Array Oper) (Q : Exit → Act → World → Prop) (L : Nat → Bool) : Nat → Array Bool → Act → World → Prop
  | 0, listed, a, w => Region.ready md ops listed = [] ∧ ∀ w1, Chg [] w w1 → Q .normal a w1
  | fuel + 1, listed, a, w => ∀ w1, Chg [] w w1 → (Region.ready md ops listed = [] → Q .normal a w1) ∧
    ∀ i ∈ Region.ready md ops listed, wpOp P ops Q i (fun a' w' => (L i = true → wpAny P md ops Q fuel (listed.setIfInBounds i true) a' w') ∧ (L i = false → Chg [] w1 w' ∧ wpAnyS P md ops Q L fuel (listed.setIfInBounds i true) a' w')) a w1
theorem wpAnyS.mono {fuel : Nat} {listed : Array Bool} {a : Act} {w w' : World} (h : wpAnyS P md ops Q L fuel listed a w) (c : Chg [] w w') : wpAnyS P md ops Q L fuel listed a w' := by
  cases fuel with
  | zero => exact ⟨h.1, fun w1 c1 => h.2 w1 (c.nil c1)⟩
  | succ n => exact fun w1 c1 => h w1 (c.nil c1)
theorem wpAny_of_S : ∀ (fuel : Nat) (listed : Array Bool) (a : Act) (w : World), wpAnyS P md ops Q L fuel listed a w → wpAny P md ops Q fuel listed a w
  | 0, _, _, w, h => ⟨h.1, h.2 w (Chg.refl _ _)⟩
  | fuel + 1, _, _, w, h => ⟨(h w (Chg.refl _ _)).1, fun i hi => wpOp_mono (fun a' w' h' => by
      cases hL : L i with
      | true => exact h'.1 hL
      | false => exact wpAny_of_S fuel _ a' w' (h'.2 hL).2) ((h w (Chg.refl _ _)).2 i hi)⟩
/-- Each last operation waits for number i. -/
def lastsWait (md : Region.Mode) (ops : Array Oper) (L : Nat → Bool) (i : Nat) : Bool := !L i && (List.range ops.size).all fun j => !L j || Region.waitsFor md ops j i
theorem wpAnyS_first {i : Nat} {oi : Oper} {v : Value} (hi : ops[i]? = some oi) (hsel : ∀ (j : Nat) (o : Oper) cs b, ops[j]? = some o → o.op ≠ .select cs b) (hl : lastsWait md ops L i = true)
    (hQ : ∀ c a w, Q (.panic c) (a.put oi.dst v) w → Q (.panic c) a w) :
    ∀ (fuel : Nat) (listed : Array Bool) (a : Act) (w : World),
      (∀ j oj, ops[j]? = some oj → j ≠ i → listed.getD j true = false → (∀ e ∈ oj.after, Region.binds md e = true → e.on ≠ i) → oi.apart ops oj = true) →
      i ∈ Region.ready md ops listed → YieldsT P ops oi v a w →
      wpAnyS P md ops Q L fuel (listed.setIfInBounds i true) (a.put oi.dst v) w → wpAnyS P md ops Q L (fuel + 1) listed a w := by
  unfold lastsWait at hl
  simp only [Bool.and_eq_true, Bool.not_eq_true', List.all_eq_true, List.mem_range, Bool.or_eq_true] at hl
  obtain ⟨hLi, hLj⟩ := hl
  intro fuel
  induction fuel with
  | zero =>
    intro listed a w _ hr hy H w1 c1
    refine ⟨fun h => (by rw [h] at hr; cases hr), fun j hj => ?_⟩
    by_cases hji : j = i
    · subst hji; exact hy.wpOp hi c1 fun w' c' => ⟨fun h => (by rw [hLi] at h; cases h), fun _ => ⟨c', H.mono (c1.nil c')⟩⟩
    · have := ready_mono hj hji
      rw [H.1] at this
      cases this
  | succ fuel ih =>
    intro listed a w hfree hr hy H w1 c1
    refine ⟨fun h => (by rw [h] at hr; cases hr), fun j hj => ?_⟩
    by_cases hji : j = i
    · subst hji; exact hy.wpOp hi c1 fun w' c' => ⟨fun h => (by rw [hLi] at h; cases h), fun _ => ⟨c', H.mono (c1.nil c')⟩⟩
    · have h1 := (H w1 c1).2 j (ready_mono hj hji)
      obtain ⟨hjun, oj, hoj, hall⟩ := mem_ready.1 hj
      have hnot : ∀ e ∈ oj.after, Region.binds md e = true → e.on ≠ i := fun e he hb heq => by
        have h1 := hall e he hb
        have h0 := (mem_ready.1 hr).1
        rw [heq] at h1
        rcases Nat.lt_or_ge i listed.size with h' | h'
        · simp [h'] at h0 h1; rw [h0] at h1; cases h1
        · simp [Array.getElem?_eq_none h'] at h1
      have hLf : L j = false := by
        cases hL : L j with
        | false => rfl
        | true =>
          have hjs : j < ops.size := (Array.getElem?_eq_some_iff.1 hoj).1
          rcases hLj j hjs with h | h
          · rw [hL] at h; cases h
          · obtain ⟨oj', ho', e, he, hb, heq⟩ := Region.waitsFor_spec h
            have : oj' = oj := Option.some.inj (ho'.symm.trans hoj)
            subst this
            exact absurd heq (hnot e he hb)
      have h2 := wpOp_putT hoj (hfree j oj hoj hji hjun hnot) (fun cs b => hsel i oi cs b hi) (fun cs b => hsel j oj cs b hoj) hQ hy h1
      have hfree' : ∀ k ok, ops[k]? = some ok → k ≠ i → (listed.setIfInBounds j true).getD k true = false →
          (∀ e ∈ ok.after, Region.binds md e = true → e.on ≠ i) → oi.apart ops ok = true := fun k ok hk hki hun hno => by
        refine hfree k ok hk hki ?_ hno
        by_cases hjk : j = k
        · subst hjk; exact hjun
        · rw [getD_set_ne true hjk] at hun; exact hun
      refine wpOp_mono (fun a' w' h3 => ⟨fun h => (by rw [hLf] at h; cases h), fun _ => ⟨(h3.2.2 hLf).1, ih (listed.setIfInBounds j true) a' w' hfree' (ready_mono hr (Ne.symm hji)) (h3.1.mono (c1.nil (h3.2.2 hLf).1)) ?_⟩⟩) h2
      rw [Array.setIfInBounds_comm _ _ hji]
      exact (h3.2.2 hLf).2
theorem wpAnyS_take (i : Nat) {oi : Oper} {v : Value} {fuel : Nat} {listed : Array Bool} {a : Act} {w : World} (hi : ops[i]? = some oi)
    (hs : Region.noSelect ops = true) (hf : Region.free md ops listed i = true) (hr : (Region.ready md ops listed).contains i = true) (hl : lastsWait md ops L i = true)
    (hQ : ∀ c a w, Q (.panic c) (a.put oi.dst v) w → Q (.panic c) a w) (hw : Region.wanted oi (yielded ops a.tmps) = true)
    (hy : ∀ w1, Chg [] w w1 → (execOp a.eval oi).run P w1 = .ok (.value v) w1)
    (h : wpAnyS P md ops Q L fuel (listed.setIfInBounds i true) (a.put oi.dst v) w) : wpAnyS P md ops Q L (fuel + 1) listed a w :=
  wpAnyS_first hi (Region.noSelect_spec hs) hl hQ fuel listed a w (Region.free_spec hi hf) (by simpa using hr)
    (.inl ⟨hw, fun w1 c1 => by rw [hy w1 c1]; exact ⟨rfl, rfl⟩⟩) h
theorem wpAnyS_call (i : Nat) {oi : Oper} {f : FuncId} {args : Array Value} {v : Value} {fuel : Nat} {listed : Array Bool} {a : Act} {w : World} (hi : ops[i]? = some oi)
    (hs : Region.noSelect ops = true) (hf : Region.free md ops listed i = true) (hr : (Region.ready md ops listed).contains i = true) (hl : lastsWait md ops L i = true)
    (hQ : ∀ c a w, Q (.panic c) (a.put oi.dst v) w → Q (.panic c) a w) (hw : Region.wanted oi (yielded ops a.tmps) = true)
    (hy : ∀ w1, Chg [] w w1 → (execOp a.eval oi).run P w1 = .ok (.enter f args) w1)
    (hc : ∀ w1, Chg [] w w1 → Calls P f args w1 (fun e w'' => e = .returned v ∧ Chg [] w1 w''))
    (h : wpAnyS P md ops Q L fuel (listed.setIfInBounds i true) (a.put oi.dst v) w) : wpAnyS P md ops Q L (fuel + 1) listed a w :=
  wpAnyS_first hi (Region.noSelect_spec hs) hl hQ fuel listed a w (Region.free_spec hi hf) (by simpa using hr)
    (.inl ⟨hw, fun w1 c1 => by rw [hy w1 c1]; exact ⟨rfl, hc w1 c1⟩⟩) h
theorem wpAnyS_only (i : Nat) {oi : Oper} {fuel : Nat} {listed : Array Bool} {a : Act} {w : World} (hi : ops[i]? = some oi) (hr : Region.ready md ops listed = [i]) (hl : L i = false)
    (hw : Region.wanted oi (yielded ops a.tmps) = true)
    (h : ∀ w1, Chg [] w w1 → oi.wp P a w1 (fun a' w' => Chg [] w1 w' ∧ wpAnyS P md ops Q L fuel (listed.setIfInBounds i true) a' w') Q) : wpAnyS P md ops Q L (fuel + 1) listed a w := by
  intro w1 c1
  refine ⟨fun h0 => (by rw [hr] at h0; cases h0), fun j hj => ?_⟩
  rw [hr] at hj
  simp only [List.mem_singleton] at hj
  subst hj
  unfold wpOp
  simp only [hi, hw, if_true]
  exact .inl (Oper.wp_mono (fun a' w' h' => ⟨fun h0 => (by rw [hl] at h0; cases h0), fun _ => h'⟩) (h w1 c1))
/-- Two may come up. -/
theorem wpAnyS_two (i j : Nat) {oi oj : Oper} {fuel : Nat} {listed : Array Bool} {a : Act} {w : World} (hi : ops[i]? = some oi) (hj : ops[j]? = some oj) (hr : Region.ready md ops listed = [i, j]) (hl : L i = false) (hlj : L j = false)
    (hw : Region.wanted oi (yielded ops a.tmps) = true) (hwj : Region.wanted oj (yielded ops a.tmps) = true)
    (h : ∀ w1, Chg [] w w1 → oi.wp P a w1 (fun a' w' => Chg [] w1 w' ∧ wpAnyS P md ops Q L fuel (listed.setIfInBounds i true) a' w') Q)
    (h2 : ∀ w1, Chg [] w w1 → oj.wp P a w1 (fun a' w' => Chg [] w1 w' ∧ wpAnyS P md ops Q L fuel (listed.setIfInBounds j true) a' w') Q) : wpAnyS P md ops Q L (fuel + 1) listed a w := by
  intro w1 c1
  refine ⟨fun h0 => (by rw [hr] at h0; cases h0), fun k hk => ?_⟩
  rw [hr] at hk
  simp only [List.mem_cons, List.not_mem_nil, or_false] at hk
  rcases hk with rfl | rfl
  · unfold wpOp
    simp only [hi, hw, if_true]
    exact .inl (Oper.wp_mono (fun a' w' h' => ⟨fun h0 => (by rw [hl] at h0; cases h0), fun _ => h'⟩) (h w1 c1))
  · unfold wpOp
    simp only [hj, hwj, if_true]
    exact .inl (Oper.wp_mono (fun a' w' h' => ⟨fun h0 => (by rw [hlj] at h0; cases h0), fun _ => h'⟩) (h2 w1 c1))
/-- A last operation: from here on in the order that is left. -/
theorem wpAnyS_last (i : Nat) {oi : Oper} {fuel : Nat} {listed : Array Bool} {a : Act} {w : World} (hi : ops[i]? = some oi) (hr : Region.ready md ops listed = [i]) (hl : L i = true)
    (hw : Region.wanted oi (yielded ops a.tmps) = true)
    (h : ∀ w1, Chg [] w w1 → oi.wp P a w1 (fun a' w' => wpAny P md ops Q fuel (listed.setIfInBounds i true) a' w') Q) : wpAnyS P md ops Q L (fuel + 1) listed a w := by
  intro w1 c1
  refine ⟨fun h0 => (by rw [hr] at h0; cases h0), fun j hj => ?_⟩
  rw [hr] at hj
  simp only [List.mem_singleton] at hj
  subst hj
  unfold wpOp
  simp only [hi, hw, if_true]
  exact .inl (Oper.wp_mono (fun a' w' h' => ⟨fun _ => h', fun h0 => (by rw [hl] at h0; cases h0)⟩) (h w1 c1))
theorem wpAnyS_done {listed : Array Bool} {a : Act} {w : World} (hr : Region.ready md ops listed = []) (h : ∀ w1, Chg [] w w1 → Q .normal a w1) : ∀ fuel, wpAnyS P md ops Q L fuel listed a w
  | 0 => ⟨hr, h⟩
  | _ + 1 => fun w1 c1 => ⟨fun _ => h w1 c1, by rw [hr]; simp⟩
theorem wpAny_only (i : Nat) {oi : Oper} {fuel : Nat} {listed : Array Bool} {a : Act} {w : World} (hi : ops[i]? = some oi) (hr : Region.ready md ops listed = [i])
    (hw : Region.wanted oi (yielded ops a.tmps) = true)
    (h : oi.wp P a w (fun a' w' => wpAny P md ops Q fuel (listed.setIfInBounds i true) a' w') Q) : wpAny P md ops Q (fuel + 1) listed a w := by
  refine ⟨fun h0 => (by rw [hr] at h0; cases h0), fun j hj => ?_⟩
  rw [hr] at hj
  simp only [List.mem_singleton] at hj
  subst hj
  unfold wpOp
  simp only [hi, hw, if_true]
  exact .inl h
theorem wpAny_fin {listed : Array Bool} {a : Act} {w : World} (hr : Region.ready md ops listed = []) (h : Q .normal a w) : ∀ fuel, wpAny P md ops Q fuel listed a w
  | 0 => ⟨hr, h⟩
  | _ + 1 => ⟨fun _ => h, by rw [hr]; simp⟩
theorem wp_region_S (L : Nat → Bool) {id : Nat} {a : Act} {w : World} (hm : P.follows .mixedOrders = true)
    (h : wpAnyS P .any ops Q L ops.size (Array.replicate ops.size false) a w) : (Code.region id ops true).wp P Q a w :=
  wp_region_any hm (wpAny_of_S _ _ _ _ (h.mono (Chg.refl [] w).drew))
end
end Go.Aq

/- Contract of pix.Decode. No statement of the seat is proved here. -/
namespace Go.Aq
open Go.RowKit
/-- The shape in a picture's bytes. -/
def shpAt (b : List UInt8) : ShpD := ⟨((beVal ((b.drop 1).take 2) : Nat) : Int), ((beVal ((b.drop 3).take 2) : Nat) : Int), (((b.getD 5 0).toNat : Nat) : Int), (((b.getD 6 0).toNat : Nat) : Int)⟩
/-- A picture of bytes, or why not. -/
def decPL (b : List UInt8) : ShpD × List UInt8 × Int :=
  if b.length < 7 then (shpZ, [], 2)
  else if ¬ ((b.getD 0 0).toNat = 82 ∧ maySh (shpAt b) = true) then (shpZ, [], 4)
  else if ((b.length - 7 : Nat) : Int) < sizeD (shpAt b) then (shpZ, [], 2)
  else if sizeD (shpAt b) < ((b.length - 7 : Nat) : Int) then (shpZ, [], 3)
  else (shpAt b, b.drop 7, 0)
theorem Sees.dropAt {w : World} {g off n cap k : Nat} {b : List UInt8} (h : Sees w 1 (.slice (some ⟨g, off, none⟩) n cap) n (Bs b)) (hk : k ≤ n) {ad : Addr} (had : (if cap = k then some (⟨g, off, none⟩ : Addr) else some ⟨g, off + k, none⟩) = some ad) :
    Sees w 1 (.slice (some ad) (n - k) (cap - k)) (n - k) (Bs (b.drop k)) := by
  obtain ⟨h1, ao', cap', h2, h3, h4, h5⟩ := h
  simp only [Value.slice.injEq, true_and] at h2
  obtain ⟨rfl, rfl⟩ := h2
  have hbl : b.length = n := by simpa [Bs] using h1
  refine ⟨by simp [Bs]; omega, _, _, rfl, by omega, by simp, fun ad' had' j u hu => ?_⟩
  simp only [Option.some.injEq] at had'
  subst had'
  have hj : j < n - k := by
    have := (List.getElem?_eq_some_iff.1 hu).1
    simp [Bs] at this; omega
  rw [if_neg (by omega)] at had
  simp only [Option.some.injEq] at had
  subst had
  have e : (Bs (b.drop k))[j]? = (Bs b)[k + j]? := by simp [Bs]
  rw [e] at hu
  have := h5 _ rfl (k + j) u hu
  rw [Addr.add_lit] at this ⊢
  rw [Nat.add_assoc]
  exact this
end Go.Aq
namespace Go.Proofs.YtfammoidikdbpaaGreatDoor
open Go.RowKit Go.Aq Go.Aq.Wd
set_option maxRecDepth 100000 in
set_option maxHeartbeats 4000000 in
theorem pdec_short (v : Value) (n : Nat) (b : List UInt8) (w : World) (hv : Sees w 1 v n (Bs b)) (hn : n < 7) :
    Calls Tryz.prog 28 #[v] w fun e w' => e = .returned (.tuple #[rasV shpZ (.slice none 0 0), .int .i64 2]) ∧ Chg [] w w' := by
  obtain ⟨K, hK⟩ : ∃ K, w.heap.size = K := ⟨_, rfl⟩
  obtain ⟨ao, cap, rfl, hcap, hno⟩ := hv.shape
  have t1 : decide ((n : Int) < 7) = true := by simp; omega
  have t1' : decide (n < 7) = true := by simp; omega
  have hbK : Blk (w.alloc (.cells #[.int .i64 0, .int .i64 0, .int .i64 0, .int .i64 0, .slice none 0 0] 26)) K #[.int .i64 0, .int .i64 0, .int .i64 0, .int .i64 0, .slice none 0 0] 26 := Blk.new_at w _ _ hK
  clear hno hv hn
  go_enter Tryz.func28, Tryz.ntmps28
  go_wp2_with fail
  refine bodyPost_ret (results_AT rfl _ _ hbK ras_ty rfl) rfl ⟨rfl, (Chg.refl [] w).alloc _⟩
theorem shp_ty : ArrTy Tryz.prog 23 4 := ⟨⟨_, Tryz.underlying23, rfl⟩, by kernel_rfl⟩
theorem clone_any (ao : Addr) (n cap : Nat) (b : List UInt8) (w : World) (hv : Sees w 1 (.slice (some ao) n cap) n (Bs b)) (hn : n ≤ 1000000000) :
    Calls Tryz.prog 56 #[.slice (some ao) n cap] w fun e w' => ∃ v', e = .returned v' ∧ Sees w' 1 v' n (Bs b) ∧ (∀ k ∈ eyes v', w.heap.size ≤ k) ∧ Chg [] w w' := by
  have hbl : b.length = n := by have := hv.len; simpa [Bs] using this
  obtain ⟨hl, ao', cap', h2, h3, h4, h5⟩ := hv
  simp only [Value.slice.injEq, true_and] at h2
  obtain ⟨rfl, rfl⟩ := h2
  refine (Tryz.bytes_Clone_at ao n cap (b.map fun c => (c.toNat : Int)) w (by simpa using hbl) (by omega) (fun i hi => ?_)).mono ?_
  · have hi' : i < b.length := by omega
    rw [h5 ao rfl i (.int .u8 (b[i]).toNat) (by simp [Bs, Bc, List.getElem?_eq_getElem hi'])]
    simp [List.getElem?_eq_getElem hi']
  · rintro e w' ⟨v', rfl, ho, -, hb⟩
    have eB : (b.map fun c => (c.toNat : Int)).map (Value.int .u8) = Bs b := by simp [Bs, Bc]
    rw [eB] at ho
    have ho0 : Own w' 5 1 v' n (Bs b) := ⟨ho.1, ho.2.imp id fun ⟨g, cap, cur, h1, h2, h3⟩ => ⟨g, cap, cur, h1, Nat.zero_le _, h3⟩⟩
    refine ⟨v', rfl, ho0.sees, fun k hk => ?_, Chg.of_below hb⟩
    have := eyes_own v' k hk
    exact (World.ownsRow.lt ho k (by simpa [Option.mem_toList] using this)).1
set_option maxRecDepth 100000 in
set_option maxHeartbeats 8000000 in
theorem pdec_long (v : Value) (n : Nat) (b : List UInt8) (w : World) (hv : Sees w 1 v n (Bs b)) (hn : 7 ≤ n) (hn9 : n ≤ 1000000000) :
    Calls Tryz.prog 28 #[v] w fun e w' => ∃ v', e = .returned (.tuple #[rasV (decPL b).1 v', .int .i64 (decPL b).2.2]) ∧ Sees w' 1 v' (decPL b).2.1.length (Bs (decPL b).2.1) ∧ (∀ k ∈ eyes v', w.heap.size ≤ k) ∧ Chg [] w w' := by
  obtain ⟨K, hK⟩ : ∃ K, w.heap.size = K := ⟨_, rfl⟩
  have hbl : b.length = n := by have := hv.len; simpa [Bs] using this
  obtain ⟨g, off, cap, rfl, hcap, hgl, hcell⟩ := hv.bytes (by omega)
  have t1 : decide ((n : Int) < 7) = false := by simp; omega
  have t1' : decide (n < 7) = false := by simp; omega
  have hbK : Blk (w.alloc (.cells #[.int .i64 0, .int .i64 0, .int .i64 0, .int .i64 0, .slice none 0 0] 26)) K #[.int .i64 0, .int .i64 0, .int .i64 0, .int .i64 0, .slice none 0 0] 26 := Blk.new_at w _ _ hK
  have hc1 : Chg [] w (w.alloc (.cells #[.int .i64 0, .int .i64 0, .int .i64 0, .int .i64 0, .slice none 0 0] 26)) := (Chg.refl [] w).alloc _
  have hv1 := hv.chg0 hc1
  have m0 := hc1.cell_some (hcell 0 (by omega)) (by simp)
  have m5 := hc1.cell_some (hcell 5 (by omega)) (by simp)
  have m6 := hc1.cell_some (hcell 6 (by omega)) (by simp)
  rw [Nat.add_zero] at m0
  have x0 := (b.getD 0 0).toNat_lt
  have x5 := (b.getD 5 0).toNat_lt
  have x6 := (b.getD 6 0).toNat_lt
  have hrd : ∀ (at_ : Nat), at_ + 2 ≤ n → ∀ w', Sees w' 1 (.slice (some ⟨g, off, none⟩) n cap) n (Bs b) → Calls Tryz.prog 53 #[.slice (some ⟨g, off, none⟩) n cap, .int .i64 at_, .int .i64 2] w' fun e w'' => e = .returned (.tuple #[.int .i64 (beVal ((b.drop at_).take 2) : Nat), .int .i64 0]) ∧ w' = w'' :=
    fun at_ ha w' h => readBig_ok w' _ n at_ 2 b h (by decide) (by decide) ha (by omega)
  have hr1 := hrd 1 (by omega)
  have hr3 := hrd 3 (by omega)
  have hS : shpAt b = ⟨((beVal ((b.drop 1).take 2) : Nat) : Int), ((beVal ((b.drop 3).take 2) : Nat) : Int), (((b.getD 5 0).toNat : Nat) : Int), (((b.getD 6 0).toNat : Nat) : Int)⟩ := rfl
  obtain ⟨b0, hb0⟩ : ∃ b0, (b.getD 0 0).toNat = b0 := ⟨_, rfl⟩
  rw [hb0] at m0 x0
  generalize (b.getD 5 0).toNat = C at *
  generalize (b.getD 6 0).toNat = D at *
  generalize beVal ((b.drop 1).take 2) = W at *
  generalize beVal ((b.drop 3).take 2) = H at *
  generalize hB00 : b0 = B0 at *
  clear hB00
  have n7 : (7 : Int) ≤ (n : Int) := by omega
  have n5 : (5 : Int) < (n : Int) := by omega
  have n6 : (6 : Int) < (n : Int) := by omega
  have ncap : (n : Int) ≤ (cap : Int) := by omega
  have wC := wrap_i64_nat C (by omega)
  have wD := wrap_i64_nat D (by omega)
  have HB := Lib.hid (And.intro hbK (And.intro hv (And.intro hbl (And.intro hS (And.intro hb0 hcell)))))
  clear hbK hv hbl hS hb0 hcell hrd
  go_enter Tryz.func28, Tryz.ntmps28
  go_wp2_with fail
  generalize (w.alloc (.cells #[.int .i64 0, .int .i64 0, .int .i64 0, .int .i64 0, .slice none 0 0] 26)) = w1 at *
  refine (hr1 _ hv1).mono ?_
  rintro e w2 ⟨rfl, rfl⟩
  clear hr1
  go_wp2_with fail
  refine (hr3 _ hv1).mono ?_
  rintro e w2 ⟨rfl, rfl⟩
  clear hr3
  go_upto_region 5 with (fail)
  refine wp_region_S (fun i => i == 12) (by kernel_rfl) ?_
  refine wpAnyS_take 0 (v := .int .i64 W) rfl (by kernel_rfl) (by kernel_rfl) (by kernel_rfl) (by kernel_rfl) (fun _ _ _ h => h) (by rfl) (fun w4 c4 => ?_) ?_
  · go_simp
  try simp only [Act.put, List.getElem_toArray, List.getElem_cons_succ, List.getElem_cons_zero, List.setIfInBounds_toArray, List.set_cons_zero, List.set_cons_succ]
  refine wpAnyS_take 1 (v := .int .i64 H) rfl (by kernel_rfl) (by kernel_rfl) (by kernel_rfl) (by kernel_rfl) (fun _ _ _ h => h) (by rfl) (fun w4 c4 => ?_) ?_
  · go_simp
  try simp only [Act.put, List.getElem_toArray, List.getElem_cons_succ, List.getElem_cons_zero, List.setIfInBounds_toArray, List.set_cons_zero, List.set_cons_succ]
  refine wpAnyS_take 2 (v := .slice (some ⟨g, off, none⟩) n cap) rfl (by kernel_rfl) (by kernel_rfl) (by kernel_rfl) (by kernel_rfl) (fun _ _ _ h => h) (by rfl) (fun w4 c4 => ?_) ?_
  · go_simp
  try simp only [Act.put, List.getElem_toArray, List.getElem_cons_succ, List.getElem_cons_zero, List.setIfInBounds_toArray, List.set_cons_zero, List.set_cons_succ]
  refine wpAnyS_take 3 (v := .pointer (some ⟨g, off + 5, none⟩)) rfl (by kernel_rfl) (by kernel_rfl) (by kernel_rfl) (by kernel_rfl) (fun _ _ _ h => h) (by rfl) (fun w4 c4 => ?_) ?_
  · go_simp
  try simp only [Act.put, List.getElem_toArray, List.getElem_cons_succ, List.getElem_cons_zero, List.setIfInBounds_toArray, List.set_cons_zero, List.set_cons_succ]
  refine wpAnyS_take 4 (v := .int .u8 C) rfl (by kernel_rfl) (by kernel_rfl) (by kernel_rfl) (by kernel_rfl) (fun _ _ _ h => h) (by rfl) (fun w4 c4 => ?_) ?_
  · have z := c4.cell_some m5 (by simp)
    go_simp
  try simp only [Act.put, List.getElem_toArray, List.getElem_cons_succ, List.getElem_cons_zero, List.setIfInBounds_toArray, List.set_cons_zero, List.set_cons_succ]
  refine wpAnyS_take 5 (v := .int .i64 C) rfl (by kernel_rfl) (by kernel_rfl) (by kernel_rfl) (by kernel_rfl) (fun _ _ _ h => h) (by rfl) (fun w4 c4 => ?_) ?_
  · go_simp
  try simp only [Act.put, List.getElem_toArray, List.getElem_cons_succ, List.getElem_cons_zero, List.setIfInBounds_toArray, List.set_cons_zero, List.set_cons_succ]
  refine wpAnyS_take 6 (v := .slice (some ⟨g, off, none⟩) n cap) rfl (by kernel_rfl) (by kernel_rfl) (by kernel_rfl) (by kernel_rfl) (fun _ _ _ h => h) (by rfl) (fun w4 c4 => ?_) ?_
  · go_simp
  try simp only [Act.put, List.getElem_toArray, List.getElem_cons_succ, List.getElem_cons_zero, List.setIfInBounds_toArray, List.set_cons_zero, List.set_cons_succ]
  refine wpAnyS_take 7 (v := .pointer (some ⟨g, off + 6, none⟩)) rfl (by kernel_rfl) (by kernel_rfl) (by kernel_rfl) (by kernel_rfl) (fun _ _ _ h => h) (by rfl) (fun w4 c4 => ?_) ?_
  · go_simp
  try simp only [Act.put, List.getElem_toArray, List.getElem_cons_succ, List.getElem_cons_zero, List.setIfInBounds_toArray, List.set_cons_zero, List.set_cons_succ]
  refine wpAnyS_take 8 (v := .int .u8 D) rfl (by kernel_rfl) (by kernel_rfl) (by kernel_rfl) (by kernel_rfl) (fun _ _ _ h => h) (by rfl) (fun w4 c4 => ?_) ?_
  · have z := c4.cell_some m6 (by simp)
    go_simp
  try simp only [Act.put, List.getElem_toArray, List.getElem_cons_succ, List.getElem_cons_zero, List.setIfInBounds_toArray, List.set_cons_zero, List.set_cons_succ]
  refine wpAnyS_take 9 (v := .int .i64 D) rfl (by kernel_rfl) (by kernel_rfl) (by kernel_rfl) (by kernel_rfl) (fun _ _ _ h => h) (by rfl) (fun w4 c4 => ?_) ?_
  · go_simp
  try simp only [Act.put, List.getElem_toArray, List.getElem_cons_succ, List.getElem_cons_zero, List.setIfInBounds_toArray, List.set_cons_zero, List.set_cons_succ]
  refine wpAnyS_take 10 (v := .agg #[.int .i64 W, .int .i64 H, .int .i64 C, .int .i64 D]) rfl (by kernel_rfl) (by kernel_rfl) (by kernel_rfl) (by kernel_rfl) (fun _ _ _ h => h) (by rfl) (fun w4 c4 => ?_) ?_
  · go_simp
  try simp only [Act.put, List.getElem_toArray, List.getElem_cons_succ, List.getElem_cons_zero, List.setIfInBounds_toArray, List.set_cons_zero, List.set_cons_succ]
  refine wpAnyS_only 11 rfl (by kernel_rfl) rfl (by rfl) (fun w4 c4 => ?_)
  go_simp
  obtain ⟨P, hP⟩ : ∃ P, w4.heap.size = P := ⟨_, rfl⟩
  rw [hP]
  have hb4 : Blk (w4.alloc (.cells #[.int .i64 0, .int .i64 0, .int .i64 0, .int .i64 0] 23)) P #[.int .i64 0, .int .i64 0, .int .i64 0, .int .i64 0] 23 := Blk.new_at w4 _ _ hP
  have hcP : Chg [] w4 (w4.alloc (.cells #[.int .i64 0, .int .i64 0, .int .i64 0, .int .i64 0] 23)) := (Chg.refl [] w4).alloc _
  refine ⟨hcP, ?_⟩
  try simp only [Act.put, List.getElem_toArray, List.getElem_cons_succ, List.getElem_cons_zero, List.setIfInBounds_toArray, List.set_cons_zero, List.set_cons_succ]
  refine wpAnyS_last 12 rfl (by kernel_rfl) rfl (by rfl) (fun w5 c5 => ?_)
  have hb5 := hb4.chg0 c5
  refine wp_stA (cs := #[.int .i64 W, .int .i64 H, .int .i64 C, .int .i64 D]) 23 _ _ rfl hb5 shp_ty rfl (by simp [Value.oneCell']) rfl rfl ?_
  intro w6 hb6 c6 hs6
  clear hs6
  refine wpAny_fin (by kernel_rfl) ?_ _
  have cw5 := ((hc1.nil c4).nil hcP).nil c5
  have hPK : K < P := by have := HB.out.1.lt; have := c4.size; omega
  have cw6 : Chg [] w w6 := cw5.trans c6 (fun k hk => by simp at hk; right; omega)
  have hbK6 := (((HB.out.1.chg0 c4).chg0 hcP).chg0 c5).chg c6 (by simp; omega)
  have m0' := cw6.cell_some (HB.out.2.2.2.2.2 0 (by omega)) (by simp)
  clear m0 m5 m6 hb4 hb5 c4 hcP c5 c6 cw5 hP hv1 hc1
  try simp only [Act.put, List.getElem_toArray, List.getElem_cons_succ, List.getElem_cons_zero, List.setIfInBounds_toArray, List.set_cons_zero, List.set_cons_succ]
  go_upto_region 7 with (fail)
  obtain ⟨ad, had⟩ : ∃ ad, (if cap = 7 then some (⟨g, off, none⟩ : Addr) else some ⟨g, off + 7, none⟩) = some ad := by split <;> exact ⟨_, rfl⟩
  rw [had]
  have hdr := fun w' (c : Chg [] w w') => (HB.out.2.1.chg0 c).dropAt hn had
  obtain ⟨nn, hnn⟩ : ∃ nn, n - 7 = nn := ⟨_, rfl⟩
  rw [hnn] at hdr ⊢
  generalize cap - 7 = cap7 at *
  have hnb : nn ≤ 1000000000 := by omega
  have n0 : (0 : Int) < (n : Int) := by omega
  have n0' : 0 < n := by omega
  have hdec : decPL b = if ¬ (B0 = 82 ∧ maySh ⟨W, H, C, D⟩ = true) then (shpZ, [], 4) else if (nn : Int) < sizeD ⟨W, H, C, D⟩ then (shpZ, [], 2) else if sizeD ⟨W, H, C, D⟩ < (nn : Int) then (shpZ, [], 3) else (⟨W, H, C, D⟩, b.drop 7, 0) := by
    obtain ⟨-, -, hbl, hS, hb0, -⟩ := HB.out
    unfold decPL
    rw [if_neg (by omega), hS, hbl, hnn, hb0]
  have hms := fun w' => maySh_any ⟨W, H, C, D⟩ w'
  have hsz := fun w' => size_any ⟨W, H, C, D⟩ w'
  unfold shpV at hms hsz
  simp only at hms hsz
  have HD := Lib.hid (And.intro hdec (And.intro hbK6 (And.intro cw6 hPK)))
  obtain ⟨p0, p1, p2, p3⟩ := Blk4 hb6
  clear hdec hnn had t1 t1' n7 n5 n6 ncap x0 x5 x6 wC wD hcap hgl hn hn9 cw6 hPK
  have m00 : w6.cell? ⟨g, off, none⟩ = some (.int .u8 B0) := by
    have := HB.out.2.2.2.2.1
    rw [this, Nat.add_zero] at m0'
    exact m0'
  clear m0'
  by_cases hB0 : B0 = 82
  · have e1 : ((B0 : Int) != 82) = false := by simp [hB0]
    cases hmS : maySh ⟨W, H, C, D⟩ with
    | false =>
      have hz : decPL b = (shpZ, [], 4) := by rw [HD.out.1, if_pos (fun h => by rw [hmS] at h; exact absurd h.2 (by simp))]
      have HZ := Lib.hid hz
      rw [hmS] at hms
      clear hB0 hz hmS
      go_wp2_with fail
      refine (hms _).mono ?_
      rintro e w7 ⟨rfl, c7⟩
      have hbK7 := hbK6.chg0 c7
      clear hms p0 p1 p2 p3
      have aT : ArrTy Tryz.prog 26 (#[.int .i64 0, .int .i64 0, .int .i64 0, .int .i64 0, .slice none 0 0] : Array Value).size := ras_ty
      go_wp2_with (with_reducible refine wpList_stA rfl 26 _ _ rfl hbK7 aT rfl (by simp [Value.oneCell']) rfl rfl ?_; intro w20 hb20 c20 hs20)
      refine bodyPost_ret (results_AT rfl _ _ hb20 aT rfl) rfl ⟨.slice none 0 0, ?_⟩
      rw [HZ.out]
      refine ⟨rfl, Sees.nil _ _, by simp [eyes], (HD.out.2.2.1.nil c7).trans c20 fun k hk => ?_⟩
      simp at hk; right; omega
    | true =>
      have hnn : ¬ ¬ (B0 = 82 ∧ maySh ⟨W, H, C, D⟩ = true) := fun h => h ⟨hB0, hmS⟩
      have hsb := (row_size_bound ⟨W, H, C, D⟩ (by unfold maySh at hmS; simp only [Bool.and_eq_true] at hmS; exact hmS.1)).2
      have hdd := HD.out.1
      rw [if_neg hnn] at hdd
      rw [hmS] at hms
      generalize sizeD ⟨W, H, C, D⟩ = sz at *
      have HD2 := Lib.hid hdd
      clear hB0 hmS hnn hdd
      go_wp2_with fail
      refine (hms _).mono ?_
      rintro e w7 ⟨rfl, c7⟩
      have hb7 := hb6.chg0 c7
      clear hms p0 p1 p2 p3
      obtain ⟨p0, p1, p2, p3⟩ := Blk4 hb7
      go_wp2_with fail
      refine (hsz _).mono ?_
      rintro e w8 ⟨rfl, c8⟩
      have hb8 := hb7.chg0 c8
      clear p0 p1 p2 p3
      by_cases hlt : (nn : Int) < sz
      · have e2 : decide ((nn : Int) < sz) = true := by simp; omega
        have hz : decPL b = (shpZ, [], 2) := by rw [HD2.out, if_pos hlt]
        have HZ := Lib.hid hz
        have hbK8 := (hbK6.chg0 c7).chg0 c8
        clear hz hlt
        have aT : ArrTy Tryz.prog 26 (#[.int .i64 0, .int .i64 0, .int .i64 0, .int .i64 0, .slice none 0 0] : Array Value).size := ras_ty
        go_wp2_with (with_reducible refine wpList_stA rfl 26 _ _ rfl hbK8 aT rfl (by simp [Value.oneCell']) rfl rfl ?_; intro w20 hb20 c20 hs20)
        refine bodyPost_ret (results_AT rfl _ _ hb20 aT rfl) rfl ⟨.slice none 0 0, ?_⟩
        rw [HZ.out]
        refine ⟨rfl, Sees.nil _ _, by simp [eyes], ((HD.out.2.2.1.nil c7).nil c8).trans c20 fun k hk => ?_⟩
        simp at hk; right; omega
      · have e2 : decide ((nn : Int) < sz) = false := by simp; omega
        obtain ⟨p0, p1, p2, p3⟩ := Blk4 hb8
        go_wp2_with fail
        refine (hsz _).mono ?_
        rintro e w9 ⟨rfl, c9⟩
        have hb9 := hb8.chg0 c9
        have hbK9 := ((hbK6.chg0 c7).chg0 c8).chg0 c9
        have cw9 := ((HD.out.2.2.1.nil c7).nil c8).nil c9
        clear p0 p1 p2 p3 hsz hb7 hb8 c7 c8 c9
        by_cases hgt : sz < (nn : Int)
        · have e3 : decide (sz < (nn : Int)) = true := by simp; omega
          have hz : decPL b = (shpZ, [], 3) := by rw [HD2.out, if_neg (by omega), if_pos hgt]
          have HZ := Lib.hid hz
          clear hz hlt hgt
          have aT : ArrTy Tryz.prog 26 (#[.int .i64 0, .int .i64 0, .int .i64 0, .int .i64 0, .slice none 0 0] : Array Value).size := ras_ty
          go_wp2_with (with_reducible refine wpList_stA rfl 26 _ _ rfl hbK9 aT rfl (by simp [Value.oneCell']) rfl rfl ?_; intro w20 hb20 c20 hs20)
          refine bodyPost_ret (results_AT rfl _ _ hb20 aT rfl) rfl ⟨.slice none 0 0, ?_⟩
          rw [HZ.out]
          refine ⟨rfl, Sees.nil _ _, by simp [eyes], cw9.trans c20 fun k hk => ?_⟩
          simp at hk; right; omega
        · have e3 : decide (sz < (nn : Int)) = false := by simp; omega
          have hz : decPL b = (⟨W, H, C, D⟩, b.drop 7, 0) := by rw [HD2.out, if_neg (by omega), if_neg (by omega)]
          have HZ := Lib.hid hz
          have hse := hdr w9 cw9
          obtain ⟨p0, p1, p2, p3⟩ := Blk4 hb9
          clear hz hlt hgt
          go_upto_region 13 with (fail)
          refine wp_region_S (fun i => i == 4) (by kernel_rfl) ?_
          refine wpAnyS_take 0 (v := .agg #[.int .i64 W, .int .i64 H, .int .i64 C, .int .i64 D]) rfl (by kernel_rfl) (by kernel_rfl) (by kernel_rfl) (by kernel_rfl) (fun _ _ _ h => h) (by rfl) (fun w4 c4 => ?_) ?_
          · have z0 := c4.cell_some p0 (by simp)
            have z1 := c4.cell_some p1 (by simp)
            have z2 := c4.cell_some p2 (by simp)
            have z3 := c4.cell_some p3 (by simp)
            go_simp
          try simp only [Act.put, List.getElem_toArray, List.getElem_cons_succ, List.getElem_cons_zero, List.setIfInBounds_toArray, List.set_cons_zero, List.set_cons_succ]
          refine wpAnyS_take 1 (v := .slice (some ad) nn cap7) rfl (by kernel_rfl) (by kernel_rfl) (by kernel_rfl) (by kernel_rfl) (fun _ _ _ h => h) (by rfl) (fun w4 c4 => ?_) ?_
          · go_simp
          try simp only [Act.put, List.getElem_toArray, List.getElem_cons_succ, List.getElem_cons_zero, List.setIfInBounds_toArray, List.set_cons_zero, List.set_cons_succ]
          refine wpAnyS_only 2 rfl (by kernel_rfl) rfl (by rfl) (fun w10 c10 => ?_)
          go_simp
          refine (clone_any ad nn cap7 (b.drop 7) w10 (hse.chg0 c10) hnb).mono ?_
          rintro e w11 ⟨v11, rfl, hs11, hn11, c11⟩
          refine ⟨c11, ?_⟩
          try simp only [Act.put, List.getElem_toArray, List.getElem_cons_succ, List.getElem_cons_zero, List.setIfInBounds_toArray, List.set_cons_zero, List.set_cons_succ]
          obtain ⟨ao11, cp11, rfl, -, -⟩ := hs11.shape
          have hbK11 := (hbK9.chg0 c10).chg0 c11
          have cw11 := (cw9.nil c10).nil c11
          refine wpAnyS_take 3 (v := .agg #[.int .i64 W, .int .i64 H, .int .i64 C, .int .i64 D, .slice ao11 nn cp11]) rfl (by kernel_rfl) (by kernel_rfl) (by kernel_rfl) (by kernel_rfl) (fun _ _ _ h => h) (by rfl) (fun w4 c4 => by go_simp) ?_
          try simp only [Act.put, List.getElem_toArray, List.getElem_cons_succ, List.getElem_cons_zero, List.setIfInBounds_toArray, List.set_cons_zero, List.set_cons_succ]
          refine wpAnyS_last 4 rfl (by kernel_rfl) rfl (by rfl) (fun w12 c12 => ?_)
          refine wp_stA (cs := #[.int .i64 W, .int .i64 H, .int .i64 C, .int .i64 D, .slice ao11 nn cp11]) 26 _ _ rfl (hbK11.chg0 c12) ras_ty rfl (by simp [Value.oneCell']) rfl rfl ?_
          intro w13 hb13 c13 hs13
          try simp only [Act.put, List.getElem_toArray, List.getElem_cons_succ, List.getElem_cons_zero, List.setIfInBounds_toArray, List.set_cons_zero, List.set_cons_succ]
          refine wpAny_only 5 rfl (by kernel_rfl) (by rfl) ?_
          go_simp
          refine wpAny_fin (by kernel_rfl) ?_ _
          try simp only [Act.put, List.getElem_toArray, List.getElem_cons_succ, List.getElem_cons_zero, List.setIfInBounds_toArray, List.set_cons_zero, List.set_cons_succ]
          have cw13 : Chg [] w w13 := (cw11.nil c12).trans c13 fun k hk => by simp at hk; right; omega
          have hs13 : Sees w13 1 (.slice ao11 nn cp11) nn (Bs (b.drop 7)) := (hs11.chg0 c12).chg c13 fun k hk => by
            have h1 := hn11 k hk
            have h2 := hbK9.lt
            have h3 := c10.size
            simp; omega
          have hn13 : ∀ k ∈ eyes (.slice ao11 nn cp11), w.heap.size ≤ k := fun k hk => by
            have h1 := hn11 k hk
            have h2 := cw9.size
            have h3 := c10.size
            omega
          have hl7 : (b.drop 7).length = nn := by have := hs11.len; simpa [Bs] using this
          clear p0 p1 p2 p3
          go_wp2_with fail
          refine bodyPost_ret (results_AT rfl _ _ hb13 ras_ty rfl) rfl ⟨.slice ao11 nn cp11, ?_⟩
          rw [HZ.out]
          refine ⟨rfl, ?_, fun k hk => by have := hn13 k hk; omega, cw13⟩
          simp only
          rw [hl7]
          exact hs13
  · have e1 : ((B0 : Int) != 82) = true := by simp; omega
    have hz : decPL b = (shpZ, [], 4) := by rw [HD.out.1, if_pos (fun h => hB0 h.1)]
    have HZ := Lib.hid hz
    clear hB0 hz
    have aT : ArrTy Tryz.prog 26 (#[.int .i64 0, .int .i64 0, .int .i64 0, .int .i64 0, .slice none 0 0] : Array Value).size := ras_ty
    go_wp2_with (with_reducible refine wpList_stA rfl 26 _ _ rfl hbK6 aT rfl (by simp [Value.oneCell']) rfl rfl ?_; intro w7 hb7 c7 hs7)
    refine bodyPost_ret (results_AT rfl _ _ hb7 aT rfl) rfl ⟨.slice none 0 0, ?_⟩
    rw [HZ.out]
    refine ⟨rfl, Sees.nil _ _, by simp [eyes], HD.out.2.2.1.trans c7 fun k hk => ?_⟩
    simp at hk; right; omega
theorem decode_pix (v : Value) (n : Nat) (b : List UInt8) (w : World) (hv : Sees w 1 v n (Bs b)) (hn9 : n ≤ 1000000000) :
    Calls Tryz.prog 28 #[v] w fun e w' => ∃ v', e = .returned (.tuple #[rasV (decPL b).1 v', .int .i64 (decPL b).2.2]) ∧ Sees w' 1 v' (decPL b).2.1.length (Bs (decPL b).2.1) ∧ (∀ k ∈ eyes v', w.heap.size ≤ k) ∧ Chg [] w w' := by
  by_cases h : n < 7
  · have hbl : b.length = n := by have := hv.len; simpa [Bs] using this
    have e : decPL b = (shpZ, [], 2) := by unfold decPL; rw [if_pos (by omega)]
    rw [e]
    refine (pdec_short v n b w hv h).mono ?_
    rintro e w' ⟨rfl, h3⟩
    exact ⟨_, rfl, Sees.nil _ _, by simp [eyes], h3⟩
  · exact pdec_long v n b w hv (by omega) hn9
end Go.Proofs.YtfammoidikdbpaaGreatDoor

/- Contracts of num.Unhex and of aquref1.digit, Unhex. No statement of the seat is proved here. -/
namespace Go.Proofs.YtfammoidikdbpaaGreatDoor
open Go.RowKit Go.Aq
theorem idxStr (w : World) (s : List UInt8) (j : Nat) (h : j < s.length) : (Instr.index 9 (.string (str s)) (.int .i64 (j : Int))).run Tryz.prog w = .ok (.int .u8 ((s[j]'h).toNat : Int)) w := by
  have hj : j < (str s).size := by rw [str_size]; exact h
  rw [run_index_string w 9 (str s) .i64 j Tryz.underlying9, dif_pos ⟨by omega, by omega⟩]
  rfl
def Unhexed (w : World) (s : List UInt8) (e : Ending) (w' : World) : Prop :=
  (∃ bs v', unhexL s = some bs ∧ e = .returned (.tuple #[v', .bool true]) ∧ Fresh w w' 5 1 v' bs.length (Bs bs)) ∨ (unhexL s = none ∧ e = .returned (.tuple #[.slice none 0 0, .bool false]) ∧ Chg [] w w')
theorem indexDigits (c : UInt8) (w : World) : Calls Tryz.prog 79 #[.string digitsS, .int .u8 (c.toNat : Int)] w fun e w' => e = .returned (.int .i64 (unD c)) ∧ w' = w := by
  have h := Tryz.strings_IndexByte digitsS c.toNat w
  simp only [Int.toNat_natCast] at h
  rw [show c.toNat.toUInt8 = c by simp, unD_index] at h
  exact h
theorem indexDigits' (c : UInt8) (w : World) : Calls Tryz.prog 79 #[.string ⟨#[48, 49, 50, 51, 52, 53, 54, 55, 56, 57, 97, 98, 99, 100, 101, 102]⟩, .int .u8 (c.toNat : Int)] w fun e w' => e = .returned (.int .i64 (unD c)) ∧ w' = w := indexDigits c w
theorem or_digits (a b : Nat) (ha : a < 16) (hb : b < 16) : bits .or .i64 ((a : Int) * 16) (b : Int) = ((16 * a + b : Nat) : Int) := by
  have h := (bits_i64 (a * 16) b (by omega) (by omega)).2.1
  have e : a * 16 ||| b = 16 * a + b := by
    rw [Nat.or_comm]
    have := or_shift b a 4 hb
    rw [show (2 : Nat) ^ 4 = 16 by decide] at this
    rw [this]
    omega
  rw [e] at h
  rw [← h]
  rfl
set_option maxHeartbeats 1000000 in
theorem unhex_any (w : World) (s : List UInt8) (hs : s.length ≤ 1000000) :
    Calls Tryz.prog 52 #[.string (str s)] w (Unhexed w s) := by
  have hsz := str_size s
  by_cases hodd : s.length % 2 = 0
  · obtain ⟨R, hR⟩ : ∃ R, unhexL s = R := ⟨_, rfl⟩
    have HR := Lib.hid hR; clear hR
    have t0 : (((s.length : Int) % 2) != 0) = false := by simp; omega
    go_enter Tryz.func52, Tryz.ntmps52
    go_wp2_with fail
    go_loopg [4, 5] s.length (fun k vo vi wr => ∃ (i j : Nat) (out : List UInt8), vi = .int .i64 j ∧ j = 2 * i ∧ j + k = s.length ∧ out.length = i ∧ R = (unhexL (s.drop j)).map (out ++ ·) ∧ Fresh w wr 5 1 vo i (Bs out))
    case atStart => exact ⟨0, 0, [], rfl, rfl, by omega, rfl, by rw [← HR.out]; simp, Fresh.nil w _ _⟩
    case round =>
      obtain ⟨i, j, out, rfl, hji, hik, hol, hRd, hf⟩ := hrel
      have HOL := Lib.hid hol; clear hol
      have hi5 : i ≤ 1000000 := by omega
      by_cases hlt : j < s.length
      · have hlt2 : j + 1 < s.length := by omega
        have HJI := Lib.hid hji; clear hji
        have hd : s.drop j = s[j] :: s[j + 1] :: s.drop (j + 2) := by
          rw [List.drop_eq_getElem_cons hlt, List.drop_eq_getElem_cons hlt2]
        rw [hd] at hRd
        have x1 := fun w => idxStr w s j hlt
        have x2 := fun w => idxStr w s (j + 1) hlt2
        have hz1 : ((j : Nat) : Int) + 1 = ((j + 1 : Nat) : Int) := by omega
        obtain ⟨J1, hJ1⟩ : ∃ J1, J1 = j + 1 := ⟨_, rfl⟩
        generalize s[j] = a at *
        generalize s[j + 1] = b at *
        rw [← hJ1] at x2 hz1
        obtain ⟨ra1, ra2⟩ := unD_range a
        obtain ⟨rb1, rb2⟩ := unD_range b
        simp only [unhexL] at hRd
        have HRD := Lib.hid hRd; clear hRd
        have HIK := Lib.hid hik; clear hik
        have HJ1 := Lib.hid hJ1; clear hJ1 hd
        have tj : decide ((j : Int) < (s.length : Int)) = true := by simp; omega
        have tj' : decide (j < s.length) = true := by simp; omega
        by_cases hbad : unD a < 0 ∨ unD b < 0
        · have e := HRD.out
          rw [if_pos hbad] at e
          have HRN := Lib.hid e; clear e HRD
          by_cases ha : unD a < 0
          · have t1 : decide (unD a < 0) = true := by simpa using ha
            have hcw := hf.chg.drewN
            clear hbad ha hf
            go_wp2_with fail
            go_quiet ((exact Calls.quiet_of_same (indexDigits' _ _)))
            have hcw2 := hcw nq
            generalize wr.drewN nq = w2 at *
            go_wp2_with fail
            go_ret2
            exact .inr ⟨by rw [HR.out, HRN.out]; rfl, rfl, hcw2⟩
          · have t1 : decide (unD a < 0) = false := by simpa using ha
            have t2 : decide (unD b < 0) = true := by simp; omega
            have hcw := hf.chg.drewN
            clear hbad ha hf
            go_wp2_with fail
            go_quiet ((exact Calls.quiet_of_same (indexDigits' _ _)))
            have hcw2 := hcw nq
            generalize wr.drewN nq = w2 at *
            go_wp2_with fail
            go_ret2
            exact .inr ⟨by rw [HR.out, HRN.out]; rfl, rfl, hcw2⟩
        · have e := HRD.out
          rw [if_neg hbad] at e
          have HRS := Lib.hid e; clear e HRD
          have t1 : decide (unD a < 0) = false := by simp; omega
          have t2 : decide (unD b < 0) = false := by simp; omega
          obtain ⟨A, hA⟩ : ∃ A : Nat, unD a = A := ⟨(unD a).toNat, by omega⟩
          obtain ⟨B, hB⟩ : ∃ B : Nat, unD b = B := ⟨(unD b).toNat, by omega⟩
          have hA16 : A < 16 := by omega
          have hB16 : B < 16 := by omega
          have hor := or_digits A B hA16 hB16
          rw [hA] at t1 HRS
          rw [hB] at t2 HRS
          simp only [Int.toNat_natCast] at HRS
          have HA := Lib.hid hA
          have HB := Lib.hid hB
          clear hbad hA hB ra1 ra2 rb1 rb2
          go_wp2_with fail
          go_quiet ((exact Calls.quiet_of_same (indexDigits' _ _)))
          rw [HA.out, HB.out]
          have hf2 := hf.to ((Chg.refl [] wr).drewN nq)
          generalize wr.drewN nq = w2 at *
          clear hf
          obtain ⟨N, hN⟩ : ∃ N : Nat, 16 * A + B = N := ⟨_, rfl⟩
          have hN256 : N < 256 := by omega
          rw [hN] at HRS hor
          have hev : (((UInt8.ofNat N).toNat : Nat) : Int) = (N : Int) := by rw [UInt8.toNat_ofNat', Nat.mod_eq_of_lt hN256]
          have HEV := Lib.hid hev
          clear hN hev
          go_wp2_with (at_builtin; refine wpList_appF (w0 := w) rfl _ _ 24 rfl sl_u8 (by exact hf2.to ((Chg.refl [] w2).alloc (.cells #[.int .u8 (N : Int)] 5))) rfl (Sees.row (cs := #[.int .u8 (N : Int)]) (by exact Blk.new w2 _ 5) (m := 1) rfl) rfl (by simp [Value.oneCell']) (by omega) (by omega) ?_; intro v3 w3 hF3 c3)
          go_roundg (gk - 2)
          case measure => have := HIK.out; omega
          case rel =>
            refine ⟨i + 1, j + 2, out ++ [UInt8.ofNat N], by go_num, by have := HJI.out; omega, by have := HIK.out; omega, by simp; exact HOL.out, ?_, ?_⟩
            · rw [HRS.out, Option.map_map]
              congr 1
              funext r
              simp
            · rw [Bs_append]
              have : Bs [UInt8.ofNat N] = [.int .u8 (N : Int)] := by simp only [Bs, List.map_cons, List.map_nil, Bc, HEV.out]
              rw [this]
              exact hF3
      · have hj : j = s.length := by omega
        have tj : decide ((j : Int) < (s.length : Int)) = false := by simp; omega
        have tj' : decide (j < s.length) = false := by simp; omega
        rw [List.drop_of_length_le (by omega)] at hRd
        have HRD := Lib.hid hRd
        have HX := Lib.hid hj
        clear hRd hlt hji hik hj
        go_wp2_with fail
        go_ret2
        refine .inl ⟨out, _, by rw [HR.out, HRD.out]; simp [unhexL], rfl, ?_⟩
        rw [HOL.out]
        exact hf
  · have e := unhexL_odd s (by omega)
    have HE := Lib.hid e; clear e
    have t0 : (((s.length : Int) % 2) != 0) = true := by simp; omega
    go_enter Tryz.func52, Tryz.ntmps52
    go_wp2_with fail
    go_ret2
    exact .inr ⟨HE.out, rfl, Chg.refl _ _⟩

set_option maxHeartbeats 400000 in
theorem digit_any (c : UInt8) (w : World) : Calls Tryz.prog 85 #[.int .u8 (c.toNat : Int)] w fun e w' => e = .returned (.int .i64 (unD c)) ∧ w' = w := by
  have hc := c.toNat_lt
  obtain ⟨R, hR⟩ : ∃ R, unD c = R := ⟨_, rfl⟩
  rw [hR]
  unfold unD at hR
  generalize c.toNat = x at *
  by_cases h1 : 48 ≤ x ∧ x ≤ 57
  · rw [if_pos h1] at hR
    have HR := Lib.hid hR; clear hR
    obtain ⟨h1, h2⟩ := h1
    go_enter Tryz.func85, Tryz.ntmps85
    go_wp2
    go_ret
    exact ⟨ret_int HR.out, rfl⟩
  · rw [if_neg h1] at hR
    have t1 : x < 48 ∨ 57 < x := by omega
    by_cases h2 : 97 ≤ x ∧ x ≤ 102
    · rw [if_pos h2] at hR
      have HR := Lib.hid hR; clear hR
      obtain ⟨h2, h3⟩ := h2
      clear h1 t1
      have t2 : 57 < x := by omega
      have t3 : 48 ≤ x := by omega
      go_enter Tryz.func85, Tryz.ntmps85
      go_wp2
      go_ret
      exact ⟨ret_int (by have := HR.out; omega), rfl⟩
    · rw [if_neg h2] at hR
      have HR := Lib.hid hR; clear hR
      go_enter Tryz.func85, Tryz.ntmps85
      go_wp2
      all_goals first
        | (exfalso; omega)
        | (go_ret; exact ⟨ret_int (by have := HR.out; omega), rfl⟩)
set_option maxHeartbeats 1000000 in
theorem refUnhex_any (w : World) (s : List UInt8) (hs : s.length ≤ 1000000) :
    Calls Tryz.prog 59 #[.string (str s)] w (Unhexed w s) := by
  have hsz := str_size s
  by_cases hodd : s.length % 2 = 0
  · obtain ⟨R, hR⟩ : ∃ R, unhexL s = R := ⟨_, rfl⟩
    have HR := Lib.hid hR; clear hR
    have t0 : (((s.length : Int) % 2) != 0) = false := by simp; omega
    go_enter Tryz.func59, Tryz.ntmps59
    go_wp2_with fail
    go_loopg [4, 5] s.length (fun k vo vi wr => ∃ (i j : Nat) (out : List UInt8), vi = .int .i64 j ∧ j = 2 * i ∧ j + k = s.length ∧ out.length = i ∧ R = (unhexL (s.drop j)).map (out ++ ·) ∧ Fresh w wr 5 1 vo i (Bs out))
    case atStart => exact ⟨0, 0, [], rfl, rfl, by omega, rfl, by rw [← HR.out]; simp, Fresh.nil w _ _⟩
    case round =>
      obtain ⟨i, j, out, rfl, hji, hik, hol, hRd, hf⟩ := hrel
      have HOL := Lib.hid hol; clear hol
      have hi5 : i ≤ 1000000 := by omega
      by_cases hlt : j < s.length
      · have hlt2 : j + 1 < s.length := by omega
        have HJI := Lib.hid hji; clear hji
        have hd : s.drop j = s[j] :: s[j + 1] :: s.drop (j + 2) := by
          rw [List.drop_eq_getElem_cons hlt, List.drop_eq_getElem_cons hlt2]
        rw [hd] at hRd
        have x1 := fun w => idxStr w s j hlt
        have x2 := fun w => idxStr w s (j + 1) hlt2
        have hz1 : ((j : Nat) : Int) + 1 = ((j + 1 : Nat) : Int) := by omega
        obtain ⟨J1, hJ1⟩ : ∃ J1, J1 = j + 1 := ⟨_, rfl⟩
        generalize s[j] = a at *
        generalize s[j + 1] = b at *
        rw [← hJ1] at x2 hz1
        obtain ⟨ra1, ra2⟩ := unD_range a
        obtain ⟨rb1, rb2⟩ := unD_range b
        simp only [unhexL] at hRd
        have HRD := Lib.hid hRd; clear hRd
        have HIK := Lib.hid hik; clear hik
        have HJ1 := Lib.hid hJ1; clear hJ1 hd
        have tj : decide ((j : Int) < (s.length : Int)) = true := by simp; omega
        have tj' : decide (j < s.length) = true := by simp; omega
        by_cases hbad : unD a < 0 ∨ unD b < 0
        · have e := HRD.out
          rw [if_pos hbad] at e
          have HRN := Lib.hid e; clear e HRD
          by_cases ha : unD a < 0
          · have t1 : decide (unD a < 0) = true := by simpa using ha
            have hcw := hf.chg.drewN
            clear hbad ha hf
            go_wp2_with fail
            go_quiet ((exact Calls.quiet_of_same (digit_any _ _)))
            have hcw2 := hcw nq
            generalize wr.drewN nq = w2 at *
            go_wp2_with fail
            go_ret2
            exact .inr ⟨by rw [HR.out, HRN.out]; rfl, rfl, hcw2⟩
          · have t1 : decide (unD a < 0) = false := by simpa using ha
            have t2 : decide (unD b < 0) = true := by simp; omega
            have hcw := hf.chg.drewN
            clear hbad ha hf
            go_wp2_with fail
            go_quiet ((exact Calls.quiet_of_same (digit_any _ _)))
            have hcw2 := hcw nq
            generalize wr.drewN nq = w2 at *
            go_wp2_with fail
            go_ret2
            exact .inr ⟨by rw [HR.out, HRN.out]; rfl, rfl, hcw2⟩
        · have e := HRD.out
          rw [if_neg hbad] at e
          have HRS := Lib.hid e; clear e HRD
          have t1 : decide (unD a < 0) = false := by simp; omega
          have t2 : decide (unD b < 0) = false := by simp; omega
          obtain ⟨A, hA⟩ : ∃ A : Nat, unD a = A := ⟨(unD a).toNat, by omega⟩
          obtain ⟨B, hB⟩ : ∃ B : Nat, unD b = B := ⟨(unD b).toNat, by omega⟩
          have hA16 : A < 16 := by omega
          have hB16 : B < 16 := by omega
          have hor := or_digits A B hA16 hB16
          rw [hA] at t1 HRS
          rw [hB] at t2 HRS
          simp only [Int.toNat_natCast] at HRS
          have HA := Lib.hid hA
          have HB := Lib.hid hB
          clear hbad hA hB ra1 ra2 rb1 rb2
          go_wp2_with fail
          go_quiet ((exact Calls.quiet_of_same (digit_any _ _)))
          rw [HA.out, HB.out]
          have hf2 := hf.to ((Chg.refl [] wr).drewN nq)
          generalize wr.drewN nq = w2 at *
          clear hf
          obtain ⟨N, hN⟩ : ∃ N : Nat, 16 * A + B = N := ⟨_, rfl⟩
          have hN256 : N < 256 := by omega
          rw [hN] at HRS hor
          have hev : (((UInt8.ofNat N).toNat : Nat) : Int) = (N : Int) := by rw [UInt8.toNat_ofNat', Nat.mod_eq_of_lt hN256]
          have HEV := Lib.hid hev
          clear hN hev
          go_wp2_with (at_builtin; refine wpList_appF (w0 := w) rfl _ _ 24 rfl sl_u8 (by exact hf2.to ((Chg.refl [] w2).alloc (.cells #[.int .u8 (N : Int)] 5))) rfl (Sees.row (cs := #[.int .u8 (N : Int)]) (by exact Blk.new w2 _ 5) (m := 1) rfl) rfl (by simp [Value.oneCell']) (by omega) (by omega) ?_; intro v3 w3 hF3 c3)
          go_roundg (gk - 2)
          case measure => have := HIK.out; omega
          case rel =>
            refine ⟨i + 1, j + 2, out ++ [UInt8.ofNat N], by go_num, by have := HJI.out; omega, by have := HIK.out; omega, by simp; exact HOL.out, ?_, ?_⟩
            · rw [HRS.out, Option.map_map]
              congr 1
              funext r
              simp
            · rw [Bs_append]
              have : Bs [UInt8.ofNat N] = [.int .u8 (N : Int)] := by simp only [Bs, List.map_cons, List.map_nil, Bc, HEV.out]
              rw [this]
              exact hF3
      · have hj : j = s.length := by omega
        have tj : decide ((j : Int) < (s.length : Int)) = false := by simp; omega
        have tj' : decide (j < s.length) = false := by simp; omega
        rw [List.drop_of_length_le (by omega)] at hRd
        have HRD := Lib.hid hRd
        have HX := Lib.hid hj
        clear hRd hlt hji hik hj
        go_wp2_with fail
        go_ret2
        refine .inl ⟨out, _, by rw [HR.out, HRD.out]; simp [unhexL], rfl, ?_⟩
        rw [HOL.out]
        exact hf
  · have e := unhexL_odd s (by omega)
    have HE := Lib.hid e; clear e
    have t0 : (((s.length : Int) % 2) != 0) = true := by simp; omega
    go_enter Tryz.func59, Tryz.ntmps59
    go_wp2_with fail
    go_ret2
    exact .inr ⟨HE.out, rfl, Chg.refl _ _⟩
end Go.Proofs.YtfammoidikdbpaaGreatDoor

/- Contracts of script.bytesOf, script.number, slices.Index at kinds, script.picture, script.Print at any act. No statement of the seat is proved here. -/
namespace Go.Aq.Wd
def bytesL (s : List UInt8) : List UInt8 := (unhexL s).getD []
def numL (s : List UInt8) : Int := match Lib.atoiAll s with | .ok v => v | _ => 0
theorem numL_range (s : List UInt8) : -9223372036854775808 ≤ numL s ∧ numL s ≤ 9223372036854775807 := by
  unfold numL
  split
  · rename_i v h
    unfold Lib.atoiAll at h
    split at h
    · cases h
    · simp only at h
      split at h
      · cases h
      · cases h
      · split at h
        · cases h
        · split at h
          · cases h
          · rename_i h1 h2
            injection h with h
            subst h
            split
            · rename_i hn
              have : ¬ (9223372036854775808 < _) := fun h => h2 ⟨hn, h⟩
              omega
            · rename_i hn
              have : ¬ (9223372036854775808 ≤ _) := fun h => h1 ⟨hn, h⟩
              omega
  · omega
/-- The number of a kind's word; 0: it is none. -/
def kindN (s : List UInt8) : Nat := if s ∈ kindL then kindL.idxOf s + 1 else 0
theorem kindN_le (s : List UInt8) : kindN s ≤ 14 := by
  unfold kindN
  split
  · rename_i h; have := List.idxOf_lt_length_of_mem h; have : kindL.length = 14 := rfl; omega
  · omega
/-- An act's picture in a line. -/
def picL (a : ActD) : List UInt8 × Int := if a.shp.w = 0 ∧ a.shp.h = 0 ∧ a.shp.c = 0 ∧ a.shp.d = 0 ∧ a.pix.length = 0 then ([45], 0) else (digitsL (encPL a.shp a.pix).1, (encPL a.shp a.pix).2)
end Go.Aq.Wd
namespace Go.Proofs.YtfammoidikdbpaaGreatDoor
open Go.RowKit Go.Aq Go.Aq.Wd
/-- What the library's variables hold: the texts' tables, ten's powers, strconv's errors. -/
def Tabs2 (w : World) : Prop := Tabs w ∧ Lib.TabIs Tryz.prog w "internal/strconv.uint64pow10" .u64 Lib.pow10Tab ∧
  (∃ ev, w.cell? ⟨2, 0, none⟩ = some ev ∧ (ev = .nilIface ∨ ∃ te pe, ev = .iface te pe)) ∧ ∃ ev, w.cell? ⟨3, 0, none⟩ = some ev ∧ (ev = .nilIface ∨ ∃ te pe, ev = .iface te pe)
theorem Tabs2.chg {w w' : World} (h : Tabs2 w) (c : Chg [] w w') : Tabs2 w' := by
  obtain ⟨h1, h2, ⟨ev, h3, h4⟩, ev2, h5, h6⟩ := h
  exact ⟨h1.chg c, Lib.tabBelow_of_tabIs h2 w' c.below0, ⟨ev, c.cell_some h3 (by simp), h4⟩, ev2, c.cell_some h5 (by simp), h6⟩
theorem itoa_any (w : World) (hT : Tabs2 w) (n : Int) (hn : -9223372036854775808 ≤ n ∧ n ≤ 9223372036854775807) :
    Calls Tryz.prog 13 #[.int .i64 n] w fun e w' => e = .returned (.string (str (decI n))) ∧ Chg [] w w' :=
  (Tryz.strconv_Itoa n hn.1 hn.2 w hT.2.1).mono fun e w' ⟨h1, k, os, h2⟩ => ⟨h1, by rw [h2]; exact Chg.of_below (Lib.below_grow _ w (Nat.le_refl _) k os)⟩
theorem bytesOf_any (w : World) (s : List UInt8) (hs : s.length ≤ 1000000) :
    Calls Tryz.prog 27 #[.string (str s)] w fun e w' => ∃ v', e = .returned v' ∧ Sees w' 1 v' (bytesL s).length (Bs (bytesL s)) ∧ (∀ k ∈ eyes v', w.heap.size ≤ k) ∧ Chg [] w w' := by
  have h := unhex_any w s hs
  go_enter Tryz.func27, Tryz.ntmps27
  go_wp2_with fail
  refine h.mono ?_
  rintro e w1 (⟨bs, v', hu, rfl, hF⟩ | ⟨hu, rfl, c1⟩)
  · have e : bytesL s = bs := by unfold bytesL; rw [hu]; rfl
    obtain ⟨ao, cap, rfl, -⟩ := hF.shape
    go_wp2_with fail
    go_ret
    refine ⟨_, rfl, ?_, fun k hk => hF.new k (eyes_own _ k hk), hF.chg⟩
    rw [e]; exact hF.own.sees
  · have e : bytesL s = [] := by unfold bytesL; rw [hu]; rfl
    go_wp2_with fail
    go_ret
    refine ⟨_, rfl, ?_, by simp [eyes], c1⟩
    rw [e]; exact Sees.nil _ _
theorem number_any (w : World) (hT : Tabs2 w) (s : List UInt8) (hs : s.length ≤ 1000000) :
    Calls Tryz.prog 26 #[.string (str s)] w fun e w' => e = .returned (.int .i64 (numL s)) ∧ Chg [] w w' := by
  have hsz := str_size s
  have hd : (str s).data.toList = s := by simp [str]
  have hok := fun v (h : Lib.atoiAll s = .ok v) => Tryz.strconv_Atoi_ok (str s) (by rw [hsz]; omega) v (by rw [hd]; exact h) w
  obtain ⟨-, -, ⟨ev, he, hev⟩, ev2, he2, hev2⟩ := hT
  have hsy := fun (h : Lib.atoiAll s = .syntax) => Tryz.strconv_Atoi_syntax (str s) (by rw [hsz]; omega) (by rw [hd]; exact h) ev w he hev
  have hra := fun (h : Lib.atoiAll s = .range) => Tryz.strconv_Atoi_range (str s) (by rw [hsz]; omega) (by rw [hd]; exact h) ev2 w he2 hev2
  cases ha : Lib.atoiAll s with
  | ok v =>
    have h := hok v ha
    have e : numL s = v := by unfold numL; rw [ha]
    rw [e]
    clear hok hsy hra he hev he2 hev2 ha e
    go_enter Tryz.func26, Tryz.ntmps26
    go_wp2_with fail
    refine h.mono ?_
    rintro e w1 ⟨rfl, hw⟩
    have c1 : Chg [] w w1 := by
      rcases hw with rfl | ⟨t, rfl⟩
      · exact Chg.refl _ _
      · exact Chg.of_below (Lib.bytesWorld_below w _ t)
    go_wp2_with fail
    go_ret
    exact ⟨rfl, c1⟩
  | «syntax» =>
    have h := hsy ha
    have e : numL s = 0 := by unfold numL; rw [ha]
    rw [e]
    clear hok hsy hra he hev he2 hev2 ha e
    go_enter Tryz.func26, Tryz.ntmps26
    go_wp2_with fail
    refine h.mono ?_
    rintro e w1 ⟨N, rfl, hN, hb, hw⟩
    clear hb
    go_wp2_with fail
    go_ret
    exact ⟨rfl, Chg.of_below hw⟩
  | range =>
    have h := hra ha
    have e : numL s = 0 := by unfold numL; rw [ha]
    rw [e]
    clear hok hsy hra he hev he2 hev2 ha e
    go_enter Tryz.func26, Tryz.ntmps26
    go_wp2_with fail
    refine h.mono ?_
    rintro e w1 ⟨N, rfl, hN, hb, hw⟩
    clear hb
    go_wp2_with fail
    go_ret
    exact ⟨rfl, Chg.of_below hw⟩
set_option maxHeartbeats 4000000 in
theorem picture_any (a : ActD) (pv : Value) (w : World) (hv : Sees w 1 pv a.pix.length (Bs a.pix)) (hn : a.pix.length ≤ 400000) :
    Calls Tryz.prog 15 #[rasV a.shp pv] w fun e w' => e = .returned (.tuple #[.string (str (picL a).1), .int .i64 (picL a).2]) ∧ Chg [] w w' := by
  obtain ⟨K, hK⟩ : ∃ K, w.heap.size = K := ⟨_, rfl⟩
  obtain ⟨s, px, hs, hpx⟩ : ∃ s px, a.shp = s ∧ a.pix = px := ⟨_, _, rfl, rfl⟩
  have hpl : picL a = if s.w = 0 ∧ s.h = 0 ∧ s.c = 0 ∧ s.d = 0 ∧ px.length = 0 then ([45], 0) else (digitsL (encPL s px).1, (encPL s px).2) := by unfold picL; rw [hs, hpx]
  rw [hpx] at hv
  rw [hpx] at hn
  rw [hs]
  have hen := fun w' (c : Chg [] w w') => encode_pix s pv px w' (hv.chg0 c) (by omega)
  have hel : (encPL s px).1.length ≤ 1000000 := by
    unfold encPL; split
    · rw [encP_len]; omega
    · simp
  obtain ⟨ao, cap, rfl, -, -⟩ := hv.shape
  generalize px.length = nx at *
  have hbK : Blk (w.alloc (.cells #[.int .i64 s.w, .int .i64 s.h, .int .i64 s.c, .int .i64 s.d, .slice ao nx cap] 26)) K #[.int .i64 s.w, .int .i64 s.h, .int .i64 s.c, .int .i64 s.d, .slice ao nx cap] 26 := Blk.new_at w _ _ hK
  have hc1 : Chg [] w (w.alloc (.cells #[.int .i64 s.w, .int .i64 s.h, .int .i64 s.c, .int .i64 s.d, .slice ao nx cap] 26)) := (Chg.refl [] w).alloc _
  obtain ⟨x0, x1, x2, x3, x4⟩ := Blk5 hbK
  have HC := Lib.hid (And.intro hc1 hbK)
  have HP := Lib.hid hpl
  clear hc1 hbK hv hpl hs hpx
  obtain ⟨sw, sh, sc, sd⟩ := s
  unfold rasV at hen ⊢
  simp only at hen x0 x1 x2 x3 x4 HP HC ⊢
  by_cases hw : sw = 0
  · subst hw
    by_cases hh : sh = 0
    · subst hh
      by_cases hc : sc = 0
      · subst hc
        by_cases hd : sd = 0
        · subst hd
          by_cases h0 : nx = 0
          · subst h0
            go_enter Tryz.func15, Tryz.ntmps15
            go_wp2_with fail
            go_ret2
            rw [HP.out, if_pos (by simp)]
            exact ⟨rfl, HC.out.1⟩
          · have HN : Hid (¬ ((0 : Int) = 0 ∧ (0 : Int) = 0 ∧ (0 : Int) = 0 ∧ (0 : Int) = 0 ∧ nx = 0)) := fun h => h0 h.2.2.2.2
            have t0 : ((nx : Int) == 0) = false := by simpa using h0
            have t0' : (nx == 0) = false := by simpa using h0
            clear h0
            go_enter Tryz.func15, Tryz.ntmps15
            go_wp2_with fail
            refine (hen _ HC.out.1).mono ?_
            rintro e w2 ⟨v2, rfl, hs2, -, c2⟩
            have hdg := digits_any w2 _ _ _ hs2 hel
            obtain ⟨ao2, cp2, rfl, -, -⟩ := hs2.shape
            clear hen hs2 x0 x1 x2 x3 x4
            go_wp2_with fail
            refine hdg.mono ?_
            rintro e w3 ⟨rfl, c3⟩
            go_wp2_with fail
            go_ret2
            rw [HP.out, if_neg HN.out]
            exact ⟨rfl, (HC.out.1.nil c2).nil c3⟩
        · have HN : Hid (¬ ((0 : Int) = 0 ∧ (0 : Int) = 0 ∧ (0 : Int) = 0 ∧ sd = 0 ∧ nx = 0)) := fun h => hd h.2.2.2.1
          have t0 : (sd == 0) = false := by simpa using hd
          clear hd
          go_enter Tryz.func15, Tryz.ntmps15
          go_wp2_with fail
          refine (hen _ HC.out.1).mono ?_
          rintro e w2 ⟨v2, rfl, hs2, -, c2⟩
          have hdg := digits_any w2 _ _ _ hs2 hel
          obtain ⟨ao2, cp2, rfl, -, -⟩ := hs2.shape
          clear hen hs2 x0 x1 x2 x3 x4
          go_wp2_with fail
          refine hdg.mono ?_
          rintro e w3 ⟨rfl, c3⟩
          go_wp2_with fail
          go_ret2
          rw [HP.out, if_neg HN.out]
          exact ⟨rfl, (HC.out.1.nil c2).nil c3⟩
      · have HN : Hid (¬ ((0 : Int) = 0 ∧ (0 : Int) = 0 ∧ sc = 0 ∧ sd = 0 ∧ nx = 0)) := fun h => hc h.2.2.1
        have t0 : (sc == 0) = false := by simpa using hc
        clear hc
        go_enter Tryz.func15, Tryz.ntmps15
        go_wp2_with fail
        refine (hen _ HC.out.1).mono ?_
        rintro e w2 ⟨v2, rfl, hs2, -, c2⟩
        have hdg := digits_any w2 _ _ _ hs2 hel
        obtain ⟨ao2, cp2, rfl, -, -⟩ := hs2.shape
        clear hen hs2 x0 x1 x2 x3 x4
        go_wp2_with fail
        refine hdg.mono ?_
        rintro e w3 ⟨rfl, c3⟩
        go_wp2_with fail
        go_ret2
        rw [HP.out, if_neg HN.out]
        exact ⟨rfl, (HC.out.1.nil c2).nil c3⟩
    · have HN : Hid (¬ ((0 : Int) = 0 ∧ sh = 0 ∧ sc = 0 ∧ sd = 0 ∧ nx = 0)) := fun h => hh h.2.1
      have t0 : (sh == 0) = false := by simpa using hh
      clear hh
      go_enter Tryz.func15, Tryz.ntmps15
      go_wp2_with fail
      refine (hen _ HC.out.1).mono ?_
      rintro e w2 ⟨v2, rfl, hs2, -, c2⟩
      have hdg := digits_any w2 _ _ _ hs2 hel
      obtain ⟨ao2, cp2, rfl, -, -⟩ := hs2.shape
      clear hen hs2 x0 x1 x2 x3 x4
      go_wp2_with fail
      refine hdg.mono ?_
      rintro e w3 ⟨rfl, c3⟩
      go_wp2_with fail
      go_ret2
      rw [HP.out, if_neg HN.out]
      exact ⟨rfl, (HC.out.1.nil c2).nil c3⟩
  · have HN : Hid (¬ (sw = 0 ∧ sh = 0 ∧ sc = 0 ∧ sd = 0 ∧ nx = 0)) := fun h => hw h.1
    have t0 : (sw == 0) = false := by simpa using hw
    clear hw
    go_enter Tryz.func15, Tryz.ntmps15
    go_wp2_with fail
    refine (hen _ HC.out.1).mono ?_
    rintro e w2 ⟨v2, rfl, hs2, -, c2⟩
    have hdg := digits_any w2 _ _ _ hs2 hel
    obtain ⟨ao2, cp2, rfl, -, -⟩ := hs2.shape
    clear hen hs2 x0 x1 x2 x3 x4
    go_wp2_with fail
    refine hdg.mono ?_
    rintro e w3 ⟨rfl, c3⟩
    go_wp2_with fail
    go_ret2
    rw [HP.out, if_neg HN.out]
    exact ⟨rfl, (HC.out.1.nil c2).nil c3⟩
theorem picL_len (a : ActD) (h : a.pix.length ≤ 400000) : (picL a).1.length ≤ 900000 := by
  have hel : (encPL a.shp a.pix).1.length ≤ 400007 := by
    unfold encPL; split
    · rw [encP_len]; omega
    · simp
  unfold picL
  split
  · simp
  · unfold digitsL
    split
    · simp
    · rw [hexL_length]; omega
theorem print_all (a : ActD) (pv mv : Value) (w : World) (hT : Tabs2 w) (hp : Sees w 1 pv a.pix.length (Bs a.pix)) (hm : Sees w 1 mv a.mask.length (Bs a.mask)) (h1 : a.name.length ≤ 100000000) (h2 : a.other.length ≤ 100000000) (h3 : a.text.length ≤ 100000000) (h4 : a.pix.length ≤ 400000) (h5 : a.mask.length ≤ 1000000)
    (hr : ∀ n, n = a.n ∨ n = a.m ∨ n = a.key → -9223372036854775808 ≤ n ∧ n ≤ 9223372036854775807) :
    Calls Tryz.prog 6 #[actV a pv mv] w fun e w' => e = .returned (.tuple #[.string (str (printL a (picL a).1 (picL a).2).1), .int .i64 (printL a (picL a).1 (picL a).2).2]) ∧ Chg [] w w' := by
  by_cases hk : 1 ≤ a.kind ∧ a.kind ≤ 14
  · exact print_good a pv mv w hT.1 _ _ (a.kind - 1).toNat (by omega) (by omega) (fun n hn w' c => itoa_any w' (hT.chg c) n (hr n hn)) (fun w' c => picture_any a pv w' (hp.chg0 c) h4) hm h1 h2 h3 (by have := picL_len a h4; omega) h5 hr
  · exact print_kind a pv mv w _ _ hk
theorem idx_plain (s : List UInt8) : ∀ (l : List (List UInt8)) (i : Nat), Lib.idxFromS (l.map str) (str s) i = if s ∈ l then ((i + l.idxOf s : Nat) : Int) else -1
  | [], i => by simp [Lib.idxFromS]
  | x :: t, i => by
    have ih := idx_plain s t (i + 1)
    simp only [List.map_cons, Lib.idxFromS]
    by_cases h : x = s
    · subst h; simp
    · rw [if_neg (fun e => h (str_inj e)), ih]
      by_cases hm : s ∈ t
      · rw [if_pos hm, if_pos (List.mem_cons_of_mem _ hm), List.idxOf_cons, show (x == s) = false by simpa using h, cond_false]; congr 1; omega
      · rw [if_neg hm, if_neg (by simp [hm, Ne.symm h])]
theorem index_any (w : World) (K : Nat) (hb : Blk w K (Ss kindL).toArray 9) (s : List UInt8) :
    Calls Tryz.prog 25 #[.slice (some ⟨K, 0, none⟩) 14 14, .string (str s)] w fun e w' => e = .returned (.int .i64 ((kindN s : Int) - 1)) ∧ w' = w := by
  have h := Tryz.slices_Index_string K 0 14 14 (kindL.map str) (str s) w (by simp [kindL]) (by decide) (fun j hj => by
    rw [hb.cell, Nat.zero_add, List.getElem?_toArray, List.getD_eq_getElem?_getD, List.getElem?_eq_getElem hj]
    have hj' : j < kindL.length := by simpa using hj
    simp [Ss, List.getElem?_eq_getElem hj'])
  refine h.mono fun e w' ⟨h1, h2⟩ => ⟨?_, h2⟩
  rw [h1]
  have ht : (kindL.map str).take 14 = kindL.map str := rfl
  rw [ht]
  unfold Lib.idxOfS
  rw [idx_plain]
  unfold kindN
  split
  · congr 2; omega
  · rfl
end Go.Proofs.YtfammoidikdbpaaGreatDoor

/- Contract of script.Parse. No statement of the seat is proved here. (Printed by gen_parse26.py.) -/
namespace Go.Aq
open Go.RowKit
def notU8 : Value → Bool
  | .int .u8 _ => false
  | _ => true
/-- Bytes that are seen lie in no block that holds none. -/
theorem sees_not {w : World} {v : Value} {n K : Nat} {b : List UInt8} {cs : Array Value} {e : TypeId} (h : Sees w 1 v n (Bs b)) (hb : Blk w K cs e) (hn : cs.all notU8 = true) : K ∉ eyes v := by
  obtain ⟨h1, ao, cap, rfl, h2, h3, h4⟩ := h
  intro hk
  unfold eyes at hk
  split at hk
  · rename_i a n' cap' he
    simp only [Value.slice.injEq] at he
    obtain ⟨rfl, rfl, rfl⟩ := he
    split at hk
    · simp at hk
    · rename_i hn0
      simp at hk
      subst hk
      have hbl : b.length = n := by simpa [Bs] using h1
      have hb0 : 0 < b.length := by omega
      have h5 := h4 a rfl 0 (.int .u8 (b[0]'hb0).toNat) (by simp [Bs, Bc, List.getElem?_eq_getElem hb0])
      have h5' : w.cell? a = some (.int .u8 (b[0]'hb0).toNat) := by simpa [Addr.add] using h5
      unfold Blk at hb
      unfold World.cell? at h5'
      rw [hb] at h5'
      simp only at h5'
      split at h5'
      · cases h5'
      · have := (Array.all_eq_true_iff_forall_mem.1 hn) _ (Array.mem_of_getElem? h5')
        simp [notU8] at this
  · simp at hk
theorem seesU8 {w w' : World} {v : Value} {n K : Nat} {b : List UInt8} {cs : Array Value} {e : TypeId} (h : Sees w 1 v n (Bs b)) (hb : Blk w K cs e) (c : Chg [K] w w') (hn : cs.all notU8 = true) : Sees w' 1 v n (Bs b) :=
  h.chg c fun k hk => by
    simp only [List.mem_singleton]
    rintro rfl
    exact sees_not h hb hn hk
end Go.Aq
namespace Go.Aq.Wd
theorem enc1_len4 (c : Nat) : (enc1 c).length ≤ 4 := by unfold enc1; repeat' split
                                                        all_goals simp
theorem quotF_len : ∀ (f : Nat) (r : List UInt8), (quotF f r).1.length ≤ 4 * f
  | 0, r => by simp [quotF]
  | f + 1, r => by
    rw [quotF]
    split
    · simp
    · split
      · simp
      · split
        · simp
        · split
          · split
            · rename_i k _
              have h1 := quotF_len f (r.drop (writ k).length)
              have h2 := enc1_len4 k
              simp only [List.length_append]; omega
            · split <;> simp
          · have h1 := quotF_len f (r.drop (dec r).2)
            have h2 := enc1_len4 (dec r).1
            simp only [List.length_append]; omega
theorem wordW_len (r : List UInt8) : (wordW r).1.length ≤ 4 * r.length := by
  unfold wordW
  split
  · split
    · simp
    · split
      · simp
      · have h := quotF_len (r.drop 1).length (r.drop 1)
        simp only [List.length_drop] at h
        unfold quotW
        simp only [List.length_drop]
        omega
  · simp only [List.length_take]; omega
theorem wordsF_len (n B : Nat) : ∀ (f : Nat) (r : List UInt8) (acc : List (List UInt8)), r.length ≤ B → (∀ y ∈ acc, y.length ≤ 4 * B) → ∀ y ∈ (wordsF n f r acc).1, y.length ≤ 4 * B
  | 0, r, acc, hr, ha => ha
  | f + 1, r, acc, hr, ha => by
    intro y hy
    simp only [wordsF] at hy
    split at hy
    · exact ha y hy
    · split at hy
      · simp at hy
      · split at hy
        · simp at hy
        · refine wordsF_len n B f _ _ (by simp only [List.length_drop]; omega) ?_ y hy
          intro z hz
          rcases List.mem_append.1 hz with hz | hz
          · exact ha z hz
          · simp only [List.mem_singleton] at hz
            rw [hz]
            have h := wordW_len (r.drop (blanks r))
            simp only [List.length_drop] at h
            omega
theorem words_bound (s : List UInt8) : ∀ y ∈ (wordsL s).1, y.length ≤ 4 * s.length := wordsF_len _ _ _ _ _ (Nat.le_refl _) (by simp)
/-- The act of nine words, without its picture. -/
def actW (l : List (List UInt8)) : ActD := { actZ with kind := (kindN (l.getD 0 []) : Int), n := numL (l.getD 1 []), m := numL (l.getD 2 []), key := numL (l.getD 3 []), name := l.getD 4 [], other := l.getD 5 [], text := l.getD 6 [], mask := bytesL (l.getD 8 []) }
def actP (l : List (List UInt8)) : ActD := if (decPL (bytesL (l.getD 7 []))).2.2 = 0 then { actW l with shp := (decPL (bytesL (l.getD 7 []))).1, pix := (decPL (bytesL (l.getD 7 []))).2.1 } else actW l
def prL (a : ActD) : List UInt8 × Int := printL a (picL a).1 (picL a).2
/-- A line as an act, or why not. -/
def parseL (s : List UInt8) : ActD × Int :=
  if (wordsL s).2.2 ≠ 0 then (actZ, (((wordsL s).2.2 : Nat) : Int))
  else if (wordsL s).1.length < 9 then (actZ, 2)
  else if 9 < (wordsL s).1.length then (actZ, 4)
  else if (prL (actP (wordsL s).1)).2 ≠ 0 ∨ (prL (actP (wordsL s).1)).1 ≠ s then (actZ, 4)
  else (actP (wordsL s).1, 0)
end Go.Aq.Wd
namespace Go.Proofs.YtfammoidikdbpaaGreatDoor
open Go.RowKit Go.Aq Go.Aq.Wd
set_option maxRecDepth 100000 in
set_option maxHeartbeats 4000000 in
theorem parse_bad (s : List UInt8) (w : World) (hT : Tabs2 w) (hs : s.length ≤ 200000) (h : (wordsL s).2.2 ≠ 0 ∨ (wordsL s).1.length ≠ 9) :
    Calls Tryz.prog 9 #[.string (str s)] w fun e w' => e = .returned (.tuple #[actV (parseL s).1 (.slice none 0 0) (.slice none 0 0), .int .i64 (parseL s).2]) ∧ Chg [] w w' := by
  obtain ⟨K, hK⟩ : ∃ K, w.heap.size = K := ⟨_, rfl⟩
  have hbK : Blk (w.alloc (.cells #[.int .i64 0, .int .i64 0, .int .i64 0, .string ⟨#[]⟩, .string ⟨#[]⟩, .string ⟨#[]⟩, .int .i64 0, .int .i64 0, .int .i64 0, .int .i64 0, .int .i64 0, .slice none 0 0, .slice none 0 0] 28)) K #[.int .i64 0, .int .i64 0, .int .i64 0, .string ⟨#[]⟩, .string ⟨#[]⟩, .string ⟨#[]⟩, .int .i64 0, .int .i64 0, .int .i64 0, .int .i64 0, .int .i64 0, .slice none 0 0, .slice none 0 0] 28 := Blk.new_at w _ _ hK
  have hc1 : Chg [] w (w.alloc (.cells #[.int .i64 0, .int .i64 0, .int .i64 0, .string ⟨#[]⟩, .string ⟨#[]⟩, .string ⟨#[]⟩, .int .i64 0, .int .i64 0, .int .i64 0, .int .i64 0, .int .i64 0, .slice none 0 0, .slice none 0 0] 28)) := (Chg.refl [] w).alloc _
  have hw := words_any s _ (hT.chg hc1).1 (by omega)
  have aT : ArrTy Tryz.prog 28 (#[.int .i64 0, .int .i64 0, .int .i64 0, .string ⟨#[]⟩, .string ⟨#[]⟩, .string ⟨#[]⟩, .int .i64 0, .int .i64 0, .int .i64 0, .int .i64 0, .int .i64 0, .slice none 0 0, .slice none 0 0] : Array Value).size := act_ty
  have fin : ∀ (n : Int) w1 w9, Chg [] w w1 → Chg [K] w1 w9 → parseL s = (actZ, n) → (Value.tuple #[.agg #[.int .i64 0, .int .i64 0, .int .i64 0, .string ⟨#[]⟩, .string ⟨#[]⟩, .string ⟨#[]⟩, .int .i64 0, .int .i64 0, .int .i64 0, .int .i64 0, .int .i64 0, .slice none 0 0, .slice none 0 0], .int .i64 n] = .tuple #[actV (parseL s).1 (.slice none 0 0) (.slice none 0 0), .int .i64 (parseL s).2]) ∧ Chg [] w w9 := by
    intro n w1 w9 c1 c9 e
    rw [e]
    exact ⟨rfl, c1.trans c9 fun k hk => by simp at hk; right; omega⟩
  have hP : parseL s = if (wordsL s).2.2 ≠ 0 then (actZ, (((wordsL s).2.2 : Nat) : Int)) else if (wordsL s).1.length < 9 then (actZ, 2) else (actZ, 4) := by
    unfold parseL
    split
    · rfl
    · rename_i h0
      have h9 : (wordsL s).1.length ≠ 9 := h.resolve_left h0
      split
      · rfl
      · rw [if_pos (by omega)]
  generalize (wordsL s).2.2 = er at *
  generalize (wordsL s).2.1 = wh at *
  generalize (wordsL s).1 = L at *
  obtain ⟨nl, hnl⟩ : ∃ n, L.length = n := ⟨_, rfl⟩
  rw [hnl] at hw hP h
  have HF := Lib.hid (And.intro @fin (And.intro hP (And.intro hbK hc1)))
  clear fin hP hc1 hnl
  by_cases h0 : er = 0
  · subst h0
    have h9 : nl ≠ 9 := h.resolve_left (by simp)
    by_cases hlt : nl < 9
    · have t1 : decide ((nl : Int) < 9) = true := by simp; omega
      have t1' : decide (nl < 9) = true := by simp; omega
      have HN : Hid (parseL s = (actZ, 2)) := by show _ = _; rw [HF.out.2.1, if_neg (by simp), if_pos hlt]
      clear h h9 hlt
      go_enter Tryz.func9, Tryz.ntmps9
      go_wp2_with fail
      refine hw.mono ?_
      rintro e w2 ⟨v2, rfl, hF2⟩
      obtain ⟨ao2, cp2, rfl, -⟩ := hF2.shape
      have hbK2 := hbK.chg0 hF2.chg
      have cw2 := HF.out.2.2.2.nil hF2.chg
      clear hw hbK
      go_wp2_with (with_reducible refine wpList_stA rfl 28 _ _ rfl hbK2 aT rfl (by simp [Value.oneCell']) rfl rfl ?_; intro w20 hb20 c20 hs20)
      refine bodyPost_ret (results_AT rfl _ _ hb20 aT rfl) rfl ?_
      have hh := HF.out.1 2 _ _ cw2 c20 HN.out
      exact ⟨congrArg _ hh.1, hh.2⟩
    · have t1 : decide ((nl : Int) < 9) = false := by simp; omega
      have t1' : decide (nl < 9) = false := by simp; omega
      have t2 : decide ((9 : Int) < (nl : Int)) = true := by simp; omega
      have t2' : decide (9 < nl) = true := by simp; omega
      have HN : Hid (parseL s = (actZ, 4)) := by show _ = _; rw [HF.out.2.1, if_neg (by simp), if_neg hlt]
      clear h h9 hlt
      go_enter Tryz.func9, Tryz.ntmps9
      go_wp2_with fail
      refine hw.mono ?_
      rintro e w2 ⟨v2, rfl, hF2⟩
      obtain ⟨ao2, cp2, rfl, -⟩ := hF2.shape
      have hbK2 := hbK.chg0 hF2.chg
      have cw2 := HF.out.2.2.2.nil hF2.chg
      clear hw hbK
      go_wp2_with (with_reducible refine wpList_stA rfl 28 _ _ rfl hbK2 aT rfl (by simp [Value.oneCell']) rfl rfl ?_; intro w20 hb20 c20 hs20)
      refine bodyPost_ret (results_AT rfl _ _ hb20 aT rfl) rfl ?_
      have hh := HF.out.1 4 _ _ cw2 c20 HN.out
      exact ⟨congrArg _ hh.1, hh.2⟩
  · have t1 : ((er : Int) != 0) = true := by simp; omega
    have t1' : (er != 0) = true := by simp; omega
    have HN : Hid (parseL s = (actZ, (er : Int))) := by show _ = _; rw [HF.out.2.1, if_pos h0]
    clear h h0
    go_enter Tryz.func9, Tryz.ntmps9
    go_wp2_with fail
    refine hw.mono ?_
    rintro e w2 ⟨v2, rfl, hF2⟩
    obtain ⟨ao2, cp2, rfl, -⟩ := hF2.shape
    have hbK2 := hbK.chg0 hF2.chg
    have cw2 := HF.out.2.2.2.nil hF2.chg
    clear hw hbK
    go_wp2_with (with_reducible refine wpList_stA rfl 28 _ _ rfl hbK2 aT rfl (by simp [Value.oneCell']) rfl rfl ?_; intro w20 hb20 c20 hs20)
    refine bodyPost_ret (results_AT rfl _ _ hb20 aT rfl) rfl ?_
    have hh := HF.out.1 er _ _ cw2 c20 HN.out
    exact ⟨congrArg _ hh.1, hh.2⟩
set_option maxRecDepth 100000 in
set_option maxHeartbeats 16000000 in
theorem parse_nine (s : List UInt8) (w : World) (hT : Tabs2 w) (hs : s.length ≤ 200000) (h0 : (wordsL s).2.2 = 0) (h9 : (wordsL s).1.length = 9) :
    Calls Tryz.prog 9 #[.string (str s)] w fun e w' => ∃ pv mv, e = .returned (.tuple #[actV (parseL s).1 pv mv, .int .i64 (parseL s).2]) ∧ ActR w w' (parseL s).1 pv mv ∧ Chg [] w w' := by
  obtain ⟨K, hK⟩ : ∃ K, w.heap.size = K := ⟨_, rfl⟩
  have hbK : Blk (w.alloc (.cells #[.int .i64 0, .int .i64 0, .int .i64 0, .string ⟨#[]⟩, .string ⟨#[]⟩, .string ⟨#[]⟩, .int .i64 0, .int .i64 0, .int .i64 0, .int .i64 0, .int .i64 0, .slice none 0 0, .slice none 0 0] 28)) K #[.int .i64 0, .int .i64 0, .int .i64 0, .string ⟨#[]⟩, .string ⟨#[]⟩, .string ⟨#[]⟩, .int .i64 0, .int .i64 0, .int .i64 0, .int .i64 0, .int .i64 0, .slice none 0 0, .slice none 0 0] 28 := Blk.new_at w _ _ hK
  have hc1 : Chg [] w (w.alloc (.cells #[.int .i64 0, .int .i64 0, .int .i64 0, .string ⟨#[]⟩, .string ⟨#[]⟩, .string ⟨#[]⟩, .int .i64 0, .int .i64 0, .int .i64 0, .int .i64 0, .int .i64 0, .slice none 0 0, .slice none 0 0] 28)) := (Chg.refl [] w).alloc _
  have hw := words_any s _ (hT.chg hc1).1 (by omega)
  have hP : parseL s = if (prL (actP (wordsL s).1)).2 ≠ 0 ∨ (prL (actP (wordsL s).1)).1 ≠ s then (actZ, 4) else (actP (wordsL s).1, 0) := by
    unfold parseL
    rw [if_neg (by simp [h0]), if_neg (by omega), if_neg (by omega)]
  have hbd := words_bound s
  rw [h0] at hw
  generalize (wordsL s).2.1 = wh at *
  generalize (wordsL s).1 = L at *
  rw [h9] at hw
  have hgl : ∀ j, (L.getD j []).length ≤ 800000 := by
    intro j
    by_cases hj : j < L.length
    · rw [List.getD_eq_getElem?_getD, List.getElem?_eq_getElem hj]
      have := hbd _ (List.getElem_mem hj)
      simp only [Option.getD_some]; omega
    · rw [List.getD_eq_getElem?_getD, List.getElem?_eq_none (by omega)]; simp
  have HF := Lib.hid (And.intro hP (And.intro hbK (And.intro hc1 (And.intro h9 (And.intro hgl hs)))))
  clear hP hc1 hbd hgl hs h0
  go_enter Tryz.func9, Tryz.ntmps9
  go_wp2_with fail
  refine hw.mono ?_
  rintro e w2 ⟨v2, rfl, hF2⟩
  clear hw
  obtain ⟨g, cp2, rfl, -, -, hgl⟩ := hF2.own.pos (by decide)
  have hce : ∀ j, j < 9 → w2.cell? ⟨g, j, none⟩ = some (.string (str (L.getD j []))) ∧ (L.getD j []).length ≤ 800000 := by
    intro j hj
    have hj' : j < L.length := by rw [HF.out.2.2.2.1]; exact hj
    refine ⟨?_, HF.out.2.2.2.2.1 j⟩
    rw [hF2.own.cellAt j (by omega), List.getD_eq_getElem?_getD, List.getElem?_eq_getElem hj']
    simp [Ss, List.getElem?_eq_getElem hj']
  have cw2 := HF.out.2.2.1.nil hF2.chg
  have hbK2 := hbK.chg0 hF2.chg
  have hT2 := hT.chg cw2
  obtain ⟨a0, ha0⟩ : ∃ a0, actW L = a0 := ⟨_, rfl⟩
  have ha0' : a0 = { actZ with kind := (kindN (L.getD 0 []) : Int), n := numL (L.getD 1 []), m := numL (L.getD 2 []), key := numL (L.getD 3 []), name := L.getD 4 [], other := L.getD 5 [], text := L.getD 6 [], mask := bytesL (L.getD 8 []) } := by rw [← ha0]; rfl
  have hAP : actP L = if (decPL (bytesL (L.getD 7 []))).2.2 = 0 then { a0 with shp := (decPL (bytesL (L.getD 7 []))).1, pix := (decPL (bytesL (L.getD 7 []))).2.1 } else a0 := by rw [← ha0]; rfl
  have c9 : (0 : Int) < 9 ∧ (1 : Int) < 9 ∧ (2 : Int) < 9 := by decide

  obtain ⟨l0, hl0⟩ : ∃ l, L.getD 0 [] = l := ⟨_, rfl⟩
  obtain ⟨l1, hl1⟩ : ∃ l, L.getD 1 [] = l := ⟨_, rfl⟩
  obtain ⟨l2, hl2⟩ : ∃ l, L.getD 2 [] = l := ⟨_, rfl⟩
  obtain ⟨l3, hl3⟩ : ∃ l, L.getD 3 [] = l := ⟨_, rfl⟩
  obtain ⟨l4, hl4⟩ : ∃ l, L.getD 4 [] = l := ⟨_, rfl⟩
  obtain ⟨l5, hl5⟩ : ∃ l, L.getD 5 [] = l := ⟨_, rfl⟩
  obtain ⟨l6, hl6⟩ : ∃ l, L.getD 6 [] = l := ⟨_, rfl⟩
  obtain ⟨l7, hl7⟩ : ∃ l, L.getD 7 [] = l := ⟨_, rfl⟩
  obtain ⟨l8, hl8⟩ : ∃ l, L.getD 8 [] = l := ⟨_, rfl⟩
  have q0 := hce 0 (by decide)
  have q1 := hce 1 (by decide)
  have q2 := hce 2 (by decide)
  have q3 := hce 3 (by decide)
  have q4 := hce 4 (by decide)
  have q5 := hce 5 (by decide)
  have q6 := hce 6 (by decide)
  have q7 := hce 7 (by decide)
  have q8 := hce 8 (by decide)
  rw [hl0] at q0 ha0'
  rw [hl1] at q1 ha0'
  rw [hl2] at q2 ha0'
  rw [hl3] at q3 ha0'
  rw [hl4] at q4 ha0'
  rw [hl5] at q5 ha0'
  rw [hl6] at q6 ha0'
  rw [hl8] at q8 ha0'
  rw [hl7] at q7 hAP
  obtain ⟨z0, b0⟩ := q0
  obtain ⟨z1, b1⟩ := q1
  obtain ⟨z2, b2⟩ := q2
  obtain ⟨z3, b3⟩ := q3
  obtain ⟨z4, b4⟩ := q4
  obtain ⟨z5, b5⟩ := q5
  obtain ⟨z6, b6⟩ := q6
  obtain ⟨z7, b7⟩ := q7
  obtain ⟨z8, b8⟩ := q8
  have hk14 := kindN_le l0
  have hn1 := fun w' h => number_any w' h l1 (by omega)
  have hn2 := fun w' h => number_any w' h l2 (by omega)
  have hn3 := fun w' h => number_any w' h l3 (by omega)
  have hix := fun w' K3 h => index_any w' K3 h l0
  have hby := fun w' => bytesOf_any w' l8 (by omega)
  have hr1 := numL_range l1
  have hr2 := numL_range l2
  have hr3 := numL_range l3
  generalize numL l1 = n1 at *
  generalize numL l2 = n2 at *
  generalize numL l3 = n3 at *
  generalize kindN l0 = kd at *
  have hml : (bytesL l8).length ≤ 800000 := by
    unfold bytesL
    cases hu : unhexL l8 with
    | none => simp
    | some r => have := unhexL_length _ _ hu; simp only [Option.getD_some]; omega
  generalize bytesL l8 = mk at *
  have wK : IntKind.i64.wrap (kd : Int) = (kd : Int) := wrap_i64_nat kd (by omega)
  have HA := Lib.hid (And.intro ha0' (And.intro hAP (And.intro hbK2 (And.intro cw2 (And.intro hT2 (And.intro hml (And.intro hr1 (And.intro hr2 (And.intro hr3 hk14)))))))))
  clear ha0' hAP hbK2 cw2 hml hr1 hr2 hr3 hk14 ha0 hce hF2 hbK hl0 hl1 hl2 hl3 hl4 hl5 hl6 hl7 hl8
  go_upto_region 8 with (fail)

  go_cut [7] from 33 to 65 (fun s7 wx => ∃ (K7 : Nat) (aom : Option Addr) (cpm : Nat), s7 = .pointer (some ⟨K7, 0, none⟩) ∧ w2.heap.size ≤ K7 ∧ Blk wx K7 #[.int .i64 kd, .int .i64 n1, .int .i64 n2, .string (str l4), .string (str l5), .string (str l6), .int .i64 n3, .int .i64 0, .int .i64 0, .int .i64 0, .int .i64 0, .slice none 0 0, .slice aom mk.length cpm] 28 ∧ Sees wx 1 (.slice aom mk.length cpm) mk.length (Bs mk) ∧ (∀ k ∈ eyes (.slice aom mk.length cpm), w2.heap.size ≤ k) ∧ Chg [] w2 wx)
  case first =>
    refine wp_region_S (fun i => i == 33) (by kernel_rfl) ?_
    refine wpAnyS_take 1 (v := .slice (some ⟨g, 0, none⟩) 9 cp2) rfl (by kernel_rfl) (by kernel_rfl) (by kernel_rfl) (by kernel_rfl) (fun _ _ _ h => h) (by rfl) (fun w4 c4 => ?_) ?_
    · go_simp
    try simp only [Act.put, List.getElem_toArray, List.getElem_cons_succ, List.getElem_cons_zero, List.setIfInBounds_toArray, List.set_cons_zero, List.set_cons_succ]
    refine wpAnyS_take 2 (v := .pointer (some ⟨g, 0, none⟩)) rfl (by kernel_rfl) (by kernel_rfl) (by kernel_rfl) (by kernel_rfl) (fun _ _ _ h => h) (by rfl) (fun w4 c4 => ?_) ?_
    · go_simp
    try simp only [Act.put, List.getElem_toArray, List.getElem_cons_succ, List.getElem_cons_zero, List.setIfInBounds_toArray, List.set_cons_zero, List.set_cons_succ]
    refine wpAnyS_take 3 (v := .string (str l0)) rfl (by kernel_rfl) (by kernel_rfl) (by kernel_rfl) (by kernel_rfl) (fun _ _ _ h => h) (by rfl) (fun w4 c4 => ?_) ?_
    · have z := c4.cell_some z0 (by simp)
      go_simp
    try simp only [Act.put, List.getElem_toArray, List.getElem_cons_succ, List.getElem_cons_zero, List.setIfInBounds_toArray, List.set_cons_zero, List.set_cons_succ]
    refine wpAnyS_take 6 (v := .slice (some ⟨g, 0, none⟩) 9 cp2) rfl (by kernel_rfl) (by kernel_rfl) (by kernel_rfl) (by kernel_rfl) (fun _ _ _ h => h) (by rfl) (fun w4 c4 => ?_) ?_
    · go_simp
    try simp only [Act.put, List.getElem_toArray, List.getElem_cons_succ, List.getElem_cons_zero, List.setIfInBounds_toArray, List.set_cons_zero, List.set_cons_succ]
    refine wpAnyS_take 7 (v := .pointer (some ⟨g, 1, none⟩)) rfl (by kernel_rfl) (by kernel_rfl) (by kernel_rfl) (by kernel_rfl) (fun _ _ _ h => h) (by rfl) (fun w4 c4 => ?_) ?_
    · go_simp
    try simp only [Act.put, List.getElem_toArray, List.getElem_cons_succ, List.getElem_cons_zero, List.setIfInBounds_toArray, List.set_cons_zero, List.set_cons_succ]
    refine wpAnyS_take 8 (v := .string (str l1)) rfl (by kernel_rfl) (by kernel_rfl) (by kernel_rfl) (by kernel_rfl) (fun _ _ _ h => h) (by rfl) (fun w4 c4 => ?_) ?_
    · have z := c4.cell_some z1 (by simp)
      go_simp
    try simp only [Act.put, List.getElem_toArray, List.getElem_cons_succ, List.getElem_cons_zero, List.setIfInBounds_toArray, List.set_cons_zero, List.set_cons_succ]
    refine wpAnyS_take 10 (v := .slice (some ⟨g, 0, none⟩) 9 cp2) rfl (by kernel_rfl) (by kernel_rfl) (by kernel_rfl) (by kernel_rfl) (fun _ _ _ h => h) (by rfl) (fun w4 c4 => ?_) ?_
    · go_simp
    try simp only [Act.put, List.getElem_toArray, List.getElem_cons_succ, List.getElem_cons_zero, List.setIfInBounds_toArray, List.set_cons_zero, List.set_cons_succ]
    refine wpAnyS_take 11 (v := .pointer (some ⟨g, 2, none⟩)) rfl (by kernel_rfl) (by kernel_rfl) (by kernel_rfl) (by kernel_rfl) (fun _ _ _ h => h) (by rfl) (fun w4 c4 => ?_) ?_
    · go_simp
    try simp only [Act.put, List.getElem_toArray, List.getElem_cons_succ, List.getElem_cons_zero, List.setIfInBounds_toArray, List.set_cons_zero, List.set_cons_succ]
    refine wpAnyS_take 12 (v := .string (str l2)) rfl (by kernel_rfl) (by kernel_rfl) (by kernel_rfl) (by kernel_rfl) (fun _ _ _ h => h) (by rfl) (fun w4 c4 => ?_) ?_
    · have z := c4.cell_some z2 (by simp)
      go_simp
    try simp only [Act.put, List.getElem_toArray, List.getElem_cons_succ, List.getElem_cons_zero, List.setIfInBounds_toArray, List.set_cons_zero, List.set_cons_succ]
    refine wpAnyS_take 14 (v := .slice (some ⟨g, 0, none⟩) 9 cp2) rfl (by kernel_rfl) (by kernel_rfl) (by kernel_rfl) (by kernel_rfl) (fun _ _ _ h => h) (by rfl) (fun w4 c4 => ?_) ?_
    · go_simp
    try simp only [Act.put, List.getElem_toArray, List.getElem_cons_succ, List.getElem_cons_zero, List.setIfInBounds_toArray, List.set_cons_zero, List.set_cons_succ]
    refine wpAnyS_take 15 (v := .pointer (some ⟨g, 3, none⟩)) rfl (by kernel_rfl) (by kernel_rfl) (by kernel_rfl) (by kernel_rfl) (fun _ _ _ h => h) (by rfl) (fun w4 c4 => ?_) ?_
    · go_simp
    try simp only [Act.put, List.getElem_toArray, List.getElem_cons_succ, List.getElem_cons_zero, List.setIfInBounds_toArray, List.set_cons_zero, List.set_cons_succ]
    refine wpAnyS_take 16 (v := .string (str l3)) rfl (by kernel_rfl) (by kernel_rfl) (by kernel_rfl) (by kernel_rfl) (fun _ _ _ h => h) (by rfl) (fun w4 c4 => ?_) ?_
    · have z := c4.cell_some z3 (by simp)
      go_simp
    try simp only [Act.put, List.getElem_toArray, List.getElem_cons_succ, List.getElem_cons_zero, List.setIfInBounds_toArray, List.set_cons_zero, List.set_cons_succ]
    refine wpAnyS_take 18 (v := .slice (some ⟨g, 0, none⟩) 9 cp2) rfl (by kernel_rfl) (by kernel_rfl) (by kernel_rfl) (by kernel_rfl) (fun _ _ _ h => h) (by rfl) (fun w4 c4 => ?_) ?_
    · go_simp
    try simp only [Act.put, List.getElem_toArray, List.getElem_cons_succ, List.getElem_cons_zero, List.setIfInBounds_toArray, List.set_cons_zero, List.set_cons_succ]
    refine wpAnyS_take 19 (v := .pointer (some ⟨g, 4, none⟩)) rfl (by kernel_rfl) (by kernel_rfl) (by kernel_rfl) (by kernel_rfl) (fun _ _ _ h => h) (by rfl) (fun w4 c4 => ?_) ?_
    · go_simp
    try simp only [Act.put, List.getElem_toArray, List.getElem_cons_succ, List.getElem_cons_zero, List.setIfInBounds_toArray, List.set_cons_zero, List.set_cons_succ]
    refine wpAnyS_take 20 (v := .string (str l4)) rfl (by kernel_rfl) (by kernel_rfl) (by kernel_rfl) (by kernel_rfl) (fun _ _ _ h => h) (by rfl) (fun w4 c4 => ?_) ?_
    · have z := c4.cell_some z4 (by simp)
      go_simp
    try simp only [Act.put, List.getElem_toArray, List.getElem_cons_succ, List.getElem_cons_zero, List.setIfInBounds_toArray, List.set_cons_zero, List.set_cons_succ]
    refine wpAnyS_take 21 (v := .slice (some ⟨g, 0, none⟩) 9 cp2) rfl (by kernel_rfl) (by kernel_rfl) (by kernel_rfl) (by kernel_rfl) (fun _ _ _ h => h) (by rfl) (fun w4 c4 => ?_) ?_
    · go_simp
    try simp only [Act.put, List.getElem_toArray, List.getElem_cons_succ, List.getElem_cons_zero, List.setIfInBounds_toArray, List.set_cons_zero, List.set_cons_succ]
    refine wpAnyS_take 22 (v := .pointer (some ⟨g, 5, none⟩)) rfl (by kernel_rfl) (by kernel_rfl) (by kernel_rfl) (by kernel_rfl) (fun _ _ _ h => h) (by rfl) (fun w4 c4 => ?_) ?_
    · go_simp
    try simp only [Act.put, List.getElem_toArray, List.getElem_cons_succ, List.getElem_cons_zero, List.setIfInBounds_toArray, List.set_cons_zero, List.set_cons_succ]
    refine wpAnyS_take 23 (v := .string (str l5)) rfl (by kernel_rfl) (by kernel_rfl) (by kernel_rfl) (by kernel_rfl) (fun _ _ _ h => h) (by rfl) (fun w4 c4 => ?_) ?_
    · have z := c4.cell_some z5 (by simp)
      go_simp
    try simp only [Act.put, List.getElem_toArray, List.getElem_cons_succ, List.getElem_cons_zero, List.setIfInBounds_toArray, List.set_cons_zero, List.set_cons_succ]
    refine wpAnyS_take 24 (v := .slice (some ⟨g, 0, none⟩) 9 cp2) rfl (by kernel_rfl) (by kernel_rfl) (by kernel_rfl) (by kernel_rfl) (fun _ _ _ h => h) (by rfl) (fun w4 c4 => ?_) ?_
    · go_simp
    try simp only [Act.put, List.getElem_toArray, List.getElem_cons_succ, List.getElem_cons_zero, List.setIfInBounds_toArray, List.set_cons_zero, List.set_cons_succ]
    refine wpAnyS_take 25 (v := .pointer (some ⟨g, 6, none⟩)) rfl (by kernel_rfl) (by kernel_rfl) (by kernel_rfl) (by kernel_rfl) (fun _ _ _ h => h) (by rfl) (fun w4 c4 => ?_) ?_
    · go_simp
    try simp only [Act.put, List.getElem_toArray, List.getElem_cons_succ, List.getElem_cons_zero, List.setIfInBounds_toArray, List.set_cons_zero, List.set_cons_succ]
    refine wpAnyS_take 26 (v := .string (str l6)) rfl (by kernel_rfl) (by kernel_rfl) (by kernel_rfl) (by kernel_rfl) (fun _ _ _ h => h) (by rfl) (fun w4 c4 => ?_) ?_
    · have z := c4.cell_some z6 (by simp)
      go_simp
    try simp only [Act.put, List.getElem_toArray, List.getElem_cons_succ, List.getElem_cons_zero, List.setIfInBounds_toArray, List.set_cons_zero, List.set_cons_succ]
    refine wpAnyS_take 27 (v := .slice (some ⟨g, 0, none⟩) 9 cp2) rfl (by kernel_rfl) (by kernel_rfl) (by kernel_rfl) (by kernel_rfl) (fun _ _ _ h => h) (by rfl) (fun w4 c4 => ?_) ?_
    · go_simp
    try simp only [Act.put, List.getElem_toArray, List.getElem_cons_succ, List.getElem_cons_zero, List.setIfInBounds_toArray, List.set_cons_zero, List.set_cons_succ]
    refine wpAnyS_take 28 (v := .pointer (some ⟨g, 8, none⟩)) rfl (by kernel_rfl) (by kernel_rfl) (by kernel_rfl) (by kernel_rfl) (fun _ _ _ h => h) (by rfl) (fun w4 c4 => ?_) ?_
    · go_simp
    try simp only [Act.put, List.getElem_toArray, List.getElem_cons_succ, List.getElem_cons_zero, List.setIfInBounds_toArray, List.set_cons_zero, List.set_cons_succ]
    refine wpAnyS_take 29 (v := .string (str l8)) rfl (by kernel_rfl) (by kernel_rfl) (by kernel_rfl) (by kernel_rfl) (fun _ _ _ h => h) (by rfl) (fun w4 c4 => ?_) ?_
    · have z := c4.cell_some z8 (by simp)
      go_simp
    try simp only [Act.put, List.getElem_toArray, List.getElem_cons_succ, List.getElem_cons_zero, List.setIfInBounds_toArray, List.set_cons_zero, List.set_cons_succ]
    have e0 : Chg [] w2 w2 := Chg.refl _ _
    refine wpAnyS_two 0 32 rfl rfl (by kernel_rfl) rfl rfl (by rfl) (by rfl) (fun w101 c101 => ?_) (fun w103 c103 => ?_)
    · skip
      go_simp
      have d101 := e0.nil c101
      refine (kinds_any _).mono ?_
      rintro e w102 ⟨rfl, hk102, c102⟩
      obtain ⟨K3, hK3⟩ : ∃ K3, w101.heap.size = K3 := ⟨_, rfl⟩
      rw [hK3] at hk102
      rw [hK3]
      clear hK3
      refine ⟨c102, ?_⟩
      have e102 := d101.nil c102
      try simp only [Act.put, List.getElem_toArray, List.getElem_cons_succ, List.getElem_cons_zero, List.setIfInBounds_toArray, List.set_cons_zero, List.set_cons_succ]
      refine wpAnyS_two 4 32 rfl rfl (by kernel_rfl) rfl rfl (by rfl) (by rfl) (fun w104 c104 => ?_) (fun w106 c106 => ?_)
      · skip
        go_simp
        have d104 := e102.nil c104
        have hk104 := hk102.chg0 c104
        refine (hix _ K3 hk104).mono ?_
        rintro e w105 ⟨rfl, hw105⟩
        have c105 : Chg [] w104 w105 := hw105 ▸ Chg.refl _ _
        clear hw105
        refine ⟨c105, ?_⟩
        have e105 := d104.nil c105
        try simp only [Act.put, List.getElem_toArray, List.getElem_cons_succ, List.getElem_cons_zero, List.setIfInBounds_toArray, List.set_cons_zero, List.set_cons_succ]
        refine wpAnyS_take 5 (v := .int .i64 kd) rfl (by kernel_rfl) (by kernel_rfl) (by kernel_rfl) (by kernel_rfl) (fun _ _ _ h => h) (by rfl) (fun w4 c4 => ?_) ?_
        · go_simp
        try simp only [Act.put, List.getElem_toArray, List.getElem_cons_succ, List.getElem_cons_zero, List.setIfInBounds_toArray, List.set_cons_zero, List.set_cons_succ]
        refine wpAnyS_two 9 32 rfl rfl (by kernel_rfl) rfl rfl (by rfl) (by rfl) (fun w107 c107 => ?_) (fun w109 c109 => ?_)
        · skip
          go_simp
          have d107 := e105.nil c107
          refine (hn1 _ (HA.out.2.2.2.2.1.chg d107)).mono ?_
          rintro e w108 ⟨rfl, c108⟩
          refine ⟨c108, ?_⟩
          have e108 := d107.nil c108
          try simp only [Act.put, List.getElem_toArray, List.getElem_cons_succ, List.getElem_cons_zero, List.setIfInBounds_toArray, List.set_cons_zero, List.set_cons_succ]
          refine wpAnyS_two 13 32 rfl rfl (by kernel_rfl) rfl rfl (by rfl) (by rfl) (fun w110 c110 => ?_) (fun w112 c112 => ?_)
          · skip
            go_simp
            have d110 := e108.nil c110
            refine (hn2 _ (HA.out.2.2.2.2.1.chg d110)).mono ?_
            rintro e w111 ⟨rfl, c111⟩
            refine ⟨c111, ?_⟩
            have e111 := d110.nil c111
            try simp only [Act.put, List.getElem_toArray, List.getElem_cons_succ, List.getElem_cons_zero, List.setIfInBounds_toArray, List.set_cons_zero, List.set_cons_succ]
            refine wpAnyS_two 17 32 rfl rfl (by kernel_rfl) rfl rfl (by rfl) (by rfl) (fun w113 c113 => ?_) (fun w115 c115 => ?_)
            · skip
              go_simp
              have d113 := e111.nil c113
              refine (hn3 _ (HA.out.2.2.2.2.1.chg d113)).mono ?_
              rintro e w114 ⟨rfl, c114⟩
              refine ⟨c114, ?_⟩
              have e114 := d113.nil c114
              try simp only [Act.put, List.getElem_toArray, List.getElem_cons_succ, List.getElem_cons_zero, List.setIfInBounds_toArray, List.set_cons_zero, List.set_cons_succ]
              refine wpAnyS_two 30 32 rfl rfl (by kernel_rfl) rfl rfl (by rfl) (by rfl) (fun w116 c116 => ?_) (fun w118 c118 => ?_)
              · skip
                go_simp
                have d116 := e114.nil c116
                refine (hby _).mono ?_
                rintro e w117 ⟨mv117, rfl, hs117, hm117, c117⟩
                obtain ⟨aom, cpm, rfl, -, -⟩ := hs117.shape
                have hm117 : ∀ k ∈ eyes (.slice aom mk.length cpm), w2.heap.size ≤ k := fun k hk => Nat.le_trans d116.size (hm117 k hk)
                refine ⟨c117, ?_⟩
                have e117 := d116.nil c117
                try simp only [Act.put, List.getElem_toArray, List.getElem_cons_succ, List.getElem_cons_zero, List.setIfInBounds_toArray, List.set_cons_zero, List.set_cons_succ]
                refine wpAnyS_take 31 (v := (.agg #[.int .i64 kd, .int .i64 n1, .int .i64 n2, .string (str l4), .string (str l5), .string (str l6), .int .i64 n3, .int .i64 0, .int .i64 0, .int .i64 0, .int .i64 0, .slice none 0 0, .slice aom mk.length cpm])) rfl (by kernel_rfl) (by kernel_rfl) (by kernel_rfl) (by kernel_rfl) (fun _ _ _ h => h) (by rfl) (fun w4 c4 => ?_) ?_
                · go_simp
                try simp only [Act.put, List.getElem_toArray, List.getElem_cons_succ, List.getElem_cons_zero, List.setIfInBounds_toArray, List.set_cons_zero, List.set_cons_succ]
                refine wpAnyS_only 32 rfl (by kernel_rfl) rfl (by rfl) (fun w119 c119 => ?_)
                go_simp
                obtain ⟨K7, hK7⟩ : ∃ K7, w119.heap.size = K7 := ⟨_, rfl⟩
                rw [hK7]
                have d119 := e117.nil c119
                have h7119 : w2.heap.size ≤ K7 := by have := d119.size; omega
                have hB119 : Blk (w119.alloc (.cells #[.int .i64 0, .int .i64 0, .int .i64 0, .string ⟨#[]⟩, .string ⟨#[]⟩, .string ⟨#[]⟩, .int .i64 0, .int .i64 0, .int .i64 0, .int .i64 0, .int .i64 0, .slice none 0 0, .slice none 0 0] 28)) K7 #[.int .i64 0, .int .i64 0, .int .i64 0, .string ⟨#[]⟩, .string ⟨#[]⟩, .string ⟨#[]⟩, .int .i64 0, .int .i64 0, .int .i64 0, .int .i64 0, .int .i64 0, .slice none 0 0, .slice none 0 0] 28 := Blk.new_at w119 _ _ hK7
                have f119 : Chg [] w119 (w119.alloc (.cells #[.int .i64 0, .int .i64 0, .int .i64 0, .string ⟨#[]⟩, .string ⟨#[]⟩, .string ⟨#[]⟩, .int .i64 0, .int .i64 0, .int .i64 0, .int .i64 0, .int .i64 0, .slice none 0 0, .slice none 0 0] 28)) := (Chg.refl [] w119).alloc _
                refine ⟨f119, ?_⟩
                have e119 := d119.nil f119
                have hss119 := (hs117.chg0 c119).chg0 f119
                clear hK7
                try simp only [Act.put, List.getElem_toArray, List.getElem_cons_succ, List.getElem_cons_zero, List.setIfInBounds_toArray, List.set_cons_zero, List.set_cons_succ]
                refine wpAnyS_last 33 rfl (by kernel_rfl) rfl (by rfl) (fun w120 c120 => ?_)
                refine wp_stA (cs := #[.int .i64 kd, .int .i64 n1, .int .i64 n2, .string (str l4), .string (str l5), .string (str l6), .int .i64 n3, .int .i64 0, .int .i64 0, .int .i64 0, .int .i64 0, .slice none 0 0, .slice aom mk.length cpm]) 28 _ _ rfl (hB119.chg0 c120) act_ty rfl (by simp [Value.oneCell']) rfl rfl ?_
                intro w121 hb121 c121 hs121
                try simp only [Act.put, List.getElem_toArray, List.getElem_cons_succ, List.getElem_cons_zero, List.setIfInBounds_toArray, List.set_cons_zero, List.set_cons_succ]
                refine wpAny_fin (by kernel_rfl) ?_ _
                have g121 : Chg [] w2 w121 := (e119.nil c120).trans c121 fun k hk => by simp at hk; right; omega
                go_wp2_with fail
                go_meet
                exact ⟨K7, aom, cpm, rfl, h7119, hb121, seesU8 (hss119.chg0 c120) (hB119.chg0 c120) c121 (by simp [notU8]), hm117, g121⟩
              · skip
                go_simp
                obtain ⟨K7, hK7⟩ : ∃ K7, w118.heap.size = K7 := ⟨_, rfl⟩
                rw [hK7]
                have d118 := e114.nil c118
                have h7118 : w2.heap.size ≤ K7 := by have := d118.size; omega
                have hB118 : Blk (w118.alloc (.cells #[.int .i64 0, .int .i64 0, .int .i64 0, .string ⟨#[]⟩, .string ⟨#[]⟩, .string ⟨#[]⟩, .int .i64 0, .int .i64 0, .int .i64 0, .int .i64 0, .int .i64 0, .slice none 0 0, .slice none 0 0] 28)) K7 #[.int .i64 0, .int .i64 0, .int .i64 0, .string ⟨#[]⟩, .string ⟨#[]⟩, .string ⟨#[]⟩, .int .i64 0, .int .i64 0, .int .i64 0, .int .i64 0, .int .i64 0, .slice none 0 0, .slice none 0 0] 28 := Blk.new_at w118 _ _ hK7
                have f118 : Chg [] w118 (w118.alloc (.cells #[.int .i64 0, .int .i64 0, .int .i64 0, .string ⟨#[]⟩, .string ⟨#[]⟩, .string ⟨#[]⟩, .int .i64 0, .int .i64 0, .int .i64 0, .int .i64 0, .int .i64 0, .slice none 0 0, .slice none 0 0] 28)) := (Chg.refl [] w118).alloc _
                refine ⟨f118, ?_⟩
                have e118 := d118.nil f118
                clear hK7
                try simp only [Act.put, List.getElem_toArray, List.getElem_cons_succ, List.getElem_cons_zero, List.setIfInBounds_toArray, List.set_cons_zero, List.set_cons_succ]
                refine wpAnyS_only 30 rfl (by kernel_rfl) rfl (by rfl) (fun w122 c122 => ?_)
                go_simp
                have d122 := e118.nil c122
                have hA122 := hB118.chg0 c122
                refine (hby _).mono ?_
                rintro e w123 ⟨mv123, rfl, hs123, hm123, c123⟩
                obtain ⟨aom, cpm, rfl, -, -⟩ := hs123.shape
                have hm123 : ∀ k ∈ eyes (.slice aom mk.length cpm), w2.heap.size ≤ k := fun k hk => Nat.le_trans d122.size (hm123 k hk)
                refine ⟨c123, ?_⟩
                have e123 := d122.nil c123
                try simp only [Act.put, List.getElem_toArray, List.getElem_cons_succ, List.getElem_cons_zero, List.setIfInBounds_toArray, List.set_cons_zero, List.set_cons_succ]
                have hB123 := hA122.chg0 c123
                refine wpAnyS_take 31 (v := (.agg #[.int .i64 kd, .int .i64 n1, .int .i64 n2, .string (str l4), .string (str l5), .string (str l6), .int .i64 n3, .int .i64 0, .int .i64 0, .int .i64 0, .int .i64 0, .slice none 0 0, .slice aom mk.length cpm])) rfl (by kernel_rfl) (by kernel_rfl) (by kernel_rfl) (by kernel_rfl) (fun _ _ _ h => h) (by rfl) (fun w4 c4 => ?_) ?_
                · go_simp
                try simp only [Act.put, List.getElem_toArray, List.getElem_cons_succ, List.getElem_cons_zero, List.setIfInBounds_toArray, List.set_cons_zero, List.set_cons_succ]
                refine wpAnyS_last 33 rfl (by kernel_rfl) rfl (by rfl) (fun w124 c124 => ?_)
                refine wp_stA (cs := #[.int .i64 kd, .int .i64 n1, .int .i64 n2, .string (str l4), .string (str l5), .string (str l6), .int .i64 n3, .int .i64 0, .int .i64 0, .int .i64 0, .int .i64 0, .slice none 0 0, .slice aom mk.length cpm]) 28 _ _ rfl (hB123.chg0 c124) act_ty rfl (by simp [Value.oneCell']) rfl rfl ?_
                intro w125 hb125 c125 hs125
                try simp only [Act.put, List.getElem_toArray, List.getElem_cons_succ, List.getElem_cons_zero, List.setIfInBounds_toArray, List.set_cons_zero, List.set_cons_succ]
                refine wpAny_fin (by kernel_rfl) ?_ _
                have g125 : Chg [] w2 w125 := (e123.nil c124).trans c125 fun k hk => by simp at hk; right; omega
                go_wp2_with fail
                go_meet
                exact ⟨K7, aom, cpm, rfl, h7118, hb125, seesU8 (hs123.chg0 c124) (hB123.chg0 c124) c125 (by simp [notU8]), hm123, g125⟩
            · skip
              go_simp
              obtain ⟨K7, hK7⟩ : ∃ K7, w115.heap.size = K7 := ⟨_, rfl⟩
              rw [hK7]
              have d115 := e111.nil c115
              have h7115 : w2.heap.size ≤ K7 := by have := d115.size; omega
              have hB115 : Blk (w115.alloc (.cells #[.int .i64 0, .int .i64 0, .int .i64 0, .string ⟨#[]⟩, .string ⟨#[]⟩, .string ⟨#[]⟩, .int .i64 0, .int .i64 0, .int .i64 0, .int .i64 0, .int .i64 0, .slice none 0 0, .slice none 0 0] 28)) K7 #[.int .i64 0, .int .i64 0, .int .i64 0, .string ⟨#[]⟩, .string ⟨#[]⟩, .string ⟨#[]⟩, .int .i64 0, .int .i64 0, .int .i64 0, .int .i64 0, .int .i64 0, .slice none 0 0, .slice none 0 0] 28 := Blk.new_at w115 _ _ hK7
              have f115 : Chg [] w115 (w115.alloc (.cells #[.int .i64 0, .int .i64 0, .int .i64 0, .string ⟨#[]⟩, .string ⟨#[]⟩, .string ⟨#[]⟩, .int .i64 0, .int .i64 0, .int .i64 0, .int .i64 0, .int .i64 0, .slice none 0 0, .slice none 0 0] 28)) := (Chg.refl [] w115).alloc _
              refine ⟨f115, ?_⟩
              have e115 := d115.nil f115
              clear hK7
              try simp only [Act.put, List.getElem_toArray, List.getElem_cons_succ, List.getElem_cons_zero, List.setIfInBounds_toArray, List.set_cons_zero, List.set_cons_succ]
              refine wpAnyS_only 17 rfl (by kernel_rfl) rfl (by rfl) (fun w126 c126 => ?_)
              go_simp
              have d126 := e115.nil c126
              have hA126 := hB115.chg0 c126
              refine (hn3 _ (HA.out.2.2.2.2.1.chg d126)).mono ?_
              rintro e w127 ⟨rfl, c127⟩
              refine ⟨c127, ?_⟩
              have e127 := d126.nil c127
              try simp only [Act.put, List.getElem_toArray, List.getElem_cons_succ, List.getElem_cons_zero, List.setIfInBounds_toArray, List.set_cons_zero, List.set_cons_succ]
              have hB127 := hA126.chg0 c127
              refine wpAnyS_only 30 rfl (by kernel_rfl) rfl (by rfl) (fun w128 c128 => ?_)
              go_simp
              have d128 := e127.nil c128
              have hA128 := hB127.chg0 c128
              refine (hby _).mono ?_
              rintro e w129 ⟨mv129, rfl, hs129, hm129, c129⟩
              obtain ⟨aom, cpm, rfl, -, -⟩ := hs129.shape
              have hm129 : ∀ k ∈ eyes (.slice aom mk.length cpm), w2.heap.size ≤ k := fun k hk => Nat.le_trans d128.size (hm129 k hk)
              refine ⟨c129, ?_⟩
              have e129 := d128.nil c129
              try simp only [Act.put, List.getElem_toArray, List.getElem_cons_succ, List.getElem_cons_zero, List.setIfInBounds_toArray, List.set_cons_zero, List.set_cons_succ]
              have hB129 := hA128.chg0 c129
              refine wpAnyS_take 31 (v := (.agg #[.int .i64 kd, .int .i64 n1, .int .i64 n2, .string (str l4), .string (str l5), .string (str l6), .int .i64 n3, .int .i64 0, .int .i64 0, .int .i64 0, .int .i64 0, .slice none 0 0, .slice aom mk.length cpm])) rfl (by kernel_rfl) (by kernel_rfl) (by kernel_rfl) (by kernel_rfl) (fun _ _ _ h => h) (by rfl) (fun w4 c4 => ?_) ?_
              · go_simp
              try simp only [Act.put, List.getElem_toArray, List.getElem_cons_succ, List.getElem_cons_zero, List.setIfInBounds_toArray, List.set_cons_zero, List.set_cons_succ]
              refine wpAnyS_last 33 rfl (by kernel_rfl) rfl (by rfl) (fun w130 c130 => ?_)
              refine wp_stA (cs := #[.int .i64 kd, .int .i64 n1, .int .i64 n2, .string (str l4), .string (str l5), .string (str l6), .int .i64 n3, .int .i64 0, .int .i64 0, .int .i64 0, .int .i64 0, .slice none 0 0, .slice aom mk.length cpm]) 28 _ _ rfl (hB129.chg0 c130) act_ty rfl (by simp [Value.oneCell']) rfl rfl ?_
              intro w131 hb131 c131 hs131
              try simp only [Act.put, List.getElem_toArray, List.getElem_cons_succ, List.getElem_cons_zero, List.setIfInBounds_toArray, List.set_cons_zero, List.set_cons_succ]
              refine wpAny_fin (by kernel_rfl) ?_ _
              have g131 : Chg [] w2 w131 := (e129.nil c130).trans c131 fun k hk => by simp at hk; right; omega
              go_wp2_with fail
              go_meet
              exact ⟨K7, aom, cpm, rfl, h7115, hb131, seesU8 (hs129.chg0 c130) (hB129.chg0 c130) c131 (by simp [notU8]), hm129, g131⟩
          · skip
            go_simp
            obtain ⟨K7, hK7⟩ : ∃ K7, w112.heap.size = K7 := ⟨_, rfl⟩
            rw [hK7]
            have d112 := e108.nil c112
            have h7112 : w2.heap.size ≤ K7 := by have := d112.size; omega
            have hB112 : Blk (w112.alloc (.cells #[.int .i64 0, .int .i64 0, .int .i64 0, .string ⟨#[]⟩, .string ⟨#[]⟩, .string ⟨#[]⟩, .int .i64 0, .int .i64 0, .int .i64 0, .int .i64 0, .int .i64 0, .slice none 0 0, .slice none 0 0] 28)) K7 #[.int .i64 0, .int .i64 0, .int .i64 0, .string ⟨#[]⟩, .string ⟨#[]⟩, .string ⟨#[]⟩, .int .i64 0, .int .i64 0, .int .i64 0, .int .i64 0, .int .i64 0, .slice none 0 0, .slice none 0 0] 28 := Blk.new_at w112 _ _ hK7
            have f112 : Chg [] w112 (w112.alloc (.cells #[.int .i64 0, .int .i64 0, .int .i64 0, .string ⟨#[]⟩, .string ⟨#[]⟩, .string ⟨#[]⟩, .int .i64 0, .int .i64 0, .int .i64 0, .int .i64 0, .int .i64 0, .slice none 0 0, .slice none 0 0] 28)) := (Chg.refl [] w112).alloc _
            refine ⟨f112, ?_⟩
            have e112 := d112.nil f112
            clear hK7
            try simp only [Act.put, List.getElem_toArray, List.getElem_cons_succ, List.getElem_cons_zero, List.setIfInBounds_toArray, List.set_cons_zero, List.set_cons_succ]
            refine wpAnyS_only 13 rfl (by kernel_rfl) rfl (by rfl) (fun w132 c132 => ?_)
            go_simp
            have d132 := e112.nil c132
            have hA132 := hB112.chg0 c132
            refine (hn2 _ (HA.out.2.2.2.2.1.chg d132)).mono ?_
            rintro e w133 ⟨rfl, c133⟩
            refine ⟨c133, ?_⟩
            have e133 := d132.nil c133
            try simp only [Act.put, List.getElem_toArray, List.getElem_cons_succ, List.getElem_cons_zero, List.setIfInBounds_toArray, List.set_cons_zero, List.set_cons_succ]
            have hB133 := hA132.chg0 c133
            refine wpAnyS_only 17 rfl (by kernel_rfl) rfl (by rfl) (fun w134 c134 => ?_)
            go_simp
            have d134 := e133.nil c134
            have hA134 := hB133.chg0 c134
            refine (hn3 _ (HA.out.2.2.2.2.1.chg d134)).mono ?_
            rintro e w135 ⟨rfl, c135⟩
            refine ⟨c135, ?_⟩
            have e135 := d134.nil c135
            try simp only [Act.put, List.getElem_toArray, List.getElem_cons_succ, List.getElem_cons_zero, List.setIfInBounds_toArray, List.set_cons_zero, List.set_cons_succ]
            have hB135 := hA134.chg0 c135
            refine wpAnyS_only 30 rfl (by kernel_rfl) rfl (by rfl) (fun w136 c136 => ?_)
            go_simp
            have d136 := e135.nil c136
            have hA136 := hB135.chg0 c136
            refine (hby _).mono ?_
            rintro e w137 ⟨mv137, rfl, hs137, hm137, c137⟩
            obtain ⟨aom, cpm, rfl, -, -⟩ := hs137.shape
            have hm137 : ∀ k ∈ eyes (.slice aom mk.length cpm), w2.heap.size ≤ k := fun k hk => Nat.le_trans d136.size (hm137 k hk)
            refine ⟨c137, ?_⟩
            have e137 := d136.nil c137
            try simp only [Act.put, List.getElem_toArray, List.getElem_cons_succ, List.getElem_cons_zero, List.setIfInBounds_toArray, List.set_cons_zero, List.set_cons_succ]
            have hB137 := hA136.chg0 c137
            refine wpAnyS_take 31 (v := (.agg #[.int .i64 kd, .int .i64 n1, .int .i64 n2, .string (str l4), .string (str l5), .string (str l6), .int .i64 n3, .int .i64 0, .int .i64 0, .int .i64 0, .int .i64 0, .slice none 0 0, .slice aom mk.length cpm])) rfl (by kernel_rfl) (by kernel_rfl) (by kernel_rfl) (by kernel_rfl) (fun _ _ _ h => h) (by rfl) (fun w4 c4 => ?_) ?_
            · go_simp
            try simp only [Act.put, List.getElem_toArray, List.getElem_cons_succ, List.getElem_cons_zero, List.setIfInBounds_toArray, List.set_cons_zero, List.set_cons_succ]
            refine wpAnyS_last 33 rfl (by kernel_rfl) rfl (by rfl) (fun w138 c138 => ?_)
            refine wp_stA (cs := #[.int .i64 kd, .int .i64 n1, .int .i64 n2, .string (str l4), .string (str l5), .string (str l6), .int .i64 n3, .int .i64 0, .int .i64 0, .int .i64 0, .int .i64 0, .slice none 0 0, .slice aom mk.length cpm]) 28 _ _ rfl (hB137.chg0 c138) act_ty rfl (by simp [Value.oneCell']) rfl rfl ?_
            intro w139 hb139 c139 hs139
            try simp only [Act.put, List.getElem_toArray, List.getElem_cons_succ, List.getElem_cons_zero, List.setIfInBounds_toArray, List.set_cons_zero, List.set_cons_succ]
            refine wpAny_fin (by kernel_rfl) ?_ _
            have g139 : Chg [] w2 w139 := (e137.nil c138).trans c139 fun k hk => by simp at hk; right; omega
            go_wp2_with fail
            go_meet
            exact ⟨K7, aom, cpm, rfl, h7112, hb139, seesU8 (hs137.chg0 c138) (hB137.chg0 c138) c139 (by simp [notU8]), hm137, g139⟩
        · skip
          go_simp
          obtain ⟨K7, hK7⟩ : ∃ K7, w109.heap.size = K7 := ⟨_, rfl⟩
          rw [hK7]
          have d109 := e105.nil c109
          have h7109 : w2.heap.size ≤ K7 := by have := d109.size; omega
          have hB109 : Blk (w109.alloc (.cells #[.int .i64 0, .int .i64 0, .int .i64 0, .string ⟨#[]⟩, .string ⟨#[]⟩, .string ⟨#[]⟩, .int .i64 0, .int .i64 0, .int .i64 0, .int .i64 0, .int .i64 0, .slice none 0 0, .slice none 0 0] 28)) K7 #[.int .i64 0, .int .i64 0, .int .i64 0, .string ⟨#[]⟩, .string ⟨#[]⟩, .string ⟨#[]⟩, .int .i64 0, .int .i64 0, .int .i64 0, .int .i64 0, .int .i64 0, .slice none 0 0, .slice none 0 0] 28 := Blk.new_at w109 _ _ hK7
          have f109 : Chg [] w109 (w109.alloc (.cells #[.int .i64 0, .int .i64 0, .int .i64 0, .string ⟨#[]⟩, .string ⟨#[]⟩, .string ⟨#[]⟩, .int .i64 0, .int .i64 0, .int .i64 0, .int .i64 0, .int .i64 0, .slice none 0 0, .slice none 0 0] 28)) := (Chg.refl [] w109).alloc _
          refine ⟨f109, ?_⟩
          have e109 := d109.nil f109
          clear hK7
          try simp only [Act.put, List.getElem_toArray, List.getElem_cons_succ, List.getElem_cons_zero, List.setIfInBounds_toArray, List.set_cons_zero, List.set_cons_succ]
          refine wpAnyS_only 9 rfl (by kernel_rfl) rfl (by rfl) (fun w140 c140 => ?_)
          go_simp
          have d140 := e109.nil c140
          have hA140 := hB109.chg0 c140
          refine (hn1 _ (HA.out.2.2.2.2.1.chg d140)).mono ?_
          rintro e w141 ⟨rfl, c141⟩
          refine ⟨c141, ?_⟩
          have e141 := d140.nil c141
          try simp only [Act.put, List.getElem_toArray, List.getElem_cons_succ, List.getElem_cons_zero, List.setIfInBounds_toArray, List.set_cons_zero, List.set_cons_succ]
          have hB141 := hA140.chg0 c141
          refine wpAnyS_only 13 rfl (by kernel_rfl) rfl (by rfl) (fun w142 c142 => ?_)
          go_simp
          have d142 := e141.nil c142
          have hA142 := hB141.chg0 c142
          refine (hn2 _ (HA.out.2.2.2.2.1.chg d142)).mono ?_
          rintro e w143 ⟨rfl, c143⟩
          refine ⟨c143, ?_⟩
          have e143 := d142.nil c143
          try simp only [Act.put, List.getElem_toArray, List.getElem_cons_succ, List.getElem_cons_zero, List.setIfInBounds_toArray, List.set_cons_zero, List.set_cons_succ]
          have hB143 := hA142.chg0 c143
          refine wpAnyS_only 17 rfl (by kernel_rfl) rfl (by rfl) (fun w144 c144 => ?_)
          go_simp
          have d144 := e143.nil c144
          have hA144 := hB143.chg0 c144
          refine (hn3 _ (HA.out.2.2.2.2.1.chg d144)).mono ?_
          rintro e w145 ⟨rfl, c145⟩
          refine ⟨c145, ?_⟩
          have e145 := d144.nil c145
          try simp only [Act.put, List.getElem_toArray, List.getElem_cons_succ, List.getElem_cons_zero, List.setIfInBounds_toArray, List.set_cons_zero, List.set_cons_succ]
          have hB145 := hA144.chg0 c145
          refine wpAnyS_only 30 rfl (by kernel_rfl) rfl (by rfl) (fun w146 c146 => ?_)
          go_simp
          have d146 := e145.nil c146
          have hA146 := hB145.chg0 c146
          refine (hby _).mono ?_
          rintro e w147 ⟨mv147, rfl, hs147, hm147, c147⟩
          obtain ⟨aom, cpm, rfl, -, -⟩ := hs147.shape
          have hm147 : ∀ k ∈ eyes (.slice aom mk.length cpm), w2.heap.size ≤ k := fun k hk => Nat.le_trans d146.size (hm147 k hk)
          refine ⟨c147, ?_⟩
          have e147 := d146.nil c147
          try simp only [Act.put, List.getElem_toArray, List.getElem_cons_succ, List.getElem_cons_zero, List.setIfInBounds_toArray, List.set_cons_zero, List.set_cons_succ]
          have hB147 := hA146.chg0 c147
          refine wpAnyS_take 31 (v := (.agg #[.int .i64 kd, .int .i64 n1, .int .i64 n2, .string (str l4), .string (str l5), .string (str l6), .int .i64 n3, .int .i64 0, .int .i64 0, .int .i64 0, .int .i64 0, .slice none 0 0, .slice aom mk.length cpm])) rfl (by kernel_rfl) (by kernel_rfl) (by kernel_rfl) (by kernel_rfl) (fun _ _ _ h => h) (by rfl) (fun w4 c4 => ?_) ?_
          · go_simp
          try simp only [Act.put, List.getElem_toArray, List.getElem_cons_succ, List.getElem_cons_zero, List.setIfInBounds_toArray, List.set_cons_zero, List.set_cons_succ]
          refine wpAnyS_last 33 rfl (by kernel_rfl) rfl (by rfl) (fun w148 c148 => ?_)
          refine wp_stA (cs := #[.int .i64 kd, .int .i64 n1, .int .i64 n2, .string (str l4), .string (str l5), .string (str l6), .int .i64 n3, .int .i64 0, .int .i64 0, .int .i64 0, .int .i64 0, .slice none 0 0, .slice aom mk.length cpm]) 28 _ _ rfl (hB147.chg0 c148) act_ty rfl (by simp [Value.oneCell']) rfl rfl ?_
          intro w149 hb149 c149 hs149
          try simp only [Act.put, List.getElem_toArray, List.getElem_cons_succ, List.getElem_cons_zero, List.setIfInBounds_toArray, List.set_cons_zero, List.set_cons_succ]
          refine wpAny_fin (by kernel_rfl) ?_ _
          have g149 : Chg [] w2 w149 := (e147.nil c148).trans c149 fun k hk => by simp at hk; right; omega
          go_wp2_with fail
          go_meet
          exact ⟨K7, aom, cpm, rfl, h7109, hb149, seesU8 (hs147.chg0 c148) (hB147.chg0 c148) c149 (by simp [notU8]), hm147, g149⟩
      · skip
        go_simp
        obtain ⟨K7, hK7⟩ : ∃ K7, w106.heap.size = K7 := ⟨_, rfl⟩
        rw [hK7]
        have d106 := e102.nil c106
        have h7106 : w2.heap.size ≤ K7 := by have := d106.size; omega
        have hB106 : Blk (w106.alloc (.cells #[.int .i64 0, .int .i64 0, .int .i64 0, .string ⟨#[]⟩, .string ⟨#[]⟩, .string ⟨#[]⟩, .int .i64 0, .int .i64 0, .int .i64 0, .int .i64 0, .int .i64 0, .slice none 0 0, .slice none 0 0] 28)) K7 #[.int .i64 0, .int .i64 0, .int .i64 0, .string ⟨#[]⟩, .string ⟨#[]⟩, .string ⟨#[]⟩, .int .i64 0, .int .i64 0, .int .i64 0, .int .i64 0, .int .i64 0, .slice none 0 0, .slice none 0 0] 28 := Blk.new_at w106 _ _ hK7
        have f106 : Chg [] w106 (w106.alloc (.cells #[.int .i64 0, .int .i64 0, .int .i64 0, .string ⟨#[]⟩, .string ⟨#[]⟩, .string ⟨#[]⟩, .int .i64 0, .int .i64 0, .int .i64 0, .int .i64 0, .int .i64 0, .slice none 0 0, .slice none 0 0] 28)) := (Chg.refl [] w106).alloc _
        refine ⟨f106, ?_⟩
        have e106 := d106.nil f106
        have hkk106 := (hk102.chg0 c106).chg0 f106
        clear hK7
        try simp only [Act.put, List.getElem_toArray, List.getElem_cons_succ, List.getElem_cons_zero, List.setIfInBounds_toArray, List.set_cons_zero, List.set_cons_succ]
        refine wpAnyS_only 4 rfl (by kernel_rfl) rfl (by rfl) (fun w150 c150 => ?_)
        go_simp
        have d150 := e106.nil c150
        have hA150 := hB106.chg0 c150
        have hk150 := hkk106.chg0 c150
        refine (hix _ K3 hk150).mono ?_
        rintro e w151 ⟨rfl, hw151⟩
        have c151 : Chg [] w150 w151 := hw151 ▸ Chg.refl _ _
        clear hw151
        refine ⟨c151, ?_⟩
        have e151 := d150.nil c151
        try simp only [Act.put, List.getElem_toArray, List.getElem_cons_succ, List.getElem_cons_zero, List.setIfInBounds_toArray, List.set_cons_zero, List.set_cons_succ]
        have hB151 := hA150.chg0 c151
        refine wpAnyS_take 5 (v := .int .i64 kd) rfl (by kernel_rfl) (by kernel_rfl) (by kernel_rfl) (by kernel_rfl) (fun _ _ _ h => h) (by rfl) (fun w4 c4 => ?_) ?_
        · go_simp
        try simp only [Act.put, List.getElem_toArray, List.getElem_cons_succ, List.getElem_cons_zero, List.setIfInBounds_toArray, List.set_cons_zero, List.set_cons_succ]
        refine wpAnyS_only 9 rfl (by kernel_rfl) rfl (by rfl) (fun w152 c152 => ?_)
        go_simp
        have d152 := e151.nil c152
        have hA152 := hB151.chg0 c152
        refine (hn1 _ (HA.out.2.2.2.2.1.chg d152)).mono ?_
        rintro e w153 ⟨rfl, c153⟩
        refine ⟨c153, ?_⟩
        have e153 := d152.nil c153
        try simp only [Act.put, List.getElem_toArray, List.getElem_cons_succ, List.getElem_cons_zero, List.setIfInBounds_toArray, List.set_cons_zero, List.set_cons_succ]
        have hB153 := hA152.chg0 c153
        refine wpAnyS_only 13 rfl (by kernel_rfl) rfl (by rfl) (fun w154 c154 => ?_)
        go_simp
        have d154 := e153.nil c154
        have hA154 := hB153.chg0 c154
        refine (hn2 _ (HA.out.2.2.2.2.1.chg d154)).mono ?_
        rintro e w155 ⟨rfl, c155⟩
        refine ⟨c155, ?_⟩
        have e155 := d154.nil c155
        try simp only [Act.put, List.getElem_toArray, List.getElem_cons_succ, List.getElem_cons_zero, List.setIfInBounds_toArray, List.set_cons_zero, List.set_cons_succ]
        have hB155 := hA154.chg0 c155
        refine wpAnyS_only 17 rfl (by kernel_rfl) rfl (by rfl) (fun w156 c156 => ?_)
        go_simp
        have d156 := e155.nil c156
        have hA156 := hB155.chg0 c156
        refine (hn3 _ (HA.out.2.2.2.2.1.chg d156)).mono ?_
        rintro e w157 ⟨rfl, c157⟩
        refine ⟨c157, ?_⟩
        have e157 := d156.nil c157
        try simp only [Act.put, List.getElem_toArray, List.getElem_cons_succ, List.getElem_cons_zero, List.setIfInBounds_toArray, List.set_cons_zero, List.set_cons_succ]
        have hB157 := hA156.chg0 c157
        refine wpAnyS_only 30 rfl (by kernel_rfl) rfl (by rfl) (fun w158 c158 => ?_)
        go_simp
        have d158 := e157.nil c158
        have hA158 := hB157.chg0 c158
        refine (hby _).mono ?_
        rintro e w159 ⟨mv159, rfl, hs159, hm159, c159⟩
        obtain ⟨aom, cpm, rfl, -, -⟩ := hs159.shape
        have hm159 : ∀ k ∈ eyes (.slice aom mk.length cpm), w2.heap.size ≤ k := fun k hk => Nat.le_trans d158.size (hm159 k hk)
        refine ⟨c159, ?_⟩
        have e159 := d158.nil c159
        try simp only [Act.put, List.getElem_toArray, List.getElem_cons_succ, List.getElem_cons_zero, List.setIfInBounds_toArray, List.set_cons_zero, List.set_cons_succ]
        have hB159 := hA158.chg0 c159
        refine wpAnyS_take 31 (v := (.agg #[.int .i64 kd, .int .i64 n1, .int .i64 n2, .string (str l4), .string (str l5), .string (str l6), .int .i64 n3, .int .i64 0, .int .i64 0, .int .i64 0, .int .i64 0, .slice none 0 0, .slice aom mk.length cpm])) rfl (by kernel_rfl) (by kernel_rfl) (by kernel_rfl) (by kernel_rfl) (fun _ _ _ h => h) (by rfl) (fun w4 c4 => ?_) ?_
        · go_simp
        try simp only [Act.put, List.getElem_toArray, List.getElem_cons_succ, List.getElem_cons_zero, List.setIfInBounds_toArray, List.set_cons_zero, List.set_cons_succ]
        refine wpAnyS_last 33 rfl (by kernel_rfl) rfl (by rfl) (fun w160 c160 => ?_)
        refine wp_stA (cs := #[.int .i64 kd, .int .i64 n1, .int .i64 n2, .string (str l4), .string (str l5), .string (str l6), .int .i64 n3, .int .i64 0, .int .i64 0, .int .i64 0, .int .i64 0, .slice none 0 0, .slice aom mk.length cpm]) 28 _ _ rfl (hB159.chg0 c160) act_ty rfl (by simp [Value.oneCell']) rfl rfl ?_
        intro w161 hb161 c161 hs161
        try simp only [Act.put, List.getElem_toArray, List.getElem_cons_succ, List.getElem_cons_zero, List.setIfInBounds_toArray, List.set_cons_zero, List.set_cons_succ]
        refine wpAny_fin (by kernel_rfl) ?_ _
        have g161 : Chg [] w2 w161 := (e159.nil c160).trans c161 fun k hk => by simp at hk; right; omega
        go_wp2_with fail
        go_meet
        exact ⟨K7, aom, cpm, rfl, h7106, hb161, seesU8 (hs159.chg0 c160) (hB159.chg0 c160) c161 (by simp [notU8]), hm159, g161⟩
    · skip
      go_simp
      obtain ⟨K7, hK7⟩ : ∃ K7, w103.heap.size = K7 := ⟨_, rfl⟩
      rw [hK7]
      have d103 := e0.nil c103
      have h7103 : w2.heap.size ≤ K7 := by have := d103.size; omega
      have hB103 : Blk (w103.alloc (.cells #[.int .i64 0, .int .i64 0, .int .i64 0, .string ⟨#[]⟩, .string ⟨#[]⟩, .string ⟨#[]⟩, .int .i64 0, .int .i64 0, .int .i64 0, .int .i64 0, .int .i64 0, .slice none 0 0, .slice none 0 0] 28)) K7 #[.int .i64 0, .int .i64 0, .int .i64 0, .string ⟨#[]⟩, .string ⟨#[]⟩, .string ⟨#[]⟩, .int .i64 0, .int .i64 0, .int .i64 0, .int .i64 0, .int .i64 0, .slice none 0 0, .slice none 0 0] 28 := Blk.new_at w103 _ _ hK7
      have f103 : Chg [] w103 (w103.alloc (.cells #[.int .i64 0, .int .i64 0, .int .i64 0, .string ⟨#[]⟩, .string ⟨#[]⟩, .string ⟨#[]⟩, .int .i64 0, .int .i64 0, .int .i64 0, .int .i64 0, .int .i64 0, .slice none 0 0, .slice none 0 0] 28)) := (Chg.refl [] w103).alloc _
      refine ⟨f103, ?_⟩
      have e103 := d103.nil f103
      clear hK7
      try simp only [Act.put, List.getElem_toArray, List.getElem_cons_succ, List.getElem_cons_zero, List.setIfInBounds_toArray, List.set_cons_zero, List.set_cons_succ]
      refine wpAnyS_only 0 rfl (by kernel_rfl) rfl (by rfl) (fun w162 c162 => ?_)
      go_simp
      have d162 := e103.nil c162
      have hA162 := hB103.chg0 c162
      refine (kinds_any _).mono ?_
      rintro e w163 ⟨rfl, hk163, c163⟩
      obtain ⟨K3, hK3⟩ : ∃ K3, w162.heap.size = K3 := ⟨_, rfl⟩
      rw [hK3] at hk163
      rw [hK3]
      clear hK3
      refine ⟨c163, ?_⟩
      have e163 := d162.nil c163
      try simp only [Act.put, List.getElem_toArray, List.getElem_cons_succ, List.getElem_cons_zero, List.setIfInBounds_toArray, List.set_cons_zero, List.set_cons_succ]
      have hB163 := hA162.chg0 c163
      refine wpAnyS_only 4 rfl (by kernel_rfl) rfl (by rfl) (fun w164 c164 => ?_)
      go_simp
      have d164 := e163.nil c164
      have hA164 := hB163.chg0 c164
      have hk164 := hk163.chg0 c164
      refine (hix _ K3 hk164).mono ?_
      rintro e w165 ⟨rfl, hw165⟩
      have c165 : Chg [] w164 w165 := hw165 ▸ Chg.refl _ _
      clear hw165
      refine ⟨c165, ?_⟩
      have e165 := d164.nil c165
      try simp only [Act.put, List.getElem_toArray, List.getElem_cons_succ, List.getElem_cons_zero, List.setIfInBounds_toArray, List.set_cons_zero, List.set_cons_succ]
      have hB165 := hA164.chg0 c165
      refine wpAnyS_take 5 (v := .int .i64 kd) rfl (by kernel_rfl) (by kernel_rfl) (by kernel_rfl) (by kernel_rfl) (fun _ _ _ h => h) (by rfl) (fun w4 c4 => ?_) ?_
      · go_simp
      try simp only [Act.put, List.getElem_toArray, List.getElem_cons_succ, List.getElem_cons_zero, List.setIfInBounds_toArray, List.set_cons_zero, List.set_cons_succ]
      refine wpAnyS_only 9 rfl (by kernel_rfl) rfl (by rfl) (fun w166 c166 => ?_)
      go_simp
      have d166 := e165.nil c166
      have hA166 := hB165.chg0 c166
      refine (hn1 _ (HA.out.2.2.2.2.1.chg d166)).mono ?_
      rintro e w167 ⟨rfl, c167⟩
      refine ⟨c167, ?_⟩
      have e167 := d166.nil c167
      try simp only [Act.put, List.getElem_toArray, List.getElem_cons_succ, List.getElem_cons_zero, List.setIfInBounds_toArray, List.set_cons_zero, List.set_cons_succ]
      have hB167 := hA166.chg0 c167
      refine wpAnyS_only 13 rfl (by kernel_rfl) rfl (by rfl) (fun w168 c168 => ?_)
      go_simp
      have d168 := e167.nil c168
      have hA168 := hB167.chg0 c168
      refine (hn2 _ (HA.out.2.2.2.2.1.chg d168)).mono ?_
      rintro e w169 ⟨rfl, c169⟩
      refine ⟨c169, ?_⟩
      have e169 := d168.nil c169
      try simp only [Act.put, List.getElem_toArray, List.getElem_cons_succ, List.getElem_cons_zero, List.setIfInBounds_toArray, List.set_cons_zero, List.set_cons_succ]
      have hB169 := hA168.chg0 c169
      refine wpAnyS_only 17 rfl (by kernel_rfl) rfl (by rfl) (fun w170 c170 => ?_)
      go_simp
      have d170 := e169.nil c170
      have hA170 := hB169.chg0 c170
      refine (hn3 _ (HA.out.2.2.2.2.1.chg d170)).mono ?_
      rintro e w171 ⟨rfl, c171⟩
      refine ⟨c171, ?_⟩
      have e171 := d170.nil c171
      try simp only [Act.put, List.getElem_toArray, List.getElem_cons_succ, List.getElem_cons_zero, List.setIfInBounds_toArray, List.set_cons_zero, List.set_cons_succ]
      have hB171 := hA170.chg0 c171
      refine wpAnyS_only 30 rfl (by kernel_rfl) rfl (by rfl) (fun w172 c172 => ?_)
      go_simp
      have d172 := e171.nil c172
      have hA172 := hB171.chg0 c172
      refine (hby _).mono ?_
      rintro e w173 ⟨mv173, rfl, hs173, hm173, c173⟩
      obtain ⟨aom, cpm, rfl, -, -⟩ := hs173.shape
      have hm173 : ∀ k ∈ eyes (.slice aom mk.length cpm), w2.heap.size ≤ k := fun k hk => Nat.le_trans d172.size (hm173 k hk)
      refine ⟨c173, ?_⟩
      have e173 := d172.nil c173
      try simp only [Act.put, List.getElem_toArray, List.getElem_cons_succ, List.getElem_cons_zero, List.setIfInBounds_toArray, List.set_cons_zero, List.set_cons_succ]
      have hB173 := hA172.chg0 c173
      refine wpAnyS_take 31 (v := (.agg #[.int .i64 kd, .int .i64 n1, .int .i64 n2, .string (str l4), .string (str l5), .string (str l6), .int .i64 n3, .int .i64 0, .int .i64 0, .int .i64 0, .int .i64 0, .slice none 0 0, .slice aom mk.length cpm])) rfl (by kernel_rfl) (by kernel_rfl) (by kernel_rfl) (by kernel_rfl) (fun _ _ _ h => h) (by rfl) (fun w4 c4 => ?_) ?_
      · go_simp
      try simp only [Act.put, List.getElem_toArray, List.getElem_cons_succ, List.getElem_cons_zero, List.setIfInBounds_toArray, List.set_cons_zero, List.set_cons_succ]
      refine wpAnyS_last 33 rfl (by kernel_rfl) rfl (by rfl) (fun w174 c174 => ?_)
      refine wp_stA (cs := #[.int .i64 kd, .int .i64 n1, .int .i64 n2, .string (str l4), .string (str l5), .string (str l6), .int .i64 n3, .int .i64 0, .int .i64 0, .int .i64 0, .int .i64 0, .slice none 0 0, .slice aom mk.length cpm]) 28 _ _ rfl (hB173.chg0 c174) act_ty rfl (by simp [Value.oneCell']) rfl rfl ?_
      intro w175 hb175 c175 hs175
      try simp only [Act.put, List.getElem_toArray, List.getElem_cons_succ, List.getElem_cons_zero, List.setIfInBounds_toArray, List.set_cons_zero, List.set_cons_succ]
      refine wpAny_fin (by kernel_rfl) ?_ _
      have g175 : Chg [] w2 w175 := (e173.nil c174).trans c175 fun k hk => by simp at hk; right; omega
      go_wp2_with fail
      go_meet
      exact ⟨K7, aom, cpm, rfl, h7103, hb175, seesU8 (hs173.chg0 c174) (hB173.chg0 c174) c175 (by simp [notU8]), hm173, g175⟩
  case rest =>
    clear hn1 hn2 hn3 hix hby wK z0 z1 z2 z3 z4 z5 z6 z8
    obtain ⟨K7, aom, cpm, rfl, hK7, hb7, hms, hmn, cwc⟩ := hcut
    have hp7 : (bytesL l7).length ≤ 400000 := by
      unfold bytesL
      cases hu : unhexL l7 with
      | none => simp
      | some r => have := unhexL_length _ _ hu; simp only [Option.getD_some]; omega
    have hby := fun w' => bytesOf_any w' l7 (by omega)
    have hAP := HA.out.2.1
    generalize bytesL l7 = P7 at *
    have z7 := cwc.cell_some z7 (by simp)
    go_wp2_with fail
    refine (hby _).mono ?_
    rintro e w3 ⟨bv, rfl, hbs, -, c3⟩
    have hde := decode_pix bv P7.length P7 w3 hbs (by omega)
    obtain ⟨aob, cpb, rfl, -, -⟩ := hbs.shape
    clear hby z7
    have hdl : (decPL P7).2.1.length ≤ 400000 := by
      unfold decPL
      repeat' split
      all_goals simp
      omega
    generalize (decPL P7).1 = ds at *
    generalize (decPL P7).2.1 = dp at *
    generalize (decPL P7).2.2 = de at *
    unfold rasV at hde
    go_wp2_with fail
    refine hde.mono ?_
    rintro e w4 ⟨dv, rfl, hds, hdn, c4⟩
    obtain ⟨aod, cpd, rfl, -, -⟩ := hds.shape
    have cw4 := (cwc.nil c3).nil c4
    have hb74 := (hb7.chg0 c3).chg0 c4
    have hms4 := (hms.chg0 c3).chg0 c4
    have hdn : ∀ k ∈ eyes (.slice aod dp.length cpd), w2.heap.size ≤ k := fun k hk => by have h1 := hdn k hk; have h2 := (cwc.nil c3).size; omega
    clear hde hb7 hms hbs c3 c4 cwc
    obtain ⟨R, hR⟩ : ∃ R, w4.heap.size = R := ⟨_, rfl⟩
    have hbR : Blk (w4.alloc (.cells #[.int .i64 ds.w, .int .i64 ds.h, .int .i64 ds.c, .int .i64 ds.d, .slice aod dp.length cpd] 26)) R #[.int .i64 ds.w, .int .i64 ds.h, .int .i64 ds.c, .int .i64 ds.d, .slice aod dp.length cpd] 26 := Blk.new_at w4 _ _ hR
    have c45 : Chg [] w4 (w4.alloc (.cells #[.int .i64 ds.w, .int .i64 ds.h, .int .i64 ds.c, .int .i64 ds.d, .slice aod dp.length cpd] 26)) := (Chg.refl [] w4).alloc _
    have hb75 := hb74.chg0 c45
    have hms5 := hms4.chg0 c45
    have hds5 := hds.chg0 c45
    have cw5 := cw4.nil c45
    clear hb74 hms4 hds cw4 c45
    go_upto_if 74 with (fail)
    generalize (w4.alloc (.cells #[.int .i64 ds.w, .int .i64 ds.h, .int .i64 ds.c, .int .i64 ds.d, .slice aod dp.length cpd] 26)) = w5 at *
    clear hR
    obtain ⟨A, hA⟩ : ∃ A, actP L = A := ⟨_, rfl⟩
    have hAf : (A.kind = kd ∧ A.n = n1 ∧ A.m = n2 ∧ A.key = n3) ∧ (A.name = l4 ∧ A.other = l5 ∧ A.text = l6 ∧ A.mask = mk) ∧ A.pix.length ≤ 400000 := by
      rw [← hA, hAP]
      have ha0 := HA.out.1
      split <;> (subst ha0; exact ⟨⟨rfl, rfl, rfl, rfl⟩, ⟨rfl, rfl, rfl, rfl⟩, by first | exact hdl | simp [actZ]⟩)
    have hAd : A = if de = 0 then { a0 with shp := ds, pix := dp } else a0 := by rw [← hA, hAP]
    have HAD := Lib.hid (And.intro hA (And.intro hAd hAf))
    clear hA hAd hAf hAP
    go_cut [] from 73 to 77 (fun wx => ∃ (aop : Option Addr) (cpp : Nat), Blk wx K7 #[.int .i64 A.kind, .int .i64 A.n, .int .i64 A.m, .string (str A.name), .string (str A.other), .string (str A.text), .int .i64 A.key, .int .i64 A.shp.w, .int .i64 A.shp.h, .int .i64 A.shp.c, .int .i64 A.shp.d, .slice aop A.pix.length cpp, .slice aom A.mask.length cpm] 28 ∧ Sees wx 1 (.slice aop A.pix.length cpp) A.pix.length (Bs A.pix) ∧ Sees wx 1 (.slice aom A.mask.length cpm) A.mask.length (Bs A.mask) ∧ (∀ k ∈ eyes (.slice aop A.pix.length cpp), w2.heap.size ≤ k) ∧ (∀ k ∈ eyes (.slice aom A.mask.length cpm), w2.heap.size ≤ k) ∧ Chg [] w2 wx)
    case first =>
      by_cases h0 : de = 0
      · have t1 : (de == 0) = true := by simpa using h0
        have eA : A = { actZ with kind := (kd : Int), n := n1, m := n2, key := n3, name := l4, other := l5, text := l6, mask := mk, shp := ds, pix := dp } := by
          rw [HAD.out.2.1, if_pos h0, HA.out.1]
        have HE := Lib.hid eA
        clear h0 eA
        obtain ⟨x0, x1, x2, x3, x4⟩ := Blk5 hbR
        have y7 := hb75.cell 7
        have f7 := hb75.frozen 7
        have y8 := hb75.cell 8
        have f8 := hb75.frozen 8
        have y9 := hb75.cell 9
        have f9 := hb75.frozen 9
        have y10 := hb75.cell 10
        have f10 := hb75.frozen 10
        have y11 := hb75.cell 11
        have f11 := hb75.frozen 11
        simp only [List.getElem?_toArray, List.getElem?_cons_succ, List.getElem?_cons_zero] at y7 y8 y9 y10 y11
        go_wp2_with fail
        go_meet
        have cS : Chg [K7] w5 (((((w5.setCell ⟨K7, 7, none⟩ (.int .i64 ds.w)).setCell ⟨K7, 8, none⟩ (.int .i64 ds.h)).setCell ⟨K7, 9, none⟩ (.int .i64 ds.c)).setCell ⟨K7, 10, none⟩ (.int .i64 ds.d)).setCell ⟨K7, 11, none⟩ (.slice aod dp.length cpd)) :=
          (((((Chg.refl [K7] w5).setCell (.inl (by simp)) _).setCell (.inl (by simp)) _).setCell (.inl (by simp)) _).setCell (.inl (by simp)) _).setCell (.inl (by simp)) _
        have bS := ((((hb75.set 7 (.int .i64 ds.w)).set 8 (.int .i64 ds.h)).set 9 (.int .i64 ds.c)).set 10 (.int .i64 ds.d)).set 11 (.slice aod dp.length cpd)
        rw [HE.out]
        exact ⟨aod, cpd, bS, seesU8 hds5 hb75 cS (by simp [notU8]), seesU8 hms5 hb75 cS (by simp [notU8]), hdn, hmn, cw5.trans cS fun k hk => by simp at hk; right; omega⟩
      · have t1 : (de == 0) = false := by simpa using h0
        have eA : A = { actZ with kind := (kd : Int), n := n1, m := n2, key := n3, name := l4, other := l5, text := l6, mask := mk } := by
          rw [HAD.out.2.1, if_neg h0, HA.out.1]
        have HE := Lib.hid eA
        clear h0 eA
        go_wp2_with fail
        go_meet
        rw [HE.out]
        exact ⟨none, 0, hb75, Sees.nil _ _, hms5, by simp [eyes], hmn, cw5⟩
    case rest =>
      obtain ⟨aop, cpp, hbA, hsp, hsm, hnp, hnm, cwc⟩ := hcut
      have hAf := HAD.out.2.2
      have cw6 := HA.out.2.2.2.1.nil cwc
      have hpr := print_all A (.slice aop A.pix.length cpp) (.slice aom A.mask.length cpm) wc (hT.chg cw6) hsp hsm (by rw [hAf.2.1.1]; omega) (by rw [hAf.2.1.2.1]; omega) (by rw [hAf.2.1.2.2.1]; omega) hAf.2.2 (by rw [hAf.2.1.2.2.2]; have := HA.out.2.2.2.2.2.1; omega)
        (fun n hn => by
          obtain ⟨⟨-, e1, e2, e3⟩, -⟩ := hAf
          obtain ⟨r1, r2, r3, -⟩ := HA.out.2.2.2.2.2.2
          rcases hn with rfl | rfl | rfl
          · rw [e1]; exact r1
          · rw [e2]; exact r2
          · rw [e3]; exact r3)
      have hPA : parseL s = if (prL A).2 ≠ 0 ∨ (prL A).1 ≠ s then (actZ, 4) else (A, 0) := by rw [HF.out.1, HAD.out.1]
      unfold prL at hPA
      unfold actV actL at hpr
      generalize (printL A (picL A).1 (picL A).2).1 = p1 at *
      generalize (printL A (picL A).1 (picL A).2).2 = p2 at *
      clear hAf hb75 hms5 hds5 hbR
      obtain ⟨nP, hnP⟩ : ∃ q, A.pix.length = q := ⟨_, rfl⟩
      obtain ⟨nM, hnM⟩ : ∃ q, A.mask.length = q := ⟨_, rfl⟩
      rw [hnP] at hbA hsp hnp hpr
      rw [hnM] at hbA hsm hnm hpr
      have HX := Lib.hid (And.intro hPA (And.intro hnP (And.intro hnM (And.intro hsp (And.intro hsm (And.intro hnp (And.intro hnm hbA)))))))
      clear hPA hnP hnM hsp hsm hnp hnm
      have aT : ∀ a : Array Value, a.size = 13 → ArrTy Tryz.prog 28 a.size := fun a h => by rw [h]; exact act_ty
      have aTA : ArrTy Tryz.prog 28 (#[Value.int .i64 A.kind, .int .i64 A.n, .int .i64 A.m, .string (str A.name), .string (str A.other), .string (str A.text), .int .i64 A.key, .int .i64 A.shp.w, .int .i64 A.shp.h, .int .i64 A.shp.c, .int .i64 A.shp.d, .slice aop nP cpp, .slice aom nM cpm] : Array Value).size := act_ty
      have aTZ : ArrTy Tryz.prog 28 (#[.int .i64 0, .int .i64 0, .int .i64 0, .string ⟨#[]⟩, .string ⟨#[]⟩, .string ⟨#[]⟩, .int .i64 0, .int .i64 0, .int .i64 0, .int .i64 0, .int .i64 0, .slice none 0 0, .slice none 0 0] : Array Value).size := act_ty
      go_wp2_with (with_reducible refine wpList_ldA rfl 28 _ rfl hbA aTA rfl ?_)
      refine hpr.mono ?_
      rintro e w6 ⟨rfl, c6⟩
      have hbA6 := hbA.chg0 c6
      have hbK6 := (HA.out.2.2.1.chg0 cwc).chg0 c6
      have cw7 := cw6.nil c6
      clear hpr hbA
      by_cases h2 : p2 = 0
      · have u1 : (p2 != 0) = false := by simpa using h2
        by_cases h1 : p1 = s
        · have u2 : ((str p1).toList == (str s).toList) = true := by rw [str_eq]; simpa using h1
          have hz : parseL s = (A, 0) := by rw [HX.out.1, if_neg (by simp [h1, h2])]
          have HZ := Lib.hid hz
          clear hz h1 h2
          go_wp2_with (first | (with_reducible refine wpList_ldA rfl 28 _ rfl hbA6 aTA rfl ?_) | (with_reducible refine wpList_stA rfl 28 _ _ rfl hbK6 aTA rfl (by simp [Value.oneCell']) rfl rfl ?_; intro w20 hb20 c20 hs20))
          refine bodyPost_ret (results_AT rfl _ _ hb20 aTA rfl) rfl ⟨.slice aop nP cpp, .slice aom nM cpm, ?_⟩
          rw [HZ.out]
          obtain ⟨-, hnP, hnM, hsp, hsm, hnp, hnm, -⟩ := HX.out
          have cs2 := HA.out.2.2.2.1.size
          refine ⟨rfl, ⟨?_, ?_, fun k hk => by have := hnp k hk; omega, fun k hk => by have := hnm k hk; omega⟩, cw7.trans c20 fun k hk => by simp at hk; right; omega⟩
          · simp only; rw [hnP]; exact seesU8 (hsp.chg0 c6) hbK6 c20 (by simp [notU8])
          · simp only; rw [hnM]; exact seesU8 (hsm.chg0 c6) hbK6 c20 (by simp [notU8])
        · have u2 : ((str p1).toList == (str s).toList) = false := by rw [str_eq]; simpa using h1
          have hz : parseL s = (actZ, 4) := by rw [HX.out.1, if_pos (.inr h1)]
          have HZ := Lib.hid hz
          clear hz h1 h2
          go_wp2_with (with_reducible refine wpList_stA rfl 28 _ _ rfl hbK6 aTZ rfl (by simp [Value.oneCell']) rfl rfl ?_; intro w20 hb20 c20 hs20)
          refine bodyPost_ret (results_AT rfl _ _ hb20 aTZ rfl) rfl ⟨.slice none 0 0, .slice none 0 0, ?_⟩
          rw [HZ.out]
          exact ⟨rfl, ⟨Sees.nil _ _, Sees.nil _ _, by simp [eyes], by simp [eyes]⟩, cw7.trans c20 fun k hk => by simp at hk; right; omega⟩
      · have u1 : (p2 != 0) = true := by simpa using h2
        have hz : parseL s = (actZ, 4) := by rw [HX.out.1, if_pos (.inl h2)]
        have HZ := Lib.hid hz
        clear hz h2
        go_wp2_with (with_reducible refine wpList_stA rfl 28 _ _ rfl hbK6 aTZ rfl (by simp [Value.oneCell']) rfl rfl ?_; intro w20 hb20 c20 hs20)
        refine bodyPost_ret (results_AT rfl _ _ hb20 aTZ rfl) rfl ⟨.slice none 0 0, .slice none 0 0, ?_⟩
        rw [HZ.out]
        exact ⟨rfl, ⟨Sees.nil _ _, Sees.nil _ _, by simp [eyes], by simp [eyes]⟩, cw7.trans c20 fun k hk => by simp at hk; right; omega⟩
end Go.Proofs.YtfammoidikdbpaaGreatDoor

/- A printed act's words, in plain Lean. No statement of the seat is proved here. -/
namespace Go.Aq.Wd
/-- Bytes that are read as one word t, if a blank or nothing stands behind them. -/
structure GoodW (w t : List UInt8) : Prop where
  ne : w ≠ []
  hd : w.headD 0 ≠ 32
  rd : ∀ tl : List UInt8, tl = [] ∨ tl.headD 0 = 32 → wordW (w ++ tl) = (t, w.length, 0)
theorem good_plain (w : List UInt8) (h : plainB w) (hne : w ≠ []) : GoodW w w :=
  ⟨hne, by have := head_plain w [] h hne; simpa using this, fun tl ht => wordW_plain w tl h hne ht⟩
theorem good_quote (rs : List Nat) (ok : ∀ c ∈ rs, okR c) : GoodW (quoteR rs) (encL rs) :=
  ⟨by simp [quoteR], by simp [quoteR], fun tl ht => wordW_quote rs ok tl ht⟩
theorem good_quoteL (l : List UInt8) (h : (quoteL l).2 = 0) : GoodW (quoteL l).1 l := by
  unfold quoteL at h ⊢
  cases hs : sigs l with
  | none => rw [hs] at h; cases h
  | some rs =>
    obtain ⟨e1, ok⟩ := sigs_enc hs
    have hg := good_quote rs ok
    rw [← e1] at hg
    exact hg
def gapJ (l : List (List UInt8)) : List UInt8 := l.flatMap fun y => [32] ++ y
theorem gapJ_head (l : List (List UInt8)) : gapJ l = [] ∨ (gapJ l).headD 0 = 32 := by
  cases l with
  | nil => left; rfl
  | cons a r => right; simp [gapJ]
theorem words_step (N f b : Nat) (w t : List UInt8) (r : List (List UInt8)) (acc : List (List UInt8)) (h : GoodW w t) (ha : acc.length < 50) :
    wordsF N (f + 1) (List.replicate b 32 ++ (w ++ gapJ r)) acc = wordsF N f (gapJ r) (acc ++ [t]) := by
  have hhd : (w ++ gapJ r).headD 0 ≠ 32 := by
    have h1 := h.hd
    have h2 := h.ne
    cases w with
    | nil => exact absurd rfl h2
    | cons x u => simpa using h1
  have hb := blanks_rep b _ hhd
  have hw := h.rd (gapJ r) (gapJ_head r)
  simp only [wordsF, hb, drop_rep, hw]
  rw [if_neg (by simp [h.ne]), if_neg (by omega), if_neg (by simp), List.drop_left]
theorem words_join : ∀ (ws : List (List UInt8 × List UInt8)) (N f : Nat) (acc : List (List UInt8)), (∀ p ∈ ws, GoodW p.1 p.2) → acc.length + ws.length ≤ 50 → ws.length < f →
    wordsF N f (gapJ (ws.map (·.1))) acc = (acc ++ ws.map (·.2), 0, 0)
  | [], N, f + 1, acc, _, _, _ => by simp [gapJ, wordsF, blanks]
  | p :: r, N, f + 1, acc, h, hk, hf => by
    have e : gapJ ((p :: r).map (·.1)) = List.replicate 1 32 ++ (p.1 ++ gapJ (r.map (·.1))) := by simp [gapJ]
    rw [e, words_step N f 1 p.1 p.2 _ acc (h p (by simp)) (by simp at hk; omega), words_join r N f _ (fun q hq => h q (by simp [hq])) (by simp at hk ⊢; omega) (by simp at hf; omega)]
    simp
theorem words_joinB (b : Nat) (p : List UInt8 × List UInt8) (r : List (List UInt8 × List UInt8)) (h : ∀ q ∈ p :: r, GoodW q.1 q.2) (hk : r.length < 50) :
    wordsL (List.replicate b 32 ++ joinB ((p :: r).map (·.1))) = ((p :: r).map (·.2), 0, 0) := by
  have e : joinB ((p :: r).map (·.1)) = p.1 ++ gapJ (r.map (·.1)) := rfl
  have hl : r.length ≤ (gapJ (r.map (·.1))).length := by
    clear h hk e
    induction r with
    | nil => simp
    | cons a t ih => simp only [gapJ, List.map_cons, List.flatMap_cons, List.length_append, List.length_cons] at ih ⊢; omega
  have hp : 1 ≤ p.1.length := List.length_pos_iff.2 (h p (by simp)).ne
  unfold wordsL
  rw [e, words_step _ _ b p.1 p.2 _ [] (h p (by simp)) (by simp), words_join r _ _ _ (fun q hq => h q (by simp [hq])) (by simp; omega) (by simp; omega)]
  simp
end Go.Aq.Wd
namespace Go.Aq.Wd
theorem dec_plain : ∀ (n : Nat), plainB (Lib.decDigits n) ∧ Lib.decDigits n ≠ []
  | n => by
    rw [Lib.decDigits]
    split
    · rename_i h
      refine ⟨fun x hx => ?_, by simp⟩
      simp only [List.mem_singleton] at hx
      subst hx
      rw [u8n _ (by omega)]
      refine ⟨by omega, by omega, fun e => ?_⟩
      have := congrArg UInt8.toNat e
      rw [u8n _ (by omega)] at this
      have h34 : (34 : UInt8).toNat = 34 := rfl
      omega
    · rename_i h
      obtain ⟨h1, h2⟩ := dec_plain (n / 10)
      refine ⟨fun x hx => ?_, by simp⟩
      rcases List.mem_append.1 hx with hx | hx
      · exact h1 x hx
      · simp only [List.mem_singleton] at hx
        subst hx
        rw [u8n _ (by omega)]
        refine ⟨by omega, by omega, fun e => ?_⟩
        have := congrArg UInt8.toNat e
        rw [u8n _ (by omega)] at this
        have h34 : (34 : UInt8).toNat = 34 := rfl
        omega
theorem decI_plain (n : Int) : plainB (decI n) ∧ decI n ≠ [] := by
  unfold decI Lib.itoa
  split
  · obtain ⟨h1, h2⟩ := dec_plain n.natAbs
    refine ⟨fun x hx => ?_, by simp⟩
    rcases List.mem_cons.1 hx with rfl | hx
    · decide
    · exact h1 x hx
  · exact dec_plain n.toNat
theorem hex_plain (b : List UInt8) : plainB (hexL b) := by
  intro x hx
  unfold hexL at hx
  obtain ⟨c, -, hx⟩ := List.mem_flatMap.1 hx
  have key : ∀ d, d < 16 → 33 ≤ (hxD d).toNat ∧ (hxD d).toNat ≤ 126 ∧ hxD d ≠ 34 := by decide +kernel
  have hc := c.toNat_lt
  simp only [List.mem_cons, List.not_mem_nil, or_false] at hx
  rcases hx with rfl | rfl
  · exact key _ (by omega)
  · exact key _ (by omega)
theorem digits_plain (b : List UInt8) : plainB (digitsL b) ∧ digitsL b ≠ [] := by
  unfold digitsL
  split
  · exact ⟨fun x hx => by simp at hx; subst hx; decide, by simp⟩
  · rename_i h
    refine ⟨hex_plain b, fun e => ?_⟩
    have := congrArg List.length e
    rw [hexL_length] at this
    have h0 := List.length_pos_iff.2 h
    simp only [List.length_nil] at this
    omega
theorem pic_plain (a : ActD) : plainB (picL a).1 ∧ (picL a).1 ≠ [] := by
  unfold picL
  split
  · exact ⟨fun x hx => by simp at hx; subst hx; decide, by simp⟩
  · exact digits_plain _
theorem kind_plain : ∀ w ∈ kindL, plainB w ∧ w ≠ [] := by
  have h : ∀ w ∈ kindL, (∀ x ∈ w, 33 ≤ x.toNat ∧ x.toNat ≤ 126 ∧ x ≠ 34) ∧ w ≠ [] := by decide +kernel
  exact h
/-- A printed act's words, as they stand and as they are read. -/
def wordsP (a : ActD) : List (List UInt8 × List UInt8) :=
  [(kindL.getD (a.kind - 1).toNat [], kindL.getD (a.kind - 1).toNat []), (decI a.n, decI a.n), (decI a.m, decI a.m), (decI a.key, decI a.key), ((quoteL a.name).1, a.name), ((quoteL a.other).1, a.other), ((quoteL a.text).1, a.text), ((picL a).1, (picL a).1), (digitsL a.mask, digitsL a.mask)]
theorem prL_ok (a : ActD) (h : (prL a).2 = 0) : (1 ≤ a.kind ∧ a.kind ≤ 14) ∧ (∀ x ∈ [a.name, a.other, a.text], (quoteL x).2 = 0) ∧ (picL a).2 = 0 ∧ (prL a).1 = joinB ((wordsP a).map (·.1)) := by
  unfold prL printL at h ⊢
  by_cases h1 : 1 ≤ a.kind ∧ a.kind ≤ 14
  · rw [if_neg (by simpa using h1)] at h ⊢
    by_cases h2 : ∃ x ∈ [a.name, a.other, a.text], (quoteL x).2 ≠ 0
    · rw [if_pos h2] at h; exact absurd h (by decide)
    · rw [if_neg h2] at h ⊢
      by_cases h3 : (picL a).2 = 0
      · rw [if_neg (by simpa using h3)]
        exact ⟨h1, fun x hx => Classical.byContradiction fun hc => h2 ⟨x, hx, hc⟩, h3, rfl⟩
      · rw [if_pos h3] at h; exact absurd h h3
  · rw [if_pos h1] at h; exact absurd h (by decide)
theorem prL_bad (a : ActD) (h : (prL a).2 ≠ 0) : (prL a).1 = [] := by
  unfold prL printL at h ⊢
  split
  · rfl
  · split
    · rfl
    · split
      · rfl
      · rename_i h1 h2 h3
        rw [if_neg h1, if_neg h2, if_neg h3] at h
        exact absurd rfl h
theorem wordsP_good (a : ActD) (h : (prL a).2 = 0) : ∀ p ∈ wordsP a, GoodW p.1 p.2 := by
  obtain ⟨hk, hq, -, -⟩ := prL_ok a h
  have hkm : kindL.getD (a.kind - 1).toNat [] ∈ kindL := by
    have hl : (a.kind - 1).toNat < kindL.length := by have : kindL.length = 14 := rfl; omega
    rw [List.getD_eq_getElem?_getD, List.getElem?_eq_getElem hl]
    exact List.getElem_mem hl
  have g1 := kind_plain _ hkm
  intro p hp
  simp only [wordsP, List.mem_cons, List.not_mem_nil, or_false] at hp
  rcases hp with rfl | rfl | rfl | rfl | rfl | rfl | rfl | rfl | rfl
  · exact good_plain _ g1.1 g1.2
  · exact good_plain _ (decI_plain _).1 (decI_plain _).2
  · exact good_plain _ (decI_plain _).1 (decI_plain _).2
  · exact good_plain _ (decI_plain _).1 (decI_plain _).2
  · exact good_quoteL _ (hq _ (by simp))
  · exact good_quoteL _ (hq _ (by simp))
  · exact good_quoteL _ (hq _ (by simp))
  · exact good_plain _ (pic_plain _).1 (pic_plain _).2
  · exact good_plain _ (digits_plain _).1 (digits_plain _).2
theorem printed_words (a : ActD) (h : (prL a).2 = 0) (b : Nat) : wordsL (List.replicate b 32 ++ (prL a).1) = ((wordsP a).map (·.2), 0, 0) := by
  rw [(prL_ok a h).2.2.2]
  exact words_joinB b _ _ (wordsP_good a h) (by simp)
theorem printed_more (a : ActD) (h : (prL a).2 = 0) : wordsL ((prL a).1 ++ [32, 120]) = ((wordsP a).map (·.2) ++ [[120]], 0, 0) := by
  rw [(prL_ok a h).2.2.2]
  have e : joinB ((wordsP a).map (·.1)) ++ [32, 120] = List.replicate 0 32 ++ joinB ((wordsP a ++ [(([120] : List UInt8), ([120] : List UInt8))]).map fun p => p.1) := by simp [joinB, wordsP]
  rw [e]
  have hg : ∀ p ∈ wordsP a ++ [(([120] : List UInt8), ([120] : List UInt8))], GoodW p.1 p.2 := by
    intro p hp
    rcases List.mem_append.1 hp with hp | hp
    · exact wordsP_good a h p hp
    · simp only [List.mem_singleton] at hp; subst hp
      exact good_plain _ (fun x hx => by simp at hx; subst hx; decide) (by simp)
  have hw := words_joinB 0 _ _ hg (by simp)
  rw [show (wordsP a ++ [(([120] : List UInt8), ([120] : List UInt8))]) = _ :: _ from rfl]
  rw [hw]; rfl
theorem printed_few (a : ActD) (h : (prL a).2 = 0) : (wordsL (kindL.getD (a.kind - 1).toNat [] ++ [32, 48, 32, 48, 32, 48])).2.2 = 0 ∧ (wordsL (kindL.getD (a.kind - 1).toNat [] ++ [32, 48, 32, 48, 32, 48])).1.length = 4 := by
  have hg := wordsP_good a h (kindL.getD (a.kind - 1).toNat [], kindL.getD (a.kind - 1).toNat []) (by simp [wordsP])
  have g0 : GoodW [48] [48] := good_plain _ (fun x hx => by simp at hx; subst hx; decide) (by simp)
  have hw := words_joinB 0 (kindL.getD (a.kind - 1).toNat [], kindL.getD (a.kind - 1).toNat []) [([48], [48]), ([48], [48]), ([48], [48])] (by
    intro q hq
    simp only [List.mem_cons, List.not_mem_nil, or_false] at hq
    rcases hq with rfl | rfl | rfl | rfl
    · exact hg
    · exact g0
    · exact g0
    · exact g0) (by simp)
  have e : kindL.getD (a.kind - 1).toNat [] ++ [32, 48, 32, 48, 32, 48] = List.replicate 0 32 ++ joinB ([(kindL.getD (a.kind - 1).toNat [], kindL.getD (a.kind - 1).toNat []), (([48] : List UInt8), ([48] : List UInt8)), ([48], [48]), ([48], [48])].map (·.1)) := by simp [joinB]
  rw [e, hw]
  exact ⟨rfl, rfl⟩
theorem prL_head (a : ActD) (r : List UInt8) : (prL a).2 ≠ 0 ∨ (prL a).1 ≠ 32 :: r := by
  by_cases h : (prL a).2 = 0
  · right
    intro e
    have hg := wordsP_good a h (kindL.getD (a.kind - 1).toNat [], kindL.getD (a.kind - 1).toNat []) (by simp [wordsP])
    rw [(prL_ok a h).2.2.2] at e
    have hh := hg.hd
    have hn := hg.ne
    simp only [wordsP, List.map_cons, joinB] at e
    cases hk : kindL.getD (a.kind - 1).toNat [] with
    | nil => exact hn hk
    | cons x u =>
      simp only [hk] at e hh
      simp at e hh
      exact hh e.1
  · exact .inl h
theorem joinB_min (x : List UInt8) (r : List (List UInt8)) (hx : x ≠ []) (h : ∀ y ∈ r, y ≠ []) : 1 + 2 * r.length ≤ (joinB (x :: r)).length := by
  have h1 := List.length_pos_iff.2 hx
  have h2 : 2 * r.length ≤ (r.flatMap fun y => [(32 : UInt8)] ++ y).length := by
    clear hx h1
    induction r with
    | nil => simp
    | cons y t ih =>
      have hy := List.length_pos_iff.2 (h y (by simp))
      have := ih fun z hz => h z (by simp [hz])
      simp only [List.flatMap_cons, List.length_append, List.length_cons, List.length_nil]
      omega
  simp only [joinB, List.length_append]
  omega
theorem printed_len (a : ActD) (h : (prL a).2 = 0) : 17 ≤ (prL a).1.length := by
  rw [(prL_ok a h).2.2.2]
  have hg := wordsP_good a h
  have := joinB_min (kindL.getD (a.kind - 1).toNat []) ((wordsP a).tail.map (·.1)) (hg (kindL.getD (a.kind - 1).toNat [], kindL.getD (a.kind - 1).toNat []) (by simp [wordsP])).ne (fun y hy => by
    obtain ⟨p, hp, rfl⟩ := List.mem_map.1 hy
    exact (hg p (List.mem_of_mem_tail hp)).ne)
  exact this
end Go.Aq.Wd

/- A printed act is read as it, in plain Lean. No statement of the seat is proved here. -/
namespace Go.Aq.Wd
theorem dec_digit : ∀ (n : Nat), (∀ x ∈ Lib.decDigits n, 48 ≤ x.toNat ∧ x.toNat ≤ 57) ∧ Lib.decDigits n ≠ []
  | n => by
    rw [Lib.decDigits]
    split
    · rename_i h
      refine ⟨fun x hx => ?_, by simp⟩
      simp only [List.mem_singleton] at hx
      subst hx
      rw [u8n _ (by omega)]; omega
    · obtain ⟨h1, h2⟩ := dec_digit (n / 10)
      refine ⟨fun x hx => ?_, by simp⟩
      rcases List.mem_append.1 hx with hx | hx
      · exact h1 x hx
      · simp only [List.mem_singleton] at hx
        subst hx
        rw [u8n _ (by omega)]; omega
theorem pu_snoc (d : UInt8) : ∀ (l : List UInt8) (acc u : Nat), Lib.parseUint10 acc l = .ok u → Lib.parseUint10 acc (l ++ [d]) = Lib.parseUint10 u [d]
  | [], acc, u, h => by
    simp only [Lib.parseUint10] at h
    injection h with h
    rw [h]; rfl
  | c :: r, acc, u, h => by
    simp only [Lib.parseUint10, List.cons_append] at h ⊢
    split at h
    · split at h
      · cases h
      · split at h
        · cases h
        · rename_i h1 h2 h3
          rw [if_pos h1, if_neg h2, if_neg h3]
          exact pu_snoc d r _ u h
    · cases h
theorem pu_dec : ∀ (m : Nat), m ≤ 9223372036854775807 → Lib.parseUint10 0 (Lib.decDigits m) = .ok m
  | m, hm => by
    rw [Lib.decDigits]
    split
    · rename_i h
      simp only [Lib.parseUint10]
      rw [u8n _ (by omega)]
      rw [if_pos (by omega), if_neg (by omega), if_neg (by omega)]
      congr 1; omega
    · rename_i h
      have ih := pu_dec (m / 10) (by omega)
      rw [pu_snoc _ _ _ _ ih]
      simp only [Lib.parseUint10]
      rw [u8n _ (by omega)]
      rw [if_pos (by omega), if_neg (by omega), if_neg (by omega)]
      congr 1; omega
theorem num_dec (n : Int) (h : -9223372036854775807 ≤ n ∧ n ≤ 9223372036854775807) : numL (decI n) = n := by
  unfold numL decI Lib.itoa
  by_cases h0 : n < 0
  · rw [if_pos h0]
    have hp := pu_dec n.natAbs (by omega)
    have hm : Lib.parseMag (Lib.decDigits n.natAbs) = .ok n.natAbs := by
      unfold Lib.parseMag; rw [if_neg (dec_digit _).2]; exact hp
    have : Lib.atoiAll (45 :: Lib.decDigits n.natAbs) = .ok n := by
      unfold Lib.atoiAll
      have h45 : (45 : UInt8).toNat = 45 := rfl
      simp only [h45]
      rw [if_pos (Or.inr trivial), hm]
      simp only
      rw [if_neg (by simp), if_neg (by rintro ⟨-, h⟩; omega), if_pos trivial]
      congr 1; omega
    rw [this]
  · rw [if_neg h0]
    have hp := pu_dec n.toNat (by omega)
    obtain ⟨hd, hne⟩ := dec_digit n.toNat
    have hm : Lib.parseMag (Lib.decDigits n.toNat) = .ok n.toNat := by
      unfold Lib.parseMag; rw [if_neg hne]; exact hp
    have : Lib.atoiAll (Lib.decDigits n.toNat) = .ok n := by
      cases hl : Lib.decDigits n.toNat with
      | nil => exact absurd hl hne
      | cons c r =>
        have hc := hd c (by rw [hl]; simp)
        rw [hl] at hm
        unfold Lib.atoiAll
        simp only
        rw [if_neg (by omega), hm]
        simp only
        rw [if_neg (by omega), if_neg (by omega), if_neg (by omega)]
        congr 1; omega
    rw [this]
theorem unhex_hexL : ∀ b : List UInt8, unhexL (hexL b) = some b := by
  have key : ∀ n, n < 256 → ¬ (unD (hxD (n / 16)) < 0 ∨ unD (hxD (n % 16)) < 0) ∧ UInt8.ofNat (16 * (unD (hxD (n / 16))).toNat + (unD (hxD (n % 16))).toNat) = UInt8.ofNat n := by decide +kernel
  intro b
  induction b with
  | nil => rfl
  | cons x t ih =>
    have e : hexL (x :: t) = hxD (x.toNat / 16) :: hxD (x.toNat % 16) :: hexL t := by simp [hexL]
    obtain ⟨k1, k2⟩ := key x.toNat x.toNat_lt
    rw [e]
    simp only [unhexL]
    rw [if_neg k1, ih, k2]
    simp
theorem bytes_digits (b : List UInt8) : bytesL (digitsL b) = b := by
  unfold bytesL digitsL
  split
  · rename_i h; subst h; rfl
  · rw [unhex_hexL]; rfl
theorem kind_back : ∀ k, k < 14 → kindN (kindL.getD k []) = k + 1 := by decide +kernel
end Go.Aq.Wd
namespace Go.Aq
theorem be2 : ∀ (n : Nat), n < 65536 → beVal (beB n 2) = n := by
  intro n hn
  have e : beB n 2 = [UInt8.ofNat (n / 256), UInt8.ofNat n] := by
    simp [beB, leB, List.range_succ]
  rw [e]
  have h1 := Wd.u8n (n / 256) (by omega)
  have h2 : (UInt8.ofNat n).toNat = n % 256 := UInt8.toNat_ofNat'
  simp only [beVal, List.foldl_cons, List.foldl_nil, h1, h2]
  omega
theorem pix_dec_enc (s : ShpD) (px : List UInt8) (hm : mayPix s px.length = true) : decPL (encP s px) = (s, px, 0) := by
  have hm' := hm
  unfold mayPix at hm'
  simp only [Bool.and_eq_true, beq_iff_eq] at hm'
  obtain ⟨hms, hsz⟩ := hm'
  have hnum : numsB s = true := by unfold maySh at hms; simp only [Bool.and_eq_true] at hms; exact hms.1
  obtain ⟨hw, hh, hc, hd⟩ := (numsB_iff s).1 hnum
  have hl := encP_len s px
  have e : encP s px = 82 :: UInt8.ofNat (s.w.toNat / 256) :: UInt8.ofNat s.w.toNat :: UInt8.ofNat (s.h.toNat / 256) :: UInt8.ofNat s.h.toNat :: UInt8.ofNat s.c.toNat :: UInt8.ofNat s.d.toNat :: px := by
    simp [encP, beB, leB, List.range_succ]
  have e1 : (encP s px).drop 7 = px := by rw [e]; rfl
  have e2 : ((encP s px).drop 1).take 2 = beB s.w.toNat 2 := by rw [e]; simp [beB, leB, List.range_succ]
  have e3 : ((encP s px).drop 3).take 2 = beB s.h.toNat 2 := by rw [e]; simp [beB, leB, List.range_succ]
  have e4 : ((encP s px).getD 5 0).toNat = s.c.toNat := by rw [e]; exact Wd.u8n _ (by omega)
  have e5 : ((encP s px).getD 6 0).toNat = s.d.toNat := by rw [e]; exact Wd.u8n _ (by rcases hd with h | h <;> omega)
  have e0 : ((encP s px).getD 0 0).toNat = 82 := by rw [e]; rfl
  have hS : shpAt (encP s px) = s := by
    unfold shpAt
    rw [e2, e3, e4, e5, be2 _ (by omega), be2 _ (by omega)]
    obtain ⟨w, h, c, d⟩ := s
    simp only at hw hh hc hd ⊢
    congr 1 <;> (try (rcases hd with h | h)) <;> omega
  unfold decPL
  rw [if_neg (by omega), hS, if_neg (fun h => h ⟨e0, hms⟩), hl, show 7 + px.length - 7 = px.length by omega, if_neg (by omega), if_neg (by omega), e1]
end Go.Aq
namespace Go.Aq.Wd
/-- A printed act is read as it. -/
theorem actP_back (a : ActD) (h : (prL a).2 = 0) (hr : ∀ n, n = a.n ∨ n = a.m ∨ n = a.key → -9223372036854775807 ≤ n ∧ n ≤ 9223372036854775807) : actP ((wordsP a).map (·.2)) = a := by
  obtain ⟨hk, hq, hp, -⟩ := prL_ok a h
  have hW : actW ((wordsP a).map (·.2)) = { a with shp := shpZ, pix := [] } := by
    have e1 := num_dec a.n (hr _ (.inl rfl))
    have e2 := num_dec a.m (hr _ (.inr (.inl rfl)))
    have e3 := num_dec a.key (hr _ (.inr (.inr rfl)))
    have e4 := bytes_digits a.mask
    have e5 : ((kindN (kindL.getD (a.kind - 1).toNat []) : Nat) : Int) = a.kind := by rw [kind_back _ (by omega)]; omega
    show ({ actZ with kind := ((kindN (kindL.getD (a.kind - 1).toNat []) : Nat) : Int), n := numL (decI a.n), m := numL (decI a.m), key := numL (decI a.key), name := a.name, other := a.other, text := a.text, mask := bytesL (digitsL a.mask) } : ActD) = _
    rw [e1, e2, e3, e4, e5]
    rfl
  have h7 : ((wordsP a).map (·.2)).getD 7 [] = (picL a).1 := rfl
  unfold actP
  rw [h7, hW]
  obtain ⟨kind, n, m, name, other, text, key, shp, pix, mask⟩ := a
  obtain ⟨sw, sh, sc, sd⟩ := shp
  unfold picL at hp ⊢
  simp only at hp ⊢
  split
  · rename_i hz
    obtain ⟨rfl, rfl, rfl, rfl, h0⟩ := hz
    have : pix = [] := List.eq_nil_of_length_eq_zero h0
    subst this
    rfl
  · rename_i hz
    rw [if_neg hz] at hp
    simp only at hp ⊢
    rw [bytes_digits]
    unfold encPL at hp ⊢
    split at hp
    · rename_i hm
      rw [if_pos hm]
      simp only
      rw [pix_dec_enc _ _ hm]
      simp
    · exact absurd hp (by decide)
theorem parse_back (a : ActD) (h : (prL a).2 = 0) (hr : ∀ n, n = a.n ∨ n = a.m ∨ n = a.key → -9223372036854775807 ≤ n ∧ n ≤ 9223372036854775807) : parseL (prL a).1 = (a, 0) := by
  have hw := printed_words a h 0
  rw [List.replicate_zero, List.nil_append] at hw
  have hb := actP_back a h hr
  unfold parseL
  rw [hw]
  have e1 : ((wordsP a).map (·.2)).length = 9 := rfl
  rw [if_neg (by simp), if_neg (by simp only [e1]; omega), if_neg (by simp only [e1]; omega)]
  simp only
  rw [hb, if_neg (by simp [h])]
/-- What is read well is printed just so. -/
theorem parse_ok (s : List UInt8) (h : (parseL s).2 = 0) : prL (parseL s).1 = (s, 0) := by
  unfold parseL at h ⊢
  split
  · rename_i h0; rw [if_pos h0] at h; exact absurd h (by simp only; omega)
  · rename_i h0
    rw [if_neg h0] at h
    split
    · rename_i h1; rw [if_pos h1] at h; exact absurd h (by decide)
    · rename_i h1
      rw [if_neg h1] at h
      split
      · rename_i h2; rw [if_pos h2] at h; exact absurd h (by decide)
      · rename_i h2
        rw [if_neg h2] at h
        split
        · rename_i h3; rw [if_pos h3] at h; exact absurd h (by decide)
        · rename_i h3
          simp only
          have h4 : (prL (actP (wordsL s).1)).2 = 0 := Classical.byContradiction fun hc => h3 (.inl hc)
          have h5 : (prL (actP (wordsL s).1)).1 = s := Classical.byContradiction fun hc => h3 (.inr hc)
          exact Prod.ext h5 h4
theorem parse_err (s : List UInt8) (h : (parseL s).2 ≠ 0) : (parseL s).1 = actZ := by
  unfold parseL at h ⊢
  repeat' split
  all_goals first | rfl | skip
  rename_i h0 h1 h2 h3
  rw [if_neg h0, if_neg h1, if_neg h2, if_neg h3] at h
  exact absurd rfl h
end Go.Aq.Wd

/- Decimal digits in plain Lean: what a text of digits is worth. No statement of the seat is proved here. -/
namespace Go.Aq.Wd
def valD (l : List UInt8) : Nat := l.foldl (fun a d => 10 * a + (d.toNat - 48)) 0
theorem valD_snoc (l : List UInt8) (d : UInt8) : valD (l ++ [d]) = 10 * valD l + (d.toNat - 48) := by simp [valD]
theorem u8k (n : Nat) (h : n < 256) : (UInt8.ofNat n).toNat = n := by simp; omega
theorem valD_dec : ∀ (m : Nat), valD (Lib.decDigits m) = m := by
  intro m
  induction m using Nat.strongRecOn with
  | _ m ih =>
    rw [Lib.decDigits]
    split
    · rename_i h
      show 10 * 0 + ((UInt8.ofNat (48 + m)).toNat - 48) = m
      rw [u8k _ (by omega)]; omega
    · rename_i h
      rw [valD_snoc, ih (m / 10) (by omega), u8k _ (by omega)]; omega
theorem valD_app : ∀ (b a : List UInt8), valD a ≤ valD (a ++ b)
  | [], a => by simp
  | d :: b, a => by
    have := valD_app b (a ++ [d])
    rw [valD_snoc, List.append_assoc] at this
    simp only [List.cons_append, List.nil_append] at this
    omega
theorem valD_take (l : List UInt8) (i : Nat) : valD (l.take i) ≤ valD l := by
  have := valD_app (l.drop i) (l.take i)
  rwa [List.take_append_drop] at this
theorem dec_digits : ∀ (n : Nat), (∀ x ∈ Lib.decDigits n, 48 ≤ x.toNat ∧ x.toNat ≤ 57) ∧ Lib.decDigits n ≠ [] := by
  intro n
  induction n using Nat.strongRecOn with
  | _ n ih =>
    rw [Lib.decDigits]
    split
    · rename_i h
      refine ⟨fun x hx => ?_, by simp⟩
      rw [List.mem_singleton.1 hx, u8k _ (by omega)]; omega
    · rename_i h
      refine ⟨fun x hx => ?_, by simp⟩
      rcases List.mem_append.1 hx with h1 | h1
      · exact (ih (n / 10) (by omega)).1 x h1
      · rw [List.mem_singleton.1 h1, u8k _ (by omega)]; omega
theorem dec_lenk : ∀ (k n : Nat), n < 10 ^ (k + 1) → (Lib.decDigits n).length ≤ k + 1
  | 0, n, h => by rw [Lib.decDigits, dif_pos (by omega)]; simp
  | k + 1, n, h => by
    rw [Lib.decDigits]
    split
    · simp
    · have := dec_lenk k (n / 10) (by rw [Nat.pow_succ] at h; omega)
      rw [List.length_append]; simp; omega
theorem dec_len19 (n : Nat) (h : n ≤ 9223372036854775808) : (Lib.decDigits n).length ≤ 19 := dec_lenk 18 n (by omega)
/-- The text is a number's, as it is printed. -/
def IsNum (s : List UInt8) (u : Int) : Prop := s = Lib.itoa u ∧ -9223372036854775808 ≤ u ∧ u ≤ 9223372036854775807
/-- Its digits, behind the sign. -/
def digD (s : List UInt8) : List UInt8 := if s.head? = some 45 then s.tail else s
theorem itoa_neg {u : Int} (h : u < 0) : Lib.itoa u = 45 :: Lib.decDigits u.natAbs := by unfold Lib.itoa; rw [if_pos h]
theorem itoa_pos {u : Int} (h : ¬ u < 0) : Lib.itoa u = Lib.decDigits u.natAbs := by
  unfold Lib.itoa; rw [if_neg h]; congr 1; omega
theorem dec_head (n : Nat) : (Lib.decDigits n).head? ≠ some 45 := by
  intro h
  obtain ⟨h1, h2⟩ := dec_digits n
  cases hl : Lib.decDigits n with
  | nil => exact h2 hl
  | cons a t =>
    rw [hl] at h h1
    simp at h
    have := (h1 a (by simp)).1
    rw [h] at this
    exact absurd this (by decide)
theorem IsNum.digs {s : List UInt8} {u : Int} (h : IsNum s u) : digD s = Lib.decDigits u.natAbs ∧ (s.head? = some 45 ↔ u < 0) := by
  unfold digD
  by_cases hu : u < 0
  · rw [h.1, itoa_neg hu]
    simp [hu]
  · rw [h.1, itoa_pos hu, if_neg (dec_head _)]
    exact ⟨rfl, fun e => absurd e (dec_head _), fun e => absurd e hu⟩
theorem IsNum.val {s : List UInt8} {u : Int} (h : IsNum s u) : valD (digD s) = u.natAbs := by rw [h.digs.1, valD_dec]
theorem IsNum.one {s : List UInt8} {u v : Int} (h : IsNum s u) (k : IsNum s v) : u = v := by
  have h1 := h.val
  have h2 := k.val
  have h3 := h.digs.2
  have h4 := k.digs.2
  rw [h1] at h2
  by_cases hu : u < 0
  · have := h4.1 (h3.2 hu); omega
  · have : ¬ v < 0 := fun hv => hu (h3.1 (h4.2 hv)); omega
theorem no_digit {s : List UInt8} {i : Nat} (hi : i < (digD s).length) (h : ¬ (48 ≤ ((digD s)[i]).toNat ∧ ((digD s)[i]).toNat ≤ 57)) (u : Int) : ¬ IsNum s u := fun k => by
  have hm := List.getElem_mem hi
  have hd := k.digs.1
  refine h ((dec_digits u.natAbs).1 _ ?_)
  rw [← hd]; exact hm
theorem too_much {s : List UInt8} {i : Nat} (h : 9223372036854775808 < valD ((digD s).take i)) (u : Int) : ¬ IsNum s u := fun k => by
  have h1 := valD_take (digD s) i
  have h2 := k.val
  have h3 := k.2
  omega
theorem too_long {s : List UInt8} (h : (digD s).length < 1 ∨ 19 < (digD s).length) (u : Int) : ¬ IsNum s u := fun k => by
  have h1 := k.digs.1
  rw [h1] at h
  have h2 := (dec_digits u.natAbs).2
  have h3 := dec_len19 u.natAbs (by have := k.2; omega)
  rcases h with h | h
  · exact h2 (List.length_eq_zero_iff.1 (by omega))
  · omega
/-- A number's value, by its sign. -/
theorem num_value {s : List UInt8} {u : Int} (k : IsNum s u) : u = if s.head? = some 45 then -(valD (digD s) : Int) else (valD (digD s) : Int) := by
  have h1 := k.val
  have h2 := k.digs.2
  rw [h1]
  split
  · rename_i h; have := h2.1 h; omega
  · rename_i h; have : ¬ u < 0 := fun hu => h (h2.2 hu); omega
end Go.Aq.Wd

/- Parsing a line, the document's way, in plain Lean. No statement of the seat is proved here. -/
namespace Go.Aq.Wd
theorem pu_dec2 (m : Nat) (h : m ≤ 9223372036854775808) : Lib.parseUint10 0 (Lib.decDigits m) = .ok m := by
  by_cases h1 : m ≤ 9223372036854775807
  · exact pu_dec m h1
  · have hm : m = 9223372036854775808 := by omega
    subst hm
    rw [Lib.decDigits, dif_neg (by omega)]
    have ih := pu_dec (9223372036854775808 / 10) (by omega)
    rw [pu_snoc _ _ _ _ ih]
    simp only [Lib.parseUint10]
    rw [u8n _ (by omega)]
    rw [if_pos (by omega), if_neg (by omega), if_neg (by omega)]
theorem num_dec2 {t : List UInt8} {u : Int} (h : IsNum t u) : numL t = u := by
  obtain ⟨rfl, h1, h2⟩ := h
  by_cases hm : -9223372036854775807 ≤ u
  · exact num_dec u ⟨hm, h2⟩
  · have hu : u = -9223372036854775808 := by omega
    subst hu
    unfold numL Lib.itoa
    rw [if_pos (by omega)]
    have hp := pu_dec2 9223372036854775808 (by omega)
    have hmm : Lib.parseMag (Lib.decDigits (-9223372036854775808 : Int).natAbs) = .ok 9223372036854775808 := by
      unfold Lib.parseMag; rw [if_neg (dec_digit _).2]; exact hp
    have : Lib.atoiAll (45 :: Lib.decDigits (-9223372036854775808 : Int).natAbs) = .ok (-9223372036854775808) := by
      unfold Lib.atoiAll
      have h45 : (45 : UInt8).toNat = 45 := rfl
      simp only [h45]
      rw [if_pos (Or.inr trivial), hmm]
      simp only
      rw [if_neg (by simp), if_neg (by rintro ⟨-, h⟩; omega), if_pos trivial]
      congr 1
    rw [this]
theorem isNum_dec (n : Int) (h : -9223372036854775808 ≤ n ∧ n ≤ 9223372036854775807) : IsNum (decI n) n := ⟨rfl, h⟩
/-- What the document's bytesOf reads. -/
def rbytes (t : List UInt8) : Option (List UInt8) := if t = [45] then some [] else unhexL t
theorem bytesL_r {t b : List UInt8} (h : rbytes t = some b) : bytesL t = b := by
  unfold rbytes at h
  unfold bytesL
  split at h
  · rename_i e
    subst e
    rw [← Option.some.inj h]
    rfl
  · rw [h]; rfl
theorem rbytes_digits (b : List UInt8) : rbytes (digitsL b) = some b := by
  unfold rbytes digitsL
  split
  · rename_i h; subst h; rfl
  · rename_i h
    rw [if_neg, unhex_hexL]
    intro e
    have := unhex_hexL b
    rw [e] at this
    cases this
theorem rbytes_pic (a : ActD) : ∃ p, rbytes (picL a).1 = some p ∧ ((picL a).2 = 0 → p ≠ [] → (decPL p).2.2 = 0) := by
  unfold picL
  split
  · exact ⟨[], rfl, fun _ h => absurd rfl h⟩
  · refine ⟨_, rbytes_digits _, fun h hp => ?_⟩
    simp only at h
    unfold encPL at h ⊢
    split at h
    · rename_i hm
      rw [if_pos hm]
      simp only
      rw [pix_dec_enc _ _ hm]
    · exact absurd h (by decide)
/-- What is read well has its numbers and digits well. -/
theorem par_flags {s : List UInt8} (h : (parseL s).2 = 0) :
    (∃ u, IsNum ((wordsL s).1.getD 1 []) u) ∧ (∃ u, IsNum ((wordsL s).1.getD 2 []) u) ∧ (∃ u, IsNum ((wordsL s).1.getD 3 []) u) ∧
      (∃ p, rbytes ((wordsL s).1.getD 7 []) = some p ∧ (p ≠ [] → (decPL p).2.2 = 0)) ∧ ∃ b, rbytes ((wordsL s).1.getD 8 []) = some b := by
  have hok := parse_ok s h
  have hr : (-9223372036854775808 ≤ (parseL s).1.n ∧ (parseL s).1.n ≤ 9223372036854775807) ∧ (-9223372036854775808 ≤ (parseL s).1.m ∧ (parseL s).1.m ≤ 9223372036854775807) ∧ (-9223372036854775808 ≤ (parseL s).1.key ∧ (parseL s).1.key ≤ 9223372036854775807) := by
    have hz : ∀ l : List (List UInt8), (actP l).n = numL (l.getD 1 []) ∧ (actP l).m = numL (l.getD 2 []) ∧ (actP l).key = numL (l.getD 3 []) := fun l => by
      unfold actP
      split <;> exact ⟨rfl, rfl, rfl⟩
    unfold parseL
    repeat' split
    all_goals first
      | (simp only [actZ]; omega)
      | (obtain ⟨h1, h2, h3⟩ := hz (wordsL s).1; simp only [h1, h2, h3]; exact ⟨numL_range _, numL_range _, numL_range _⟩)
  obtain ⟨a, ha⟩ : ∃ a, a = (parseL s).1 := ⟨_, rfl⟩
  rw [← ha] at hok hr
  have h0 : (prL a).2 = 0 := by rw [hok]
  have hw := printed_words a h0 0
  rw [List.replicate_zero, List.nil_append, hok] at hw
  simp only at hw
  rw [hw]
  simp only
  obtain ⟨p, hp, hp2⟩ := rbytes_pic a
  exact ⟨⟨a.n, isNum_dec _ hr.1⟩, ⟨a.m, isNum_dec _ hr.2.1⟩, ⟨a.key, isNum_dec _ hr.2.2⟩, ⟨p, hp, hp2 (prL_ok a h0).2.2.1⟩, ⟨a.mask, rbytes_digits _⟩⟩
/-- The act of nine words that are well. -/
theorem par_act {l : List (List UInt8)} {u1 u2 u3 : Int} {p b : List UInt8} (h1 : IsNum (l.getD 1 []) u1) (h2 : IsNum (l.getD 2 []) u2) (h3 : IsNum (l.getD 3 []) u3) (h7 : rbytes (l.getD 7 []) = some p) (h8 : rbytes (l.getD 8 []) = some b) :
    actW l = { actZ with kind := (kindN (l.getD 0 []) : Int), n := u1, m := u2, key := u3, name := l.getD 4 [], other := l.getD 5 [], text := l.getD 6 [], mask := b } ∧ bytesL (l.getD 7 []) = p := by
  refine ⟨?_, bytesL_r h7⟩
  unfold actW
  rw [num_dec2 h1, num_dec2 h2, num_dec2 h3, bytesL_r h8]
end Go.Aq.Wd

/- The walk of the law ScriptWords. No statement of the seat is proved here. -/
namespace Go.Proofs.YtfammoidikdbpaaGreatDoor
open Go.RowKit Go.Aq Go.Aq.Wd
theorem parse_any (s : List UInt8) (w : World) (hT : Tabs2 w) (hs : s.length ≤ 200000) :
    Calls Tryz.prog 9 #[.string (str s)] w fun e w' => ∃ pv mv, e = .returned (.tuple #[actV (parseL s).1 pv mv, .int .i64 (parseL s).2]) ∧ ActR w w' (parseL s).1 pv mv ∧ Chg [] w w' := by
  by_cases h : (wordsL s).2.2 = 0 ∧ (wordsL s).1.length = 9
  · exact parse_nine s w hT hs h.1 h.2
  · have hb : (wordsL s).2.2 ≠ 0 ∨ (wordsL s).1.length ≠ 9 := by
      by_cases h0 : (wordsL s).2.2 = 0
      · exact .inr fun h9 => h ⟨h0, h9⟩
      · exact .inl h0
    refine (parse_bad s w hT hs hb).mono ?_
    rintro e w' ⟨rfl, c⟩
    have hz : (parseL s).1.pix = [] ∧ (parseL s).1.mask = [] := by
      unfold parseL
      split
      · exact ⟨rfl, rfl⟩
      · split
        · exact ⟨rfl, rfl⟩
        · split
          · exact ⟨rfl, rfl⟩
          · rename_i h1 h2 h3
            exact absurd (by omega : (wordsL s).1.length = 9) (hb.resolve_left h1)
    refine ⟨_, _, rfl, ⟨?_, ?_, by simp [eyes], by simp [eyes]⟩, c⟩
    · rw [hz.1]; exact Sees.nil _ _
    · rw [hz.2]; exact Sees.nil _ _
/-- Is an act short? -/
def shortB (a : ActD) : Bool := decide (a.name.length ≤ 1000) && decide (a.other.length ≤ 1000) && decide (a.text.length ≤ 2000) && decide (a.pix.length ≤ 5000) && decide (a.mask.length ≤ 1000)
/-- An act that was handed. -/
structure Handed (w : World) (a : ActD) (pv mv : Value) : Prop where
  pix : Sees w 1 pv a.pix.length (Bs a.pix)
  mask : Sees w 1 mv a.mask.length (Bs a.mask)
  lens : a.name.length ≤ 9223372036854775807 ∧ a.other.length ≤ 9223372036854775807 ∧ a.text.length ≤ 9223372036854775807 ∧ a.pix.length ≤ 9223372036854775807 ∧ a.mask.length ≤ 9223372036854775807
  ints : ∀ n, n = a.n ∨ n = a.m ∨ n = a.key → -9223372036854775808 ≤ n ∧ n ≤ 9223372036854775807
theorem Handed.chg {w w' : World} {a : ActD} {pv mv : Value} (h : Handed w a pv mv) (c : Chg [] w w') : Handed w' a pv mv := ⟨h.pix.chg0 c, h.mask.chg0 c, h.lens, h.ints⟩
set_option maxRecDepth 100000 in
set_option maxHeartbeats 4000000 in
theorem short_any (a : ActD) (pv mv : Value) (w : World) (h : Handed w a pv mv) : Calls Tryz.prog 5 #[actV a pv mv] w fun e w' => e = .returned (.bool (shortB a)) ∧ Chg [] w w' := by
  obtain ⟨K, hK⟩ : ∃ K, w.heap.size = K := ⟨_, rfl⟩
  have hbA : Blk (w.alloc (.cells (actL a pv mv).toArray 28)) K (actL a pv mv).toArray 28 := Blk.new_at w _ _ hK
  have hc : Chg [] w (w.alloc (.cells (actL a pv mv).toArray 28)) := (Chg.refl [] w).alloc _
  obtain ⟨⟨-, -, -, x3, x4, x5, -⟩, -, -, -, -, x11, x12⟩ := Blk13 hbA
  have HC := Lib.hid hc
  have s3 := str_size a.name
  have s4 := str_size a.other
  have s5 := str_size a.text
  obtain ⟨l1, l2, l3, l4, l5⟩ := h.lens
  obtain ⟨ap, cp, e1, -, -⟩ := h.pix.shape
  obtain ⟨am, cm, e2, -, -⟩ := h.mask.shape
  have HS : Hid (shortB a = (decide (a.name.length ≤ 1000) && decide (a.other.length ≤ 1000) && decide (a.text.length ≤ 2000) && decide (a.pix.length ≤ 5000) && decide (a.mask.length ≤ 1000))) := rfl
  generalize a.pix.length = np at *
  generalize a.mask.length = nm at *
  generalize a.name.length = n1 at *
  generalize a.other.length = n2 at *
  generalize a.text.length = n3 at *
  subst e1 e2
  clear hbA hc h
  have fin : ∀ b : Bool, b = (decide (n1 ≤ 1000) && decide (n2 ≤ 1000) && decide (n3 ≤ 2000) && decide (np ≤ 5000) && decide (nm ≤ 1000)) → Ending.returned (.bool b) = .returned (.bool (shortB a)) := fun b hb => by rw [hb, HS.out]
  have HF := Lib.hid fin
  clear fin HS
  unfold actV
  by_cases b1 : n1 ≤ 1000
  · have t1 : decide ((n1 : Int) ≤ 1000) = true := by simp; omega
    by_cases b2 : n2 ≤ 1000
    · have t2 : decide ((n2 : Int) ≤ 1000) = true := by simp; omega
      by_cases b3 : n3 ≤ 2000
      · have t3 : decide ((n3 : Int) ≤ 2000) = true := by simp; omega
        by_cases b4 : np ≤ 5000
        · have t4 : decide ((np : Int) ≤ 5000) = true := by simp; omega
          by_cases b5 : nm ≤ 1000
          · have t5 : decide ((nm : Int) ≤ 1000) = true := by simp; omega
            have HE : Hid (true = (decide (n1 ≤ 1000) && decide (n2 ≤ 1000) && decide (n3 ≤ 2000) && decide (np ≤ 5000) && decide (nm ≤ 1000))) := by show _ = _; simp [b1, b2, b3, b4, b5]
            clear b1 b2 b3 b4 b5 l1 l2 l3 l4 l5
            go_enter Tryz.func5, Tryz.ntmps5
            go_wp2_with fail
            go_ret
            exact ⟨HF.out _ HE.out, HC.out⟩
          · have t5 : decide ((nm : Int) ≤ 1000) = false := by simp; omega
            have HE : Hid (false = (decide (n1 ≤ 1000) && decide (n2 ≤ 1000) && decide (n3 ≤ 2000) && decide (np ≤ 5000) && decide (nm ≤ 1000))) := by show _ = _; simp [b5]
            clear b1 b2 b3 b4 b5 l1 l2 l3 l4 l5
            go_enter Tryz.func5, Tryz.ntmps5
            go_wp2_with fail
            go_ret
            exact ⟨HF.out _ HE.out, HC.out⟩
        · have t4 : decide ((np : Int) ≤ 5000) = false := by simp; omega
          have HE : Hid (false = (decide (n1 ≤ 1000) && decide (n2 ≤ 1000) && decide (n3 ≤ 2000) && decide (np ≤ 5000) && decide (nm ≤ 1000))) := by show _ = _; simp [b4]
          clear b1 b2 b3 b4 l1 l2 l3 l4 l5
          go_enter Tryz.func5, Tryz.ntmps5
          go_wp2_with fail
          go_ret
          exact ⟨HF.out _ HE.out, HC.out⟩
      · have t3 : decide ((n3 : Int) ≤ 2000) = false := by simp; omega
        have HE : Hid (false = (decide (n1 ≤ 1000) && decide (n2 ≤ 1000) && decide (n3 ≤ 2000) && decide (np ≤ 5000) && decide (nm ≤ 1000))) := by show _ = _; simp [b3]
        clear b1 b2 b3 l1 l2 l3 l4 l5
        go_enter Tryz.func5, Tryz.ntmps5
        go_wp2_with fail
        go_ret
        exact ⟨HF.out _ HE.out, HC.out⟩
    · have t2 : decide ((n2 : Int) ≤ 1000) = false := by simp; omega
      have HE : Hid (false = (decide (n1 ≤ 1000) && decide (n2 ≤ 1000) && decide (n3 ≤ 2000) && decide (np ≤ 5000) && decide (nm ≤ 1000))) := by show _ = _; simp [b2]
      clear b1 b2 l1 l2 l3 l4 l5
      go_enter Tryz.func5, Tryz.ntmps5
      go_wp2_with fail
      go_ret
      exact ⟨HF.out _ HE.out, HC.out⟩
  · have t1 : decide ((n1 : Int) ≤ 1000) = false := by simp; omega
    have HE : Hid (false = (decide (n1 ≤ 1000) && decide (n2 ≤ 1000) && decide (n3 ≤ 2000) && decide (np ≤ 5000) && decide (nm ≤ 1000))) := by show _ = _; simp [b1]
    clear b1 l1 l2 l3 l4 l5
    go_enter Tryz.func5, Tryz.ntmps5
    go_wp2_with fail
    go_ret
    exact ⟨HF.out _ HE.out, HC.out⟩
theorem shortB_parts {a : ActD} (h : shortB a = true) : a.name.length ≤ 1000 ∧ a.other.length ≤ 1000 ∧ a.text.length ≤ 2000 ∧ a.pix.length ≤ 5000 ∧ a.mask.length ≤ 1000 := by
  unfold shortB at h
  simp only [Bool.and_eq_true, decide_eq_true_eq] at h
  exact ⟨h.1.1.1.1, h.1.1.1.2, h.1.1.2, h.1.2, h.2⟩
theorem printed_max (a : ActD) (h : (prL a).2 = 0) (hs : shortB a = true) (hr : ∀ n, n = a.n ∨ n = a.m ∨ n = a.key → -9223372036854775808 ≤ n ∧ n ≤ 9223372036854775807) : (prL a).1.length ≤ 190000 := by
  rw [(prL_ok a h).2.2.2]
  obtain ⟨b1, b2, b3, b4, b5⟩ := shortB_parts hs
  have q1 := quoteL_len a.name
  have q2 := quoteL_len a.other
  have q3 := quoteL_len a.text
  have d1 := Lib.itoa_length_le a.n (hr _ (.inl rfl)).1 (hr _ (.inl rfl)).2
  have d2 := Lib.itoa_length_le a.m (hr _ (.inr (.inl rfl))).1 (hr _ (.inr (.inl rfl))).2
  have d3 := Lib.itoa_length_le a.key (hr _ (.inr (.inr rfl))).1 (hr _ (.inr (.inr rfl))).2
  have hd : ∀ b : List UInt8, (digitsL b).length ≤ 2 * b.length + 1 := fun b => by
    unfold digitsL
    split
    · simp
    · rw [hexL_length]; omega
  have g1 := hd a.mask
  have g2 : (picL a).1.length ≤ 10020 := by
    have hel : (encPL a.shp a.pix).1.length ≤ 5007 := by
      unfold encPL; split
      · rw [encP_len]; omega
      · simp
    unfold picL
    split
    · simp
    · have := hd (encPL a.shp a.pix).1
      simp only; omega
  have k1 := kind_len (a.kind - 1).toNat
  have hb : ∀ y ∈ (wordsP a).map (·.1), y.length ≤ 20002 := by
    intro y hy
    simp only [wordsP, List.map_cons, List.map_nil, List.mem_cons, List.not_mem_nil, or_false] at hy
    unfold decI at hy
    rcases hy with rfl | rfl | rfl | rfl | rfl | rfl | rfl | rfl | rfl <;> omega
  have hx := hb (kindL.getD (a.kind - 1).toNat []) (by simp [wordsP])
  have hj := joinB_len ((wordsP a).tail.map (·.1)) 20002 (fun y hy => hb y (by
    obtain ⟨p, hp, rfl⟩ := List.mem_map.1 hy
    exact List.mem_map.2 ⟨p, List.mem_of_mem_tail hp, rfl⟩))
  have e : joinB ((wordsP a).map (·.1)) = kindL.getD (a.kind - 1).toNat [] ++ ((wordsP a).tail.map (·.1)).flatMap fun y => [(32 : UInt8)] ++ y := rfl
  rw [e, List.length_append]
  have hl : ((wordsP a).tail.map (·.1)).length = 8 := rfl
  rw [hl] at hj
  omega
theorem parse_ahead (a : ActD) (h : (prL a).2 = 0) : (parseL ([32] ++ (prL a).1)).2 = 4 := by
  have hw := printed_words a h 1
  have e : List.replicate 1 (32 : UInt8) ++ (prL a).1 = [32] ++ (prL a).1 := rfl
  rw [e] at hw
  unfold parseL
  rw [hw]
  have hh := prL_head (actP ((wordsP a).map (·.2))) (prL a).1
  rw [if_neg (by simp), if_neg (by simp [wordsP]), if_neg (by simp [wordsP])]
  exact congrArg Prod.snd (if_pos hh)
theorem parse_more (a : ActD) (h : (prL a).2 = 0) : (parseL ((prL a).1 ++ [32, 120])).2 = 4 := by
  unfold parseL
  rw [printed_more a h]
  rw [if_neg (by simp), if_neg (by simp [wordsP]), if_pos (by simp [wordsP])]
theorem parse_few (a : ActD) (h : (prL a).2 = 0) : (parseL (kindL.getD (a.kind - 1).toNat [] ++ [32, 48, 32, 48, 32, 48])).2 = 2 := by
  obtain ⟨h1, h2⟩ := printed_few a h
  unfold parseL
  rw [if_neg (fun hne => hne h1), if_pos (by omega)]
end Go.Proofs.YtfammoidikdbpaaGreatDoor

/- How an act that was read is opened. No statement of the seat is proved here. -/
namespace Go.Aq
open Go.ChangeShapes Go.WideShapes Go.ChangeAt Go.RowKit
section
variable {H : Type} {enc : TypeId × Value → H} {P : Program} {W : World}
theorem bytes_of_trod {t e : TypeId} {n : Nat} {c : Value} {cs : List Value} {y : DataW H × List MemPlace} (hc1 : cs = [c]) (ht : P.underlying t = some (.slice e)) (he : P.underlying e = some (.int .u8)) (hc : P.cellsOf e = 1) (h : DataW.trod enc P W 0 (fun _ => true) true n t cs = some y) :
    ∃ l : List UInt8, Sees W 1 c l.length (Bs l) ∧ l.length ≤ 9223372036854775807 := by
  subst hc1
  rcases open_ints ht he hc h with ⟨hcs, _⟩ | ⟨x, len0, cap0, zs, hcs, _, hl, hm, hz, _, hcell, hwz⟩
  · simp only [List.cons.injEq, and_true] at hcs
    subst hcs
    exact ⟨[], Sees.nil _ _, Nat.zero_le _⟩
  · simp only [List.cons.injEq, and_true] at hcs
    subst hcs
    simp only [if_true] at hz
    have hlen : ((zs.take len0).map fun z => UInt8.ofNat z.toNat).length = len0 := by simp; omega
    refine ⟨(zs.take len0).map fun z => UInt8.ofNat z.toNat, ?_, by rw [hlen]; simp only [maxLen] at hm; omega⟩
    rw [hlen]
    refine ⟨by simp [Bs]; omega, some x, cap0, rfl, hl, by simp, ?_⟩
    intro ad had j u hu
    cases had
    have hj : j < len0 := by
      have := (List.getElem?_eq_some_iff.1 hu).1
      simp [Bs] at this; omega
    rw [hcell j (by omega)]
    have hjz : j < zs.length := by omega
    have hb := bounds_u8 (hwz (zs[j]'hjz) (List.getElem_mem _))
    simp [Bs, Bc, hj, hjz] at hu
    rw [← hu]
    simp [List.getD, hjz]
    omega
end
end Go.Aq
namespace Go.Proofs.YtfammoidikdbpaaGreatDoor
open Go.RowKit Go.Aq Go.Aq.Wd
open Go.ChangeShapes Go.WideShapes Go.ChangeAt
section
variable {H : Type} {enc : TypeId × Value → H} {W : World} {base : Nat} {v : Value} {d : DataW H} {ps : List MemPlace}
set_option maxRecDepth 100000 in
set_option maxHeartbeats 2000000 in
theorem act_cells {n : Nat} {cs : List Value} {y : DataW H × List MemPlace} (hlen : cs.length = 13) (ht : DataW.trod enc Tryz.prog W 0 (fun _ => true) true n 28 cs = some y) : ∃ x : ActD × Value × Value, actL x.1 x.2.1 x.2.2 = cs ∧ Handed W x.1 x.2.1 x.2.2 := by
  obtain ⟨xs, n', _, _, _, hxl, hf⟩ := DataW.trod_struct Tryz.underlying28 ht
  have k1 : Tryz.prog.cellsOf 9 = 1 := by kernel_rfl
  have k2 : Tryz.prog.cellsOf 3 = 1 := by kernel_rfl
  have k3 : Tryz.prog.cellsOf 24 = 1 := by kernel_rfl
  have k4 : Tryz.prog.cellsOf 23 = 4 := by kernel_rfl
  have k5 : Tryz.prog.cellsOf 26 = 5 := by kernel_rfl
  match cs, hlen with
  | [c0, c1, c2, c3, c4, c5, c6, c7, c8, c9, c10, c11, c12], _ =>
    have f0 := hf 0 _ rfl
    have f1 := hf 1 _ rfl
    have f2 := hf 2 _ rfl
    have f3 := hf 3 _ rfl
    have f4 := hf 4 _ rfl
    have f5 := hf 5 _ rfl
    have f6 := hf 6 _ rfl
    have f7 := hf 7 _ rfl
    have f8 := hf 8 _ rfl
    rw [List.getElem?_eq_getElem (by rw [hxl]; decide)] at f0 f1 f2 f3 f4 f5 f6 f7 f8
    obtain ⟨i0, e0, _, w0⟩ := DataW.trod_int Tryz.underlying3 f0
    obtain ⟨i1, e1, _, w1⟩ := DataW.trod_int Tryz.underlying3 f1
    obtain ⟨i2, e2, _, w2⟩ := DataW.trod_int Tryz.underlying3 f2
    obtain ⟨s3, e3, _, b3⟩ := DataW.trod_string Tryz.underlying9 f3
    obtain ⟨s4, e4, _, b4⟩ := DataW.trod_string Tryz.underlying9 f4
    obtain ⟨s5, e5, _, b5⟩ := DataW.trod_string Tryz.underlying9 f5
    obtain ⟨i6, e6, _, w6⟩ := DataW.trod_int Tryz.underlying3 f6
    obtain ⟨ys, n7, _, _, _, hyl, hg⟩ := DataW.trod_struct Tryz.underlying26 f7
    have g0 := hg 0 _ rfl
    have g1 := hg 1 _ rfl
    rw [List.getElem?_eq_getElem (by rw [hyl]; decide)] at g0 g1
    obtain ⟨zs, n8, _, _, _, hzl, hh⟩ := DataW.trod_struct Tryz.underlying23 g0
    have q0 := hh 0 _ rfl
    have q1 := hh 1 _ rfl
    have q2 := hh 2 _ rfl
    have q3 := hh 3 _ rfl
    rw [List.getElem?_eq_getElem (by rw [hzl]; decide)] at q0 q1 q2 q3
    obtain ⟨j0, r0, _, _⟩ := DataW.trod_int Tryz.underlying3 q0
    obtain ⟨j1, r1, _, _⟩ := DataW.trod_int Tryz.underlying3 q1
    obtain ⟨j2, r2, _, _⟩ := DataW.trod_int Tryz.underlying3 q2
    obtain ⟨j3, r3, _, _⟩ := DataW.trod_int Tryz.underlying3 q3
    simp [k1, k2, k4, k5] at e0 e1 e2 e3 e4 e5 e6 r0 r1 r2 r3
    obtain ⟨lp, hp, bp⟩ := bytes_of_trod (c := c11) (by simp [k3, k5]) Tryz.underlying24 Tryz.underlying5 (by kernel_rfl) g1
    obtain ⟨lm, hm, bm⟩ := bytes_of_trod (c := c12) (by simp [k3]) Tryz.underlying24 Tryz.underlying5 (by kernel_rfl) f8
    subst e0 e1 e2 e3 e4 e5 e6 r0 r1 r2 r3
    refine ⟨(⟨i0, i1, i2, s3.data.toList, s4.data.toList, s5.data.toList, i6, ⟨j0, j1, j2, j3⟩, lp, lm⟩, c11, c12), rfl, ⟨hp, hm, ⟨?_, ?_, ?_, bp, bm⟩, ?_⟩⟩
    · simp only [maxLen, ByteArray.size] at b3; simp only; rw [Array.length_toList]; omega
    · simp only [maxLen, ByteArray.size] at b4; simp only; rw [Array.length_toList]; omega
    · simp only [maxLen, ByteArray.size] at b5; simp only; rw [Array.length_toList]; omega
    · intro m hm
      rcases hm with rfl | rfl | rfl
      · exact bounds_i64 w1
      · exact bounds_i64 w2
      · exact bounds_i64 w6
set_option maxRecDepth 100000 in
theorem open_act (hv : Value.okWide Tryz.prog W .any base 28 v) (h : DataW.Trod enc Tryz.prog W 0 (fun _ => true) true 28 v d ps) : ∃ x : ActD × Value × Value, v = actV x.1 x.2.1 x.2.2 ∧ Handed W x.1 x.2.1 x.2.2 := by
  unfold Value.okWide at hv
  rw [Tryz.underlying28] at hv
  obtain ⟨cs, rfl, hsz, -⟩ := hv
  obtain ⟨fuel, hf⟩ := h
  have k : Tryz.prog.cellsOf 28 = 13 := by kernel_rfl
  obtain ⟨x, e, ha⟩ := act_cells (by rw [← k, ← hsz]; simp [Value.cells]) hf
  refine ⟨x, ?_, ha⟩
  simp only [Value.cells] at e
  obtain ⟨l⟩ := cs
  simp only at e
  unfold actV
  rw [e]
end
end Go.Proofs.YtfammoidikdbpaaGreatDoor

/- Contract of aqulaw25.Plain. No statement of the seat is proved here. -/
namespace Go.Proofs.YtfammoidikdbpaaGreatDoor
open Go.RowKit Go.Aq Go.Aq.Wd
set_option maxRecDepth 100000 in
set_option maxHeartbeats 4000000 in
theorem actplain_any (a : ActD) (ap am : Option Addr) (np cp nm cm : Nat) (w : World) :
    Calls Tryz.prog 8 #[actV a (.slice ap np cp) (.slice am nm cm)] w fun e w' => e = .returned (actV a (.slice ap np cp) (.slice am nm cm)) ∧ Chg [] w w' := by
  obtain ⟨K, hK⟩ : ∃ K, w.heap.size = K := ⟨_, rfl⟩
  unfold actV actL
  have hc : ∀ o o', Chg [] w ((w.alloc o).alloc o') := fun o o' => ((Chg.refl [] w).alloc o).alloc o'
  have HC := Lib.hid hc
  clear hc
  go_enter Tryz.func8, Tryz.ntmps8
  go_wp2_with fail
  have hs1 : ∀ o, (w.alloc o).heap.size = K + 1 := fun o => by simp [hK]
  refine bodyPost_ret (results_A rfl _ _ (Blk.new_at (w.alloc _) _ _ (hs1 _)) ract_ty rfl) rfl ⟨rfl, HC.out _ _⟩
end Go.Proofs.YtfammoidikdbpaaGreatDoor

/- What the listed variables give to the walks where strconv.Atoi is reached, and a world for the witness that holds them. No statement of the seat is proved here. -/
namespace Go.Proofs
theorem trod_iface {H : Type} {enc : TypeId × Value → H} {P : Program} {w : World} {base : Nat} {spare : Nat → Bool} {held : Bool} {fuel : Nat} {t : TypeId} {cs : List Value} {x : DataW H × List MemPlace} {ms : Array (String × TypeId)} (ht : P.underlying t = some (.interface ms)) (h : DataW.trod enc P w base spare held fuel t cs = some x) :
    cs = [.nilIface] ∨ ∃ u v, cs = [.iface u v] := by
  cases fuel with
  | zero => simp [DataW.trod] at h
  | succ n =>
    unfold DataW.trod at h
    rw [ht] at h
    match cs, h with
    | [.nilIface], _ => exact .inl rfl
    | [.iface u v], _ => exact .inr ⟨u, v, rfl⟩
theorem cell_of_reads_iface {P : Program} {w : World} {n : String} {d : DataW Unit} {g : Nat} {t : TypeId} {ms : Array (String × TypeId)} (h : Lib.VarReads P w n d) (hg : P.globalNamed n = some g) (ht : (P.globals[g]?).map (·.type) = some t) (hu : P.underlying t = some (.interface ms)) :
    ∃ ev, w.cell? ⟨g, 0, none⟩ = some ev ∧ (ev = .nilIface ∨ ∃ te pe, ev = .iface te pe) := by
  obtain ⟨g', t', cs, fuel, p, hg', ht', hvar, hd⟩ := h
  obtain rfl := Option.some.inj (hg.symm.trans hg')
  obtain rfl := Option.some.inj (ht.symm.trans ht')
  have hc := World.var?_cell hg hvar 0
  rcases trod_iface hu hd with e | ⟨u, v, e⟩
  · refine ⟨.nilIface, ?_, .inl rfl⟩
    rw [hc, ← Array.getElem?_toList, e]; rfl
  · refine ⟨.iface u v, ?_, .inr ⟨u, v, rfl⟩⟩
    rw [hc, ← Array.getElem?_toList, e]; rfl
end Go.Proofs
namespace Go.Proofs.YtfammoidikdbpaaGreatDoor
open Go.ChangeShapes Go.WideShapes Go.ChangeAt Go.RowKit Go.Aq Go.Aq.Wd
def laidL2 : List (String × DataW Unit) := [("math/bits.deBruijn32tab", Rows.laid_math_bits_deBruijn32tab), ("math/bits.deBruijn64tab", Rows.laid_math_bits_deBruijn64tab), ("internal/strconv.uint64pow10", Rows.laid_internal_strconv_uint64pow10), ("unicode/utf8.acceptRanges", Rows.laid_unicode_utf8_acceptRanges), ("strconv.ErrRange", Rows.laid_strconv_ErrRange), ("strconv.ErrSyntax", Rows.laid_strconv_ErrSyntax), ("unicode/utf8.first", Rows.laid_unicode_utf8_first)]
theorem tabs2_of {W : World} (h : laidMet Tryz.prog laidL2 W) (hS : W.ShapedOpen Tryz.prog) : Tabs2 W := by
  have h1 := Lib.laidMet.reads h (n := "unicode/utf8.first") (d := Rows.laid_unicode_utf8_first) (by simp [laidL2])
  have h2 := Lib.laidMet.reads h (n := "unicode/utf8.acceptRanges") (d := Rows.laid_unicode_utf8_acceptRanges) (by simp [laidL2])
  have h3 := Lib.laidMet.reads h (n := "math/bits.deBruijn64tab") (d := Rows.laid_math_bits_deBruijn64tab) (by simp [laidL2])
  have h4 := Lib.laidMet.reads h (n := "internal/strconv.uint64pow10") (d := Rows.laid_internal_strconv_uint64pow10) (by simp [laidL2])
  have h5 := Lib.laidMet.reads h (n := "strconv.ErrSyntax") (d := Rows.laid_strconv_ErrSyntax) (by simp [laidL2])
  have h6 := Lib.laidMet.reads h (n := "strconv.ErrRange") (d := Rows.laid_strconv_ErrRange) (by simp [laidL2])
  refine ⟨⟨?_, ?_, ?_⟩, ?_, ?_, ?_⟩
  · refine utf8Tabs_of_reads Tryz.lays260 u8x ?_ ?_
    · rw [← Pinned.utf8First_eq]; exact h1
    · have e : Rows.laid_unicode_utf8_acceptRanges = Lib.acceptData := by kernel_rfl
      rw [← e]; exact h2
  · exact cell_of_shapedOpen_int (zero := #[.int .i64 0]) (t := 3) hS (of_decide_eq_true (by kernel_rfl)) (by kernel_rfl) rfl (by kernel_rfl) (by kernel_rfl) Tryz.underlying3
  · have e : (Rows.laid_math_bits_deBruijn64tab : DataW Unit) = Lib.tabData .u8 db64 := by kernel_rfl
    rw [e] at h3
    obtain ⟨g, t, cs, fuel, p, hg, hty, hvar, hd⟩ := h3
    obtain rfl := Option.some.inj ((show Tryz.prog.globalNamed "math/bits.deBruijn64tab" = some 7 by kernel_rfl).symm.trans hg)
    obtain rfl := Option.some.inj ((show (Tryz.prog.globals[7]?).map (·.type) = some 157 by kernel_rfl).symm.trans hty)
    have hcs := Lib.cells_of_tab Tryz.underlying157 Tryz.underlying5 (by kernel_rfl) (by kernel_rfl) hd
    have := World.var?_cell hg hvar 15
    rw [this, ← Array.getElem?_toList, hcs]
    rfl
  · have e : (Rows.laid_internal_strconv_uint64pow10 : DataW Unit) = Lib.tabData .u64 Lib.pow10Tab := by kernel_rfl
    rw [e] at h4
    obtain ⟨g, t, cs, fuel, p, hg, hty, hvar, hd⟩ := h4
    obtain rfl := Option.some.inj ((show Tryz.prog.globalNamed "internal/strconv.uint64pow10" = some 0 by kernel_rfl).symm.trans hg)
    obtain rfl := Option.some.inj ((show (Tryz.prog.globals[0]?).map (·.type) = some 133 by kernel_rfl).symm.trans hty)
    have hcs := Lib.cells_of_tab Tryz.underlying133 Tryz.underlying113 (by kernel_rfl) (by kernel_rfl) hd
    unfold Lib.TabIs
    rw [hvar, ← hcs]
  · exact cell_of_reads_iface h5 (by kernel_rfl) (show (Tryz.prog.globals[2]?).map (·.type) = some 71 by kernel_rfl) Tryz.underlying71
  · exact cell_of_reads_iface h6 (by kernel_rfl) (show (Tryz.prog.globals[3]?).map (·.type) = some 71 by kernel_rfl) Tryz.underlying71
/-- The witness's heap: the two errors' blocks behind it. -/
noncomputable def laidHeap2 (os : Os) : Array Obj := (((laidWorld os).heap.push (.cells #[.string ⟨#[118, 97, 108, 117, 101, 32, 111, 117, 116, 32, 111, 102, 32, 114, 97, 110, 103, 101]⟩] 155 (0, 0))).push (.cells #[.string ⟨#[105, 110, 118, 97, 108, 105, 100, 32, 115, 121, 110, 116, 97, 120]⟩] 155 (0, 0)))
noncomputable def laidWorld2 (os : Os) : World :=
  { laidWorld os with heap := ((laidHeap2 os).modify 3 (setCells [.iface 153 (.pointer (some ⟨(laidWorld os).heap.size, 0, none⟩))])).modify 2 (setCells [.iface 153 (.pointer (some ⟨(laidWorld os).heap.size + 1, 0, none⟩))]) }
end Go.Proofs.YtfammoidikdbpaaGreatDoor

