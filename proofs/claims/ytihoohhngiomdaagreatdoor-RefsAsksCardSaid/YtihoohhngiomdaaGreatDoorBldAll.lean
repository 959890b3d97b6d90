/- Bld, Bld2 in one text. No statement of the seat is proved here. -/
import Derived.Test.YtihoohhngiomdaaGreatDoorArr
import Derived.Test.YtihoohhngiomdaaGreatDoorStr
import Derived.Test.YtihoohhngiomdaaGreatDoorShelf
import Derived.Test.YtihoohhngiomdaaGreatDoorWPl
import Derived.Lib.OthersKept
import Derived.Lib.AppendStr
import Derived.Laws.Externs
set_option linter.unusedVariables false
/- Contracts of strings.Builder's writers, of utf8.AppendRune: a builder that the call has made itself. No statement of the seat is proved here. -/
namespace Go.Proofs.YtihoohhngiomdaaGreatDoor
open Go.RowKit Go.Aq
theorem sl_u8 : SliceTy Tryz.prog 25 5 (.int .u8 0) 1 1 := ⟨Tryz.underlying25, by kernel_rfl, rfl, by decide⟩
theorem infoByte : (Tryz.prog.info? 5).map (fun i => (i.zero, i.size, i.bytes)) = some (some (.int .u8 0), 1, 1) := by kernel_rfl
theorem infoBld : (Tryz.prog.info? 59).map (·.size) = some 2 := by kernel_rfl
theorem liesBld : liesAt Tryz.prog Tryz.prog.depth 59 (2 / Tryz.prog.cellsOf 59) 0 59 1 = true := by kernel_rfl
theorem neB : 59 ≠ 5 := by decide
set_option maxHeartbeats 1000000 in
set_option maxRecDepth 100000 in
theorem cc_used (b : Nat) (w : World) (h0 : w.cell? ⟨b, 0, none⟩ = some (.pointer (some ⟨b, 0, none⟩))) :
    Calls Tryz.prog 47 #[.pointer (some ⟨b, 0, none⟩)] w fun e w' => e = .returned (.tuple #[]) ∧ w' = w := by
  obtain ⟨j, hj, _⟩ := Option.map_eq_some_iff.1 infoBld
  go_enter Tryz.func47, Tryz.ntmps47
  go_wp2
  rw [Lib.run_neq_ptr_same w _ Tryz.underlying57 hj]
  go_wp2
  go_end0
  exact ⟨rfl, rfl⟩
set_option maxHeartbeats 1000000 in
set_option maxRecDepth 100000 in
theorem cc_fresh (b : Nat) (w : World) (h0 : w.cell? ⟨b, 0, none⟩ = some (.pointer none)) (hsh : w.shape? b = some (59, 2)) (hfz : w.frozen? ⟨b, 0, none⟩ = false) :
    Calls Tryz.prog 47 #[.pointer (some ⟨b, 0, none⟩)] w fun e w' => e = .returned (.tuple #[]) ∧ w' = w.setCell ⟨b, 0, none⟩ (.pointer (some ⟨b, 0, none⟩)) := by
  obtain ⟨j, hj, hjs⟩ := Option.map_eq_some_iff.1 infoBld
  go_enter Tryz.func47, Tryz.ntmps47
  go_wp2
  rw [Lib.run_to_unsafe w ⟨b, 0, none⟩ Tryz.underlying57 Tryz.underlying104 hj (by rw [hjs]; decide) hsh (Nat.zero_lt_succ 1)]
  simp only [Result.andThen]
  rw [Oper.upon_value]
  go_wp2
  rw [run_callFunc_extern Tryz.func68 (by kernel_rfl) (by kernel_rfl) (by kernel_rfl) (e := Extern.AbiNoEscape.same) (by kernel_rfl)]
  rw [Lib.run_noEscape]
  simp only [Result.andThen]
  rw [Oper.upon_value]
  go_wp2
  rw [Lib.run_from_unsafe w ⟨b, 0, none⟩ Tryz.underlying104 Tryz.underlying57 hj hsh liesBld]
  simp only [Result.andThen]
  rw [Oper.upon_value]
  go_wp2
  go_end0
  exact ⟨rfl, rfl⟩
theorem cc_any (B b : Nat) (bs : List Value) (w : World) (h : Lib.IsBuilder 59 5 B b bs w) :
    Calls Tryz.prog 47 #[.pointer (some ⟨b, 0, none⟩)] w fun e w' => e = .returned (.tuple #[]) ∧
      Lib.BuilderAt 59 5 B b (.pointer (some ⟨b, 0, none⟩)) bs w' ∧ Below B w w' ∧ Lib.OthersKept 5 (some b) w w' := by
  rcases h with h | h
  · refine (cc_fresh b w h.cell0 h.shape h.frozen0).mono ?_
    rintro e w' ⟨rfl, rfl⟩
    exact ⟨rfl, h.used _, (Below.refl B w).setCell (p := ⟨b, 0, none⟩) h.1 _, (Lib.OthersKept.refl _ _ w).setCell ⟨b, 0, none⟩ rfl _⟩
  · refine (cc_used b w h.cell0).mono ?_
    rintro e w' ⟨rfl, rfl⟩
    exact ⟨rfl, h, Below.refl B _, Lib.OthersKept.refl _ _ _⟩
theorem own_kind {w : World} {B : Nat} {e : TypeId} {v : Value} {n : Nat} {xs : List Value} (h : w.ownsRow B e 1 v n xs) : ∀ g, v.ownBlock = some g → ∃ c fz, w.heap[g]? = some (.cells c e fz) := by
  intro g hg
  rcases h.2 with ⟨rfl, _⟩ | ⟨g', cap, cur, rfl, _, hgg, _⟩
  · simp [Value.ownBlock] at hg
  · simp [Value.ownBlock] at hg
    subst hg
    exact ⟨cur, _, hgg⟩
set_option maxHeartbeats 2000000 in
theorem wByte (B b : Nat) (bs : List UInt8) (c : UInt8) (w : World) (h : Lib.IsBuilder 59 5 B b (Bs bs) w) (hlen : bs.length + 1 ≤ 140737488355328) (hBw : B ≤ w.heap.size) :
    Calls Tryz.prog 45 #[.pointer (some ⟨b, 0, none⟩), .int .u8 c.toNat] w fun e w' => e = .returned .nilIface ∧
      Lib.IsBuilder 59 5 B b (Bs (bs ++ [c])) w' ∧ Below B w w' ∧ Lib.OthersKept 5 (some b) w w' := by
  obtain ⟨i0, hi, hz0, hz1, hz2⟩ := info_parts infoByte
  have hbl := Bs_length bs
  have ebs : Bs (bs ++ [c]) = Bs bs ++ [.int .u8 (c.toNat : Int)] := by rw [Bs_append]; rfl
  rw [ebs]
  generalize (c.toNat : Int) = c at *
  rw [← hbl] at hlen
  clear hbl
  generalize Bs bs = bs' at *
  clear ebs
  go_enter Tryz.func45, Tryz.ntmps45
  go_wp2_with (go_at_call 47; refine (cc_any B b bs' _ h).mono ?_)
  rintro e w1 ⟨rfl, h1, hb1, k1⟩
  obtain ⟨hB, v, hbk, hown, hne⟩ := h1
  have c0 : w1.cell? ⟨b, 0, none⟩ = some (.pointer (some ⟨b, 0, none⟩)) := by rw [Lib.cell_of_heap hbk]; rfl
  have c1 : w1.cell? ⟨b, 1, none⟩ = some v := by rw [Lib.cell_of_heap hbk]; rfl
  go_wp2_with (at_builtin; refine wpList_append_own _ rfl _ _ 25 rfl B 5 i0 (.int .u8 0) 1 1 Tryz.underlying25 hi hz0 hz1 hz2 rfl (by decide) _ _ _ rfl (hown.alloc _) ⟨w1.heap.size, 0, none⟩ 1 1 [.int .u8 c] rfl rfl ?c1 ?c2 ?c3 ?c4 ?c5 ?_)
  case c1 =>
    intro j u hj
    match j, hj with
    | 0, hj => simp at hj; subst hj; simp [Addr.add]
  case c2 => intro u hu; simp at hu; subst hu; rfl
  case c3 => unfold maxLen; omega
  case c4 => omega
  case c5 => have := hb1.size; simp; omega
  intro v' w2 hown' hgrow _
  have hlt : b < w1.heap.size := by
    rcases Nat.lt_or_ge b w1.heap.size with h' | h'
    · exact h'
    · simp [Array.getElem?_eq_none h'] at hbk
  have hb2 : w2.heap[b]? = some (.cells #[.pointer (some ⟨b, 0, none⟩), v] 59 (0, 0)) := by
    rw [hgrow.block b (by simp; omega) (fun e => hne e.symm), Lib.alloc_old w1 _ b hlt]
    exact hbk
  have d0 : w2.cell? ⟨b, 0, none⟩ = some (.pointer (some ⟨b, 0, none⟩)) := by rw [Lib.cell_of_heap hb2]; rfl
  have d1 : w2.cell? ⟨b, 1, none⟩ = some v := by rw [Lib.cell_of_heap hb2]; rfl
  have f1 : w2.frozen? ⟨b, 1, none⟩ = false := Lib.frozen_of_heap hb2 1
  obtain ⟨g, cap, rfl⟩ : ∃ g cap, v' = .slice (some ⟨g, 0, none⟩) (bs'.length + 1) cap := by
    rcases hown'.2 with ⟨_, h0⟩ | ⟨g, cap, cur, hv, _⟩
    · omega
    · exact ⟨g, cap, hv⟩
  go_wp2
  go_ret
  refine ⟨rfl, .inr ?_, ?_, ?_⟩
  · exact Lib.BuilderAt.put (T := 59) (e := 5) hB hb2 (bs' := bs' ++ [.int .u8 c]) (by simpa using hown') neB
  · exact ((hb1.alloc (by have := hb1.size; omega) _).grown hgrow (by have := hb1.size; simp; omega) (fun k hk => (hown.lt k hk).1)).setCell (p := ⟨b, 1, none⟩) hB _
  · exact ((k1.alloc _).grown hgrow (fun g hg => own_kind (hown.alloc _) g hg)).setCell ⟨b, 1, none⟩ rfl _
set_option maxHeartbeats 2000000 in
theorem wString (B b : Nat) (bs s : List UInt8) (w : World) (h : Lib.IsBuilder 59 5 B b (Bs bs) w) (hlen : bs.length + s.length ≤ 140737488355328) (hBw : B ≤ w.heap.size) :
    Calls Tryz.prog 26 #[.pointer (some ⟨b, 0, none⟩), .string (str s)] w fun e w' => e = .returned (.tuple #[.int .i64 s.length, .nilIface]) ∧
      Lib.IsBuilder 59 5 B b (Bs (bs ++ s)) w' ∧ Below B w w' ∧ Lib.OthersKept 5 (some b) w w' := by
  obtain ⟨i0, hi, hz0, hz1, hz2⟩ := info_parts infoByte
  have hbl := Bs_length bs
  have hsz : (str s).size = s.length := str_size s
  have ebs : Bs (bs ++ s) = Bs bs ++ Lib.strCells (str s) := by rw [Bs_append]; simp [Lib.strCells, str, Bs, Bc]
  rw [ebs, ← hsz]
  rw [← hsz] at hlen
  generalize str s = s at *
  rw [← hbl] at hlen
  clear hbl
  generalize Bs bs = bs' at *
  clear ebs hsz
  go_enter Tryz.func26, Tryz.ntmps26
  go_wp2_with (go_at_call 47; refine (cc_any B b bs' _ h).mono ?_)
  rintro e w1 ⟨rfl, h1, hb1, k1⟩
  obtain ⟨hB, v, hbk, hown, hne⟩ := h1
  have c0 : w1.cell? ⟨b, 0, none⟩ = some (.pointer (some ⟨b, 0, none⟩)) := by rw [Lib.cell_of_heap hbk]; rfl
  have c1 : w1.cell? ⟨b, 1, none⟩ = some v := by rw [Lib.cell_of_heap hbk]; rfl
  go_wp2_with (at_builtin; refine Lib.wpList_append_own_string _ rfl _ _ 25 9 rfl B 5 i0 Tryz.underlying25 Tryz.underlying9 hi hz0 hz1 hz2 _ _ _ rfl hown s rfl ?c3 ?c4 ?c5 ?_)
  case c3 => unfold maxLen; omega
  case c4 => omega
  case c5 => have := hb1.size; omega
  intro v' w2 hown' hgrow _
  have hlt : b < w1.heap.size := by
    rcases Nat.lt_or_ge b w1.heap.size with h' | h'
    · exact h'
    · simp [Array.getElem?_eq_none h'] at hbk
  have hb2 : w2.heap[b]? = some (.cells #[.pointer (some ⟨b, 0, none⟩), v] 59 (0, 0)) := by
    rw [hgrow.block b hlt (fun e => hne e.symm)]
    exact hbk
  have d0 : w2.cell? ⟨b, 0, none⟩ = some (.pointer (some ⟨b, 0, none⟩)) := by rw [Lib.cell_of_heap hb2]; rfl
  have d1 : w2.cell? ⟨b, 1, none⟩ = some v := by rw [Lib.cell_of_heap hb2]; rfl
  have f1 : w2.frozen? ⟨b, 1, none⟩ = false := Lib.frozen_of_heap hb2 1
  obtain ⟨ao, n', cap, rfl⟩ : ∃ ao n' cap, v' = .slice ao n' cap := by
    rcases hown'.2 with ⟨hv, _⟩ | ⟨g, cap, cur, hv, _⟩
    · exact ⟨_, _, _, hv⟩
    · exact ⟨_, _, _, hv⟩
  go_wp2
  go_ret2
  have hcl : (bs' ++ Lib.strCells s).length = bs'.length + s.size := by rw [List.length_append, Lib.strCells_length]
  refine ⟨rfl, .inr ?_, ?_, ?_⟩
  · exact Lib.BuilderAt.put (T := 59) (e := 5) hB hb2 (bs' := bs' ++ Lib.strCells s) (by rw [hcl]; exact hown') neB
  · exact (hb1.grown hgrow (by have := hb1.size; omega) (fun k hk => (hown.lt k hk).1)).setCell (p := ⟨b, 1, none⟩) hB _
  · exact (k1.grown hgrow (fun g hg => own_kind hown g hg)).setCell ⟨b, 1, none⟩ rfl _
end Go.Proofs.YtihoohhngiomdaaGreatDoor

/- Contracts of utf8.AppendRune, (*strings.Builder).WriteRune at a sign. No statement of the seat is proved here. -/
namespace Go.Aq
open Go.RowKit
/-- append of cells that lie in the newest block, onto a row of one's own from B on. -/
theorem wpList_appB {P : Program} {w : World} {ops : Array Oper} {rest : List Oper} {o : Oper} {a : Act} {Q : Exit → Act → World → Prop} (hgd : o.guard = none) (s x : Operand) (t : TypeId)
    (ho : o.op = .call { callee := .builtin .append, args := #[s, x], argTypes := #[t, t] })
    {B : Nat} {e : TypeId} {z : Value} {bytes : Nat} (ht : SliceTy P t e z 1 bytes) {v : Value} {n : Nat} {xs : List Value} (hs : a.eval s = v) (hown : w.ownsRow B e 1 v n xs) (cs : Array Value) (m : Nat) (hm : cs.size = m) (hm0 : 0 < m)
    (hx : a.eval x = .slice (some ⟨w.heap.size, 0, none⟩) m m) (h1 : ∀ u ∈ cs.toList, u.oneCell' = true) (hb : (n + m) * bytes ≤ 140737488355328) (h63 : n + m ≤ 9223372036854775807) (hBw : B ≤ w.heap.size) {e' : TypeId}
    (h : ∀ v' W', W'.ownsRow B e 1 v' (n + m) (xs ++ cs.toList) → Below B w W' → Lib.OthersKept e none w W' → wpList P ops Q rest (a.put o.dst v') W') : wpList P ops Q (o :: rest) a (w.alloc (.cells cs e')) := by
  obtain ⟨ht1, ht2, ht3, ht4⟩ := ht
  obtain ⟨i0, hi, hz0, hz1, hz2⟩ := info_parts ht2
  refine wpList_append_own _ hgd _ _ t ho B e i0 z 1 bytes ht1 hi hz0 hz1 hz2 ht3 (by decide) _ _ _ hs (hown.alloc _) ⟨w.heap.size, 0, none⟩ m m cs.toList hx (by simp [hm]) (fun j u hj => ?_) h1 (by unfold maxLen; omega) hb (by simp; omega) ?_
  · rw [Addr.add_lit, Nat.zero_add, (Blk.new w cs e').cell]
    simpa using hj
  · intro v' w2 hown' hgrow _
    refine h v' w2 hown' (((Below.refl B w).alloc hBw _).grown hgrow (by simp; omega) (fun k hk => (hown.lt k hk).1)) ?_
    refine ((Lib.OthersKept.refl e none w).alloc _).grown hgrow fun g hg => ?_
    rcases (hown.alloc (.cells cs e')).2 with ⟨rfl, _⟩ | ⟨g', cap, cur, rfl, _, hgg, _⟩
    · simp [Value.ownBlock] at hg
    · simp [Value.ownBlock] at hg
      subst hg
      exact ⟨cur, _, hgg⟩
theorem ownsRow_slice {w : World} {B : Nat} {e : TypeId} {v : Value} {n : Nat} {xs : List Value} (h : w.ownsRow B e 1 v n xs) : ∃ ao cap, v = .slice ao n cap := by
  rcases h.2 with ⟨hv, h0⟩ | ⟨g, cap, cur, hv, _⟩
  · exact ⟨none, 0, by rw [hv, h0]⟩
  · exact ⟨_, _, hv⟩
end Go.Aq
namespace Go.Aq.Wd
open Go.Aq
theorem Bs_two (c : Nat) (h1 : 128 ≤ c) (h2 : c < 2048) : Bs (enc1 c) = [.int .u8 (192 + (c : Int) / 64), .int .u8 (128 + (c : Int) % 64)] := by
  unfold enc1
  rw [if_neg (by omega), if_pos h2]
  simp only [Bs, Bc, List.map_cons, List.map_nil]
  rw [u8n _ (by omega), u8n _ (by omega)]
  simp
theorem Bs_three (c : Nat) (h1 : 2048 ≤ c) (h2 : c < 65536) : Bs (enc1 c) = [.int .u8 (224 + (c : Int) / 4096), .int .u8 (128 + (c : Int) / 64 % 64), .int .u8 (128 + (c : Int) % 64)] := by
  unfold enc1
  rw [if_neg (by omega), if_neg (by omega), if_pos h2]
  simp only [Bs, Bc, List.map_cons, List.map_nil]
  rw [u8n _ (by omega), u8n _ (by omega), u8n _ (by omega)]
  simp
theorem Bs_four (c : Nat) (h1 : 65536 ≤ c) (h2 : c ≤ 1114111) : Bs (enc1 c) = [.int .u8 (240 + (c : Int) / 262144), .int .u8 (128 + (c : Int) / 4096 % 64), .int .u8 (128 + (c : Int) / 64 % 64), .int .u8 (128 + (c : Int) % 64)] := by
  unfold enc1
  rw [if_neg (by omega), if_neg (by omega), if_neg (by omega)]
  simp only [Bs, Bc, List.map_cons, List.map_nil]
  rw [u8n _ (by omega), u8n _ (by omega), u8n _ (by omega), u8n _ (by omega)]
  simp
theorem Bs_one1 (c : Nat) (h1 : c < 128) : Bs (enc1 c) = [.int .u8 (c : Int)] := by
  rw [enc1_low c h1]
  simp only [Bs, Bc, List.map_cons, List.map_nil]
  rw [u8n _ (by omega)]
theorem enc1_of_Bs (c : Nat) (l : List Value) (h : Bs (enc1 c) = l) : (enc1 c).length = l.length := by rw [← h, Bs_length]
end Go.Aq.Wd
namespace Go.Proofs.YtihoohhngiomdaaGreatDoor
open Go.RowKit Go.Aq Go.Aq.Wd
set_option maxHeartbeats 2000000 in
set_option maxRecDepth 100000 in
theorem aTwo (c : Nat) (hc : 128 ≤ c) (h2 : c < 2048) (v : Value) (n : Nat) (xs : List Value) (B : Nat) (w : World) (hown : w.ownsRow B 5 1 v n xs) (hlen : n + 4 ≤ 140737488355328) (hBw : B ≤ w.heap.size) :
    Calls Tryz.prog 112 #[v, .int .i32 c] w fun e w' => ∃ v', e = .returned v' ∧ w'.ownsRow B 5 1 v' (n + (enc1 c).length) (xs ++ Bs (enc1 c)) ∧ Below B w w' ∧ Lib.OthersKept 5 none w w' := by
  have he := Bs_two c hc h2
  have hl := enc1_of_Bs c _ he
  rw [he, hl]
  clear he hl
  go_enter Tryz.func112, Tryz.ntmps112
  go_wp2_with (at_builtin; refine wpList_appB rfl _ _ 25 rfl sl_u8 rfl hown #[.int .u8 (192 + (c : Int) / 64), .int .u8 (128 + (c : Int) % 64)] 2 rfl (by decide) rfl (by simp [Value.oneCell']) (by omega) (by omega) hBw ?_; intro v' w' h1 h2 h3)
  go_ret
  exact ⟨_, rfl, h1, h2, h3⟩
set_option maxHeartbeats 2000000 in
set_option maxRecDepth 100000 in
theorem aThree (c : Nat) (hc : 2048 ≤ c) (h2 : c < 65536) (hok : c < 55296 ∨ 57344 ≤ c) (v : Value) (n : Nat) (xs : List Value) (B : Nat) (w : World) (hown : w.ownsRow B 5 1 v n xs) (hlen : n + 4 ≤ 140737488355328) (hBw : B ≤ w.heap.size) :
    Calls Tryz.prog 112 #[v, .int .i32 c] w fun e w' => ∃ v', e = .returned v' ∧ w'.ownsRow B 5 1 v' (n + (enc1 c).length) (xs ++ Bs (enc1 c)) ∧ Below B w w' ∧ Lib.OthersKept 5 none w w' := by
  have he := Bs_three c hc h2
  have hl := enc1_of_Bs c _ he
  rw [he, hl]
  clear he hl
  have t1 : ¬ ((c : Int) ≤ 2047) := by omega
  rcases hok with hok | hok
  · have t2 : (c : Int) < 55296 := by omega
    go_enter Tryz.func112, Tryz.ntmps112
    go_wp2_with (at_builtin; refine wpList_appB rfl _ _ 25 rfl sl_u8 rfl hown #[.int .u8 (224 + (c : Int) / 4096), .int .u8 (128 + (c : Int) / 64 % 64), .int .u8 (128 + (c : Int) % 64)] 3 rfl (by decide) rfl (by simp [Value.oneCell']) (by omega) (by omega) hBw ?_; intro v' w' h1 h2 h3)
    go_ret
    exact ⟨_, rfl, h1, h2, h3⟩
  · have t2 : ¬ ((c : Int) < 55296) := by omega
    have t3 : (57343 : Int) < (c : Int) := by omega
    have t4 : (c : Int) ≤ 65535 := by omega
    go_enter Tryz.func112, Tryz.ntmps112
    go_wp2_with (at_builtin; refine wpList_appB rfl _ _ 25 rfl sl_u8 rfl hown #[.int .u8 (224 + (c : Int) / 4096), .int .u8 (128 + (c : Int) / 64 % 64), .int .u8 (128 + (c : Int) % 64)] 3 rfl (by decide) rfl (by simp [Value.oneCell']) (by omega) (by omega) hBw ?_; intro v' w' h1 h2 h3)
    go_ret
    exact ⟨_, rfl, h1, h2, h3⟩
set_option maxHeartbeats 2000000 in
set_option maxRecDepth 100000 in
theorem aFour (c : Nat) (hc : 65536 ≤ c) (h2 : c ≤ 1114111) (v : Value) (n : Nat) (xs : List Value) (B : Nat) (w : World) (hown : w.ownsRow B 5 1 v n xs) (hlen : n + 4 ≤ 140737488355328) (hBw : B ≤ w.heap.size) :
    Calls Tryz.prog 112 #[v, .int .i32 c] w fun e w' => ∃ v', e = .returned v' ∧ w'.ownsRow B 5 1 v' (n + (enc1 c).length) (xs ++ Bs (enc1 c)) ∧ Below B w w' ∧ Lib.OthersKept 5 none w w' := by
  have he := Bs_four c hc h2
  have hl := enc1_of_Bs c _ he
  rw [he, hl]
  clear he hl
  have t1 : decide ((c : Int) ≤ 2047) = false := by simp; omega
  have t2 : decide ((c : Int) < 55296) = false := by simp; omega
  have t3 : decide ((57343 : Int) < (c : Int)) = true := by simp; omega
  have t4 : decide ((c : Int) ≤ 65535) = false := by simp; omega
  have t4' : decide ((65535 : Int) < (c : Int)) = true := by simp; omega
  have t5 : decide ((c : Int) ≤ 1114111) = true := by simp; omega
  have hb : c ≤ 2000000 := by omega
  have hb' : (c : Int) ≤ 2000000 := by omega
  clear hc h2
  go_enter Tryz.func112, Tryz.ntmps112
  go_wp2_with (at_builtin; refine wpList_appB rfl _ _ 25 rfl sl_u8 rfl hown #[.int .u8 (240 + (c : Int) / 262144), .int .u8 (128 + (c : Int) / 4096 % 64), .int .u8 (128 + (c : Int) / 64 % 64), .int .u8 (128 + (c : Int) % 64)] 4 rfl (by decide) rfl (by simp [Value.oneCell']) (by omega) (by omega) hBw ?_; intro v' w' h1 h2 h3)
  go_ret
  exact ⟨_, rfl, h1, h2, h3⟩
set_option maxHeartbeats 2000000 in
set_option maxRecDepth 100000 in
theorem aRune (c : Nat) (hc : okR c) (v : Value) (n : Nat) (xs : List Value) (B : Nat) (w : World) (hown : w.ownsRow B 5 1 v n xs) (hlen : n + 4 ≤ 140737488355328) (hBw : B ≤ w.heap.size) :
    Calls Tryz.prog 107 #[v, .int .i32 c] w fun e w' => ∃ v', e = .returned v' ∧ w'.ownsRow B 5 1 v' (n + (enc1 c).length) (xs ++ Bs (enc1 c)) ∧ Below B w w' ∧ Lib.OthersKept 5 none w w' := by
  have hc1 : c ≤ 1114111 := by unfold okR at hc; omega
  by_cases h1 : c < 128
  · have he := Bs_one1 c h1
    have hl := enc1_of_Bs c _ he
    rw [he, hl]
    clear he hl hc
    go_enter Tryz.func107, Tryz.ntmps107
    go_wp2_with (at_builtin; refine wpList_appB rfl _ _ 25 rfl sl_u8 rfl hown #[.int .u8 (c : Int)] 1 rfl (by decide) rfl (by simp [Value.oneCell']) (by omega) (by omega) hBw ?_; intro v' w' h1 h2 h3)
    go_ret
    exact ⟨_, rfl, h1, h2, h3⟩
  · have hq : Calls Tryz.prog 112 #[v, .int .i32 c] w fun e w' => ∃ v', e = .returned v' ∧ w'.ownsRow B 5 1 v' (n + (enc1 c).length) (xs ++ Bs (enc1 c)) ∧ Below B w w' ∧ Lib.OthersKept 5 none w w' := by
      by_cases h2 : c < 2048
      · exact aTwo c (by omega) h2 v n xs B w hown hlen hBw
      · by_cases h3 : c < 65536
        · exact aThree c (by omega) h3 (by unfold okR at hc; omega) v n xs B w hown hlen hBw
        · exact aFour c (by omega) hc1 v n xs B w hown hlen hBw
    have t1 : ¬ ((c : Int) ≤ 127) := by omega
    clear hc hown
    generalize Bs (enc1 c) = E at *
    generalize (enc1 c).length = L at *
    go_enter Tryz.func107, Tryz.ntmps107
    go_wp2_with fail
    refine hq.mono ?_
    rintro e w' ⟨v', rfl, h1, h2, h3⟩
    go_wp2_with fail
    go_ret
    exact ⟨_, rfl, h1, h2, h3⟩
set_option maxHeartbeats 2000000 in
theorem wRune (B b : Nat) (bs : List UInt8) (c : Nat) (hc : okR c) (w : World) (h : Lib.IsBuilder 59 5 B b (Bs bs) w) (hlen : bs.length + 4 ≤ 140737488355328) (hBw : B ≤ w.heap.size) :
    Calls Tryz.prog 96 #[.pointer (some ⟨b, 0, none⟩), .int .i32 c] w fun e w' => (∃ r, e = .returned r) ∧
      Lib.IsBuilder 59 5 B b (Bs (bs ++ enc1 c)) w' ∧ Below B w w' ∧ Lib.OthersKept 5 (some b) w w' := by
  have hbl := Bs_length bs
  have hel := enc1_len c
  have hq := fun v n xs w' => aRune c hc v n xs B w'
  have hcl : (Bs (enc1 c)).length = (enc1 c).length := Bs_length _
  rw [Bs_append]
  rw [← hbl] at hlen
  clear hbl hc
  generalize Bs bs = bs' at *
  generalize Bs (enc1 c) = E at *
  generalize (enc1 c).length = L at *
  obtain ⟨n, hn'⟩ : ∃ n, bs'.length = n := ⟨_, rfl⟩
  rw [hn'] at hlen
  go_enter Tryz.func96, Tryz.ntmps96
  go_wp2_with fail
  refine (cc_any B b bs' _ h).mono ?_
  intro e w1 hh
  obtain ⟨rfl, h1, hb1, k1⟩ := hh
  obtain ⟨hB, v, hbk, hown, hne⟩ := h1
  rw [hn'] at hown
  obtain ⟨ao, cap, rfl⟩ := ownsRow_slice hown
  have c0 : w1.cell? ⟨b, 0, none⟩ = some (.pointer (some ⟨b, 0, none⟩)) := by rw [Lib.cell_of_heap hbk]; rfl
  have c1 : w1.cell? ⟨b, 1, none⟩ = some (.slice ao n cap) := by rw [Lib.cell_of_heap hbk]; rfl
  go_wp2_with fail
  refine (hq _ n bs' w1 hown (by omega) (by have := hb1.size; omega)).mono ?_
  intro e w2 hh
  obtain ⟨v', rfl, hown', hb2, k2⟩ := hh
  have hbk2 : w2.heap[b]? = some (.cells #[.pointer (some ⟨b, 0, none⟩), .slice ao n cap] 59 (0, 0)) := k2 b _ hbk (by simp) (fun c fz e => by simp only [Obj.cells.injEq] at e; exact neB e.2.1)
  have d0 : w2.cell? ⟨b, 0, none⟩ = some (.pointer (some ⟨b, 0, none⟩)) := by rw [Lib.cell_of_heap hbk2]; rfl
  have d1 : w2.cell? ⟨b, 1, none⟩ = some (.slice ao n cap) := by rw [Lib.cell_of_heap hbk2]; rfl
  have f1 : w2.frozen? ⟨b, 1, none⟩ = false := Lib.frozen_of_heap hbk2 1
  obtain ⟨ao', cap', rfl⟩ := ownsRow_slice hown'
  go_wp2_with fail
  go_ret2
  refine ⟨⟨_, rfl⟩, .inr ?_, ?_, ?_⟩
  · exact Lib.BuilderAt.put (T := 59) (e := 5) hB hbk2 (bs' := bs' ++ E) (by rw [List.length_append, hcl, hn']; exact hown') neB
  · exact (hb1.trans hb2).setCell (p := ⟨b, 1, none⟩) hB _
  · refine (k1.trans ?_).setCell ⟨b, 1, none⟩ rfl _
    exact fun k o h1 _ h3 => k2 k o h1 (by simp) h3
end Go.Proofs.YtihoohhngiomdaaGreatDoor

