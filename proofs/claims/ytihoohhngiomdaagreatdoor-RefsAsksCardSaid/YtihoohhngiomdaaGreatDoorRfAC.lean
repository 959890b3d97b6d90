/- RfA, RfB, RfC in one text. No statement of the seat is proved here. -/
import Derived.Test.YtihoohhngiomdaaGreatDoorRngD
import Derived.Laws.CopyRow
set_option linter.unusedSimpArgs false
set_option linter.unusedVariables false
/- Contracts of refs.Find, refs.Drop's closure, slices.Clone and slices.IndexFunc at refs. No statement of the seat is proved here. -/
namespace Go.Aq
open Go.RowKit
theorem find_none_take {l : List RefD} {t : Bool} {n : List UInt8} (h : ∀ r ∈ l, isR t n r = false) : findL l t n = none := by
  unfold findL
  rw [List.find?_eq_none.2 (fun r hr => by rw [h r hr]; decide)]; rfl
theorem find_at {l : List RefD} {t : Bool} {n : List UInt8} {i : Nat} (hi : i < l.length) (h : ∀ r ∈ l.take i, isR t n r = false) (hh : isR t n l[i] = true) : findL l t n = some l[i].key := by
  unfold findL
  have e : l = l.take i ++ l[i] :: l.drop (i + 1) := by rw [List.getElem_cons_drop, List.take_append_drop]
  conv => lhs; rw [e]
  rw [List.find?_append, List.find?_eq_none.2 (fun r hr => by rw [h r hr]; decide), Option.none_or, List.find?_cons, hh]
  rfl
end Go.Aq
namespace Go.Proofs.YtihoohhngiomdaaGreatDoor
open Go.RowKit Go.Aq Go.Aq.Wd
set_option maxRecDepth 100000 in
set_option maxHeartbeats 4000000 in
theorem find_any (w : World) (v : Value) (l : List RefD) (t : Bool) (nm : List UInt8) (hv : Sees w 3 v l.length (Rfs l)) (hl : l.length ≤ 1000000) :
    Calls Tryz.prog 11 #[v, .bool t, .string (str nm)] w fun e w' => e = .returned (.tuple #[.string (str ((findL l t nm).getD [])), .bool (findL l t nm).isSome]) ∧ Chg [] w w' := by
  obtain ⟨nl, HL⟩ : ∃ n, Hid (l.length = n) := ⟨_, rfl⟩
  rw [HL.out] at hv hl
  obtain ⟨ao, cap, rfl, hcap, hno⟩ := hv.shape
  clear hno
  go_enter Tryz.func11, Tryz.ntmps11
  go_wp2_with fail
  go_loopg [12] nl (fun k vi wr => ∃ (i : Nat), vi = .int .i64 i ∧ i + k = nl ∧ i ≤ nl ∧ Hid (∀ r ∈ l.take i, isR t nm r = false) ∧ Chg [] w wr)
  case atStart => exact ⟨0, rfl, by omega, by omega, by show ∀ r ∈ l.take 0, _; simp, Chg.refl _ _⟩
  case round =>
    obtain ⟨i, rfl, hik, hin, HM, hc⟩ := hrel
    by_cases hi : i < nl
    · have t1 : decide ((i : Int) < (nl : Int)) = true := by simp; omega
      have t1' : decide (i < nl) = true := by simp; omega
      have hil : i < l.length := by rw [HL.out]; exact hi
      obtain ⟨g, off, cap', hs, -, hgl, hcell⟩ := hv.cells (by omega)
      simp only [Value.slice.injEq, true_and] at hs
      obtain ⟨rfl, rfl⟩ := hs
      obtain ⟨x0, x1, x2⟩ := Rfs_cells HL.out hcell i hil
      have y0 := hc.cell_some x0 (by simp)
      have y1 := hc.cell_some x1 (by simp)
      have y2 := hc.cell_some x2 (by simp)
      have hib : (i : Int) ≤ 1000000 := by omega
      have hii : (i : Int) < (nl : Int) := by omega
      have htk := List.take_succ_eq_append_getElem hil
      have hfa := find_at (t := t) (n := nm) hil HM.out
      obtain ⟨K, hK⟩ : ∃ K, wr.heap.size = K := ⟨_, rfl⟩
      clear x0 x1 x2 hcell
      generalize l[i] = r at *
      have hR := isR_iff t nm r
      obtain ⟨tr, rn, ky⟩ := r
      simp only at y0 y1 y2 hR hfa
      have HH := Lib.hid (And.intro htk (And.intro hfa (And.intro hR hi)))
      have hcx : Chg [] w (wr.alloc (.cells #[.bool tr, .string (str rn), .string (str ky)] 24)) := hc.alloc _
      have HC := Lib.hid hcx
      clear htk hfa hR hcx hK
      by_cases ht : tr = t
      · subst ht
        have e1 : (tr == tr) = true := by simp
        by_cases hn : rn = nm
        · have e2 : ((str rn).toList == (str nm).toList) = true := by rw [str_eq]; simpa using hn
          have HF : Hid (findL l tr nm = some ky) := HH.out.2.1 (HH.out.2.2.1.2 ⟨rfl, hn⟩)
          clear hn
          go_wp2_with fail
          go_ret2
          rw [HF.out]
          exact ⟨rfl, HC.out⟩
        · have e2 : ((str rn).toList == (str nm).toList) = false := by rw [str_eq]; simpa using hn
          have HF : Hid (isR tr nm ⟨tr, rn, ky⟩ = false) := by
            show _ = _
            rw [Bool.eq_false_iff]
            intro e
            exact hn (HH.out.2.2.1.1 e).2
          clear hn
          go_wp2_with fail
          go_roundg (gk - 1)
          case measure => have := HH.out.2.2.2; omega
          case rel =>
            have h4 := HH.out.2.2.2
            refine ⟨i + 1, by go_num, by omega, by omega, ?_, HC.out⟩
            intro r hr
            rw [HH.out.1] at hr
            rcases List.mem_append.1 hr with hr | hr
            · exact HM.out r hr
            · rw [List.mem_singleton.1 hr]; exact HF.out
      · have e1 : (tr == t) = false := by simpa using ht
        have HF : Hid (isR t nm ⟨tr, rn, ky⟩ = false) := by
          show _ = _
          rw [Bool.eq_false_iff]
          intro e
          exact ht (HH.out.2.2.1.1 e).1
        clear ht
        go_wp2_with fail
        go_roundg (gk - 1)
        case measure => have := HH.out.2.2.2; omega
        case rel =>
          have h4 := HH.out.2.2.2
          refine ⟨i + 1, by go_num, by omega, by omega, ?_, HC.out⟩
          intro r hr
          rw [HH.out.1] at hr
          rcases List.mem_append.1 hr with hr | hr
          · exact HM.out r hr
          · rw [List.mem_singleton.1 hr]; exact HF.out
    · have t1 : decide ((i : Int) < (nl : Int)) = false := by simp; omega
      have t1' : decide (i < nl) = false := by simp; omega
      have HF : Hid (findL l t nm = none) := find_none_take (fun r hr => HM.out r (by rw [List.take_of_length_le (by rw [HL.out]; omega)]; exact hr))
      have HC := Lib.hid hc
      clear hi
      go_wp2_with fail
      go_ret2
      rw [HF.out]
      exact ⟨rfl, HC.out⟩
set_option maxRecDepth 100000 in
set_option maxHeartbeats 2000000 in
/-- Is it the name that is taken away? (The closure of Drop: what it has captured lies in two cells.) -/
theorem isR_any (r : RefD) (t : Bool) (nm : List UInt8) (A B : Nat) (w : World) (hA : w.cell? ⟨A, 0, none⟩ = some (.bool t)) (hB : w.cell? ⟨B, 0, none⟩ = some (.string (str nm))) :
    Calls Tryz.prog 37 #[rfV r, .pointer (some ⟨A, 0, none⟩), .pointer (some ⟨B, 0, none⟩)] w fun e w' => e = .returned (.bool (isR t nm r)) ∧ Chg [] w w' := by
  obtain ⟨tr, rn, ky⟩ := r
  unfold rfV
  have hc : Chg [] w (w.alloc (.cells #[.bool tr, .string (str rn), .string (str ky)] 24)) := (Chg.refl [] w).alloc _
  have x0 := hc.cell_some hA (by simp)
  have x1 := hc.cell_some hB (by simp)
  have HC := Lib.hid hc
  have hR := isR_iff t nm ⟨tr, rn, ky⟩
  have HR := Lib.hid hR
  clear hc hR
  simp only
  by_cases ht : tr = t
  · subst ht
    have e1 : (tr == tr) = true := by simp
    by_cases hn : rn = nm
    · have e2 : ((str rn).toList == (str nm).toList) = true := by rw [str_eq]; simpa using hn
      have HF : Hid (isR tr nm ⟨tr, rn, ky⟩ = true) := HR.out.2 ⟨rfl, hn⟩
      clear hn
      go_enter Tryz.func37, Tryz.ntmps37
      go_wp2_with fail
      go_ret
      rw [HF.out]
      exact ⟨rfl, HC.out⟩
    · have e2 : ((str rn).toList == (str nm).toList) = false := by rw [str_eq]; simpa using hn
      have HF : Hid (isR tr nm ⟨tr, rn, ky⟩ = false) := by
        show _ = _
        rw [Bool.eq_false_iff]
        intro e
        exact hn (HR.out.1 e).2
      clear hn
      go_enter Tryz.func37, Tryz.ntmps37
      go_wp2_with fail
      go_ret
      rw [HF.out]
      exact ⟨rfl, HC.out⟩
  · have e1 : (tr == t) = false := by simpa using ht
    have HF : Hid (isR t nm ⟨tr, rn, ky⟩ = false) := by
      show _ = _
      rw [Bool.eq_false_iff]
      intro e
      exact ht (HR.out.1 e).1
    clear ht
    go_enter Tryz.func37, Tryz.ntmps37
    go_wp2_with fail
    go_ret
    rw [HF.out]
    exact ⟨rfl, HC.out⟩
set_option maxRecDepth 100000 in
set_option maxHeartbeats 400000 in
/-- slices.Clone at refs: a slice of its own. -/
theorem clone_refs (w : World) (v : Value) (l : List RefD) (hv : Sees w 3 v l.length (Rfs l)) (hl : l.length ≤ 1000000) :
    Calls Tryz.prog 36 #[v] w fun e w' => ∃ v', e = .returned v' ∧ Fresh w w' 24 3 v' l.length (Rfs l) := by
  obtain ⟨ao, cap, rfl, hcap, hno⟩ := hv.shape
  have h1 : ∀ u ∈ Rfs l, u.oneCell' = true := by
    intro u hu
    unfold Rfs at hu
    obtain ⟨r, hr, hu⟩ := List.mem_flatMap.1 hu
    simp only [rfCells, List.mem_cons, List.not_mem_nil, or_false] at hu
    rcases hu with rfl | rfl | rfl <;> rfl
  cases ao with
  | none =>
    obtain ⟨h0, hc0⟩ := hno rfl
    have hnil : l = [] := List.length_eq_zero_iff.1 h0
    subst hnil
    subst hc0
    have hq : (binOp .eql 22 (.slice none 0 0) (.slice none 0 0)).run Tryz.prog w = .ok (.bool true) w := by kernel_rfl
    go_enter Tryz.func36, Tryz.ntmps36
    go_wp2_with fail
    go_ret
    exact ⟨_, rfl, Fresh.nil w _ _⟩
  | some ad =>
    have hc1 : Chg [] w (w.alloc (.cells #[] 24)) := (Chg.refl [] w).alloc _
    have hv1 := hv.chg0 hc1
    have hq : (binOp .eql 22 (.slice (some ad) l.length cap) (.slice none 0 0)).run Tryz.prog w = .ok (.bool false) w := by kernel_rfl
    clear hno
    go_enter Tryz.func36, Tryz.ntmps36
    go_wp2_with (at_builtin; refine wpList_app rfl _ _ 22 rfl sl_ref (n := 0) (xs := []) (Own.made w 24 3) rfl hv1 rfl h1 (by omega) (by omega) ?_; intro v' w' ho hc hn)
    go_ret
    refine ⟨v', rfl, by simpa using ho, hc1.trans hc (by simp [Value.ownBlock]), fun k hk => ?_⟩
    rcases hn k hk with h | h
    · simp [Value.ownBlock] at h; omega
    · simp at h; omega
end Go.Proofs.YtihoohhngiomdaaGreatDoor

/- Contracts of slices.IndexFunc, slices.DeleteFunc at refs, refs.Drop. No statement of the seat is proved here. -/
namespace Go.Aq
open Go.RowKit
/-- clear(s): the cells of s turn; those ahead of it stand. -/
theorem wpList_clear {P : Program} {W : World} {ops : Array Oper} {rest : List Oper} {o : Oper} {a : Act} {Q : Exit → Act → World → Prop} (hgd : o.guard = none) (s : Operand) (t : TypeId)
    (ho : o.op = .call { callee := .builtin .clear, args := #[s], argTypes := #[t] }) {e : TypeId} {z : Value} (ht : P.underlying t = some (.slice e)) (hz : ∀ w, (zeroValue e).run P w = .ok z w) (hz1 : ∀ v ∈ z.cells.toList, v.oneCell' = true)
    {g p m' cap : Nat} (hm' : 0 < m') (hs : a.eval s = .slice (some ⟨g, p, none⟩) m' cap) {cs : Array Value} {te : TypeId} (hb : Blk W g cs te) (hfit : p + m' * z.cells.size ≤ cs.size)
    (h : ∀ W' cs', Blk W' g cs' te → cs'.size = cs.size → (∀ k, k < p → cs'[k]? = cs[k]?) → Chg [g] W W' → wpList P ops Q rest (a.put o.dst (.tuple #[])) W') : wpList P ops Q (o :: rest) a W := by
  obtain ⟨m, rfl⟩ : ∃ m, m' = m + 1 := ⟨m' - 1, by omega⟩
  refine wpList_plain hgd fun _ hK => ?_
  have hlen : (Builtin.zeroCells z.cells (m + 1)).toList.length = (m + 1) * z.cells.size := by simp [Builtin.zeroCells]
  have hone : ∀ v ∈ (Builtin.zeroCells z.cells (m + 1)).toList, v.oneCell' = true := by
    intro v hv
    simp only [Builtin.zeroCells] at hv
    obtain ⟨q, hq⟩ := List.mem_iff_getElem.1 hv
    obtain ⟨hq1, hq2⟩ := hq
    have hq3 : q < (m + 1) * z.cells.size := by simpa using hq1
    have hsz : 0 < z.cells.size := by
      rcases Nat.eq_zero_or_pos z.cells.size with h0 | h0
      · rw [h0, Nat.mul_zero] at hq3; omega
      · exact h0
    simp at hq2
    rw [← hq2, getElem!_pos z.cells _ (Nat.mod_lt _ hsz)]
    apply hz1
    simp
  have hst := run_storeCells_at (P := P) g p te (Builtin.zeroCells z.cells (m + 1)).toList 0 cs W hb (by rw [hlen]; omega) hone
  rw [Nat.add_zero] at hst
  unfold Oper.wp execOp
  simp only [ho, resolve, invoke, builtin, Sem.run_bind, Sem.run_pure, Result.andThen_ok, List.map_toArray, List.map_cons, List.map_nil, hs]
  simp [Builtin.clear_, run_underlying ht, hz, hst, Result.andThen]
  refine hK _ _ (h _ _ (setRow_heap W g cs _ te _ hb) ?_ ?_ ⟨rfl, rfl, rfl, by simp, fun k _ hk => setRow_other W g k _ (fun e => hk (by simp [e]))⟩)
  · have h2 : (Builtin.zeroCells z.cells (m + 1)).size = (m + 1) * z.cells.size := by rw [← hlen, Array.length_toList]
    simp only [List.size_toArray, List.length_append, List.length_take, List.length_drop, Array.length_toList, h2]
    omega
  · intro k hk
    simp only [List.getElem?_toArray, List.append_assoc]
    rw [List.getElem?_append_left (by simp; omega), List.getElem?_take, if_pos hk]
    simp
theorem takeWhile_all {α : Type} {p : α → Bool} : ∀ {l : List α}, (∀ x ∈ l, p x = true) → l.takeWhile p = l
  | [], _ => rfl
  | a :: t, h => by rw [List.takeWhile_cons, h a (by simp), if_pos rfl, takeWhile_all (fun x hx => h x (by simp [hx]))]
def idxL (l : List RefD) (t : Bool) (n : List UInt8) : Nat := (l.takeWhile fun r => !isR t n r).length
/-- What IndexFunc says. -/
def idxV (l : List RefD) (t : Bool) (n : List UInt8) : Int := if idxL l t n < l.length then (idxL l t n : Int) else -1
theorem idx_all {l : List RefD} {t : Bool} {n : List UInt8} (h : ∀ r ∈ l, isR t n r = false) : idxL l t n = l.length := by
  unfold idxL
  rw [takeWhile_all (fun r hr => by rw [h r hr]; rfl)]
theorem idx_at {l : List RefD} {t : Bool} {n : List UInt8} {i : Nat} (hi : i < l.length) (h : ∀ r ∈ l.take i, isR t n r = false) (hh : isR t n l[i] = true) : idxL l t n = i := by
  have e : l = l.take i ++ l[i] :: l.drop (i + 1) := by rw [List.getElem_cons_drop, List.take_append_drop]
  unfold idxL
  conv => lhs; rw [e]
  rw [List.takeWhile_append_of_pos (fun r hr => by rw [h r hr]; rfl), List.takeWhile_cons, hh]
  simp
  omega
theorem idxL_cons (a : RefD) (l : List RefD) (t : Bool) (n : List UInt8) : idxL (a :: l) t n = if isR t n a then 0 else idxL l t n + 1 := by
  unfold idxL
  rw [List.takeWhile_cons]
  cases isR t n a <;> simp
theorem idx_spec (t : Bool) (n : List UInt8) : ∀ (l : List RefD), (∀ h : idxL l t n < l.length, (∀ r ∈ l.take (idxL l t n), isR t n r = false) ∧ isR t n (l[idxL l t n]'h) = true) ∧ (¬ idxL l t n < l.length → ∀ r ∈ l, isR t n r = false)
  | [] => ⟨fun h => by simp at h, fun _ r hr => by cases hr⟩
  | a :: l => by
    obtain ⟨i1, i2⟩ := idx_spec t n l
    have e := idxL_cons a l t n
    cases ha : isR t n a with
    | true =>
      rw [ha, if_pos rfl] at e
      refine ⟨fun h => ?_, fun h => absurd (by rw [e]; simp) h⟩
      simp only [e, List.take_zero, List.getElem_cons_zero]
      exact ⟨fun r hr => by simp at hr, ha⟩
    | false =>
      rw [ha, if_neg (by simp)] at e
      refine ⟨fun h => ?_, fun h => ?_⟩
      · have h' : idxL l t n < l.length := by rw [e] at h; simpa using h
        obtain ⟨j1, j2⟩ := i1 h'
        simp only [e, List.take_succ_cons, List.getElem_cons_succ]
        refine ⟨fun r hr => ?_, j2⟩
        rcases List.mem_cons.1 hr with rfl | hr
        · exact ha
        · exact j1 r hr
      · have h' : ¬ idxL l t n < l.length := by rw [e] at h; simpa using h
        intro r hr
        rcases List.mem_cons.1 hr with rfl | hr
        · exact ha
        · exact i2 h' r hr
theorem Rfs_app (a b : List RefD) : Rfs (a ++ b) = Rfs a ++ Rfs b := by simp [Rfs]
theorem Rfs_take (l : List RefD) (i : Nat) (h : i ≤ l.length) : Rfs (l.take i) = (Rfs l).take (i * 3) := by
  have e : Rfs l = Rfs (l.take i) ++ Rfs (l.drop i) := by rw [← Rfs_app, List.take_append_drop]
  have hl : (Rfs (l.take i)).length = i * 3 := by rw [Rfs_len, List.length_take]; omega
  rw [e, ← hl, List.take_left]
theorem take_of_get {a b : Array Value} {k : Nat} (h : ∀ q, q < k → a[q]? = b[q]?) : a.toList.take k = b.toList.take k := by
  apply List.ext_getElem?
  intro q
  rw [List.getElem?_take, List.getElem?_take]
  split
  · rename_i hq
    have := h q hq
    simpa using this
  · rfl
end Go.Aq
namespace Go.Proofs.YtihoohhngiomdaaGreatDoor
open Go.RowKit Go.Aq Go.Aq.Wd
set_option maxRecDepth 100000 in
set_option maxHeartbeats 4000000 in
theorem index_refs (w : World) (v : Value) (l : List RefD) (t : Bool) (nm : List UInt8) (A B : Nat) (hA : w.cell? ⟨A, 0, none⟩ = some (.bool t)) (hB : w.cell? ⟨B, 0, none⟩ = some (.string (str nm))) (hv : Sees w 3 v l.length (Rfs l)) (hl : l.length ≤ 1000000) :
    Calls Tryz.prog 55 #[v, .func (.func 37) #[] #[.pointer (some ⟨A, 0, none⟩), .pointer (some ⟨B, 0, none⟩)]] w fun e w' => e = .returned (.int .i64 (idxV l t nm)) ∧ Chg [] w w' := by
  obtain ⟨nl, HL⟩ : ∃ n, Hid (l.length = n) := ⟨_, rfl⟩
  rw [HL.out] at hv hl
  obtain ⟨ao, cap, rfl, hcap, hno⟩ := hv.shape
  have HAB := Lib.hid (And.intro hA hB)
  clear hno hA hB
  go_enter Tryz.func55, Tryz.ntmps55
  go_wp2_with fail
  go_loopg [8] nl (fun k vi wr => ∃ (i : Nat), vi = .int .i64 i ∧ i + k = nl ∧ i ≤ nl ∧ Hid (∀ r ∈ l.take i, isR t nm r = false) ∧ Chg [] w wr)
  case atStart => exact ⟨0, rfl, by omega, by omega, by show ∀ r ∈ l.take 0, _; simp, Chg.refl _ _⟩
  case round =>
    obtain ⟨i, rfl, hik, hin, HM, hc⟩ := hrel
    by_cases hi : i < nl
    · have t1 : decide ((i : Int) < (nl : Int)) = true := by simp; omega
      have t1' : decide (i < nl) = true := by simp; omega
      have hil : i < l.length := by rw [HL.out]; exact hi
      obtain ⟨g, off, cap', hs, -, hgl, hcell⟩ := hv.cells (by omega)
      simp only [Value.slice.injEq, true_and] at hs
      obtain ⟨rfl, rfl⟩ := hs
      obtain ⟨x0, x1, x2⟩ := Rfs_cells HL.out hcell i hil
      have y0 := hc.cell_some x0 (by simp)
      have y1 := hc.cell_some x1 (by simp)
      have y2 := hc.cell_some x2 (by simp)
      have hib : (i : Int) ≤ 1000000 := by omega
      have hii : (i : Int) < (nl : Int) := by omega
      have htk := List.take_succ_eq_append_getElem hil
      have hfa := idx_at (t := t) (n := nm) hil HM.out
      have his := fun w' (c : Chg [] w w') => isR_any l[i] t nm A B w' (c.cell_some HAB.out.1 (by simp)) (c.cell_some HAB.out.2 (by simp))
      clear x0 x1 x2 hcell
      generalize l[i] = r at *
      obtain ⟨b, hb⟩ : ∃ b, isR t nm r = b := ⟨_, rfl⟩
      rw [hb] at his hfa
      obtain ⟨tr, rn, ky⟩ := r
      simp only at y0 y1 y2
      unfold rfV at his
      simp only at his
      have HH := Lib.hid (And.intro htk (And.intro hfa (And.intro hb hi)))
      have HC := Lib.hid hc
      have hisw := his wr hc
      clear htk hfa hb his
      go_wp2_with fail
      refine hisw.mono ?_
      rintro e w3 ⟨rfl, c3⟩
      clear hisw y0 y1 y2
      cases b with
      | true =>
        have HF : Hid (idxV l t nm = (i : Int)) := by
          show _ = _
          unfold idxV
          have h1 := HH.out.2.1 rfl
          rw [h1, if_pos (by rw [HL.out]; exact HH.out.2.2.2)]
        go_wp2_with fail
        go_ret
        exact ⟨by rw [HF.out]; rfl, HC.out.nil c3⟩
      | false =>
        go_wp2_with fail
        go_roundg (gk - 1)
        case measure => have := HH.out.2.2.2; omega
        case rel =>
          have h4 := HH.out.2.2.2
          refine ⟨i + 1, by go_num, by omega, by omega, ?_, HC.out.nil c3⟩
          intro r hr
          rw [HH.out.1] at hr
          rcases List.mem_append.1 hr with hr | hr
          · exact HM.out r hr
          · rw [List.mem_singleton.1 hr]; exact HH.out.2.2.1
    · have t1 : decide ((i : Int) < (nl : Int)) = false := by simp; omega
      have t1' : decide (i < nl) = false := by simp; omega
      have HF : Hid (idxV l t nm = -1) := by
        show _ = _
        unfold idxV
        have h1 := idx_all (fun r hr => HM.out r (by rw [List.take_of_length_le (by rw [HL.out]; omega)]; exact hr))
        rw [h1, if_neg (by omega)]
      have HC := Lib.hid hc
      clear hi
      go_wp2_with fail
      go_ret
      exact ⟨by rw [HF.out]; rfl, HC.out⟩
end Go.Proofs.YtihoohhngiomdaaGreatDoor

/- Contracts of slices.DeleteFunc at refs, refs.Drop. No statement of the seat is proved here. -/
namespace Go.Aq
open Go.RowKit
theorem store3 (cr : Array Value) (p : Nat) (a b c : Value) (h : p + 3 ≤ cr.size) : (((cr.setIfInBounds p a).setIfInBounds (p + 1) b).setIfInBounds (p + 2) c).toList.take (p + 3) = cr.toList.take p ++ [a, b, c] := by
  apply List.ext_getElem?
  intro q
  have hl : (cr.toList.take p).length = p := by simp; omega
  rw [List.getElem?_take]
  have hsz : cr.toList.length = cr.size := Array.length_toList
  by_cases h1 : q < p
  · rw [if_pos (by omega), List.getElem?_append_left (by omega), List.getElem?_take, if_pos h1]
    simp only [Array.toList_setIfInBounds, List.getElem?_set]
    rw [if_neg (by omega), if_neg (by omega), if_neg (by omega)]
  · rw [List.getElem?_append_right (by omega), hl]
    simp only [Array.toList_setIfInBounds, List.getElem?_set, List.length_set, hsz]
    by_cases h2 : q = p
    · subst h2
      rw [if_pos (by omega), if_neg (by omega), if_neg (by omega), if_pos rfl, if_pos (by omega)]
      simp
    · by_cases h3 : q = p + 1
      · subst h3
        rw [if_pos (by omega), if_neg (by omega), if_pos rfl, if_pos (by omega)]
        simp
      · by_cases h4 : q = p + 2
        · subst h4
          rw [if_pos (by omega), if_pos rfl, if_pos (by omega)]
          simp
        · rw [if_neg (by omega), List.getElem?_eq_none (by simp; omega)]
/-- clear(s), as a run. -/
theorem run_clearR {P : Program} {W : World} {t e : TypeId} (ty : TypeId) {z : Value} (ht : P.underlying t = some (.slice e)) (hz : ∀ w, (zeroValue e).run P w = .ok z w) (hz1 : ∀ v ∈ z.cells.toList, v.oneCell' = true)
    {g p m' cap : Nat} (hm' : 0 < m') {cs : Array Value} {te : TypeId} (hb : Blk W g cs te) (hfit : p + m' * z.cells.size ≤ cs.size) :
    ∃ W' cs', (Builtin.clear_ #[t] ty #[.slice (some ⟨g, p, none⟩) m' cap]).run P W = .ok (.tuple #[]) W' ∧ Blk W' g cs' te ∧ cs'.size = cs.size ∧ (∀ k, k < p → cs'[k]? = cs[k]?) ∧ Chg [g] W W' := by
  obtain ⟨m, rfl⟩ : ∃ m, m' = m + 1 := ⟨m' - 1, by omega⟩
  have hlen : (Builtin.zeroCells z.cells (m + 1)).toList.length = (m + 1) * z.cells.size := by simp [Builtin.zeroCells]
  have hone : ∀ v ∈ (Builtin.zeroCells z.cells (m + 1)).toList, v.oneCell' = true := by
    intro v hv
    simp only [Builtin.zeroCells] at hv
    obtain ⟨q, hq⟩ := List.mem_iff_getElem.1 hv
    obtain ⟨hq1, hq2⟩ := hq
    have hq3 : q < (m + 1) * z.cells.size := by simpa using hq1
    have hsz : 0 < z.cells.size := by
      rcases Nat.eq_zero_or_pos z.cells.size with h0 | h0
      · rw [h0, Nat.mul_zero] at hq3; omega
      · exact h0
    simp at hq2
    rw [← hq2, getElem!_pos z.cells _ (Nat.mod_lt _ hsz)]
    apply hz1
    simp
  have hst := run_storeCells_at (P := P) g p te (Builtin.zeroCells z.cells (m + 1)).toList 0 cs W hb (by rw [hlen]; omega) hone
  rw [Nat.add_zero] at hst
  have h2 : (Builtin.zeroCells z.cells (m + 1)).size = (m + 1) * z.cells.size := by rw [← hlen, Array.length_toList]
  have hrun : (Builtin.clear_ #[t] ty #[.slice (some ⟨g, p, none⟩) (m + 1) cap]).run P W = .ok (.tuple #[]) (W.setRow g (cs.toList.take p ++ ((Builtin.zeroCells z.cells (m + 1)).toList ++ cs.toList.drop (p + (Builtin.zeroCells z.cells (m + 1)).size))).toArray) := by
    simp [Builtin.clear_, run_underlying ht, hz, hst, Result.andThen]
  refine ⟨_, _, hrun, setRow_heap W g cs _ te _ hb, ?_, ?_, ⟨rfl, rfl, rfl, by simp, fun k _ hk => setRow_other W g k _ (fun e => hk (by simp [e]))⟩⟩
  · simp only [List.size_toArray, List.length_append, List.length_take, List.length_drop, Array.length_toList, h2]
    omega
  · intro k hk
    simp only [List.getElem?_toArray]
    rw [List.getElem?_append_left (by simp; omega), List.getElem?_take, if_pos hk]
    simp
theorem dropL_snoc (a : List RefD) (r : RefD) (t : Bool) (n : List UInt8) : dropL (a ++ [r]) t n = dropL a t n ++ (if isR t n r then [] else [r]) := by
  unfold dropL
  rw [List.filter_append]
  cases h : isR t n r <;> simp [h]
end Go.Aq
namespace Go.Proofs.YtihoohhngiomdaaGreatDoor
open Go.RowKit Go.Aq Go.Aq.Wd
theorem zero_ref : ∀ w, (zeroValue 24).run Tryz.prog w = .ok (.agg #[.bool false, .string ⟨#[]⟩, .string ⟨#[]⟩]) w := fun w => by kernel_rfl
set_option maxRecDepth 100000 in
set_option maxHeartbeats 8000000 in
theorem delete_refs (w0 w : World) (v : Value) (l : List RefD) (t : Bool) (nm : List UInt8) (A B : Nat) (hF : Fresh w0 w 24 3 v l.length (Rfs l)) (hA : Blk w A #[.bool t] 4) (hB : Blk w B #[.string (str nm)] 9) (hl : l.length ≤ 1000000) :
    Calls Tryz.prog 35 #[v, .func (.func 37) #[] #[.pointer (some ⟨A, 0, none⟩), .pointer (some ⟨B, 0, none⟩)]] w fun e w' => ∃ v', e = .returned v' ∧ Fresh w0 w' 24 3 v' (dropL l t nm).length (Rfs (dropL l t nm)) ∧ (∀ k ∈ v'.ownBlock.toList, k ∈ v.ownBlock.toList) := by
  have hA0 : w.cell? ⟨A, 0, none⟩ = some (.bool t) := hA.cell 0
  have hB0 : w.cell? ⟨B, 0, none⟩ = some (.string (str nm)) := hB.cell 0
  have hix := index_refs w v l t nm A B hA0 hB0 hF.own.sees hl
  obtain ⟨s1, s2⟩ := idx_spec t nm l
  have hAn := Own.ne hF.own hA (by decide)
  have hBn := Own.ne hF.own hB (by decide)
  by_cases hi0 : idxL l t nm < l.length
  · obtain ⟨s3, s4⟩ := s1 hi0
    obtain ⟨n, hn⟩ : ∃ n, l.length = n := ⟨_, rfl⟩
    have hFo := hF.own
    rw [hn] at hFo hi0
    obtain ⟨hlen, h2⟩ := hFo
    rcases h2 with ⟨rfl, h0⟩ | ⟨g, cap, cs, rfl, -, hb, hnc, hcm, hcs, htk⟩
    · omega
    have hb' : Blk w g cs 24 := hb
    obtain ⟨i0, hi⟩ : ∃ i0, idxL l t nm = i0 := ⟨_, rfl⟩
    have hv : idxV l t nm = (i0 : Int) := by unfold idxV; rw [if_pos (by rw [hn]; exact hi0), hi]
    rw [hv] at hix
    have hAg : A ≠ g := fun e => hAn (by simp [Value.ownBlock, e])
    have hBg : B ≠ g := fun e => hBn (by simp [Value.ownBlock, e])
    have hd0 : dropL (l.take (i0 + 1)) t nm = l.take i0 := by
      have hil : i0 < l.length := by rw [hn, ← hi]; exact hi0
      rw [List.take_succ_eq_append_getElem hil]
      unfold dropL
      rw [List.filter_append]
      have e1 : (l.take i0).filter (fun r => !isR t nm r) = l.take i0 := List.filter_eq_self.2 fun r hr => by rw [s3 r (by rw [hi]; exact hr)]; rfl
      have e2 : isR t nm l[i0] = true := by simp only [← hi]; exact s4
      rw [e1]
      simp [e2]
    have hgl := hb'.lt
    have h0g : w0.heap.size ≤ g := hF.new g (by simp [Value.ownBlock])
    have hcells : ∀ q, q < n * 3 → cs[q]? = (Rfs l)[q]? := fun q hq => by
      rw [← htk, List.getElem?_take, if_pos hq]; simp
    have HS := Lib.hid (And.intro hF.chg (And.intro hb' (And.intro hcs (And.intro htk (And.intro hd0 (And.intro hcells (And.intro h0g hcm)))))))
    have HAB := Lib.hid (And.intro hA0 (And.intro hB0 (And.intro hAg hBg)))
    have HN := Lib.hid hn
    have hi1 : i0 < n := by rw [← hi]; exact hi0
    have hi2 : ((i0 : Int) == -1) = false := by simp
    rw [hn] at hl
    clear hA hB hA0 hB0 hAn hBn s1 s2 s3 s4 hF hb hb' hcs htk hd0 hcells h0g hi hv hi0 hlen hAg hBg
    go_enter Tryz.func35, Tryz.ntmps35
    go_wp2_with fail
    refine hix.mono ?_
    rintro e w1 ⟨rfl, c1⟩
    clear hix
    have hw0 : wrap64 ((i0 : Int) + 1) = ((i0 + 1 : Nat) : Int) := by rw [Int.natCast_add]; exact (by unfold wrap64; omega)
    go_wp2_with fail
    go_loopg [5, 6] (n - (i0 + 1)) (fun k v5 v6 wr => ∃ (i j : Nat) (cr : Array Value), v5 = .int .i64 i ∧ v6 = .int .i64 j ∧ j + k = n ∧ i < j ∧ j ≤ n ∧ Blk wr g cr 24 ∧ cr.size = cap * 3 ∧ i = (dropL (l.take j) t nm).length ∧ cr.toList.take (i * 3) = Rfs (dropL (l.take j) t nm) ∧ (∀ q, j * 3 ≤ q → q < n * 3 → cr[q]? = (Rfs l)[q]?) ∧ Chg [g] w wr)
    case atStart =>
      obtain ⟨h1, h2, h3, h4, h5, h6, h7, h8⟩ := HS.out
      refine ⟨i0, i0 + 1, cs, rfl, by first | rfl | rw [hw0] | go_num, by omega, by omega, by omega, h2.chg0 c1, h3, by rw [h5, List.length_take, HN.out]; omega, ?_, fun q _ hq => h6 q hq, (Chg.refl [g] w).trans c1 (by simp)⟩
      rw [h5, Rfs_take l i0 (by rw [HN.out]; omega), ← h4, List.take_take]
      congr 1
      omega
    case round =>
      obtain ⟨i, j, cr, rfl, rfl, hjk, hij, hjn, hbr, hcr, hie, htk, hrest, hc⟩ := hrel
      by_cases hj : j < n
      · have t1 : decide ((j : Int) < (n : Int)) = true := by simp; omega
        have t1' : decide (j < n) = true := by simp; omega
        have hjl : j < l.length := by rw [HN.out]; exact hj
        obtain ⟨g0, g1, g2⟩ := Rfs_at l j hjl
        have y0 : wr.cell? ⟨g, j * 3, none⟩ = some (.bool (l[j]'hjl).tag) := by rw [hbr.cell, hrest (j * 3) (by omega) (by omega)]; exact g0
        have y1 : wr.cell? ⟨g, j * 3 + 1, none⟩ = some (.string (str (l[j]'hjl).name)) := by rw [hbr.cell, hrest (j * 3 + 1) (by omega) (by omega)]; exact g1
        have y2 : wr.cell? ⟨g, j * 3 + 2, none⟩ = some (.string (str (l[j]'hjl).key)) := by rw [hbr.cell, hrest (j * 3 + 2) (by omega) (by omega)]; exact g2
        have htk1 := List.take_succ_eq_append_getElem hjl
        have his := fun w' (c : Chg [g] w w') => isR_any (l[j]'hjl) t nm A B w' (c.cell_some HAB.out.1 (by simpa using HAB.out.2.2.1)) (c.cell_some HAB.out.2.1 (by simpa using HAB.out.2.2.2))
        have hds := dropL_snoc (l.take j) (l[j]'hjl) t nm
        rw [← htk1] at hds
        have hji : (j : Int) < (n : Int) := by omega
        have hjb : (j : Int) ≤ 1000000 := by omega
        clear g0 g1 g2 htk1
        generalize l[j]'hjl = r at *
        obtain ⟨b, hb⟩ : ∃ b, isR t nm r = b := ⟨_, rfl⟩
        rw [hb] at his hds
        obtain ⟨tr, rn, ky⟩ := r
        simp only at y0 y1 y2
        unfold rfV at his
        simp only at his
        obtain ⟨R, hR⟩ : ∃ R, wr.heap.size = R := ⟨_, rfl⟩
        have hbx : Blk (wr.alloc (.cells #[.bool tr, .string (str rn), .string (str ky)] 24)) R #[.bool tr, .string (str rn), .string (str ky)] 24 := Blk.new_at wr _ _ hR
        have hcx : Chg [] wr (wr.alloc (.cells #[.bool tr, .string (str rn), .string (str ky)] 24)) := (Chg.refl _ _).alloc _
        have HH := Lib.hid (And.intro hbr (And.intro hc (And.intro hcr (And.intro hie (And.intro htk (And.intro hrest (And.intro hds (And.intro hjk (And.intro hij hjn)))))))))
        clear hbr hc hcr hie htk hrest hds hb
        go_upto_region 8 with (fail)
        generalize wr.alloc (.cells #[.bool tr, .string (str rn), .string (str ky)] 24) = wb at *
        obtain ⟨hbr, hc, hcr, hie, htk, hrest, hds, -, -, -⟩ := HH.out
        have cwb : Chg [g] w wb := hc.trans hcx (by simp)
        have hbb := hbr.chg0 hcx
        have f0 : wb.cell? ⟨R, 0, none⟩ = some (.bool tr) := hbx.cell 0
        have f1 : wb.cell? ⟨R, 1, none⟩ = some (.string (str rn)) := hbx.cell 1
        have f2 : wb.cell? ⟨R, 2, none⟩ = some (.string (str ky)) := hbx.cell 2
        have hisw := his wb cwb
        have HB2 := Lib.hid (And.intro hbb (And.intro cwb hbx))
        clear hbr hc hcr hie htk hrest hds hbb cwb hbx hcx y0 y1 y2 his
        go_wp2_with fail
        refine hisw.mono ?_
        rintro e w3 ⟨rfl, c3⟩
        obtain ⟨hbb, cwb, hbx⟩ := HB2.out
        have hb3 := hbb.chg0 c3
        have cw3 := cwb.trans c3 (by simp)
        have hR3 := hbx.chg0 c3
        have q0 : w3.cell? ⟨R, 0, none⟩ = some (.bool tr) := hR3.cell 0
        have q1 : w3.cell? ⟨R, 1, none⟩ = some (.string (str rn)) := hR3.cell 1
        have q2 : w3.cell? ⟨R, 2, none⟩ = some (.string (str ky)) := hR3.cell 2
        clear f0 f1 f2 hisw HB2 hbb cwb hbx c3 hR3
        cases b with
        | true =>
          have H3 := Lib.hid (And.intro hb3 cw3)
          clear hb3 cw3
          go_wp2_with fail
          go_roundg (gk - 1)
          case measure => obtain ⟨-, -, -, -, -, -, -, h1, h2, h3⟩ := HH.out; omega
          case rel =>
            obtain ⟨hbr, hc, hcr, hie, htk, hrest, hds, h1, h2, h3⟩ := HH.out
            rw [if_pos trivial, List.append_nil] at hds
            exact ⟨i, j + 1, cr, rfl, by go_num, by omega, by omega, by omega, H3.out.1, hcr, by rw [hds]; exact hie, by rw [hds]; exact htk, fun q h h' => hrest q (by omega) h', H3.out.2⟩
        | false =>
          obtain ⟨hbr, hc, hcr, hie, htk, hrest, hds, h1, h2, h3⟩ := HH.out
          have hcrs : i * 3 + 3 ≤ cr.size := by rw [hcr]; omega
          have d0 : w3.cell? ⟨g, i * 3, none⟩ = some (cr[i * 3]'(by omega)) := by rw [hb3.cell, Array.getElem?_eq_getElem (by omega)]
          have d1 : w3.cell? ⟨g, i * 3 + 1, none⟩ = some (cr[i * 3 + 1]'(by omega)) := by rw [hb3.cell, Array.getElem?_eq_getElem (by omega)]
          have d2 : w3.cell? ⟨g, i * 3 + 2, none⟩ = some (cr[i * 3 + 2]'(by omega)) := by rw [hb3.cell, Array.getElem?_eq_getElem (by omega)]
          have k0 := hb3.frozen (i * 3)
          have k1 := hb3.frozen (i * 3 + 1)
          have k2 := hb3.frozen (i * 3 + 2)
          have hib : (i : Int) ≤ 1000000 := by omega
          have hii : (i : Int) < (n : Int) := by omega
          have hii' : i < n := by omega
          generalize cr[i * 3]'_ = u0 at d0
          generalize cr[i * 3 + 1]'_ = u1 at d1
          generalize cr[i * 3 + 2]'_ = u2' at d2
          have H3 := Lib.hid (And.intro hb3 (And.intro cw3 hcrs))
          clear hbr hc hcr hie htk hrest hds h1 h2 h3 hb3 cw3 hcrs
          go_wp2_with fail
          go_roundg (gk - 1)
          case measure => obtain ⟨-, -, -, -, -, -, -, h1, h2, h3⟩ := HH.out; omega
          case rel =>
            obtain ⟨hbr, hc, hcr, hie, htk, hrest, hds, h1, h2, h3⟩ := HH.out
            obtain ⟨hb3, cw3, hcrs⟩ := H3.out
            rw [if_neg (by simp)] at hds
            refine ⟨i + 1, j + 1, _, by go_num, by go_num, by omega, by omega, by omega, ((hb3.set (i * 3) (.bool tr)).set (i * 3 + 1) (.string (str rn))).set (i * 3 + 2) (.string (str ky)), by simp [hcr], by rw [hds, List.length_append, ← hie]; rfl, ?_, fun q hq hq' => ?_, ((cw3.setCell (.inl (by simp)) _).setCell (.inl (by simp)) _).setCell (.inl (by simp)) _⟩
            · rw [show (i + 1) * 3 = i * 3 + 3 by omega, store3 cr (i * 3) _ _ _ hcrs, htk, hds, Rfs_app]
              rfl
            · rw [Array.getElem?_setIfInBounds, if_neg (by omega), Array.getElem?_setIfInBounds, if_neg (by omega), Array.getElem?_setIfInBounds, if_neg (by omega)]
              exact hrest q (by omega) hq'
      · have t1 : decide ((j : Int) < (n : Int)) = false := by simp; omega
        have t1' : decide (j < n) = false := by simp; omega
        have hjn' : j = n := by omega
        rw [hjn', ← HN.out, List.take_length] at hie htk
        rw [hjn'] at hij
        have hci : cap ≠ i := by omega
        have hin1 : (i : Int) ≤ (n : Int) := by omega
        have hin2 : i ≤ n := by omega
        have hcn : (n : Int) ≤ (cap : Int) := by omega
        have hci2 : (i : Int) ≤ (cap : Int) := by omega
        have hci3 : i ≤ cap := by omega
        have hpos : 0 < n - i := by omega
        have hfit : i * 3 + (n - i) * 3 ≤ cr.size := by rw [hcr]; omega
        have HE := Lib.hid (And.intro hie (And.intro htk (And.intro hc (And.intro hcr hci3))))
        clear hj hjn' hie htk hrest hc hcr
        obtain ⟨w9, cs9, hrun, hb9, hs9, hk9, c9⟩ := run_clearR (cap := cap - i) (p := i * 3) 0 Tryz.underlying22 zero_ref (by simp [Value.cells, Value.oneCell']) hpos hbr hfit
        have HX := Lib.hid (And.intro hb9 (And.intro hs9 (And.intro hk9 c9)))
        clear hb9 hs9 hk9 c9 hbr hfit hpos
        go_wp2_with fail
        go_ret
        obtain ⟨hb9, hs9, hk9, c9⟩ := HX.out
        obtain ⟨hie, htk, hc, hcr, hci3⟩ := HE.out
        obtain ⟨h1, h2, h3, h4, h5, h6, h7, h8⟩ := HS.out
        refine ⟨_, rfl, ⟨?_, (h1.trans hc fun k hk => by simp at hk; right; omega).trans c9 fun k hk => by simp at hk; right; omega, fun k hk => by simp [Value.ownBlock] at hk; omega⟩, fun k hk => by simpa [Value.ownBlock] using hk⟩
        rw [← hie]
        refine ⟨by rw [Rfs_len, ← hie], .inr ⟨g, cap, cs9, rfl, Nat.zero_le _, hb9, hci3, h8, by rw [hs9, hcr], ?_⟩⟩
        rw [← htk]
        exact take_of_get fun q hq => hk9 q hq
  · have hno := s2 hi0
    have hv : idxV l t nm = -1 := by unfold idxV; rw [if_neg hi0]
    rw [hv] at hix
    have HD : Hid (dropL l t nm = l) := drop_self hno
    obtain ⟨ao, cap, rfl, -⟩ := hF.shape
    have HF := Lib.hid hF
    clear hA hB hA0 hB0 hAn hBn s1 s2 hF hno hv hi0
    go_enter Tryz.func35, Tryz.ntmps35
    go_wp2_with fail
    refine hix.mono ?_
    rintro e w1 ⟨rfl, c1⟩
    clear hix
    go_wp2_with fail
    go_ret
    refine ⟨_, rfl, ?_, fun k hk => hk⟩
    rw [HD.out]
    exact HF.out.to c1
set_option maxRecDepth 100000 in
set_option maxHeartbeats 2000000 in
/-- refs.Drop: a list of its own. -/
theorem drop_any (w : World) (v : Value) (l : List RefD) (t : Bool) (nm : List UInt8) (hv : Sees w 3 v l.length (Rfs l)) (hl : l.length ≤ 1000000) :
    Calls Tryz.prog 15 #[v, .bool t, .string (str nm)] w fun e w' => ∃ v', e = .returned v' ∧ Fresh w w' 24 3 v' (dropL l t nm).length (Rfs (dropL l t nm)) := by
  obtain ⟨K, hK⟩ : ∃ K, w.heap.size = K := ⟨_, rfl⟩
  obtain ⟨w1, hw1⟩ : ∃ w1, w1 = (w.alloc (.cells #[.bool t] 4)).alloc (.cells #[.string (str nm)] 9) := ⟨_, rfl⟩
  have hc1 : Chg [] w w1 := by rw [hw1]; exact ((Chg.refl [] w).alloc _).alloc _
  have hA : Blk w1 K #[.bool t] 4 := by rw [hw1]; exact (Blk.new_at w _ _ hK).alloc _
  have hB : Blk w1 (K + 1) #[.string (str nm)] 9 := by rw [hw1]; exact Blk.new_at _ _ _ (by simp [hK])
  have hcl := clone_refs w1 v l (hv.chg0 hc1) hl
  obtain ⟨ao, cap, rfl, -⟩ := hv.shape
  have HS := Lib.hid (And.intro hc1 (And.intro hA hB))
  clear hc1 hA hB hv
  go_enter Tryz.func15, Tryz.ntmps15
  go_upto_region 1 with (fail)
  rw [← hw1]
  clear hw1
  go_wp2_with fail
  refine hcl.mono ?_
  rintro e w2 ⟨v2, rfl, hF2⟩
  obtain ⟨hc1, hA, hB⟩ := HS.out
  have hdl := delete_refs w1 w2 v2 l t nm K (K + 1) hF2 (hA.chg0 hF2.chg) (hB.chg0 hF2.chg) hl
  obtain ⟨ao2, cap2, rfl, -⟩ := hF2.shape
  clear hA hB hcl HS
  go_wp2_with fail
  refine hdl.mono ?_
  rintro e w3 ⟨v3, rfl, hF3, -⟩
  obtain ⟨ao3, cap3, rfl, -⟩ := hF3.shape
  clear hdl hF2
  go_wp2_with fail
  go_ret
  exact ⟨_, rfl, hF3.own, hc1.trans hF3.chg (by simp), fun k hk => by have := hF3.new k hk; have := hc1.size; omega⟩
end Go.Proofs.YtihoohhngiomdaaGreatDoor

