/- RfD, RfE, RfF in one text. No statement of the seat is proved here. -/
import Derived.Test.YtihoohhngiomdaaGreatDoorRfAC
import Derived.Test.YtihoohhngiomdaaGreatDoorTakeAll
import Derived.Lib.AppendZerosOnto
import Derived.Lib.Overlaps
set_option linter.unusedSimpArgs false
set_option linter.unusedVariables false
/- Contract of slices.Insert at refs (one ref set in). No statement of the seat is proved here. -/
namespace Go.Aq
open Go.RowKit
theorem run_copyR {P : Program} (w : World) (dT sT ty elem : TypeId) (sz g o dLen dCap : Nat) (a : Addr) (sLen sCap : Nat) (cur : Array Value) (t : TypeId) (cs : List Value)
    (hu : P.underlying dT = some (.slice elem)) (hs : (P.info? elem).map (·.size) = some sz) (hg : Blk w g cur t) (hn : cs.length = Nat.min sLen dLen * sz)
    (hsrc : ∀ j v, cs[j]? = some v → w.cell? (a.add j) = some v) (hfit : o + cs.length ≤ cur.size) (h1 : ∀ v ∈ cs, v.oneCell' = true) :
    (Builtin.copy_ #[dT, sT] ty #[.slice (some ⟨g, o, none⟩) dLen dCap, .slice (some a) sLen sCap]).run P w =
      .ok (goInt (Nat.min sLen dLen)) (w.setRow g (cur.toList.take o ++ cs ++ cur.toList.drop (o + cs.length)).toArray) := by
  have hl := run_loadCells_list (P := P) w a cs hsrc
  have hst := run_storeCells_at (P := P) g o t cs 0 cur w hg (by simpa using hfit) h1
  cases hq : P.info? elem with
  | none => simp [hq] at hs
  | some i =>
    have hi : i.size = sz := by simpa [hq] using hs
    simp [Builtin.copy_, run_underlying hu, Builtin.lenOf, Builtin.firstCells, sizeOf, typeInfo, hq, hi, ← hn, hl, hst]
theorem blk_setRow {w : World} {g : Nat} {cs : Array Value} {t : TypeId} (h : Blk w g cs t) (l : Array Value) : Blk (w.setRow g l) g l t := setRow_heap w g cs l t _ h
theorem chg_setRow (w : World) (g : Nat) (l : Array Value) : Chg [g] w (w.setRow g l) := ⟨rfl, rfl, rfl, by simp, fun k _ hk => setRow_other w g k _ (fun e => hk (by simp [e]))⟩
/-- append(s[:i], make([]T, m)...) without room: a new row, which begins as the old. -/
theorem run_growR {P : Program} (w : World) (t tn ty e : TypeId) {z : Value} {bytes : Nat} (ht : SliceTy P t e z 3 bytes) {kn : IntKind} (htn : P.underlying tn = some (.int kn)) (g i cap m : Nat) (olds : List Value)
    (hol : olds.length = i * 3) (hold : (Builtin.firstCells 3 i (.slice (some ⟨g, 0, none⟩) i cap)).run P w.drew = .ok olds.toArray w.drew) (hm : 0 < m) (hroom : cap < i + m) (hb : (i + m) * bytes ≤ 140737488355328) (h63 : i + m ≤ 9223372036854775807) :
    ∃ cap2 W1 cs1, (Builtin.append_ #[t, tn] ty #[.slice (some ⟨g, 0, none⟩) i cap, .int .i64 m]).run P w = .ok (.slice (some ⟨w.heap.size, 0, none⟩) (i + m) cap2) W1 ∧ Blk W1 w.heap.size cs1 e ∧ cs1.size = cap2 * 3 ∧ i + m ≤ cap2 ∧ cap2 ≤ maxLen ∧ cs1.toList.take (i * 3) = olds ∧ Chg [] w W1 := by
  obtain ⟨ht1, ht2, ht3, ht4⟩ := ht
  obtain ⟨inf, hi, hz0, h1, rfl⟩ := info_parts ht2
  have hkb : m * inf.bytes ≤ 140737488355328 := Nat.le_trans (Nat.mul_le_mul_right _ (by omega)) hb
  have hr := Lib.run_append_grow_zeros (P := P) w t tn ty e inf z .i64 kn ht1 htn hi hz0 (some ⟨g, 0, none⟩) i cap olds (by rw [h1]; exact hold) m hm (by omega) (by omega) (by omega) (by omega) (growslice_fits (by omega) hb)
  have hge := grownCap_ge w (i + m) cap e
  have hcm : grownCap w (i + m) cap e ≤ maxLen := grownCap_le_maxLen w (i + m) cap e (by simpa [maxLen] using h63)
  have hzs : z.cells.size = 3 := by first | exact ht3 | simpa using ht3 | trace_state
  refine ⟨_, _, _, hr, heap_alloc_new w.drew _, ?_, hge, hcm, ?_, ((Chg.refl [] w).drew).alloc _⟩
  · simp only [Array.size_append, List.size_toArray, size_zeroCells, hol, hzs]
    omega
  · rw [Array.toList_append, Array.toList_append, List.append_assoc, ← hol]
    exact List.take_left
theorem wrapR (a : Int) (h : -9223372036854775808 ≤ a ∧ a ≤ 9223372036854775807) : IntKind.i64.wrap a = a := by
  simp [IntKind.wrap, IntKind.bits, IntKind.signed]
  split <;> omega
theorem w64R (a : Int) (h : -9223372036854775808 ≤ a ∧ a ≤ 9223372036854775807) : wrap64 a = a := by unfold wrap64; omega
theorem rfs_one (l : List RefD) : ∀ u ∈ Rfs l, u.oneCell' = true := by
  intro u hu
  unfold Rfs at hu
  obtain ⟨r, hr, hu⟩ := List.mem_flatMap.1 hu
  simp only [rfCells, List.mem_cons, List.not_mem_nil, or_false] at hu
  rcases hu with rfl | rfl | rfl <;> rfl
end Go.Aq
namespace Go.Proofs.YtihoohhngiomdaaGreatDoor
open Go.RowKit Go.Aq Go.Aq.Wd
theorem info_ref : (Tryz.prog.info? 24).map (·.size) = some 3 := by kernel_rfl
set_option maxRecDepth 100000 in
set_option maxHeartbeats 8000000 in
/-- At the end: it is appended. -/
theorem insert_end (w0 w : World) (v : Value) (d : List RefD) (r : RefD) (X : Nat) (hF : Fresh w0 w 24 3 v d.length (Rfs d)) (hX : Blk w X (rfCells r).toArray 24) (hl : d.length ≤ 1000000) :
    Calls Tryz.prog 40 #[v, .int .i64 d.length, .slice (some ⟨X, 0, none⟩) 1 1] w fun e w' => ∃ v', e = .returned v' ∧ Sees w' 3 v' (d.length + 1) (Rfs (d ++ [r])) ∧ Chg [] w0 w' := by
  obtain ⟨n, hn⟩ : ∃ n, d.length = n := ⟨_, rfl⟩
  rw [hn] at hF hl ⊢
  obtain ⟨ao, cap, rfl, hcap⟩ := hF.shape
  have hown := hF.own
  have hsx : Sees w 3 (.slice (some ⟨X, 0, none⟩) 1 1) 1 (rfCells r) := Sees.blk hX
  have h1 : ∀ u ∈ rfCells r, u.oneCell' = true := by simp [rfCells, Value.oneCell']
  have hcn : (n : Int) ≤ (cap : Int) := by omega
  have e1 : ((n : Int) == (n : Int)) = true := by simp
  have HF := Lib.hid hF
  have e2 : Rfs (d ++ [r]) = Rfs d ++ rfCells r := by simp [Rfs]
  have HE := Lib.hid e2
  clear hF e2 hX
  go_enter Tryz.func40, Tryz.ntmps40
  go_wp2_with (at_builtin; refine wpList_app rfl _ _ 22 rfl sl_ref (by exact hown) rfl (by exact hsx) rfl (by exact h1) (by omega) (by omega) ?_; intro v' w' ho hc hk)
  all_goals go_ret
  all_goals rw [HE.out]
  all_goals exact ⟨v', rfl, ho.sees, HF.out.chg.trans hc fun k hk => .inr (HF.out.new k hk)⟩
set_option maxRecDepth 100000 in
set_option maxHeartbeats 8000000 in
/-- In the row's own room. -/
theorem insert_room (w : World) (d : List RefD) (r : RefD) (X g n i cap : Nat) (cs : Array Value) (hn : d.length = n) (hi : i < n) (hroom : n + 1 ≤ cap) (hb : Blk w g cs 24) (hcs : cs.size = cap * 3) (htk : cs.toList.take (n * 3) = Rfs d) (hX : Blk w X (rfCells r).toArray 24) (hne : X ≠ g) (hl : n ≤ 1000000) :
    Calls Tryz.prog 40 #[.slice (some ⟨g, 0, none⟩) n cap, .int .i64 i, .slice (some ⟨X, 0, none⟩) 1 1] w fun e w' => ∃ v', e = .returned v' ∧ Sees w' 3 v' (n + 1) (Rfs (d.take i ++ [r] ++ d.drop i)) ∧ Chg [g] w w' := by
  obtain ⟨k1, hk1⟩ : ∃ k, k = n + 1 := ⟨_, rfl⟩
  obtain ⟨i1, hi1⟩ : ∃ k, k = i + 1 := ⟨_, rfl⟩
  have e1 : ((i : Int) == (n : Int)) = false := by simp; omega
  have e2 : (n : Int) + 1 = (k1 : Int) := by omega
  have e3 : (i : Int) + 1 = (i1 : Int) := by omega
  have bk1 : -9223372036854775808 ≤ (k1 : Int) ∧ (k1 : Int) ≤ 9223372036854775807 := by omega
  have bi1 : -9223372036854775808 ≤ (i1 : Int) ∧ (i1 : Int) ≤ 9223372036854775807 := by omega
  have t1 : decide ((cap : Int) < (k1 : Int)) = false := by simp; omega
  have t1' : decide (cap < k1) = false := by simp; omega
  have n1 : (i : Int) ≤ (n : Int) := by omega
  have n2 : (n : Int) ≤ (cap : Int) := by omega
  have n3 : (k1 : Int) ≤ (cap : Int) := by omega
  have n4 : (i1 : Int) ≤ (k1 : Int) := by omega
  have n5 : (i : Int) ≤ (k1 : Int) := by omega
  have n6 : cap ≠ i := by omega
  have n7 : cap ≠ i1 := by omega
  have n8 : i ≤ n := by omega
  have n9 : k1 ≤ cap := by omega
  have n10 : i1 ≤ k1 := by omega
  have n11 : i ≤ k1 := by omega
  have HS := Lib.hid (And.intro hn (And.intro hi (And.intro hroom (And.intro hb (And.intro hcs (And.intro htk (And.intro hX (And.intro hne (And.intro hk1 hi1)))))))))
  have hov : ∀ lb cb, (callFunc 59 #[.slice (some ⟨X, 0, none⟩) 1 1, .slice (some ⟨g, i1 * 3, none⟩) lb cb]).run Tryz.prog w = .ok (.value (.bool false)) w := fun lb cb => by
    rw [run_callFunc_extern Tryz.func59 (by kernel_rfl) (by kernel_rfl) (by kernel_rfl) (e := Extern.SlicesOverlaps.overlaps #[22, 22] #[4]) (by kernel_rfl),
      Lib.run_overlaps_apart w 22 4 24 Tryz.underlying22 3 (fun w => by kernel_rfl) ⟨X, 0, none⟩ ⟨g, i1 * 3, none⟩ 1 1 lb cb hne 24 24 3 (cap * 3) (by simp [World.shape?, show w.heap[X]? = _ from hX, rfCells]) (by simp [World.shape?, show w.heap[g]? = _ from hb, hcs]) (by omega) (hX.frozen 0) (hX.frozen 3)]
    rfl
  clear hn hi hroom hb hcs htk hX hne hk1 hi1
  have w2' : wrap64 (k1 : Int) = (k1 : Int) := w64R _ bk1
  have w3' : wrap64 (i1 : Int) = (i1 : Int) := w64R _ bi1
  have w4' : IntKind.i64.wrap (k1 : Int) = (k1 : Int) := wrapR _ bk1
  have w5' : IntKind.i64.wrap (i1 : Int) = (i1 : Int) := wrapR _ bi1
  clear bk1 bi1
  go_enter Tryz.func40, Tryz.ntmps40
  go_wp2_with fail
  obtain ⟨hn, hi, hroom, hb, hcs, htk, hX, hne, hk1, hi1⟩ := HS.out
  have hDl : (Rfs d).length = n * 3 := by rw [Rfs_len, hn]
  have hCl : cs.toList.length = cap * 3 := by rw [Array.length_toList, hcs]
  have hbd := hb.drew
  obtain ⟨L1, hL1⟩ : ∃ L1, L1 = cs.toList.take (i1 * 3) ++ (Rfs d).drop (i * 3) ++ cs.toList.drop (i1 * 3 + ((Rfs d).drop (i * 3)).length) := ⟨_, rfl⟩
  have hdl : ((Rfs d).drop (i * 3)).length = (n - i) * 3 := by rw [List.length_drop, hDl]; omega
  have hmin : Nat.min (k1 - i) (k1 - i1) = n - i := by show min (k1 - i) (k1 - i1) = n - i; omega
  have hcp := fun ty => run_copyR (P := Tryz.prog) w.drew 22 22 ty 24 3 g (i1 * 3) (k1 - i1) (cap - i1) ⟨g, i * 3, none⟩ (k1 - i) (cap - i) cs 24 ((Rfs d).drop (i * 3)) Tryz.underlying22 info_ref hbd (by rw [hdl, hmin])
    (fun j u hu => by
      rw [Addr.add_lit, hbd.cell]
      rw [List.getElem?_drop, ← htk, List.getElem?_take] at hu
      split at hu
      · simpa using hu
      · cases hu) (by rw [hdl, hcs]; omega) (fun u hu => rfs_one d u (List.mem_of_mem_drop hu))
  rw [← hL1, hmin] at hcp
  obtain ⟨W1, hW1⟩ : ∃ W1, W1 = w.drew.setRow g L1.toArray := ⟨_, rfl⟩
  rw [← hW1] at hcp
  have hbW : Blk W1 g L1.toArray 24 := by rw [hW1]; exact blk_setRow hbd _
  have cW : Chg [g] w.drew W1 := by rw [hW1]; exact chg_setRow _ _ _
  have hXW : Blk W1 X (rfCells r).toArray 24 := hX.drew.chg cW (by simpa using hne)
  have hL1l : L1.length = cap * 3 := by
    rw [hL1]
    simp only [List.length_append, List.length_take, List.length_drop, hDl, hCl]
    omega
  obtain ⟨L2, hL2⟩ : ∃ L2, L2 = L1.toArray.toList.take (i * 3) ++ rfCells r ++ L1.toArray.toList.drop (i * 3 + (rfCells r).length) := ⟨_, rfl⟩
  have hr3 : (rfCells r).length = 3 := rfl
  have hmin2 : Nat.min 1 (k1 - i) = 1 := by show min 1 (k1 - i) = 1; omega
  have hcp2 := fun ty => run_copyR (P := Tryz.prog) W1 22 22 ty 24 3 g (i * 3) (k1 - i) (cap - i) ⟨X, 0, none⟩ 1 1 L1.toArray 24 (rfCells r) Tryz.underlying22 info_ref hbW (by rw [hr3, hmin2])
    (fun j u hu => by rw [Addr.add_lit, Nat.zero_add, hXW.cell]; simpa using hu) (by rw [hr3, List.size_toArray, hL1l]; omega) (by simp [rfCells, Value.oneCell'])
  rw [← hL2, hmin2] at hcp2
  obtain ⟨W2, hW2⟩ : ∃ W2, W2 = W1.setRow g L2.toArray := ⟨_, rfl⟩
  rw [← hW2] at hcp2
  have hbW2 : Blk W2 g L2.toArray 24 := by rw [hW2]; exact blk_setRow hbW _
  have cW2 : Chg [g] W1 W2 := by rw [hW2]; exact chg_setRow _ _ _
  have hpre : L2.take (k1 * 3) = Rfs (d.take i ++ [r] ++ d.drop i) := by
    have hid : i ≤ d.length := by rw [hn]; omega
    have h1 : Rfs (d.take i ++ [r] ++ d.drop i) = (Rfs d).take (i * 3) ++ rfCells r ++ (Rfs d).drop (i * 3) := by
      have h2 := Rfs_take d i hid
      have h3 : Rfs (d.drop i) = (Rfs d).drop (i * 3) := by
        have e := List.take_append_drop i d
        conv => rhs; rw [← e, Rfs_app]
        have hl : (Rfs (d.take i)).length = i * 3 := by rw [Rfs_len, List.length_take]; omega
        rw [← hl, List.drop_left]
      rw [Rfs_app, Rfs_app, h2, h3]; simp [Rfs]
    have h4 : L1.take (i * 3) = (Rfs d).take (i * 3) := by
      rw [hL1, List.append_assoc, List.take_append_of_le_length (by rw [List.length_take, hCl]; omega), List.take_take, ← htk, List.take_take]
      congr 1
      omega
    have h5 : L1.drop (i * 3 + 3) = (Rfs d).drop (i * 3) ++ cs.toList.drop (i1 * 3 + (n - i) * 3) := by
      have hl : (cs.toList.take (i1 * 3)).length = i * 3 + 3 := by rw [List.length_take, hCl]; omega
      rw [hL1, hdl, List.append_assoc, ← hl, List.drop_left]
    rw [h1, hL2, hr3]
    show ((L1.take (i * 3) ++ rfCells r ++ L1.drop (i * 3 + 3)).take (k1 * 3)) = _
    rw [h4, h5, ← List.append_assoc]
    have hl : ((Rfs d).take (i * 3) ++ rfCells r ++ (Rfs d).drop (i * 3)).length = k1 * 3 := by
      simp only [List.length_append, List.length_take, List.length_drop, hDl, hr3]
      omega
    rw [← hl, List.take_left]
  have HE := Lib.hid (And.intro hbW2 (And.intro cW (And.intro cW2 (And.intro hpre hL1l))))
  clear hn hi hroom hb hcs htk hX hne hk1 hi1 hDl hCl hbd hL1 hdl hmin hW1 hbW hXW hL2 hr3 hmin2 hW2 hbW2 hpre hL1l cW2
  refine wp_region_E [g] (by kernel_rfl) ?_
  have c0 : Chg [g] w.drew w.drew := Chg.refl _ _
  refine wpAnyE_take 0 (v := (.slice (some ⟨g, 0, none⟩) k1 cap)) c0 rfl (by kernel_rfl) (by kernel_rfl) (by kernel_rfl) (fun _ _ _ h => h) (by rfl) (fun w4 c4 => ?_) ?_
  · go_simp
  try simp only [Act.put, List.getElem_toArray, List.getElem_cons_succ, List.getElem_cons_zero, List.setIfInBounds_toArray, List.set_cons_zero, List.set_cons_succ]
  refine wpAnyE_take 1 (v := (.int .i64 (i : Int))) c0 rfl (by kernel_rfl) (by kernel_rfl) (by kernel_rfl) (fun _ _ _ h => h) (by rfl) (fun w4 c4 => ?_) ?_
  · go_simp
  try simp only [Act.put, List.getElem_toArray, List.getElem_cons_succ, List.getElem_cons_zero, List.setIfInBounds_toArray, List.set_cons_zero, List.set_cons_succ]
  refine wpAnyE_take 2 (v := (.int .i64 1)) c0 rfl (by kernel_rfl) (by kernel_rfl) (by kernel_rfl) (fun _ _ _ h => h) (by rfl) (fun w4 c4 => ?_) ?_
  · go_simp
  try simp only [Act.put, List.getElem_toArray, List.getElem_cons_succ, List.getElem_cons_zero, List.setIfInBounds_toArray, List.set_cons_zero, List.set_cons_succ]
  refine wpAnyE_take 3 (v := (.int .i64 (i1 : Int))) c0 rfl (by kernel_rfl) (by kernel_rfl) (by kernel_rfl) (fun _ _ _ h => h) (by rfl) (fun w4 c4 => ?_) ?_
  · go_simp
  try simp only [Act.put, List.getElem_toArray, List.getElem_cons_succ, List.getElem_cons_zero, List.setIfInBounds_toArray, List.set_cons_zero, List.set_cons_succ]
  refine wpAnyE_take 4 (v := (.slice (some ⟨g, i1 * 3, none⟩) (k1 - i1) (cap - i1))) c0 rfl (by kernel_rfl) (by kernel_rfl) (by kernel_rfl) (fun _ _ _ h => h) (by rfl) (fun w4 c4 => ?_) ?_
  · go_simp
  try simp only [Act.put, List.getElem_toArray, List.getElem_cons_succ, List.getElem_cons_zero, List.setIfInBounds_toArray, List.set_cons_zero, List.set_cons_succ]
  refine wpAnyE_take 5 (v := (.slice (some ⟨g, 0, none⟩) k1 cap)) c0 rfl (by kernel_rfl) (by kernel_rfl) (by kernel_rfl) (fun _ _ _ h => h) (by rfl) (fun w4 c4 => ?_) ?_
  · go_simp
  try simp only [Act.put, List.getElem_toArray, List.getElem_cons_succ, List.getElem_cons_zero, List.setIfInBounds_toArray, List.set_cons_zero, List.set_cons_succ]
  refine wpAnyE_take 6 (v := (.int .i64 (i : Int))) c0 rfl (by kernel_rfl) (by kernel_rfl) (by kernel_rfl) (fun _ _ _ h => h) (by rfl) (fun w4 c4 => ?_) ?_
  · go_simp
  try simp only [Act.put, List.getElem_toArray, List.getElem_cons_succ, List.getElem_cons_zero, List.setIfInBounds_toArray, List.set_cons_zero, List.set_cons_succ]
  refine wpAnyE_take 7 (v := (.slice (some ⟨g, i * 3, none⟩) (k1 - i) (cap - i))) c0 rfl (by kernel_rfl) (by kernel_rfl) (by kernel_rfl) (fun _ _ _ h => h) (by rfl) (fun w4 c4 => ?_) ?_
  · go_simp
  try simp only [Act.put, List.getElem_toArray, List.getElem_cons_succ, List.getElem_cons_zero, List.setIfInBounds_toArray, List.set_cons_zero, List.set_cons_succ]
  refine wpAnyE_only 8 rfl (by kernel_rfl) (by rfl) ?_
  have HcW := Lib.hid cW
  clear cW c0
  go_simp
  refine ⟨HcW.out, ?_⟩
  try simp only [Act.put, List.getElem_toArray, List.getElem_cons_succ, List.getElem_cons_zero, List.setIfInBounds_toArray, List.set_cons_zero, List.set_cons_succ]
  refine wpAnyE_done (by kernel_rfl) ?_ _
  clear hcp
  go_wp2_with fail
  go_ret
  obtain ⟨hbW2, cW, cW2, hpre, hL1l⟩ := HE.out
  obtain ⟨hn, hi, hroom, hb, hcs, htk, hX, hne, hk1, hi1⟩ := HS.out
  have hlen : (Rfs (d.take i ++ [r] ++ d.drop i)).length = (n + 1) * 3 := by
    rw [Rfs_len]; simp only [List.length_append, List.length_take, List.length_drop, List.length_cons, List.length_nil, hn]; omega
  refine ⟨_, rfl, ⟨hlen, some ⟨g, 0, none⟩, cap, by rw [hk1]; rfl, hroom, by simp, fun ad had j u hu => ?_⟩, ((Chg.refl [g] w).drew.trans cW (by simp)).trans cW2 (by simp)⟩
  simp only [Option.some.injEq] at had
  subst had
  rw [Addr.add_lit, Nat.zero_add, hbW2.cell]
  rw [← hpre, List.getElem?_take] at hu
  split at hu
  · simpa using hu
  · cases hu
end Go.Proofs.YtihoohhngiomdaaGreatDoor

/- slices.Insert at refs without room; in all cases. No statement of the seat is proved here. -/
namespace Go.Proofs.YtihoohhngiomdaaGreatDoor
open Go.RowKit Go.Aq Go.Aq.Wd
set_option maxRecDepth 100000 in
set_option maxHeartbeats 8000000 in
/-- Without room: a new row. -/
theorem insert_grow (w : World) (d : List RefD) (r : RefD) (X g n i cap : Nat) (cs : Array Value) (hn : d.length = n) (hi : i < n) (hroom : ¬ n + 1 ≤ cap) (hnc : n ≤ cap) (hb : Blk w g cs 24) (hcs : cs.size = cap * 3) (htk : cs.toList.take (n * 3) = Rfs d) (hX : Blk w X (rfCells r).toArray 24) (hl : n ≤ 1000000) :
    Calls Tryz.prog 40 #[.slice (some ⟨g, 0, none⟩) n cap, .int .i64 i, .slice (some ⟨X, 0, none⟩) 1 1] w fun e w' => ∃ v', e = .returned v' ∧ Sees w' 3 v' (n + 1) (Rfs (d.take i ++ [r] ++ d.drop i)) ∧ Chg [] w w' := by
  obtain ⟨k1, hk1⟩ : ∃ k, k = n + 1 := ⟨_, rfl⟩
  obtain ⟨i1, hi1⟩ : ∃ k, k = i + 1 := ⟨_, rfl⟩
  obtain ⟨m, hm⟩ : ∃ m, m = k1 - i := ⟨_, rfl⟩
  have hcap : cap = n := by omega
  subst hcap
  have e1 : ((i : Int) == (cap : Int)) = false := by simp; omega
  have e2 : (cap : Int) + 1 = (k1 : Int) := by omega
  have e3 : (i : Int) + 1 = (i1 : Int) := by omega
  have e4 : (k1 : Int) - (i : Int) = (m : Int) := by omega
  have bk1 : -9223372036854775808 ≤ (k1 : Int) ∧ (k1 : Int) ≤ 9223372036854775807 := by omega
  have bi1 : -9223372036854775808 ≤ (i1 : Int) ∧ (i1 : Int) ≤ 9223372036854775807 := by omega
  have bm : -9223372036854775808 ≤ (m : Int) ∧ (m : Int) ≤ 9223372036854775807 := by omega
  have t1 : decide ((cap : Int) < (k1 : Int)) = true := by simp; omega
  have t1' : decide (cap < k1) = true := by simp; omega
  have n1 : (i : Int) ≤ (cap : Int) := by omega
  have n6 : cap ≠ i := by omega
  have n8 : i ≤ cap := by omega
  have hDl : (Rfs d).length = cap * 3 := by rw [Rfs_len, hn]
  have htk' : cs.toList = Rfs d := by rw [← htk, List.take_of_length_le (by rw [Array.length_toList, hcs]; exact Nat.le_refl _)]
  have hold : (Builtin.firstCells 3 i (.slice (some ⟨g, 0, none⟩) i cap)).run Tryz.prog w.drew = .ok ((Rfs d).take (i * 3)).toArray w.drew := by
    have hl := run_loadCells_list (P := Tryz.prog) (w := w.drew) ⟨g, 0, none⟩ ((Rfs d).take (i * 3)) (fun j u hu => by
      rw [Addr.add_lit, Nat.zero_add, hb.drew.cell]
      rw [List.getElem?_take] at hu
      split at hu
      · rw [← htk'] at hu; simpa using hu
      · cases hu)
    have hll : ((Rfs d).take (i * 3)).length = i * 3 := by rw [List.length_take, hDl]; omega
    rw [hll] at hl
    simp [Builtin.firstCells, hl]
  have him : i + m = k1 := by omega
  have hg0 := fun ty => run_growR (P := Tryz.prog) w 22 3 ty 24 sl_ref (kn := .i64) Tryz.underlying3 g i cap m ((Rfs d).take (i * 3)) (by rw [List.length_take, hDl]; omega) hold (by omega) (by omega) (by omega) (by omega)
  rw [him] at hg0
  obtain ⟨cap2, W1, cs1, hap, hb1, hs1, hk2, hcm, ht1, cw1⟩ := hg0 22
  obtain ⟨G, hG⟩ : ∃ G, w.heap.size = G := ⟨_, rfl⟩
  rw [hG] at hap hb1
  have hXG : X ≠ G := by have := hX.lt; omega
  have hgG : g ≠ G := by have := hb.lt; omega
  have hX1 : Blk W1 X (rfCells r).toArray 24 := hX.chg0 cw1
  have hbo : Blk W1 g cs 24 := hb.chg0 cw1
  obtain ⟨L1, hL1⟩ : ∃ L1, L1 = cs1.toList.take (i * 3) ++ rfCells r ++ cs1.toList.drop (i * 3 + (rfCells r).length) := ⟨_, rfl⟩
  have hr3 : (rfCells r).length = 3 := rfl
  have hC1 : cs1.toList.length = cap2 * 3 := by rw [Array.length_toList, hs1]
  have hmin2 : Nat.min 1 (k1 - i) = 1 := by show min 1 (k1 - i) = 1; omega
  have hcp := fun ty => run_copyR (P := Tryz.prog) W1 22 22 ty 24 3 G (i * 3) (k1 - i) (cap2 - i) ⟨X, 0, none⟩ 1 1 cs1 24 (rfCells r) Tryz.underlying22 info_ref hb1 (by rw [hr3, hmin2])
    (fun j u hu => by rw [Addr.add_lit, Nat.zero_add, hX1.cell]; simpa using hu) (by rw [hr3, hs1]; omega) (by simp [rfCells, Value.oneCell'])
  rw [← hL1, hmin2] at hcp
  obtain ⟨W2, hW2⟩ : ∃ W2, W2 = W1.setRow G L1.toArray := ⟨_, rfl⟩
  rw [← hW2] at hcp
  have hb2 : Blk W2 G L1.toArray 24 := by rw [hW2]; exact blk_setRow hb1 _
  have cw2 : Chg [G] W1 W2 := by rw [hW2]; exact chg_setRow _ _ _
  have hbo2 : Blk W2 g cs 24 := hbo.chg cw2 (by simpa using hgG)
  have hL1l : L1.length = cap2 * 3 := by
    rw [hL1]
    simp only [List.length_append, List.length_take, List.length_drop, hr3, hC1]
    omega
  have hdl : ((Rfs d).drop (i * 3)).length = (cap - i) * 3 := by rw [List.length_drop, hDl]; omega
  have hmin : Nat.min (cap - i) (k1 - i1) = cap - i := by show min (cap - i) (k1 - i1) = cap - i; omega
  have hb2d := hb2.drew
  obtain ⟨L2, hL2⟩ : ∃ L2, L2 = L1.toArray.toList.take (i1 * 3) ++ (Rfs d).drop (i * 3) ++ L1.toArray.toList.drop (i1 * 3 + ((Rfs d).drop (i * 3)).length) := ⟨_, rfl⟩
  have hcp2 := fun ty => run_copyR (P := Tryz.prog) W2.drew 22 22 ty 24 3 G (i1 * 3) (k1 - i1) (cap2 - i1) ⟨g, i * 3, none⟩ (cap - i) (cap - i) L1.toArray 24 ((Rfs d).drop (i * 3)) Tryz.underlying22 info_ref hb2d (by rw [hdl, hmin])
    (fun j u hu => by
      rw [Addr.add_lit, hbo2.drew.cell]
      rw [List.getElem?_drop, ← htk'] at hu
      simpa using hu) (by rw [hdl, List.size_toArray, hL1l]; omega) (fun u hu => rfs_one d u (List.mem_of_mem_drop hu))
  rw [← hL2, hmin] at hcp2
  obtain ⟨W3, hW3⟩ : ∃ W3, W3 = W2.drew.setRow G L2.toArray := ⟨_, rfl⟩
  rw [← hW3] at hcp2
  have hb3 : Blk W3 G L2.toArray 24 := by rw [hW3]; exact blk_setRow hb2d _
  have cw3 : Chg [G] W2.drew W3 := by rw [hW3]; exact chg_setRow _ _ _
  have hpre : L2.take (k1 * 3) = Rfs (d.take i ++ [r] ++ d.drop i) := by
    have hid : i ≤ d.length := by rw [hn]; omega
    have h1 : Rfs (d.take i ++ [r] ++ d.drop i) = (Rfs d).take (i * 3) ++ rfCells r ++ (Rfs d).drop (i * 3) := by
      have h2 := Rfs_take d i hid
      have h3 : Rfs (d.drop i) = (Rfs d).drop (i * 3) := by
        have e := List.take_append_drop i d
        conv => rhs; rw [← e, Rfs_app]
        have hl : (Rfs (d.take i)).length = i * 3 := by rw [Rfs_len, List.length_take]; omega
        rw [← hl, List.drop_left]
      rw [Rfs_app, Rfs_app, h2, h3]; simp [Rfs]
    have h4 : L1.take (i1 * 3) = (Rfs d).take (i * 3) ++ rfCells r := by
      have hl : ((Rfs d).take (i * 3) ++ rfCells r).length = i1 * 3 := by rw [List.length_append, List.length_take, hDl, hr3]; omega
      rw [hL1, ht1, ← hl, List.take_left]
    rw [h1, hL2]
    show ((L1.take (i1 * 3) ++ (Rfs d).drop (i * 3) ++ _).take (k1 * 3)) = _
    rw [h4]
    have hl : ((Rfs d).take (i * 3) ++ rfCells r ++ (Rfs d).drop (i * 3)).length = k1 * 3 := by
      simp only [List.length_append, List.length_take, List.length_drop, hDl, hr3]
      omega
    rw [← hl, List.take_left]
  have hnew : w.heap.size ≤ G := by omega
  have n2 : (k1 : Int) ≤ (cap2 : Int) := by omega
  have n3 : (i : Int) ≤ (k1 : Int) := by omega
  have n4 : (i1 : Int) ≤ (k1 : Int) := by omega
  have n5 : i ≤ k1 := by omega
  have n7 : i1 ≤ k1 := by omega
  have n9 : k1 ≤ cap2 := by omega
  have n10 : cap2 ≠ i := by omega
  have n11 : cap2 ≠ i1 := by omega
  have hap' : ∀ ty, (Builtin.append_ #[22, 3] ty #[.slice (some ⟨g, 0, none⟩) i cap, .int .i64 (m : Int)]).run Tryz.prog w = .ok (.slice (some ⟨G, 0, none⟩) k1 cap2) W1 := fun ty => by
    exact hap
  have HE := Lib.hid (And.intro hb3 (And.intro cw1 (And.intro cw2 (And.intro cw3 (And.intro hpre (And.intro hk1 (And.intro hn (And.intro hk2 (And.intro hi hnew)))))))))
  have HA := Lib.hid hap'
  have HC := Lib.hid (And.intro hcp (And.intro hcp2 cw3))
  clear hcp hcp2 cw3
  clear hap' hn hi hroom hnc hb hcs htk hX hl hk1 hi1 hm hDl htk' hold him hg0 hap hb1 hs1 hk2 hcm ht1 cw1 hG hXG hgG hX1 hbo hL1 hr3 hC1 hmin2 hW2 hb2 cw2 hbo2 hL1l hdl hmin hb2d hL2 hW3 hb3 hpre hnew
  have w2' : wrap64 (k1 : Int) = (k1 : Int) := w64R _ bk1
  have w3' : wrap64 (i1 : Int) = (i1 : Int) := w64R _ bi1
  have w4' : IntKind.i64.wrap (k1 : Int) = (k1 : Int) := wrapR _ bk1
  have w5' : IntKind.i64.wrap (i1 : Int) = (i1 : Int) := wrapR _ bi1
  have w6' : wrap64 (m : Int) = (m : Int) := w64R _ bm
  have w7' : IntKind.i64.wrap (m : Int) = (m : Int) := wrapR _ bm
  clear bk1 bi1 bm
  go_enter Tryz.func40, Tryz.ntmps40
  go_upto_region 9 with (fail)
  have HN := Lib.hid (And.intro n2 (And.intro n3 (And.intro n4 (And.intro n5 (And.intro n7 (And.intro n9 (And.intro n10 n11)))))))
  have HW5 := Lib.hid (And.intro w3' (And.intro w5' (And.intro e3 n6)))
  clear n2 n3 n4 n5 n7 n9 n10 n11 t1 t1' e1 e3 n6 w3' w5'
  go_wp2_with (at_builtin; refine Lib.wpList_append_run w rfl _ _ _ _ rfl _ _ rfl rfl _ _ (HA.out _) ?_; obtain ⟨hcp, hcp2, cw3⟩ := HC.out; obtain ⟨n2, n3, n4, n5, n7, n9, n10, n11⟩ := HN.out; obtain ⟨w3', w5', e3, n6⟩ := HW5.out; clear e4 w6' w7')
  refine wp_region_E [G] (by kernel_rfl) ?_
  have c0 : Chg [G] W2.drew W2.drew := Chg.refl _ _
  refine wpAnyE_take 0 (v := (.slice (some ⟨G, 0, none⟩) k1 cap2)) c0 rfl (by kernel_rfl) (by kernel_rfl) (by kernel_rfl) (fun _ _ _ h => h) (by rfl) (fun w4 c4 => ?_) ?_
  · go_simp
  try simp only [Act.put, List.getElem_toArray, List.getElem_cons_succ, List.getElem_cons_zero, List.setIfInBounds_toArray, List.set_cons_zero, List.set_cons_succ]
  refine wpAnyE_take 1 (v := (.int .i64 (i : Int))) c0 rfl (by kernel_rfl) (by kernel_rfl) (by kernel_rfl) (fun _ _ _ h => h) (by rfl) (fun w4 c4 => ?_) ?_
  · go_simp
  try simp only [Act.put, List.getElem_toArray, List.getElem_cons_succ, List.getElem_cons_zero, List.setIfInBounds_toArray, List.set_cons_zero, List.set_cons_succ]
  refine wpAnyE_take 2 (v := (.int .i64 1)) c0 rfl (by kernel_rfl) (by kernel_rfl) (by kernel_rfl) (fun _ _ _ h => h) (by rfl) (fun w4 c4 => ?_) ?_
  · go_simp
  try simp only [Act.put, List.getElem_toArray, List.getElem_cons_succ, List.getElem_cons_zero, List.setIfInBounds_toArray, List.set_cons_zero, List.set_cons_succ]
  refine wpAnyE_take 3 (v := (.int .i64 (i1 : Int))) c0 rfl (by kernel_rfl) (by kernel_rfl) (by kernel_rfl) (fun _ _ _ h => h) (by rfl) (fun w4 c4 => ?_) ?_
  · go_simp
  try simp only [Act.put, List.getElem_toArray, List.getElem_cons_succ, List.getElem_cons_zero, List.setIfInBounds_toArray, List.set_cons_zero, List.set_cons_succ]
  refine wpAnyE_take 4 (v := (.slice (some ⟨G, i1 * 3, none⟩) (k1 - i1) (cap2 - i1))) c0 rfl (by kernel_rfl) (by kernel_rfl) (by kernel_rfl) (fun _ _ _ h => h) (by rfl) (fun w4 c4 => ?_) ?_
  · go_simp
  try simp only [Act.put, List.getElem_toArray, List.getElem_cons_succ, List.getElem_cons_zero, List.setIfInBounds_toArray, List.set_cons_zero, List.set_cons_succ]
  refine wpAnyE_take 5 (v := (.slice (some ⟨g, 0, none⟩) cap cap)) c0 rfl (by kernel_rfl) (by kernel_rfl) (by kernel_rfl) (fun _ _ _ h => h) (by rfl) (fun w4 c4 => ?_) ?_
  · go_simp
  try simp only [Act.put, List.getElem_toArray, List.getElem_cons_succ, List.getElem_cons_zero, List.setIfInBounds_toArray, List.set_cons_zero, List.set_cons_succ]
  refine wpAnyE_take 6 (v := (.int .i64 (i : Int))) c0 rfl (by kernel_rfl) (by kernel_rfl) (by kernel_rfl) (fun _ _ _ h => h) (by rfl) (fun w4 c4 => ?_) ?_
  · go_simp
  try simp only [Act.put, List.getElem_toArray, List.getElem_cons_succ, List.getElem_cons_zero, List.setIfInBounds_toArray, List.set_cons_zero, List.set_cons_succ]
  refine wpAnyE_take 7 (v := (.slice (some ⟨g, i * 3, none⟩) (cap - i) (cap - i))) c0 rfl (by kernel_rfl) (by kernel_rfl) (by kernel_rfl) (fun _ _ _ h => h) (by rfl) (fun w4 c4 => ?_) ?_
  · go_simp
  try simp only [Act.put, List.getElem_toArray, List.getElem_cons_succ, List.getElem_cons_zero, List.setIfInBounds_toArray, List.set_cons_zero, List.set_cons_succ]
  refine wpAnyE_only 8 rfl (by kernel_rfl) (by rfl) ?_
  have HcW := Lib.hid cw3
  clear cw3 c0
  go_simp
  refine ⟨HcW.out, ?_⟩
  try simp only [Act.put, List.getElem_toArray, List.getElem_cons_succ, List.getElem_cons_zero, List.setIfInBounds_toArray, List.set_cons_zero, List.set_cons_succ]
  refine wpAnyE_done (by kernel_rfl) ?_ _
  clear hcp hcp2 HA
  go_wp2_with fail
  go_ret
  obtain ⟨hb3, cw1, cw2, cw3, hpre, hk1, hn, hk2, hi, hnew⟩ := HE.out
  have hlen : (Rfs (d.take i ++ [r] ++ d.drop i)).length = (cap + 1) * 3 := by
    rw [Rfs_len]; simp only [List.length_append, List.length_take, List.length_drop, List.length_cons, List.length_nil, hn]; omega
  refine ⟨_, rfl, ⟨hlen, some ⟨G, 0, none⟩, cap2, by rw [hk1]; rfl, by omega, by simp, fun ad had j u hu => ?_⟩, ?_⟩
  · simp only [Option.some.injEq] at had
    subst had
    rw [Addr.add_lit, Nat.zero_add, hb3.cell]
    rw [← hpre, List.getElem?_take] at hu
    split at hu
    · simpa using hu
    · cases hu
  · exact cw1.trans ((cw2.drew).trans cw3 (by simp)) (fun q hq => .inr (by rw [List.mem_singleton.1 hq]; exact hnew))
end Go.Proofs.YtihoohhngiomdaaGreatDoor

/- slices.Insert at refs in all cases. No statement of the seat is proved here. -/
namespace Go.Proofs.YtihoohhngiomdaaGreatDoor
open Go.RowKit Go.Aq Go.Aq.Wd
theorem insert_any (w0 w : World) (v : Value) (d : List RefD) (r : RefD) (X i : Nat) (hF : Fresh w0 w 24 3 v d.length (Rfs d)) (hX : Blk w X (rfCells r).toArray 24) (hXv : X ∉ v.ownBlock.toList) (hi : i ≤ d.length) (hl : d.length ≤ 1000000) :
    Calls Tryz.prog 40 #[v, .int .i64 i, .slice (some ⟨X, 0, none⟩) 1 1] w fun e w' => ∃ v', e = .returned v' ∧ Sees w' 3 v' (d.length + 1) (Rfs (d.take i ++ [r] ++ d.drop i)) ∧ Chg [] w0 w' := by
  by_cases h : i = d.length
  · subst h
    rw [List.take_length, List.drop_length, List.append_nil]
    exact insert_end w0 w v d r X hF hX hl
  · have hil : i < d.length := by omega
    obtain ⟨n, hn⟩ : ∃ n, d.length = n := ⟨_, rfl⟩
    have hFo := hF.own
    rw [hn] at hFo hil hl ⊢
    obtain ⟨hlen, h2⟩ := hFo
    rcases h2 with ⟨rfl, h0⟩ | ⟨g, cap, cs, rfl, -, hb, hnc, hcm, hcs, htk⟩
    · omega
    have hb' : Blk w g cs 24 := hb
    have hXg : X ≠ g := fun e => hXv (by simp [Value.ownBlock, e])
    have h0g : w0.heap.size ≤ g := hF.new g (by simp [Value.ownBlock])
    by_cases hroom : n + 1 ≤ cap
    · refine (insert_room w d r X g n i cap cs hn hil hroom hb' hcs htk hX hXg hl).mono ?_
      rintro e w' ⟨v', h1, h2, h3⟩
      exact ⟨v', h1, h2, hF.chg.trans h3 fun k hk => .inr (by rw [List.mem_singleton.1 hk]; exact h0g)⟩
    · refine (insert_grow w d r X g n i cap cs hn hil hroom hnc hb' hcs htk hX hl).mono ?_
      rintro e w' ⟨v', h1, h2, h3⟩
      exact ⟨v', h1, h2, hF.chg.nil h3⟩
end Go.Proofs.YtihoohhngiomdaaGreatDoor

