/- Contract of refs.line; strings.Lines; how long words are. No statement of the seat is proved here. (Printed by gen_rngc.py.) -/
import Derived.Test.YtihoohhngiomdaaGreatDoorRngAB
import Derived.Test.YtihoohhngiomdaaGreatDoorTakeAll
set_option linter.unusedVariables false
set_option linter.unusedSimpArgs false
namespace Go.Aq.Wd
theorem enc1_len4P (c : Nat) : (enc1 c).length ≤ 4 := by
  unfold enc1
  repeat' split
  all_goals simp
theorem quotF_lenP : ∀ (f : Nat) (r : List UInt8), (quotF f r).1.length ≤ 4 * f
  | 0, r => by simp [quotF]
  | f + 1, r => by
    rw [quotF]
    split
    · simp
    · split
      · simp
      · split
        · simp
        · split
          · split
            · rename_i k _
              have h1 := quotF_lenP f (r.drop (writ k).length)
              have h2 := enc1_len4P k
              simp only [List.length_append]; omega
            · split <;> simp
          · have h1 := quotF_lenP f (r.drop (dec r).2)
            have h2 := enc1_len4P (dec r).1
            simp only [List.length_append]; omega
theorem wordW_lenP (r : List UInt8) : (wordW r).1.length ≤ 4 * r.length := by
  unfold wordW
  split
  · split
    · simp
    · split
      · simp
      · have h := quotF_lenP (r.drop 1).length (r.drop 1)
        simp only [List.length_drop] at h
        unfold quotW
        simp only [List.length_drop]
        omega
  · simp only [List.length_take]; omega
theorem wordsF_lenP (n B : Nat) : ∀ (f : Nat) (r : List UInt8) (acc : List (List UInt8)), r.length ≤ B → (∀ y ∈ acc, y.length ≤ 4 * B) → ∀ y ∈ (wordsF n f r acc).1, y.length ≤ 4 * B
  | 0, r, acc, hr, ha => ha
  | f + 1, r, acc, hr, ha => by
    intro y hy
    simp only [wordsF] at hy
    split at hy
    · exact ha y hy
    · split at hy
      · simp at hy
      · split at hy
        · simp at hy
        · refine wordsF_lenP n B f _ _ (by simp only [List.length_drop]; omega) ?_ y hy
          intro z hz
          rcases List.mem_append.1 hz with hz | hz
          · exact ha z hz
          · simp only [List.mem_singleton] at hz
            rw [hz]
            have h := wordW_lenP (r.drop (blanks r))
            simp only [List.length_drop] at h
            omega
theorem words_boundP (s : List UInt8) : ∀ y ∈ (wordsL s).1, y.length ≤ 4 * s.length := wordsF_lenP _ _ _ _ _ (Nat.le_refl _) (by simp)
end Go.Aq.Wd
namespace Go.Aq
open Go.RowKit Go.Aq.Wd
/-- A line, its end cut off, as a ref. -/
def lineW (t : List UInt8) : Option RefD := if (wordsL t).2.2 = 0 ∧ (wordsL t).1.length = 3 then some ⟨decide ((wordsL t).1.getD 0 [] = [116, 97, 103]), (wordsL t).1.getD 1 [], (wordsL t).1.getD 2 []⟩ else none
theorem lineD_W (x : List UInt8) : lineD x = lineW (trimN x) := rfl
theorem lineW_len {t : List UInt8} {r : RefD} (h : lineW t = some r) : r.name.length ≤ 4 * t.length ∧ r.key.length ≤ 4 * t.length := by
  unfold lineW at h
  split at h
  · rename_i h1
    have hb := words_boundP t
    have hg : ∀ j, j < 3 → ((wordsL t).1.getD j []).length ≤ 4 * t.length := fun j hj => by
      rw [List.getD_eq_getElem?_getD, List.getElem?_eq_getElem (by omega)]
      exact hb _ (List.getElem_mem _)
    rw [← Option.some.inj h]
    exact ⟨hg 1 (by decide), hg 2 (by decide)⟩
  · cases h
def refZ : RefD := ⟨false, [], []⟩
theorem trim_eq (x : List UInt8) : Lib.trimSuffix x [10] = trimN x := by
  unfold Lib.trimSuffix trimN Lib.hasSuffix
  by_cases h : x.getLast? = some 10
  · obtain ⟨y, rfl⟩ := List.getLast?_eq_some_iff.1 h
    rw [if_pos h]
    simp [List.isSuffixOf_iff_suffix]
  · rw [if_neg h]
    rw [if_neg]
    intro hs
    apply h
    simp only [List.isSuffixOf_iff_suffix] at hs
    obtain ⟨y, rfl⟩ := hs
    simp
end Go.Aq
namespace Go.Proofs.YtihoohhngiomdaaGreatDoor
open Go.RowKit Go.Aq Go.Aq.Wd
theorem ref_ty : ArrTy Tryz.prog 24 3 := ⟨⟨_, Tryz.underlying24, rfl⟩, by kernel_rfl⟩
set_option maxRecDepth 100000 in
set_option maxHeartbeats 2000000 in
theorem lines_make (b : List UInt8) (w : World) : Calls Tryz.prog 30 #[.string (str b)] w fun e w' => e = .returned (.func (.func 49) #[] #[.pointer (some ⟨w.heap.size, 0, none⟩)]) ∧ Blk w' w.heap.size #[.string (str b)] 9 ∧ Chg [] w w' := by
  have hb := Blk.new w #[.string (str b)] 9
  have hc := (Chg.refl [] w).alloc (.cells #[.string (str b)] 9)
  have HB := Lib.hid (And.intro hb hc)
  clear hb hc
  go_enter Tryz.func30, Tryz.ntmps30
  go_wp2_with fail
  go_ret
  exact ⟨rfl, HB.out⟩
set_option maxRecDepth 100000 in
set_option maxHeartbeats 4000000 in
theorem line_bad (t : List UInt8) (w : World) (hT : Tabs w) (ht : t.length ≤ 1000000) (h : ¬ ((wordsL t).2.2 = 0 ∧ (wordsL t).1.length = 3)) :
    Calls Tryz.prog 31 #[.string (str t)] w fun e w' => e = .returned (.tuple #[rfV refZ, .bool false]) ∧ Chg [] w w' := by
  obtain ⟨K, hK⟩ : ∃ K, w.heap.size = K := ⟨_, rfl⟩
  have hbK : Blk (w.alloc (.cells #[.bool false, .string ⟨#[]⟩, .string ⟨#[]⟩] 24)) K #[.bool false, .string ⟨#[]⟩, .string ⟨#[]⟩] 24 := Blk.new_at w _ _ hK
  have hc1 : Chg [] w (w.alloc (.cells #[.bool false, .string ⟨#[]⟩, .string ⟨#[]⟩] 24)) := (Chg.refl [] w).alloc _
  have hw := words_any t (w.alloc (.cells #[.bool false, .string ⟨#[]⟩, .string ⟨#[]⟩] 24)) (hT.chg hc1) (by omega)
  have aT : ArrTy Tryz.prog 24 (#[.bool false, .string ⟨#[]⟩, .string ⟨#[]⟩] : Array Value).size := ref_ty
  generalize (wordsL t).2.2 = er at *
  generalize (wordsL t).2.1 = wh at *
  obtain ⟨nl, hnl⟩ : ∃ n, (wordsL t).1.length = n := ⟨_, rfl⟩
  rw [hnl] at hw h
  generalize (wordsL t).1 = L at *
  have HC := Lib.hid hc1
  clear hc1 hnl
  by_cases h0 : er = 0
  · subst h0
    have h3 : nl ≠ 3 := fun e => h ⟨rfl, e⟩
    have t1 : ((nl : Int) != 3) = true := by simp; omega
    have t1' : (nl != 3) = true := by simp; omega
    clear h h3
    go_enter Tryz.func31, Tryz.ntmps31
    go_wp2_with fail
    refine hw.mono ?_
    rintro e w2 ⟨v2, rfl, hF2⟩
    obtain ⟨ao, cp, rfl, -⟩ := hF2.shape
    have hbK2 := hbK.chg0 hF2.chg
    have cw2 := HC.out.nil hF2.chg
    clear hw hbK
    go_wp2_with (with_reducible refine wpList_stA rfl 24 _ _ rfl hbK2 aT rfl (by simp [Value.oneCell']) rfl rfl ?_; intro w20 hb20 c20 hs20)
    refine bodyPost_ret (results_AT rfl _ _ hb20 aT rfl) rfl ⟨rfl, cw2.trans c20 fun k hk => ?_⟩
    simp at hk; right; omega
  · have t1 : (((er : Nat) : Int) != 0) = true := by simp; omega
    have t1' : (er != 0) = true := by simp; omega
    clear h h0
    go_enter Tryz.func31, Tryz.ntmps31
    go_wp2_with fail
    refine hw.mono ?_
    rintro e w2 ⟨v2, rfl, hF2⟩
    obtain ⟨ao, cp, rfl, -⟩ := hF2.shape
    have hbK2 := hbK.chg0 hF2.chg
    have cw2 := HC.out.nil hF2.chg
    clear hw hbK
    go_wp2_with (with_reducible refine wpList_stA rfl 24 _ _ rfl hbK2 aT rfl (by simp [Value.oneCell']) rfl rfl ?_; intro w20 hb20 c20 hs20)
    refine bodyPost_ret (results_AT rfl _ _ hb20 aT rfl) rfl ⟨rfl, cw2.trans c20 fun k hk => ?_⟩
    simp at hk; right; omega
set_option maxRecDepth 100000 in
set_option maxHeartbeats 4000000 in
theorem line_good (t l0 l1 l2 : List UInt8) (w : World) (hT : Tabs w) (ht : t.length ≤ 1000000) (h0 : (wordsL t).2.2 = 0) (hL : (wordsL t).1 = [l0, l1, l2]) :
    Calls Tryz.prog 31 #[.string (str t)] w fun e w' => e = .returned (.tuple #[rfV ⟨decide (l0 = [116, 97, 103]), l1, l2⟩, .bool true]) ∧ Chg [] w w' := by
  obtain ⟨K, hK⟩ : ∃ K, w.heap.size = K := ⟨_, rfl⟩
  have hbK : Blk (w.alloc (.cells #[.bool false, .string ⟨#[]⟩, .string ⟨#[]⟩] 24)) K #[.bool false, .string ⟨#[]⟩, .string ⟨#[]⟩] 24 := Blk.new_at w _ _ hK
  have hc1 : Chg [] w (w.alloc (.cells #[.bool false, .string ⟨#[]⟩, .string ⟨#[]⟩] 24)) := (Chg.refl [] w).alloc _
  have hw := words_any t (w.alloc (.cells #[.bool false, .string ⟨#[]⟩, .string ⟨#[]⟩] 24)) (hT.chg hc1) (by omega)
  rw [h0, hL] at hw
  generalize (wordsL t).2.1 = wh at *
  have HC := Lib.hid hc1
  obtain ⟨b, hb⟩ : ∃ b, b = decide (l0 = [116, 97, 103]) := ⟨_, rfl⟩
  have e1 : ((str l0).toList == (⟨#[116, 97, 103]⟩ : ByteArray).toList) = b := by rw [show (⟨#[116, 97, 103]⟩ : ByteArray) = str [116, 97, 103] from rfl, str_eq, hb]
  have e2 : ((str l0).toList == [116, 97, 103]) = b := by rw [str_toList, hb]; rw [Bool.eq_iff_iff]; simp
  rw [← hb]
  clear hc1 h0 hL hb
  go_enter Tryz.func31, Tryz.ntmps31
  go_wp2_with fail
  refine hw.mono ?_
  rintro e w2 ⟨v2, rfl, hF2⟩
  obtain ⟨g, cp2, rfl, hcp, -, hgl⟩ := hF2.own.pos (by simp)
  have z0 : w2.cell? ⟨g, 0, none⟩ = some (.string (str l0)) := by rw [hF2.own.cellAt 0 (by simp)]; rfl
  have z1 : w2.cell? ⟨g, 1, none⟩ = some (.string (str l1)) := by rw [hF2.own.cellAt 1 (by simp)]; rfl
  have z2 : w2.cell? ⟨g, 2, none⟩ = some (.string (str l2)) := by rw [hF2.own.cellAt 2 (by simp)]; rfl
  have hbK2 := hbK.chg0 hF2.chg
  have cw2 := HC.out.nil hF2.chg
  clear hw hbK hF2
  simp only [List.length_cons, List.length_nil, Nat.reduceAdd, Nat.zero_add] at *
  go_upto_region 4 with (fail)
  refine wp_region_S (fun i => i == 11) (by kernel_rfl) ?_
  refine wpAnyS_take 0 (v := (.slice (some ⟨g, 0, none⟩) 3 cp2)) rfl (by kernel_rfl) (by kernel_rfl) (by kernel_rfl) (by kernel_rfl) (fun _ _ _ h => h) (by rfl) (fun w4 c4 => ?_) ?_
  · go_simp
  try simp only [Act.put, List.getElem_toArray, List.getElem_cons_succ, List.getElem_cons_zero, List.setIfInBounds_toArray, List.set_cons_zero, List.set_cons_succ]
  refine wpAnyS_take 1 (v := (.pointer (some ⟨g, 0, none⟩))) rfl (by kernel_rfl) (by kernel_rfl) (by kernel_rfl) (by kernel_rfl) (fun _ _ _ h => h) (by rfl) (fun w4 c4 => ?_) ?_
  · go_simp
  try simp only [Act.put, List.getElem_toArray, List.getElem_cons_succ, List.getElem_cons_zero, List.setIfInBounds_toArray, List.set_cons_zero, List.set_cons_succ]
  refine wpAnyS_take 2 (v := (.string (str l0))) rfl (by kernel_rfl) (by kernel_rfl) (by kernel_rfl) (by kernel_rfl) (fun _ _ _ h => h) (by rfl) (fun w4 c4 => ?_) ?_
  · have z := c4.cell_some z0 (by simp)
    go_simp
  try simp only [Act.put, List.getElem_toArray, List.getElem_cons_succ, List.getElem_cons_zero, List.setIfInBounds_toArray, List.set_cons_zero, List.set_cons_succ]
  refine wpAnyS_take 3 (v := (.bool b)) rfl (by kernel_rfl) (by kernel_rfl) (by kernel_rfl) (by kernel_rfl) (fun _ _ _ h => h) (by rfl) (fun w4 c4 => ?_) ?_
  · go_simp
  try simp only [Act.put, List.getElem_toArray, List.getElem_cons_succ, List.getElem_cons_zero, List.setIfInBounds_toArray, List.set_cons_zero, List.set_cons_succ]
  refine wpAnyS_take 4 (v := (.slice (some ⟨g, 0, none⟩) 3 cp2)) rfl (by kernel_rfl) (by kernel_rfl) (by kernel_rfl) (by kernel_rfl) (fun _ _ _ h => h) (by rfl) (fun w4 c4 => ?_) ?_
  · go_simp
  try simp only [Act.put, List.getElem_toArray, List.getElem_cons_succ, List.getElem_cons_zero, List.setIfInBounds_toArray, List.set_cons_zero, List.set_cons_succ]
  refine wpAnyS_take 5 (v := (.pointer (some ⟨g, 1, none⟩))) rfl (by kernel_rfl) (by kernel_rfl) (by kernel_rfl) (by kernel_rfl) (fun _ _ _ h => h) (by rfl) (fun w4 c4 => ?_) ?_
  · go_simp
  try simp only [Act.put, List.getElem_toArray, List.getElem_cons_succ, List.getElem_cons_zero, List.setIfInBounds_toArray, List.set_cons_zero, List.set_cons_succ]
  refine wpAnyS_take 6 (v := (.string (str l1))) rfl (by kernel_rfl) (by kernel_rfl) (by kernel_rfl) (by kernel_rfl) (fun _ _ _ h => h) (by rfl) (fun w4 c4 => ?_) ?_
  · have z := c4.cell_some z1 (by simp)
    go_simp
  try simp only [Act.put, List.getElem_toArray, List.getElem_cons_succ, List.getElem_cons_zero, List.setIfInBounds_toArray, List.set_cons_zero, List.set_cons_succ]
  refine wpAnyS_take 7 (v := (.slice (some ⟨g, 0, none⟩) 3 cp2)) rfl (by kernel_rfl) (by kernel_rfl) (by kernel_rfl) (by kernel_rfl) (fun _ _ _ h => h) (by rfl) (fun w4 c4 => ?_) ?_
  · go_simp
  try simp only [Act.put, List.getElem_toArray, List.getElem_cons_succ, List.getElem_cons_zero, List.setIfInBounds_toArray, List.set_cons_zero, List.set_cons_succ]
  refine wpAnyS_take 8 (v := (.pointer (some ⟨g, 2, none⟩))) rfl (by kernel_rfl) (by kernel_rfl) (by kernel_rfl) (by kernel_rfl) (fun _ _ _ h => h) (by rfl) (fun w4 c4 => ?_) ?_
  · go_simp
  try simp only [Act.put, List.getElem_toArray, List.getElem_cons_succ, List.getElem_cons_zero, List.setIfInBounds_toArray, List.set_cons_zero, List.set_cons_succ]
  refine wpAnyS_take 9 (v := (.string (str l2))) rfl (by kernel_rfl) (by kernel_rfl) (by kernel_rfl) (by kernel_rfl) (fun _ _ _ h => h) (by rfl) (fun w4 c4 => ?_) ?_
  · have z := c4.cell_some z2 (by simp)
    go_simp
  try simp only [Act.put, List.getElem_toArray, List.getElem_cons_succ, List.getElem_cons_zero, List.setIfInBounds_toArray, List.set_cons_zero, List.set_cons_succ]
  refine wpAnyS_take 10 (v := (.agg #[.bool b, .string (str l1), .string (str l2)])) rfl (by kernel_rfl) (by kernel_rfl) (by kernel_rfl) (by kernel_rfl) (fun _ _ _ h => h) (by rfl) (fun w4 c4 => ?_) ?_
  · go_simp
  try simp only [Act.put, List.getElem_toArray, List.getElem_cons_succ, List.getElem_cons_zero, List.setIfInBounds_toArray, List.set_cons_zero, List.set_cons_succ]
  refine wpAnyS_last 11 rfl (by kernel_rfl) rfl (by rfl) (fun w5 c5 => ?_)
  refine wp_stA (cs := #[.bool b, .string (str l1), .string (str l2)]) 24 _ _ rfl (hbK2.chg0 c5) ref_ty rfl (by simp [Value.oneCell']) rfl rfl ?_
  intro w6 hb6 c6 hs6
  try simp only [Act.put, List.getElem_toArray, List.getElem_cons_succ, List.getElem_cons_zero, List.setIfInBounds_toArray, List.set_cons_zero, List.set_cons_succ]
  refine wpAny_only 12 rfl (by kernel_rfl) (by rfl) ?_
  go_simp
  refine wpAny_fin (by kernel_rfl) ?_ _
  try simp only [Act.put, List.getElem_toArray, List.getElem_cons_succ, List.getElem_cons_zero, List.setIfInBounds_toArray, List.set_cons_zero, List.set_cons_succ]
  have cw6 : Chg [] w w6 := (cw2.nil c5).trans c6 fun k hk => by simp at hk; right; omega
  clear z0 z1 z2 hs6 c6 c5
  go_wp2_with fail
  refine bodyPost_ret (results_AT rfl _ _ hb6 ref_ty rfl) rfl ⟨rfl, cw6⟩
/-- What line says. -/
def lineV (o : Option RefD) : Value := match o with | some r => .tuple #[rfV r, .bool true] | none => .tuple #[rfV refZ, .bool false]
theorem line_any (t : List UInt8) (w : World) (hT : Tabs w) (ht : t.length ≤ 1000000) : Calls Tryz.prog 31 #[.string (str t)] w fun e w' => e = .returned (lineV (lineW t)) ∧ Chg [] w w' := by
  by_cases h : (wordsL t).2.2 = 0 ∧ (wordsL t).1.length = 3
  · obtain ⟨l0, l1, l2, hL⟩ : ∃ a b c, (wordsL t).1 = [a, b, c] := by
      match hm : (wordsL t).1, h.2 with
      | [a, b, c], _ => exact ⟨a, b, c, rfl⟩
    have e : lineW t = some ⟨decide (l0 = [116, 97, 103]), l1, l2⟩ := by
      unfold lineW
      rw [if_pos h, hL]; rfl
    rw [e]
    exact line_good t l0 l1 l2 w hT ht h.1 hL
  · have e : lineW t = none := if_neg h
    rw [e]
    exact line_bad t w hT ht h
end Go.Proofs.YtihoohhngiomdaaGreatDoor
