/- Contract of word.Words. No statement of the seat is proved here. -/
import Derived.Test.YtihoohhngiomdaaDoorWordJ
set_option linter.unusedVariables false
namespace Go.Aq.Wd
def Ss (l : List (List UInt8)) : List Value := l.map fun (s : List UInt8) => Value.string (str s)
theorem Ss_append (a b : List (List UInt8)) : Ss (a ++ b) = Ss a ++ Ss b := by simp [Ss]
theorem Ss_len (a : List (List UInt8)) : (Ss a).length = a.length := by simp [Ss]
theorem blanks_step (r : List UInt8) : blanks r = if r.headD 0 = 32 ∧ r ≠ [] then blanks (r.drop 1) + 1 else 0 := by
  cases r with
  | nil => rfl
  | cons x t =>
    by_cases h : x = 32
    · subst h; simp [blanks]
    · rw [if_neg (by simp [h])]
      unfold blanks
      split
      · rename_i heq; simp only [List.cons.injEq] at heq; exact absurd heq.1 h
      · rfl
theorem blanks_le (r : List UInt8) : blanks r ≤ r.length := by
  induction r with
  | nil => simp [blanks]
  | cons x t ih =>
    rw [blanks_step]
    split
    · simp; omega
    · omega
theorem plain_pos (r : List UInt8) (h : r ≠ []) (h32 : r.headD 0 ≠ 32) (hok : (plainW r).2 = true) : 1 ≤ (plainW r).1 := by
  have hp := dec_pos r
  rw [plainW_step r h] at hok ⊢
  split at hok
  · simp at hok
  · split at hok
    · rename_i hc; exact absurd ((head32 r h).1 hc) h32
    · split at hok
      · simp at hok
      · rename_i h1 h2 h3
        rw [if_neg h1, if_neg h2, if_neg h3]
        simp only; omega
theorem plain_le : ∀ (n : Nat) (r : List UInt8), r.length ≤ n → (plainW r).1 ≤ r.length
  | 0, r, hn => by
    have : r = [] := List.eq_nil_of_length_eq_zero (by omega)
    subst this; rw [plainW_nil]; simp
  | n + 1, r, hn => by
    by_cases hr : r = []
    · subst hr; rw [plainW_nil]; simp
    · have hp := dec_pos r
      have hle := dec_le r hr
      have ih := plain_le n (r.drop (dec r).2) (by rw [List.length_drop]; omega)
      rw [List.length_drop] at ih
      rw [plainW_step r hr]
      split
      · simp
      · split
        · simp
        · split
          · simp
          · simp only; omega
theorem word_le (r : List UInt8) (h : r ≠ []) : (wordW r).2.1 ≤ r.length := by
  have hl : 1 ≤ r.length := List.length_pos_iff.2 h
  have hq := (quot_err _ (r.drop 1) (Nat.le_refl _)).1
  rw [List.length_drop] at hq
  unfold wordW
  split
  · split
    · simp only; omega
    · split <;> (simp only; omega)
  · exact plain_le _ r (Nat.le_refl _)
/-- A word that is read well has a byte at least. -/
theorem word_pos (r : List UInt8) (h : r ≠ []) (h32 : r.headD 0 ≠ 32) (hok : (wordW r).2.2 = 0) : 1 ≤ (wordW r).2.1 := by
  unfold wordW at hok ⊢
  split
  · split
    · simp only; omega
    · split <;> (simp only; omega)
  · rename_i h34
    rw [if_neg h34] at hok
    simp only at hok ⊢
    refine plain_pos r h h32 ?_
    cases hp : (plainW r).2 with
    | true => rfl
    | false => rw [hp] at hok; simp at hok
end Go.Aq.Wd
namespace Go.Proofs.YtihoohhngiomdaaDoor
open Go.RowKit Go.Aq Go.Aq.Wd
theorem Fresh_toR {w wo wr : World} {e : TypeId} {size : Nat} {v : Value} {n R : Nat} {xs : List Value} (h : Fresh w wo e size v n xs) (c : Chg [R] wo wr) (hR : R ∉ v.ownBlock.toList) (hw : w.heap.size ≤ R) : Fresh w wr e size v n xs :=
  ⟨h.own.chg c (fun k hk => by simp; rintro rfl; exact hR hk), h.chg.trans c (by simpa using hw), h.new⟩
theorem sl_str : SliceTy Tryd.prog 77 9 (.string ⟨#[]⟩) 1 16 := ⟨Tryd.underlying77, by kernel_rfl, rfl, by decide⟩
set_option maxHeartbeats 4000000 in
theorem words_any (l : List UInt8) (w : World) (hT : Tabs w) (hl : l.length ≤ 1000000000) :
    Calls Tryd.prog 41 #[.string (str l)] w fun e w' => ∃ v, e = .returned (.tuple #[v, .int .i64 (wordsL l).2.1, .int .i64 (wordsL l).2.2]) ∧ Fresh w w' 9 1 v (wordsL l).1.length (Ss (wordsL l).1) := by
  have hsz := str_size l
  obtain ⟨R, hRs⟩ : ∃ R, w.heap.size = R := ⟨_, rfl⟩
  have hoff : Off R := hT.off (by omega)
  have hR0 : Rd (w.alloc (.cells #[.string (str l), .int .i64 0, .int .i64 0] 89)) R l 0 0 := by
    unfold Rd; rw [← hRs]; exact Blk.new w _ _
  have hf0 : Fresh w (w.alloc (.cells #[.string (str l), .int .i64 0, .int .i64 0] 89)) 9 1 (.slice none 0 0) 0 (Ss []) := (Fresh.nil w _ _).to ((Chg.refl [] w).alloc _)
  have hW : wordsL l = wordsF l.length (l.length + 1) (l.drop 0) [] := rfl
  have HW := Lib.hid hW
  clear hW
  go_enter Tryd.func41, Tryd.ntmps41
  go_wp2_with fail
  generalize w.alloc (.cells #[.string (str l), .int .i64 0, .int .i64 0] 89) = w0 at *
  go_loopg [6] (l.length + 1) (fun k vl wr => ∃ (q f : Nat) (acc : List (List UInt8)), q + k = l.length + 1 ∧ q ≤ l.length ∧ l.length < q + f ∧ acc.length ≤ 50 ∧ Rd wr R l q 0 ∧ Fresh w wr 9 1 vl acc.length (Ss acc) ∧ wordsL l = wordsF l.length f (l.drop q) acc)
  case atStart => exact ⟨0, l.length + 1, [], by omega, by omega, by omega, by simp, hR0, hf0, HW.out⟩
  case round =>
    clear hR0 hf0
    obtain ⟨q, f, acc, hqk, hql, hqf, ha50, hR, hf, hw⟩ := hrel
    obtain ⟨GK, hGK⟩ : ∃ G, G = gk := ⟨_, rfl⟩
    obtain ⟨wo, hwo⟩ : ∃ wo : World, wo = wr := ⟨_, rfl⟩
    rw [← hwo] at hR hf
    rw [← hGK] at hqk
    subst hwo
    have hRv : R ∉ u6.ownBlock.toList := hf.own.ne hR (by decide)
    go_wp2_with fail
    go_loopg [] (l.length - q) (fun k wr => ∃ (q1 : Nat), q1 + k = l.length ∧ q ≤ q1 ∧ q1 ≤ l.length ∧ Rd wr R l q1 0 ∧ Chg [R] wo wr ∧ q1 + blanks (l.drop q1) = q + blanks (l.drop q))
    case atStart => exact ⟨q, by omega, by omega, hql, hR, Chg.refl _ _, rfl⟩
    case round =>
      clear hR
      obtain ⟨q1, hk1, hqq, hq1l, hR, hc, hbl⟩ := hrel
      have c1 : wr.cell? ⟨R, 1, none⟩ = some (.int .i64 (q1 : Nat)) := Blk.cell hR 1
      have f1 := Blk.frozen hR 1
      have hq1b : (q1 : Int) ≤ 1000000000 := by omega
      have hbs := blanks_step (l.drop q1)
      by_cases h1 : q1 < l.length ∧ (l.drop q1).headD 0 = 32
      · obtain ⟨hlt, h32⟩ := h1
        have t1 : decide ((q1 : Int) < (l.length : Int)) = true := by simp; omega
        have t1' : decide (q1 < l.length) = true := by simp; omega
        have hhd : (l.drop q1).headD 0 = l[q1] := by rw [List.drop_eq_getElem_cons hlt]; rfl
        rw [hhd] at h32
        have ix := fun w' => idxS w' l q1 hlt
        rw [h32] at ix
        have hx32 : ((32 : UInt8).toNat : Int) = 32 := rfl
        rw [hx32] at ix
        rw [if_pos ⟨by rw [hhd]; exact h32, drop_ne l q1 hlt⟩, List.drop_drop] at hbs
        have hR3 := Blk.set hR 1 (.int .i64 ((q1 + 1 : Nat) : Int))
        have hcs := hc.setCell (p := ⟨R, 1, none⟩) (by simp) (.int .i64 ((q1 + 1 : Nat) : Int))
        have e2 : ((q1 + 1 : Nat) : Int) = (q1 : Int) + 1 := by omega
        rw [e2] at hR3 hcs
        have HB := Lib.hid (And.intro hbl (And.intro hbs hk1))
        clear hbl hbs hk1 hhd h32 hx32
        go_wp2_with fail
        go_roundg (gk - 1)
        case measure => have := HB.out; omega
        case rel =>
          refine ⟨q1 + 1, by have := HB.out; omega, by omega, by omega, ?_, hcs, by have := HB.out; omega⟩
          unfold Rd; rw [e2]; exact hR3
      · have hb0 : blanks (l.drop q1) = 0 := by rw [hbs, if_neg (fun hh => h1 ⟨by
          by_cases hlt : q1 < l.length
          · exact hlt
          · exact absurd (List.drop_eq_nil_of_le (by omega)) hh.2, hh.1⟩)]
        obtain ⟨f', rfl⟩ : ∃ f', f = f' + 1 := ⟨f - 1, by omega⟩
        have hdd : (l.drop q).drop (blanks (l.drop q)) = l.drop q1 := by rw [List.drop_drop]; congr 1; omega
        rw [wordsF] at hw
        simp only [hdd] at hw
        rw [List.length_drop] at hw
        have hf1 := Fresh_toR hf hc hRv (by omega)
        by_cases hend : l.drop q1 = []
        · rw [if_pos hend] at hw
          have hq1e : q1 = l.length := by have := congrArg List.length hend; simp at this; omega
          subst hq1e
          have t1 : decide ((l.length : Int) < (l.length : Int)) = false := by simp
          have t2 : ((l.length : Int) == (l.length : Int)) = true := by simp
          have HWW := Lib.hid hw
          clear hw hend hbs hb0 hbl hdd h1 hR
          go_wp2_with fail
          go_ret3
          exact ⟨_, by rw [HWW.out]; rfl, by rw [HWW.out]; exact hf1⟩
        · rw [if_neg hend] at hw
          have hlt : q1 < l.length := by
            by_cases hlt : q1 < l.length
            · exact hlt
            · exact absurd (List.drop_eq_nil_of_le (by omega)) hend
          have hhd : (l.drop q1).headD 0 = l[q1] := by rw [List.drop_eq_getElem_cons hlt]; rfl
          have hn32 : (l.drop q1).headD 0 ≠ 32 := fun e => h1 ⟨hlt, e⟩
          have hx32 : (l[q1]).toNat ≠ 32 := fun e => hn32 (by rw [hhd, ← u8e _ _ e]; rfl)
          have ix := fun w' => idxS w' l q1 hlt
          have t1 : decide ((q1 : Int) < (l.length : Int)) = true := by simp; omega
          have t1' : decide (q1 < l.length) = true := by simp; omega
          have t2 : ((q1 : Int) == (l.length : Int)) = false := by simp; omega
          have t3 : (((l[q1]).toNat : Int) == 32) = false := by simp; omega
          generalize (l[q1]).toNat = x at *
          obtain ⟨ao, cap, hu6, hcap⟩ := hf1.shape
          subst hu6
          clear h1 hhd hbs hb0 hbl hdd hx32
          by_cases h50 : acc.length = 50
          · rw [if_pos h50] at hw
            have HWW := Lib.hid hw
            have t5 : ((acc.length : Int) == 50) = true := by simp; omega
            have hq1e : l.length - (l.length - q1) = q1 := by omega
            rw [hq1e] at HWW
            clear hw hq1e
            go_wp2_with fail
            go_quiet (fail)
            have hcq := hf1.chg.drewN nq
            generalize wr.drewN nq = w3 at *
            go_wp2_with fail
            go_ret3
            exact ⟨_, by rw [HWW.out]; rfl, by rw [HWW.out]; exact (Fresh.nil w _ _).to hcq⟩
          · rw [if_neg h50] at hw
            have t5 : ((acc.length : Int) == 50) = false := by simp; omega
            have h49 : acc.length ≤ 49 := by omega
            have hTr : Tabs wr := hT.chg hf1.chg
            have hwa := word_any wr hTr R hoff l q1 hR hlt hl
            have hpos := word_pos (l.drop q1) hend hn32
            have hwle := word_le (l.drop q1) hend
            rw [List.length_drop] at hwle
            have hRv1 : R ∉ (Value.slice ao acc.length cap).ownBlock.toList := hf1.own.ne hR (by decide)
            generalize wordW (l.drop q1) = W3 at *
            obtain ⟨wt, wm, we⟩ := W3
            simp only at hw hwa hpos hwle
            by_cases he : we = 0
            · subst he
              rw [if_neg (by simp)] at hw
              have hm1 := hpos rfl
              rw [List.drop_drop] at hw
              have HWW := Lib.hid hw
              have HQ := Lib.hid (And.intro hqk (And.intro hk1 (And.intro hqf hGK)))
              clear hw hpos hk1 hqf hGK hR h50
              go_wp2_with fail
              refine hwa.mono ?_
              rintro e w3 ⟨t, rfl, ht, hR3, c3⟩
              obtain rfl := ht trivial
              have hf3 := Fresh_toR hf1 c3 hRv1 (by omega)
              have d2 : w3.cell? ⟨R, 2, none⟩ = some (.int .i64 (0 : Nat)) := Blk.cell hR3 2
              clear hwa
              go_wp2_with (at_builtin; refine wpList_appF (w0 := w) rfl _ _ 77 rfl sl_str (by exact hf3.to ((Chg.refl [] w3).alloc (.cells #[.string (str t)] 9))) rfl (Sees.row (cs := #[.string (str t)]) (by exact Blk.new w3 _ 9) (m := 1) rfl) rfl (by simp [Value.oneCell']) (by omega) (by omega) ?_; intro v4 w4 hF4 c4)
              go_roundg (GK - (q1 + wm - q))
              case measure => have := HQ.out; omega
              case rel =>
                refine ⟨q1 + wm, f', acc ++ [t], by have := HQ.out; omega, by omega, by have := HQ.out; omega, by simp; omega, ?_, ?_, HWW.out⟩
                · exact (Blk.alloc hR3 _).chg c4 hRv1
                · rw [Ss_append]; simpa [Ss] using hF4
            · rw [if_pos he] at hw
              have hq1e : l.length - (l.length - q1) + wm = q1 + wm := by omega
              rw [hq1e] at hw
              have t6 : ((we : Int) != 0) = true := by simp; omega
              have t6' : ((we : Int) == 0) = false := by simp; omega
              have HWW := Lib.hid hw
              clear hw hq1e hpos he hR
              go_wp2_with fail
              refine hwa.mono ?_
              rintro e w3 ⟨t, rfl, -, hR3, c3⟩
              have hf3 := Fresh_toR hf1 c3 hRv1 (by omega)
              have d2 : w3.cell? ⟨R, 2, none⟩ = some (.int .i64 (we : Nat)) := Blk.cell hR3 2
              have d1 : w3.cell? ⟨R, 1, none⟩ = some (.int .i64 ((q1 + wm : Nat) : Int)) := Blk.cell hR3 1
              clear hwa
              go_wp2_with fail
              go_quiet (fail)
              have hcq := hf3.chg.drewN nq
              generalize w3.drewN nq = w4 at *
              go_wp2_with fail
              go_ret3
              exact ⟨_, by rw [HWW.out]; rfl, by rw [HWW.out]; exact (Fresh.nil w _ _).to hcq⟩
end Go.Proofs.YtihoohhngiomdaaDoor
