/- Contracts of word.Quote, word.escapes. No statement of the seat is proved here. -/
import Derived.Test.YtihoohhngiomdaaDoorWordD
set_option linter.unusedVariables false
namespace Go.Aq
open Go.RowKit
/-- A builder stays one where all blocks of cells stay. -/
theorem builder_kept {T e : TypeId} {B b : Nat} {bs : List Value} {w w' : World} (h : Lib.IsBuilder T e B b bs w) (hk : ∀ (k : Nat) (c : Array Value) (t : TypeId) (fz : Nat × Nat), w.heap[k]? = some (Obj.cells c t fz) → w'.heap[k]? = some (Obj.cells c t fz)) : Lib.IsBuilder T e B b bs w' := by
  have one : ∀ p, Lib.BuilderAt T e B b p bs w → Lib.BuilderAt T e B b p bs w' := by
    rintro p ⟨hB, v, hb, hown, hne⟩
    refine ⟨hB, v, hk _ _ _ _ hb, ⟨hown.1, ?_⟩, hne⟩
    rcases hown.2 with h2 | ⟨g, cap, cur, hv, hbg, hg, r⟩
    · exact .inl h2
    · exact .inr ⟨g, cap, cur, hv, hbg, hk _ _ _ _ hg, r⟩
  rcases h with h | h
  · exact .inl (one _ h)
  · exact .inr (one _ h)
theorem builder_iter {T e : TypeId} {B b : Nat} {bs : List Value} {w : World} (h : Lib.IsBuilder T e B b bs w) {k : Nat} {s : ByteArray} {pos : Nat} (hk : w.heap[k]? = some (.stringIter s pos)) (pos' : Nat) : Lib.IsBuilder T e B b bs (w.iterAt k s pos') :=
  builder_kept h fun j c t fz hj => by
    rw [Lib.iterAt_other w k j s pos' (by rintro rfl; rw [hk] at hj; cases hj)]
    exact hj
theorem builder_chg {T e : TypeId} {B b : Nat} {bs : List Value} {w w' : World} (h : Lib.IsBuilder T e B b bs w) (hc : Chg [] w w') : Lib.IsBuilder T e B b bs w' :=
  builder_kept h fun j c t fz hj => by rw [hc.block j (Array.getElem?_eq_some_iff.1 hj).1 (by simp)]; exact hj
namespace Wd
theorem writ_len (c : Nat) : (writ c).length ≤ 6 := by
  unfold writ
  split
  · simp
  · split
    · simp
    · split
      · unfold hexC; split <;> simp
      · have := enc1_len c; omega
theorem writs_len (rs : List Nat) : (rs.flatMap writ).length ≤ 6 * rs.length := by
  induction rs with
  | nil => simp
  | cons c t ih => rw [List.flatMap_cons, List.length_append, List.length_cons]; have := writ_len c; omega
theorem encL_len (rs : List Nat) : rs.length ≤ (encL rs).length := by
  induction rs with
  | nil => simp
  | cons c t ih => rw [encL_cons, List.length_append, List.length_cons]; have := enc1_len c; omega
end Wd
end Go.Aq
namespace Go.Proofs.YtihoohhngiomdaaDoor
open Go.RowKit Go.Aq Go.Aq.Wd
set_option maxHeartbeats 2000000 in
theorem quote_any (l : List UInt8) (w : World) (hT : Tabs w) (hl : l.length ≤ 1000000000) :
    Calls Tryd.prog 20 #[.string (str l)] w fun e w' => e = .returned (.tuple #[.string (str (quoteL l).1), .int .i64 (quoteL l).2]) ∧ Chg [] w w' := by
  have hsz := str_size l
  have hca := count_any l w hT hl
  cases hs : sigs l with
  | none =>
    have hcl : countL l = (0, 4) := by unfold countL; rw [hs]
    have hp : quoteL l = ([], 4) := by unfold quoteL; rw [hs]
    rw [hp]
    rw [hcl] at hca
    go_enter Tryd.func20, Tryd.ntmps20
    go_wp2_with fail
    refine hca.mono ?_
    rintro e w1 ⟨rfl, c1⟩
    go_wp2_with fail
    go_ret2
    exact ⟨rfl, c1⟩
  | some rs =>
    have hcl := countL_of hs
    have hp : quoteL l = (quoteR rs, 0) := by unfold quoteL; rw [hs]
    obtain ⟨he, ok⟩ := sigs_enc hs
    rw [hp]
    rw [hcl] at hca
    have hca : Calls Tryd.prog 35 #[.string (str l)] w fun e w' => e = .returned (.tuple #[.int .i64 (rs.length : Nat), .int .i64 0]) ∧ Chg [] w w' := hca
    have HOK := Lib.hid ok
    have HE := Lib.hid he
    clear ok he hp hcl hs
    go_enter Tryd.func20, Tryd.ntmps20
    go_wp2_with fail
    refine hca.mono ?_
    rintro e w1 ⟨rfl, c1⟩
    clear hca
    have hI0 : Lib.IsBuilder 48 5 w1.heap.size w1.heap.size (Bs []) (w1.alloc (.cells #[.pointer none, .slice none 0 0] 48)) := Lib.fresh_isBuilder 48 5 w1
    have hB0 : Below w1.heap.size w1 (w1.alloc (.cells #[.pointer none, .slice none 0 0] 48)) := (Below.refl _ w1).alloc (Nat.le_refl _) _
    obtain ⟨B, hB⟩ : ∃ B, w1.heap.size = B := ⟨_, rfl⟩
    rw [hB] at hI0 hB0
    go_wp2_with fail
    refine (wByte B B [] 34 _ hI0 (by simp) (by simp; omega)).mono ?_
    rintro e w2 ⟨rfl, hI1, hb2, k2⟩
    have hB2 := hB0.trans hb2
    obtain ⟨K, hK⟩ : ∃ K, w2.heap.size = K := ⟨_, rfl⟩
    have hKB : B < K := by have := hb2.size; simp at this; omega
    clear hI0 hB0 hb2 k2
    generalize w1.alloc _ = wz at *
    go_wp2_with fail
    go_loopg [] l.length (fun k wr => ∃ (pos j : Nat), pos + k = l.length ∧ j ≤ rs.length ∧ pos = (encL (rs.take j)).length ∧ wr.heap[K]? = some (.stringIter (str l) pos) ∧ Below B w1 wr ∧ B ≤ wr.heap.size ∧
      Lib.IsBuilder 48 5 B B (Bs ([34] ++ (rs.take j).flatMap writ)) wr)
    case atStart =>
      refine ⟨0, 0, by omega, by omega, by simp [encL], ?_, hB2.alloc (by omega) _, by simp [World.iter]; omega, builder_chg hI1 ((Chg.refl [] w2).range _ _)⟩
      rw [← hK]; exact World.iter_heap w2 (str l) 0
    case round =>
      clear hI1 hB2
      obtain ⟨pos, j, hpk, hjl, hpos, hit, hbw, hBs, hI⟩ := hrel
      have hlt := place_lt rs j hjl
      rw [← hpos, ← HE.out] at hlt
      have hjp : j ≤ pos := by
        have := encL_len (rs.take j)
        rw [← hpos, List.length_take] at this; omega
      have hwl := writs_len (rs.take j)
      rw [List.length_take] at hwl
      by_cases hp : pos < l.length
      · have hj := hlt.1 hp
        have hnx := fun ty => next_at l wr K pos hit hp ty
        obtain ⟨hd, hnp⟩ := place_step rs HOK.out j hj
        rw [← hpos, ← HE.out] at hd
        rw [← hpos] at hnp
        have hfit := dec_fits l pos hp
        have hdp := dec_pos (l.drop pos)
        have hokc := HOK.out rs[j] (List.getElem_mem hj)
        have hbn := Lib.below_iterAt hbw (k := K) (by omega) (str l) (pos + (dec (l.drop pos)).2)
        have hitn := Lib.iterAt_heap wr K (str l) pos (pos + (dec (l.drop pos)).2) hit
        have hIn := builder_iter hI hit (pos + (dec (l.drop pos)).2)
        have hBn : B ≤ (wr.iterAt K (str l) (pos + (dec (l.drop pos)).2)).heap.size := by rw [Lib.iterAt_size]; exact hBs
        have hts := List.take_succ_eq_append_getElem hj
        rw [hd] at hnx hbn hitn hfit hdp hIn hBn
        generalize rs[j] = c at *
        have hwc := writ_len c
        generalize hen : (enc1 c).length = nn at *
        simp only at hnx hbn hitn hfit hdp hIn hBn
        generalize wr.iterAt K (str l) (pos + nn) = w3 at *
        have hT3 : Tabs w3 := hT.chg (c1.nil (Chg.of_below (by rw [hB]; exact hbn)))
        have hws := fun w4 (h4 : Lib.IsBuilder 48 5 B B (Bs ([34] ++ (rs.take j).flatMap writ)) w4) => wString B B ([34] ++ (rs.take j).flatMap writ) (writ c) w4 h4 (by simp only [List.length_append, List.length_cons, List.length_nil]; omega)
        have HP := Lib.hid (And.intro hpk hnp)
        have HTS := Lib.hid hts
        clear hd hit hbw hBs hI hlt hpk hnp hpos hts hen hwl hwc
        go_wp2_with fail
        refine (written_any c hokc w3 hT3).mono ?_
        rintro e w4 ⟨rfl, c4⟩
        have hI4 := builder_chg hIn c4
        have hit4 := (c4.block K (Array.getElem?_eq_some_iff.1 hitn).1 (by simp)).trans hitn
        have hb4 : Below B w1 w4 := hbn.trans (c4.below hBn (by simp))
        have hB4 : B ≤ w4.heap.size := Nat.le_trans hBn c4.size
        clear hIn hitn hbn hBn c4
        go_wp2_with fail
        refine (hws w4 hI4 hB4).mono ?_
        rintro e w5 ⟨rfl, hI5, hb5, k5⟩
        have hit5 := k5.iter hit4 (by omega)
        have hb15 := hb4.trans hb5
        have hB5 : B ≤ w5.heap.size := Nat.le_trans hB4 hb5.size
        clear hws hI4 hit4 hb4 k5
        go_wp2_with fail
        go_roundg (gk - nn)
        case measure => have := HP.out; omega
        case rel =>
          refine ⟨pos + nn, j + 1, by have := HP.out; omega, by omega, HP.out.2.symm, hit5, hb15, hB5, ?_⟩
          rw [HTS.out, List.flatMap_append]
          simpa [List.append_assoc] using hI5
      · have hnx := fun ty => next_end l wr K pos hit hp ty
        have hj : rs.length ≤ j := by have := mt hlt.2 hp; omega
        rw [List.take_of_length_le hj] at hI
        have hwl2 := writs_len rs
        have hrl : rs.length ≤ 1000000000 := by omega
        have hwb := wByte B B ([34] ++ rs.flatMap writ) 34 wr hI (by simp only [List.length_append, List.length_cons, List.length_nil]; omega) hBs
        clear hpos hlt hwl
        go_wp2_with fail
        refine hwb.mono ?_
        rintro e w3 ⟨rfl, hI3, hb3, k3⟩
        have hB3 : B ≤ w3.heap.size := Nat.le_trans hBs hb3.size
        clear hwb
        go_wp2_with fail
        refine (Tryd.Builder_String_any B B _ w3 hI3 hB3).mono ?_
        rintro e w4 ⟨rfl, hb4⟩
        go_wp2_with fail
        go_ret2
        exact ⟨rfl, c1.nil (Chg.of_below (by rw [hB]; exact (hbw.trans hb3).trans hb4))⟩
end Go.Proofs.YtihoohhngiomdaaDoor
