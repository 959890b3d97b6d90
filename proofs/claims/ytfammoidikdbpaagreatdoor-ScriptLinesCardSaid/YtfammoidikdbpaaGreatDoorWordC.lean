/- Contract of word.Name. No statement of the seat is proved here. -/
import Derived.Test.YtfammoidikdbpaaGreatDoorWordB
set_option linter.unusedVariables false
namespace Go.Aq.Wd
theorem Pre_not {l : List UInt8} {pos : Nat} {pre : List Nat} (h : sigs l = (sigs (l.drop pos)).map (pre ++ ·)) (hp : l.drop pos ≠ []) (hb : letter (dec (l.drop pos)).1 = false) : nameL l = false := by
  unfold nameL
  rw [h, sigs_step _ hp]
  cases hbd : bad (dec (l.drop pos)) with
  | true => simp
  | false =>
    simp only [Bool.false_eq_true, if_false]
    cases sigs ((l.drop pos).drop (dec (l.drop pos)).2) with
    | none => rfl
    | some t =>
      simp only [Option.map_some]
      have : (pre ++ (dec (l.drop pos)).1 :: t).all letter = false := by
        rw [List.all_eq_false]
        exact ⟨(dec (l.drop pos)).1, by simp, by rw [hb]; simp⟩
      simp only [nameR, this, Bool.and_false, Bool.false_and]
theorem letter_bad (d : Nat × Nat) (h : letter d.1 = true) : bad d = false := by
  refine not_bad d.1 d.2 ?_
  rintro ⟨h1, -⟩
  rw [h1] at h
  revert h; decide
theorem headD_get (l : List UInt8) (h : 0 < l.length) : l.headD 0 = l[0] := by cases l; (simp at h); rfl
theorem lastD_get (l : List UInt8) (h : l.length - 1 < l.length) : l.getLastD 0 = l[l.length - 1] := by
  rw [List.getLastD_eq_getLast?, List.getLast?_eq_getElem?, List.getElem?_eq_getElem h]; rfl
theorem name_tail (l : List UInt8) (rs : List Nat) (hs : sigs l = some rs) (h1 : 1 ≤ rs.length) (h2 : rs.length ≤ 40) (hall : rs.all letter = true) :
    has2 l = dbl rs ∧ 0 < l.length ∧ (dbl rs = true → nameL l = false) ∧
    (dbl rs = false → nameL l = (!headBad (l.headD 0).toNat && !lastBad (l.getLastD 0).toNat)) := by
  obtain ⟨he, ok⟩ := sigs_enc hs
  have hne : rs ≠ [] := by rintro rfl; simp at h1
  have hlen : 0 < l.length := by
    rw [he]
    cases rs with
    | nil => exact absurd rfl hne
    | cons c t => rw [encL_cons, List.length_append]; have := enc1_len c; omega
  have hh : ∀ k, k < 128 → 0 < k → ((l.headD 0).toNat = k ↔ rs.headD 0 = k) := fun k hk hk0 => by
    rw [← head_encL rs ok k hk hk0, ← he]
    constructor
    · intro e; exact (u8e _ _ e).symm
    · intro e; rw [e, u8n k (by omega)]
  have hl : ∀ k, k < 128 → 0 < k → ((l.getLastD 0).toNat = k ↔ rs.getLastD 0 = k) := fun k hk hk0 => by
    rw [← last_encL rs hne ok k hk hk0, ← he]
    constructor
    · intro e; exact (u8e _ _ e).symm
    · intro e; rw [e, u8n k (by omega)]
  refine ⟨by rw [← has2_encL rs ok, ← he], hlen, fun hd => ?_, fun hd => ?_⟩
  · rw [nameL_of hs]; simp only [nameR, hd, Bool.not_true, Bool.and_false, Bool.false_and]
  · rw [nameL_of hs]
    have e1 : headBad (l.headD 0).toNat = headBad (rs.headD 0) := by
      rw [Bool.eq_iff_iff]; simp only [headBad, Bool.or_eq_true, beq_iff_eq]
      rw [hh 45 (by decide) (by decide), hh 46 (by decide) (by decide), hh 47 (by decide) (by decide)]
    have e2 : lastBad (l.getLastD 0).toNat = lastBad (rs.getLastD 0) := by
      rw [Bool.eq_iff_iff]; simp only [lastBad, Bool.or_eq_true, beq_iff_eq]
      rw [hl 46 (by decide) (by decide), hl 47 (by decide) (by decide)]
    rw [e1, e2]
    simp only [nameR, hd, hall, h1, h2]
    simp
end Go.Aq.Wd
namespace Go.Proofs.YtfammoidikdbpaaGreatDoor
open Go.RowKit Go.Aq Go.Aq.Wd
theorem idxS (w : World) (s : List UInt8) (j : Nat) (h : j < s.length) : (Instr.index 9 (.string (str s)) (.int .i64 (j : Int))).run Tryz.prog w = .ok (.int .u8 ((s[j]'h).toNat : Int)) w := by
  have hsz := str_size s
  rw [run_index_string w 9 (str s) .i64 j Tryz.underlying9, dif_pos ⟨by omega, by omega⟩]
  have e : (str s)[(j : Int).toNat]'(by omega) = s[j]'h := by simp [str, ByteArray.getElem_eq_getElem_data]
  rw [e]
end Go.Proofs.YtfammoidikdbpaaGreatDoor
