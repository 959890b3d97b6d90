/- The document's refs: DropRef; refs.Save. No statement of the seat is proved here. -/
import Derived.Test.YtihoohhngiomdaaGreatDoorRqE
set_option linter.unusedVariables false
set_option linter.unusedSimpArgs false
namespace Go.Proofs.YtihoohhngiomdaaGreatDoor
open Go.RowKit Go.Aq Go.Aq.Wd
set_option maxRecDepth 100000 in
set_option maxHeartbeats 4000000 in
theorem rdrop_any (w : World) (v : Value) (l : List RefD) (t : Bool) (nm : List UInt8) (hv : Sees w 3 v l.length (Rfs l)) (hl : l.length ≤ 1000000) :
    Calls Tryz.prog 17 #[v, .bool t, .string (str nm)] w fun e w' => ∃ v', e = .returned v' ∧ Fresh w w' 51 3 v' (dropL l t nm).length (Rfs (dropL l t nm)) := by
  obtain ⟨n, HN⟩ : ∃ n, Hid (l.length = n) := ⟨_, rfl⟩
  rw [HN.out] at hv hl
  obtain ⟨ao, cap, rfl, -⟩ := hv.shape
  have HV := Lib.hid hv
  clear hv
  go_enter Tryz.func17, Tryz.ntmps17
  go_wp2_with fail
  go_loopg [7, 8] n (fun gk (v7 v8 : Value) wr => ∃ (i m : Nat) (a6 : Option Addr) (c6 : Nat), v7 = .slice a6 m c6 ∧ v8 = .int .i64 (i : Int) ∧ i + gk = n ∧ Hid (m = (dropL (l.take i) t nm).length ∧ m ≤ i) ∧ Hid (Fresh w wr 51 3 (.slice a6 m c6) m (Rfs (dropL (l.take i) t nm))))
  case atStart => exact ⟨0, 0, none, 0, rfl, rfl, by omega, ⟨rfl, Nat.le_refl _⟩, Fresh.nil _ _ _⟩
  case round =>
    obtain ⟨i, m, a6, c6, rfl, rfl, hik, HM, HF⟩ := hrel
    by_cases hin : i < n
    · have t1 : decide ((i : Int) < (n : Int)) = true := decide_eq_true (by omega)
      have t1' : decide (i < n) = true := decide_eq_true hin
      have hil : i < l.length := by rw [HN.out]; exact hin
      obtain ⟨g, off, cap', hs, -, hgl, hcell⟩ := (HV.out.chg0 HF.out.chg).cells (by omega)
      simp only [Value.slice.injEq, true_and] at hs
      obtain ⟨hs1, hs2⟩ := hs
      subst hs1
      obtain ⟨y0, y1, y2⟩ := Rfs_cells HN.out hcell i hil
      have htk := List.take_succ_eq_append_getElem hil
      have hds := dropL_snoc (l.take i) l[i] t nm
      rw [← htk] at hds
      have i1 : (i : Int) ≤ 1000000 := by omega
      have hmi : m ≤ i := HM.out.2
      clear htk hcell hgl hs2
      have hR := isR_iff t nm l[i]
      generalize l[i] = r at *
      clear hil
      obtain ⟨tr, rn, ky⟩ := r
      simp only at y0 y1 y2 hR
      have HI := Lib.hid hik
      have HD := Lib.hid (And.intro hds hR)
      clear hik hds hR
      by_cases hh : tr = t ∧ rn = nm
      · have hb : isR t nm ⟨tr, rn, ky⟩ = true := HD.out.2.2 hh
        obtain ⟨h1, h2⟩ := hh
        have e1 : (tr != t) = false := by simp [h1]
        have e1' : (tr == t) = true := by simp [h1]
        have e2 : ((str rn).toList != (str nm).toList) = false := by simp [h2]
        have e2' : ((str rn).toList == (str nm).toList) = true := by simp [h2]
        have HB : Hid (dropL (l.take (i + 1)) t nm = dropL (l.take i) t nm) := by show _ = _; rw [HD.out.1, hb, if_pos rfl, List.append_nil]
        clear hb h1 h2
        go_wp2_with fail
        go_roundg (gk - 1)
        case measure => have := HI.out; omega
        case rel => exact ⟨i + 1, m, a6, c6, rfl, by go_num, by have := HI.out; omega, by show _ ∧ _; rw [HB.out]; exact ⟨HM.out.1, by omega⟩, by rw [HB.out]; exact HF.out⟩
      · have hb : isR t nm ⟨tr, rn, ky⟩ = false := by
          rw [Bool.eq_false_iff]; exact fun e => hh (HD.out.2.1 e)
        have HB : Hid (dropL (l.take (i + 1)) t nm = dropL (l.take i) t nm ++ [⟨tr, rn, ky⟩]) := by show _ = _; rw [HD.out.1, hb, if_neg (by simp)]
        have hw : (tr != t) = true ∧ (tr == t) = false ∨ (tr != t) = false ∧ (tr == t) = true ∧ ((str rn).toList != (str nm).toList) = true ∧ ((str rn).toList == (str nm).toList) = false := by
          by_cases h1 : tr = t
          · right
            have h2 : rn ≠ nm := fun h2 => hh ⟨h1, h2⟩
            have h3 : ((str rn).toList == (str nm).toList) = false := by rw [str_eq]; simpa using h2
            exact ⟨by simp [h1], by simp [h1], by simp [bne, h3], h3⟩
          · left; exact ⟨by simpa using h1, by simpa using h1⟩
        clear hb hh
        rcases hw with ⟨e1, e1'⟩ | ⟨e1, e1', e2, e2'⟩
        all_goals
          go_wp2_with (at_builtin; refine wpList_appF (w0 := w) rfl _ _ 32 rfl sl_q (by exact HF.out.to ((Chg.refl [] wr).alloc (.cells #[.bool tr, .string (str rn), .string (str ky)] 51))) rfl (news := Rfs [⟨tr, rn, ky⟩]) (Sees.rows (m := 1) (cs := #[.bool tr, .string (str rn), .string (str ky)]) (by exact Blk.new wr _ 51) rfl) rfl (rfs_ones _) (by omega) (by omega) ?_; intro v4 w4 hF4 c4; obtain ⟨a4, p4, rfl, -⟩ := hF4.shape; have HF4 := Lib.hid hF4; clear hF4 c4)
          go_roundg (gk - 1)
          case measure => have := HI.out; omega
          case rel => exact ⟨i + 1, m + 1, a4, p4, rfl, by go_num, by have := HI.out; omega, by show _ ∧ _; rw [HB.out, List.length_append, ← HM.out.1]; exact ⟨rfl, by omega⟩, by rw [HB.out, Rfs_app]; exact HF4.out⟩
    · have t1 : decide ((i : Int) < (n : Int)) = false := decide_eq_false (by omega)
      have t1' : decide (i < n) = false := decide_eq_false hin
      have hii : i = n := by omega
      have htk : l.take i = l := by rw [hii, ← HN.out, List.take_length]
      rw [htk] at HM HF
      have HZ : Hid (Fresh w wr 51 3 (.slice a6 m c6) (dropL l t nm).length (Rfs (dropL l t nm))) := by show Fresh _ _ _ _ _ _ _; rw [← HM.out.1]; exact HF.out
      clear hin hik hii htk
      go_wp2_with fail
      go_ret
      exact ⟨_, rfl, HZ.out⟩
theorem ch_ty : ArrTy Tryz.prog 42 4 := ⟨⟨_, Tryz.underlying42, rfl⟩, by kernel_rfl⟩
theorem zero_ch : ∀ w, (zeroValue 42).run Tryz.prog w = .ok (.agg #[.int .i64 0, .string ⟨#[]⟩, .string ⟨#[]⟩, .slice none 0 0]) w := fun w => by kernel_rfl
theorem Blk.c4 {w : World} {p : Nat} {a b c d : Value} {e : TypeId} (h : Blk w p #[a, b, c, d] e) :
    (w.cell? ⟨p, 0, none⟩ = some a ∧ w.cell? ⟨p, 1, none⟩ = some b ∧ w.cell? ⟨p, 2, none⟩ = some c ∧ w.cell? ⟨p, 3, none⟩ = some d) ∧ w.frozen? ⟨p, 0, none⟩ = false ∧ w.frozen? ⟨p, 1, none⟩ = false ∧ w.frozen? ⟨p, 2, none⟩ = false ∧ w.frozen? ⟨p, 3, none⟩ = false :=
  ⟨⟨h.cell 0, h.cell 1, h.cell 2, h.cell 3⟩, h.frozen 0, h.frozen 1, h.frozen 2, h.frozen 3⟩
theorem e4set (a b c d a' b' c' d' : Value) : ((((#[a, b, c, d] : Array Value).setIfInBounds 0 a').setIfInBounds 1 b').setIfInBounds 2 c').setIfInBounds 3 d' = #[a', b', c', d'] := by simp
set_option maxRecDepth 100000 in
set_option maxHeartbeats 4000000 in
theorem save_bad (w : World) (hT : Tabs w) (v : Value) (l : List RefD) (hv : Sees w 3 v l.length (Rfs l)) (hl : l.length ≤ 1000000) (hx : ∀ r ∈ l, r.name.length ≤ 1000000 ∧ r.key.length ≤ 1000000) (hM : mayL l = false) :
    Calls Tryz.prog 13 #[v] w fun e w' => e = .returned (.tuple #[.agg #[.int .i64 0, .string ⟨#[]⟩, .string ⟨#[]⟩, .slice none 0 0], .int .i64 4]) ∧ Chg [] w w' := by
  obtain ⟨K, hK⟩ : ∃ K, w.heap.size = K := ⟨_, rfl⟩
  have hbx : Blk (w.alloc (.cells #[.int .i64 0, .string ⟨#[]⟩, .string ⟨#[]⟩, .slice none 0 0] 42)) K #[.int .i64 0, .string ⟨#[]⟩, .string ⟨#[]⟩, .slice none 0 0] 42 := Blk.new_at w _ _ hK
  have hcx : Chg [] w (w.alloc (.cells #[.int .i64 0, .string ⟨#[]⟩, .string ⟨#[]⟩, .slice none 0 0] 42)) := (Chg.refl _ _).alloc _
  have hen := encode_any _ (hT.chg hcx) v l (hv.chg0 hcx) hl hx
  have hE : encodeL l = ([], 4) := by unfold encodeL; rw [hM]; rfl
  rw [hE] at hen
  simp only [List.length_nil] at hen
  obtain ⟨ao, cap, rfl, -⟩ := hv.shape
  have HC := Lib.hid (And.intro hcx (And.intro hbx hK))
  have hz := zero_ch
  clear hE hM hv
  go_enter Tryz.func13, Tryz.ntmps13
  go_wp2_with fail
  generalize w.alloc (.cells #[.int .i64 0, .string ⟨#[]⟩, .string ⟨#[]⟩, .slice none 0 0] 42) = wa at *
  refine hen.mono ?_
  rintro e w1 ⟨v1, rfl, hs1, -, c1⟩
  obtain ⟨a1, p1, rfl, -⟩ := hs1.shape
  have hb1 := HC.out.2.1.chg0 c1
  obtain ⟨⟨x0, x1, x2, x3⟩, y0, y1, y2, y3⟩ := Blk.c4 hb1
  have HZ := Lib.hid (And.intro (HC.out.1.nil c1) hb1)
  clear hen hs1 c1 hb1 hcx hbx
  go_wp2_with fail
  obtain ⟨c2, hb1⟩ := HZ.out
  have hbz := (((hb1.set 0 (.int .i64 0)).set 1 (.string ⟨#[]⟩)).set 2 (.string ⟨#[]⟩)).set 3 (.slice none 0 0)
  rw [e4set] at hbz
  refine bodyPost_ret (results_AT rfl _ _ hbz ch_ty rfl) rfl ⟨rfl, ?_⟩
  have hKK := HC.out.2.2
  exact (((c2.setCell (.inr (by show w.heap.size ≤ K; omega)) _).setCell (.inr (by show w.heap.size ≤ K; omega)) _).setCell (.inr (by show w.heap.size ≤ K; omega)) _).setCell (.inr (by show w.heap.size ≤ K; omega)) _
set_option maxRecDepth 100000 in
set_option maxHeartbeats 4000000 in
theorem save_ok (w : World) (hT : Tabs w) (v : Value) (l : List RefD) (hv : Sees w 3 v l.length (Rfs l)) (hl : l.length ≤ 1000000) (hx : ∀ r ∈ l, r.name.length ≤ 1000000 ∧ r.key.length ≤ 1000000) (hM : mayL l = true) :
    Calls Tryz.prog 13 #[v] w fun e w' => ∃ v', e = .returned (.tuple #[.agg #[.int .i64 2, .string ⟨#[114, 101, 102, 115]⟩, .string ⟨#[]⟩, v'], .int .i64 0]) ∧ Sees w' 1 v' (l.flatMap lineR).length (Bs (l.flatMap lineR)) ∧ Chg [] w w' := by
  obtain ⟨K, hK⟩ : ∃ K, w.heap.size = K := ⟨_, rfl⟩
  have hbx : Blk (w.alloc (.cells #[.int .i64 0, .string ⟨#[]⟩, .string ⟨#[]⟩, .slice none 0 0] 42)) K #[.int .i64 0, .string ⟨#[]⟩, .string ⟨#[]⟩, .slice none 0 0] 42 := Blk.new_at w _ _ hK
  have hcx : Chg [] w (w.alloc (.cells #[.int .i64 0, .string ⟨#[]⟩, .string ⟨#[]⟩, .slice none 0 0] 42)) := (Chg.refl _ _).alloc _
  have hen := encode_any _ (hT.chg hcx) v l (hv.chg0 hcx) hl hx
  have hE : encodeL l = (l.flatMap lineR, 0) := by unfold encodeL; rw [hM]; rfl
  rw [hE] at hen
  simp only at hen
  obtain ⟨ao, cap, rfl, -⟩ := hv.shape
  have HC := Lib.hid (And.intro hcx (And.intro hbx hK))
  have hz := zero_ch
  clear hE hM hv
  generalize l.flatMap lineR = y at *
  obtain ⟨yl, hyl⟩ : ∃ k, y.length = k := ⟨_, rfl⟩
  rw [hyl] at hen ⊢
  have HY := Lib.hid hyl
  clear hyl
  go_enter Tryz.func13, Tryz.ntmps13
  go_wp2_with fail
  generalize w.alloc (.cells #[.int .i64 0, .string ⟨#[]⟩, .string ⟨#[]⟩, .slice none 0 0] 42) = wa at *
  refine hen.mono ?_
  rintro e w1 ⟨v1, rfl, hs1, hnew, c1⟩
  have hgt : K < wa.heap.size := HC.out.2.1.lt
  obtain ⟨a1, p1, rfl, -⟩ := hs1.shape
  have hb1 := HC.out.2.1.chg0 c1
  obtain ⟨⟨x0, x1, x2, x3⟩, y0, y1, y2, y3⟩ := Blk.c4 hb1
  have hKe : K ∉ eyes (.slice a1 yl p1) := fun h => by have := hnew K h; omega
  have HZ := Lib.hid (And.intro (HC.out.1.nil c1) (And.intro hb1 (And.intro hs1 hKe)))
  clear hen hs1 c1 hb1 hcx hbx hnew hgt hKe
  go_wp2_with fail
  obtain ⟨c2, hb1, hs1, hKe⟩ := HZ.out
  have hbz := (((hb1.set 0 (.int .i64 2)).set 1 (.string ⟨#[114, 101, 102, 115]⟩)).set 2 (.string ⟨#[]⟩)).set 3 (.slice a1 yl p1)
  rw [e4set] at hbz
  refine bodyPost_ret (results_AT rfl _ _ hbz ch_ty rfl) rfl ⟨_, rfl, ?_, ?_⟩
  · have c3 : Chg [K] w1 _ := ((((Chg.refl [K] w1).setCell (p := ⟨K, 0, none⟩) (.inl (by simp)) (.int .i64 2)).setCell (p := ⟨K, 1, none⟩) (.inl (by simp)) (.string ⟨#[114, 101, 102, 115]⟩)).setCell (p := ⟨K, 2, none⟩) (.inl (by simp)) (.string ⟨#[]⟩)).setCell (p := ⟨K, 3, none⟩) (.inl (by simp)) (.slice a1 yl p1)
    exact hs1.chg c3 (fun k hk hm => by simp at hm; exact hKe (hm ▸ hk))
  · have hKK := HC.out.2.2
    exact (((c2.setCell (.inr (by show w.heap.size ≤ K; omega)) _).setCell (.inr (by show w.heap.size ≤ K; omega)) _).setCell (.inr (by show w.heap.size ≤ K; omega)) _).setCell (.inr (by show w.heap.size ≤ K; omega)) _
end Go.Proofs.YtihoohhngiomdaaGreatDoor
