/- FyT, FyU, FyV, FyW, FyX, FyY in one text. No statement of the seat is proved here. -/
import Derived.Test.YtgcmgcffndbpoaaGreatDoorFyQS
set_option linter.unusedSimpArgs false
set_option linter.unusedVariables false
/- Files in memory: Read. No statement of the seat is proved here. -/
namespace Go.Aq
open Go.RowKit
theorem Sees.take {w : World} {ao : Option Addr} {n cap at_ : Nat} {b : List UInt8} (h : Sees w 1 (.slice ao n cap) n (Bs b)) (ha : at_ ≤ n) : Sees w 1 (.slice ao at_ cap) at_ (Bs (b.take at_)) := by
  obtain ⟨h1, ao', cap', h2, h3, h4, h5⟩ := h
  simp only [Value.slice.injEq, true_and] at h2
  obtain ⟨rfl, rfl⟩ := h2
  have hbl : b.length = n := by simpa [Bs] using h1
  refine ⟨by simp [Bs]; omega, ao, cap, rfl, by omega, fun e => ⟨by have := (h4 e).1; omega, (h4 e).2⟩, fun ad had j u hu => h5 ad had j u ?_⟩
  have e : Bs (b.take at_) = (Bs b).take at_ := by simp [Bs, List.map_take]
  rw [e] at hu
  rw [List.getElem?_take] at hu
  split at hu
  · exact hu
  · cases hu
end Go.Aq
namespace Go.Proofs.YtgcmgcffndbpoaaGreatDoor
open Go.RowKit Go.Aq Go.Aq.Fy Go.Maps
/-- The bytes of the first i blocks. -/
def upB (F : FsD) (ks : List Nat) (i : Nat) : Sec := (ks.take i).flatMap fun k => F.disk.now (firstF F + k)
theorem upB_succ (F : FsD) (ks : List Nat) (i : Nat) (h : i < ks.length) : upB F ks (i + 1) = upB F ks i ++ F.disk.now (firstF F + ks[i]) := by
  unfold upB
  rw [List.take_succ_eq_append_getElem h, List.flatMap_append]
  simp
theorem upB_all (F : FsD) (ks : List Nat) : upB F ks ks.length = ks.flatMap fun k => F.disk.now (firstF F + k) := by unfold upB; rw [List.take_length]
/-- How Read ends. -/
def ReadEnd (w : World) (b : Sec) (e : Ending) (w' : World) : Prop :=
  ∃ v, e = .returned (.tuple #[v, .int .i64 0]) ∧ Sees w' 1 v b.length (Bs b) ∧ (∀ k ∈ eyes v, w.heap.size ≤ k) ∧ Chg [] w w'
set_option maxRecDepth 100000 in
set_option maxHeartbeats 4000000 in
theorem fread_ok (w : World) (Sd X : List Nat) (f d l bf : Nat) (F : FsD) (h : FsR w Sd X f d l bf F) (hd : F.disk.down = false) (s : Nm) (hs : s.length ≤ 1048576) (x : FileD) (hx : lookK s F.files = some x) (hsz : x.size ≤ 256 * x.blocks.length) (hbl : x.blocks.length ≤ 4096) (hks : ∀ k ∈ x.blocks, k < allF F)
    (hsec : ∀ k, k < F.disk.n → (F.disk.now k).length = 256) :
    Calls Tryz.prog 16 #[.pointer (some ⟨f, 0, none⟩), .string (str s)] w (ReadEnd w (bytesB F x)) := by
  obtain ⟨⟨c0, -, -, c3⟩, -⟩ := Blk.c4b h.blk
  obtain ⟨n, ao, m, cap, ⟨-, l2⟩, h1, h2, h3⟩ := h.files.look s hs
  unfold hasF at l2
  rw [hx] at l2 h1 h2 h3
  simp only [Option.getD_some] at h1 h2 h3
  simp only [Option.isSome_some] at l2
  obtain ⟨v, hv, hV, -⟩ := h3
  have hv' : v = .slice ao m cap := by
    have := congrArg (fun y => match y with | Value.agg xs => xs[1]? | _ => none) hv
    simpa using this.symm
  subst hv'
  have HV := Lib.hid hV
  have HH := Lib.hid (And.intro h (And.intro hd (And.intro hsz (And.intro hbl (And.intro hks (And.intro hsec (And.intro h1 h2)))))))
  clear h hd hx hsz hbl hks hsec h1 h2 hv hV
  go_enter Tryz.func16, Tryz.ntmps16
  go_wp2_with fail
  obtain ⟨w1, hw1⟩ : ∃ w1, w.alloc (Obj.cells #[Value.int IntKind.i64 (n : Int), Value.slice ao m cap] 72) = w1 := ⟨_, rfl⟩
  obtain ⟨K, hK⟩ : ∃ K, w.heap.size = K := ⟨_, rfl⟩
  have hbx : Blk w1 K #[.int .i64 n, .slice ao m cap] 72 := by rw [← hw1, ← hK]; exact Blk.new _ _ _
  have cw1 : Chg [] w w1 := by rw [← hw1]; exact (Chg.refl [] w).alloc _
  have hs1 : w1.heap.size = K + 1 := by rw [← hw1, ← hK]; exact Array.size_push _
  have F0 : Fresh w1 (w1.alloc (.cells #[] 5)) 5 1 (.slice (some ⟨K + 1, 0, none⟩) 0 0) 0 [] := by
    refine ⟨?_, (Chg.refl [] w1).alloc _, fun k hk => ?_⟩
    · rw [← hs1]; exact Own.made w1 _ 1
    · simp [Value.ownBlock] at hk; omega
  rw [hw1, hK]
  have H1 := Lib.hid (And.intro hbx (And.intro cw1 (And.intro hs1 hK)))
  clear hbx cw1 hs1 hw1 hK l2 c3
  go_loopg [8, 28] m (fun k vb vi wr => ∃ i : Nat, vi = .int .i64 i ∧ i + k = m ∧ Fresh w1 wr 5 1 vb (256 * i) (Bs (upB F x.blocks i)))
  case atStart => exact ⟨0, rfl, by omega, F0⟩
  case round =>
    obtain ⟨i, rfl, hk, hF⟩ := hrel
    have cr : Chg [] w wr := H1.out.2.1.nil hF.chg
    obtain ⟨ab, cb, rfl, -⟩ := hF.shape
    obtain ⟨⟨z0, z1⟩, -⟩ := And.intro (And.intro ((H1.out.1.chg0 hF.chg).cell 0) ((H1.out.1.chg0 hF.chg).cell 1)) trivial
    by_cases hi : i < m
    · have hm0 : 0 < m := by omega
      have hib : i < x.blocks.length := by have := HH.out.2.2.2.2.2.2.2; omega
      have V1 := HV.out.chg0 cr
      have e2 : x.blocks.length = m := HH.out.2.2.2.2.2.2.2.symm
      rw [e2] at V1
      obtain ⟨g, off, cp, he, -, hc⟩ := V1.at1 hm0
      cases he
      have y := hc i hi
      have ey : (ints x.blocks)[i]? = some (.int .i64 (x.blocks[i]'hib : Nat)) := by simp [ints, hib]
      rw [ey] at y
      have hkb := HH.out.2.2.2.2.1 _ (List.getElem_mem hib)
      have hup := upB_succ F x.blocks i hib
      obtain ⟨kb, hkbe⟩ : ∃ kb, x.blocks[i]'hib = kb := ⟨_, rfl⟩
      rw [hkbe] at y hkb hup
      have t0 : decide ((i : Int) < (m : Int)) = true := decide_eq_true (by omega)
      have t0' : decide (i < m) = true := decide_eq_true hi
      have HI := Lib.hid (And.intro hk (And.intro hF (And.intro cr (And.intro hkb (And.intro hup hi)))))
      clear hk hF hc ey hkb hup hkbe hib e2 V1 hm0 z0 z1
      have yf := HI.out.2.2.1.cell_some c0 (by simp)
      go_upto_region 8 with (fail)
      refine wp_region_U [] (fun _ => false) (by kernel_rfl) ?_
      have q0 : Chg [] wr wr.drew := (Chg.refl _ _).drew
      obtain ⟨W0, hW0⟩ : ∃ W0, wr.drew = W0 := ⟨_, rfl⟩
      rw [hW0] at q0 ⊢
      clear hW0
      have C0 : Chg [] W0 W0 := Chg.refl _ _
      have yf' := q0.cell_some yf (by simp)
      clear yf y
      have hf0 := first_ok W0 Sd X f d l bf F (HH.out.1.chg0 (HI.out.2.2.1.nil q0))
      have hsm := HH.out.1.small
      have hkl : firstF F + kb < F.disk.n := by have h1 := HI.out.2.2.2.1; unfold allF at h1; omega
      have e1 : IntKind.i64.wrap ((firstF F : Int) + (kb : Int)) = ((firstF F + kb : Nat) : Int) := wIq (by unfold wrap64; omega)
      refine wpAnyU_take 0 (v := (.pointer (some ⟨f, 0, none⟩))) C0 rfl (by kernel_rfl) (by kernel_rfl) (by kernel_rfl) (by kernel_rfl) (fun _ _ _ h => h) (by rfl) (fun w4 c4 => ?_) ?_
      · go_simp
      try simp only [Act.put, List.getElem_toArray, List.getElem_cons_succ, List.getElem_cons_zero, List.setIfInBounds_toArray, List.set_cons_zero, List.set_cons_succ]
      refine wpAnyU_take 1 (v := (.pointer (some ⟨f, 0, none⟩))) C0 rfl (by kernel_rfl) (by kernel_rfl) (by kernel_rfl) (by kernel_rfl) (fun _ _ _ h => h) (by rfl) (fun w4 c4 => ?_) ?_
      · go_simp
      try simp only [Act.put, List.getElem_toArray, List.getElem_cons_succ, List.getElem_cons_zero, List.setIfInBounds_toArray, List.set_cons_zero, List.set_cons_succ]
      refine wpAnyU_take 2 (v := (.pointer (some ⟨f, 0, none⟩))) C0 rfl (by kernel_rfl) (by kernel_rfl) (by kernel_rfl) (by kernel_rfl) (fun _ _ _ h => h) (by rfl) (fun w4 c4 => ?_) ?_
      · go_simp
      try simp only [Act.put, List.getElem_toArray, List.getElem_cons_succ, List.getElem_cons_zero, List.setIfInBounds_toArray, List.set_cons_zero, List.set_cons_succ]
      refine wpAnyU_take 3 (v := (.pointer (some ⟨d, 0, none⟩))) C0 rfl (by kernel_rfl) (by kernel_rfl) (by kernel_rfl) (by kernel_rfl) (fun _ _ _ h => h) (by rfl) (fun w4 c4 => ?_) ?_
      · have z := c4.cell_some yf' (by simp)
        go_simp
      try simp only [Act.put, List.getElem_toArray, List.getElem_cons_succ, List.getElem_cons_zero, List.setIfInBounds_toArray, List.set_cons_zero, List.set_cons_succ]
      refine wpAnyU_take 4 (v := (.pointer (some ⟨f, 0, none⟩))) C0 rfl (by kernel_rfl) (by kernel_rfl) (by kernel_rfl) (by kernel_rfl) (fun _ _ _ h => h) (by rfl) (fun w4 c4 => ?_) ?_
      · go_simp
      try simp only [Act.put, List.getElem_toArray, List.getElem_cons_succ, List.getElem_cons_zero, List.setIfInBounds_toArray, List.set_cons_zero, List.set_cons_succ]
      refine wpAnyU_take 6 (v := (.int .i64 kb)) C0 rfl (by kernel_rfl) (by kernel_rfl) (by kernel_rfl) (by kernel_rfl) (fun _ _ _ h => h) (by rfl) (fun w4 c4 => ?_) ?_
      · go_simp
      try simp only [Act.put, List.getElem_toArray, List.getElem_cons_succ, List.getElem_cons_zero, List.setIfInBounds_toArray, List.set_cons_zero, List.set_cons_succ]
      refine wpAnyU_only 5 rfl (by kernel_rfl) (by rfl) (by rfl) ?_
      go_simp
      refine hf0.mono ?_
      rintro e w2 ⟨rfl, nq, rfl⟩
      have C2 : Chg [] W0 (W0.drewN nq) := C0.drewN nq
      refine ⟨C2, ?_⟩
      try simp only [Act.put, List.getElem_toArray, List.getElem_cons_succ, List.getElem_cons_zero, List.setIfInBounds_toArray, List.set_cons_zero, List.set_cons_succ]
      generalize W0.drewN nq = W2 at *
      clear hf0
      refine wpAnyU_take 7 (v := (.int .i64 ((firstF F + kb : Nat) : Int))) C2 rfl (by kernel_rfl) (by kernel_rfl) (by kernel_rfl) (by kernel_rfl) (fun _ _ _ h => h) (by rfl) (fun w4 c4 => ?_) ?_
      · go_simp
      try simp only [Act.put, List.getElem_toArray, List.getElem_cons_succ, List.getElem_cons_zero, List.setIfInBounds_toArray, List.set_cons_zero, List.set_cons_succ]
      have hrd := read_ok W2 Sd d F.disk (firstF F + kb) (HH.out.1.disk.chg ((HI.out.2.2.1.nil q0).nil C2)) HH.out.2.1 hkl
      refine wpAnyU_only 8 rfl (by kernel_rfl) (by rfl) (by rfl) ?_
      go_simp
      refine hrd.mono ?_
      rintro e w3 ⟨v3, rfl, hF3⟩
      have C3 : Chg [] W0 w3 := C2.nil hF3.chg
      refine ⟨C3, ?_⟩
      try simp only [Act.put, List.getElem_toArray, List.getElem_cons_succ, List.getElem_cons_zero, List.setIfInBounds_toArray, List.set_cons_zero, List.set_cons_succ]
      obtain ⟨a3, q3, rfl, -⟩ := hF3.shape
      clear hrd e1
      refine wpAnyU_take 9 (v := (.tuple #[.slice a3 256 q3, .int .i64 0])) C3 rfl (by kernel_rfl) (by kernel_rfl) (by kernel_rfl) (by kernel_rfl) (fun _ _ _ h => h) (by rfl) (fun w4 c4 => ?_) ?_
      · go_simp
      try simp only [Act.put, List.getElem_toArray, List.getElem_cons_succ, List.getElem_cons_zero, List.setIfInBounds_toArray, List.set_cons_zero, List.set_cons_succ]
      refine wpAnyU_take 10 (v := (.slice a3 256 q3)) C3 rfl (by kernel_rfl) (by kernel_rfl) (by kernel_rfl) (by kernel_rfl) (fun _ _ _ h => h) (by rfl) (fun w4 c4 => ?_) ?_
      · go_simp
      try simp only [Act.put, List.getElem_toArray, List.getElem_cons_succ, List.getElem_cons_zero, List.setIfInBounds_toArray, List.set_cons_zero, List.set_cons_succ]
      refine wpAnyU_take 11 (v := (.int .i64 0)) C3 rfl (by kernel_rfl) (by kernel_rfl) (by kernel_rfl) (by kernel_rfl) (fun _ _ _ h => h) (by rfl) (fun w4 c4 => ?_) ?_
      · go_simp
      try simp only [Act.put, List.getElem_toArray, List.getElem_cons_succ, List.getElem_cons_zero, List.setIfInBounds_toArray, List.set_cons_zero, List.set_cons_succ]
      refine wpAnyU_take 12 (v := (.slice a3 256 q3)) C3 rfl (by kernel_rfl) (by kernel_rfl) (by kernel_rfl) (by kernel_rfl) (fun _ _ _ h => h) (by rfl) (fun w4 c4 => ?_) ?_
      · go_simp
      try simp only [Act.put, List.getElem_toArray, List.getElem_cons_succ, List.getElem_cons_zero, List.setIfInBounds_toArray, List.set_cons_zero, List.set_cons_succ]
      refine wpAnyU_take 13 (v := (.int .i64 0)) C3 rfl (by kernel_rfl) (by kernel_rfl) (by kernel_rfl) (by kernel_rfl) (fun _ _ _ h => h) (by rfl) (fun w4 c4 => ?_) ?_
      · go_simp
      try simp only [Act.put, List.getElem_toArray, List.getElem_cons_succ, List.getElem_cons_zero, List.setIfInBounds_toArray, List.set_cons_zero, List.set_cons_succ]
      refine wpAnyU_done (by kernel_rfl) ?_ _
      have cw : Chg [] wr w3 := q0.nil C3
      have hF' := HI.out.2.1.to cw
      have hsz : 256 * i ≤ 1048576 := by have h1 := HI.out.2.2.2.2.2; have h2 := HH.out.2.2.2.1; have h3 := HH.out.2.2.2.2.2.2.2; omega
      have HX := Lib.hid (And.intro cw (And.intro hF3 hkl))
      have hs3 : Sees w3 1 (.slice a3 256 q3) 256 (Bs (F.disk.now (firstF F + kb))) := hF3.own.sees
      have hsc := HH.out.2.2.2.2.2.1 _ hkl
      clear cw hF3 hkl q0 C0 yf' hsm C2 C3
      go_wp2_with fail
      refine wp_app _ _ 38 rfl sl_u8y hF'.own rfl hs3 rfl (Bs_one _) (by show (256 * i + 256) * 1 ≤ _; omega) (by omega) ?_
      intro v' W' ho4 hc4 hn4
      have hF4 := hF'.app ho4 hc4 hn4
      clear ho4 hc4 hn4 hF'
      obtain ⟨a4, q4, rfl, -⟩ := hF4.shape
      have e5 : wrap64 ((i : Int) + 1) = ((i + 1 : Nat) : Int) := by unfold wrap64; have h1 := HI.out.2.2.2.2.2; have h2 := HH.out.2.2.2.1; have h3 := HH.out.2.2.2.2.2.2.2; omega
      have e5w := wIq e5
      have HF4 := Lib.hid hF4
      clear hF4 hs3 hsc hsz
      go_wp2_with fail
      go_roundg (gk - 1)
      case measure => have := HI.out.1; have := HI.out.2.2.2.2.2; omega
      case rel =>
        refine ⟨i + 1, by simp, by have := HI.out.1; have := HI.out.2.2.2.2.2; omega, ?_⟩
        have h1 := HF4.out
        rw [← Bs_append, ← HI.out.2.2.2.2.1] at h1
        exact h1
    · have him : i = m := by omega
      subst him
      have e2 := HH.out.2.2.2.2.2.2.2
      have e3 := HH.out.2.2.2.2.2.2.1
      have hle : x.size ≤ 256 * i := by have h1 := HH.out.2.2.1; omega
      have t0 : decide ((i : Int) < (i : Int)) = false := decide_eq_false (by omega)
      have hcb : 256 * i ≤ cb := by have := hF.shape; obtain ⟨_, _, h1, h2⟩ := this; cases h1; exact h2
      have hn : (n : Int) ≤ (256 * i : Nat) := by omega
      have hncb : n ≤ cb := by omega
      have hncb' : (n : Int) ≤ (cb : Int) := by omega
      have HI := Lib.hid (And.intro hF (And.intro cr (And.intro e2 (And.intro e3 hle))))
      clear hF cr hk e2 e3 hle c0
      go_wp2_with fail
      go_ret2
      have hF := HI.out.1
      have hlen : (upB F x.blocks i).length = 256 * i := by have := hF.own.len; rw [Bs_length] at this; omega
      have hS := hF.own.sees.take (b := upB F x.blocks i) (at_ := n) (by have h1 := HI.out.2.2.2.1; have h2 := HI.out.2.2.2.2; omega)
      have hb : bytesB F x = (upB F x.blocks i).take n := by
        rw [HI.out.2.2.2.1, HI.out.2.2.1, upB_all]; rfl
      have hbl : (bytesB F x).length = n := by rw [hb, List.length_take, hlen]; have h1 := HI.out.2.2.2.1; have h2 := HI.out.2.2.2.2; omega
      unfold ReadEnd
      rw [hbl, hb]
      refine ⟨.slice ab n cb, rfl, hS, fun k hk => ?_, HI.out.2.1⟩
      have h0 : k ∈ (Value.slice ab (256 * i) cb).ownBlock.toList := by
        have hk' : k ∈ eyes (.slice ab n cb) := hk
        clear hk
        cases ab with
        | none => simp [eyes] at hk'
        | some a => have h3 := eyes_own _ k hk'; simpa [Value.ownBlock] using h3
      have h1 := hF.new k h0
      have h2 := H1.out.2.1.size
      omega
end Go.Proofs.YtgcmgcffndbpoaaGreatDoor

/- Files in memory: rename. No statement of the seat is proved here. -/
namespace Go.Proofs.YtgcmgcffndbpoaaGreatDoor
open Go.RowKit Go.Aq Go.Aq.Fy Go.Maps
set_option maxRecDepth 100000 in
set_option maxHeartbeats 4000000 in
theorem rename_ok (w : World) (S : List Nat) (g f bl br : Nat) (W : WorkD) (h : WorkR w S g f bl br W) (hin : In w S) (kind : Int) (s t : Nm) (hs : s.length ≤ 1048576) (ht : t.length ≤ 1048576) (v : Value) (hv : v.oneCell' = true) (hl : W.files.length ≤ 1000) (hr : W.fresh.length ≤ 1000) :
    Calls Tryz.prog 63 #[.pointer (some ⟨g, 0, none⟩), .agg #[.int .i64 kind, .string (str s), .string (str t), v]] w (TellEnd w S g f bl br (renameW W s t)) := by
  have hh := fun w' (c : Chg [] w w') => has_ok w' S g f bl br W (h.chg0 c) s hs
  have ht' := fun w' (c : Chg [] w w') => has_ok w' S g f bl br W (h.chg0 c) t ht
  have HH := Lib.hid (And.intro h (And.intro hl (And.intro hr (And.intro hs (And.intro ht hin)))))
  clear h hl hr hs ht hin
  go_enter Tryz.func63, Tryz.ntmps63
  go_wp2_with fail
  obtain ⟨w1, hw1⟩ : ∃ w1, w.alloc (Obj.cells #[.int .i64 kind, .string (str s), .string (str t), v] 43) = w1 := ⟨_, rfl⟩
  obtain ⟨K, hK⟩ : ∃ K, w.heap.size = K := ⟨_, rfl⟩
  have hbx : Blk w1 K #[.int .i64 kind, .string (str s), .string (str t), v] 43 := by rw [← hw1, ← hK]; exact Blk.new _ _ _
  have c1 : Chg [] w w1 := by rw [← hw1]; exact (Chg.refl [] w).alloc _
  rw [hw1, hK]
  clear hw1
  refine (hh w1 c1).mono ?_
  rintro e w2 ⟨rfl, c2⟩
  have H2 := Lib.hid (And.intro hK (And.intro (hbx.chg0 c2) (c1.nil c2)))
  clear hbx c1 c2 hK hh
  obtain ⟨⟨-, b1, b2, -⟩, -⟩ := Blk.c4b H2.out.2.1
  cases hq : hasF W.files s with
  | false =>
    have HQ := Lib.hid hq
    clear hq
    go_wp2_with fail
    go_ret
    unfold TellEnd
    have e1 : renameW W s t = (W, 6) := by
      unfold renameW
      have := HQ.out
      unfold hasF at this
      cases hx : lookK s W.files with
      | none => rfl
      | some x => rw [hx] at this; cases this
    rw [e1]
    exact ⟨rfl, HH.out.1.chg0 H2.out.2.2, H2.out.2.2.mono (by simp)⟩
  | true =>
    obtain ⟨x, hx⟩ : ∃ x, lookK s W.files = some x := Option.isSome_iff_exists.1 hq
    have HX := Lib.hid (And.intro hq hx)
    clear hq hx
    by_cases hst : s = t
    · have e0 : ((str s).toList == (str t).toList) = true := by rw [str_eq]; exact decide_eq_true hst
      have HS := Lib.hid hst
      clear hst
      go_wp2_with fail
      go_ret
      unfold TellEnd
      have e1 : renameW W s t = (W, 0) := by unfold renameW; rw [HX.out.2]; simp [HS.out]
      rw [e1]
      exact ⟨rfl, HH.out.1.chg0 H2.out.2.2, H2.out.2.2.mono (by simp)⟩
    · have e0 : ((str s).toList == (str t).toList) = false := by rw [str_eq]; exact decide_eq_false hst
      have HS := Lib.hid hst
      clear hst
      go_wp2_with fail
      refine (ht' w2 H2.out.2.2).mono ?_
      rintro e w3 ⟨rfl, c3⟩
      have H3 := Lib.hid (And.intro H2.out.1 (And.intro (H2.out.2.1.chg0 c3) (H2.out.2.2.nil c3)))
      clear H2 b1 b2 ht'
      obtain ⟨⟨-, b1, b2, -⟩, -⟩ := Blk.c4b H3.out.2.1
      cases hq : hasF W.files t with
      | true =>
        have HQ := Lib.hid hq
        clear hq
        go_wp2_with fail
        go_ret
        unfold TellEnd
        have e1 : renameW W s t = (W, 7) := by unfold renameW; rw [HX.out.2]; simp [HS.out, HQ.out]
        rw [e1]
        exact ⟨rfl, HH.out.1.chg0 H3.out.2.2, H3.out.2.2.mono (by simp)⟩
      | false =>
        have HQ := Lib.hid hq
        clear hq e0
        go_upto_region 7 with (fail)
        have q0 : Chg [] w3 w3.drew := (Chg.refl _ _).drew
        obtain ⟨W0, hW0⟩ : ∃ W0, w3.drew = W0 := ⟨_, rfl⟩
        refine wp_region_U [] (fun i => decide (13 ≤ i)) (by kernel_rfl) ?_
        rw [hW0] at q0 ⊢
        clear hW0
        have C0 : Chg [] W0 W0 := Chg.refl _ _
        have R0 := HH.out.1.chg0 (H3.out.2.2.nil q0)
        obtain ⟨⟨-, y1, -⟩, -⟩ := R0.blk.c3b
        have B1 := q0.cell_some b1 (by simp)
        have B2 := q0.cell_some b2 (by simp)
        obtain ⟨lm, hM, hT⟩ := R0.files
        obtain ⟨y, hy, hyV⟩ : ∃ y, lookK s lm = some y ∧ FileV W0 (bl :: br :: S) x y := by
          rcases hT.look s with ⟨e1, -⟩ | ⟨x', y, e1, e2, hv⟩
          · rw [HX.out.2] at e1; cases e1
          · rw [HX.out.2] at e1; cases e1; exact ⟨y, e2, hv⟩
        clear hT b1 b2
        refine wpAnyU_take 0 (v := (.pointer (some ⟨g, 0, none⟩))) C0 rfl (by kernel_rfl) (by kernel_rfl) (by kernel_rfl) (by kernel_rfl) (fun _ _ _ h => h) (by rfl) (fun w4 c4 => ?_) ?_
        · go_simp
        try simp only [Act.put, List.getElem_toArray, List.getElem_cons_succ, List.getElem_cons_zero, List.setIfInBounds_toArray, List.set_cons_zero, List.set_cons_succ]
        refine wpAnyU_take 1 (v := (.pointer (some ⟨g, 0, none⟩))) C0 rfl (by kernel_rfl) (by kernel_rfl) (by kernel_rfl) (by kernel_rfl) (fun _ _ _ h => h) (by rfl) (fun w4 c4 => ?_) ?_
        · go_simp
        try simp only [Act.put, List.getElem_toArray, List.getElem_cons_succ, List.getElem_cons_zero, List.setIfInBounds_toArray, List.set_cons_zero, List.set_cons_succ]
        refine wpAnyU_take 2 (v := (.pointer (some ⟨g, 1, none⟩))) C0 rfl (by kernel_rfl) (by kernel_rfl) (by kernel_rfl) (by kernel_rfl) (fun _ _ _ h => h) (by rfl) (fun w4 c4 => ?_) ?_
        · go_simp
        try simp only [Act.put, List.getElem_toArray, List.getElem_cons_succ, List.getElem_cons_zero, List.setIfInBounds_toArray, List.set_cons_zero, List.set_cons_succ]
        refine wpAnyU_take 3 (v := (.map (some bl))) C0 rfl (by kernel_rfl) (by kernel_rfl) (by kernel_rfl) (by kernel_rfl) (fun _ _ _ h => h) (by rfl) (fun w4 c4 => ?_) ?_
        · have z := c4.cell_some y1 (by simp)
          go_simp
        try simp only [Act.put, List.getElem_toArray, List.getElem_cons_succ, List.getElem_cons_zero, List.setIfInBounds_toArray, List.set_cons_zero, List.set_cons_succ]
        refine wpAnyU_take 4 (v := (.pointer (some ⟨K, 2, none⟩))) C0 rfl (by kernel_rfl) (by kernel_rfl) (by kernel_rfl) (by kernel_rfl) (fun _ _ _ h => h) (by rfl) (fun w4 c4 => ?_) ?_
        · go_simp
        try simp only [Act.put, List.getElem_toArray, List.getElem_cons_succ, List.getElem_cons_zero, List.setIfInBounds_toArray, List.set_cons_zero, List.set_cons_succ]
        refine wpAnyU_take 5 (v := (.string (str t))) C0 rfl (by kernel_rfl) (by kernel_rfl) (by kernel_rfl) (by kernel_rfl) (fun _ _ _ h => h) (by rfl) (fun w4 c4 => ?_) ?_
        · have z := c4.cell_some B2 (by simp)
          go_simp
        try simp only [Act.put, List.getElem_toArray, List.getElem_cons_succ, List.getElem_cons_zero, List.setIfInBounds_toArray, List.set_cons_zero, List.set_cons_succ]
        refine wpAnyU_take 6 (v := (.pointer (some ⟨g, 0, none⟩))) C0 rfl (by kernel_rfl) (by kernel_rfl) (by kernel_rfl) (by kernel_rfl) (fun _ _ _ h => h) (by rfl) (fun w4 c4 => ?_) ?_
        · go_simp
        try simp only [Act.put, List.getElem_toArray, List.getElem_cons_succ, List.getElem_cons_zero, List.setIfInBounds_toArray, List.set_cons_zero, List.set_cons_succ]
        refine wpAnyU_take 7 (v := (.pointer (some ⟨g, 0, none⟩))) C0 rfl (by kernel_rfl) (by kernel_rfl) (by kernel_rfl) (by kernel_rfl) (fun _ _ _ h => h) (by rfl) (fun w4 c4 => ?_) ?_
        · go_simp
        try simp only [Act.put, List.getElem_toArray, List.getElem_cons_succ, List.getElem_cons_zero, List.setIfInBounds_toArray, List.set_cons_zero, List.set_cons_succ]
        refine wpAnyU_take 8 (v := (.pointer (some ⟨g, 1, none⟩))) C0 rfl (by kernel_rfl) (by kernel_rfl) (by kernel_rfl) (by kernel_rfl) (fun _ _ _ h => h) (by rfl) (fun w4 c4 => ?_) ?_
        · go_simp
        try simp only [Act.put, List.getElem_toArray, List.getElem_cons_succ, List.getElem_cons_zero, List.setIfInBounds_toArray, List.set_cons_zero, List.set_cons_succ]
        refine wpAnyU_take 9 (v := (.map (some bl))) C0 rfl (by kernel_rfl) (by kernel_rfl) (by kernel_rfl) (by kernel_rfl) (fun _ _ _ h => h) (by rfl) (fun w4 c4 => ?_) ?_
        · have z := c4.cell_some y1 (by simp)
          go_simp
        try simp only [Act.put, List.getElem_toArray, List.getElem_cons_succ, List.getElem_cons_zero, List.setIfInBounds_toArray, List.set_cons_zero, List.set_cons_succ]
        refine wpAnyU_take 10 (v := (.pointer (some ⟨K, 1, none⟩))) C0 rfl (by kernel_rfl) (by kernel_rfl) (by kernel_rfl) (by kernel_rfl) (fun _ _ _ h => h) (by rfl) (fun w4 c4 => ?_) ?_
        · go_simp
        try simp only [Act.put, List.getElem_toArray, List.getElem_cons_succ, List.getElem_cons_zero, List.setIfInBounds_toArray, List.set_cons_zero, List.set_cons_succ]
        refine wpAnyU_take 11 (v := (.string (str s))) C0 rfl (by kernel_rfl) (by kernel_rfl) (by kernel_rfl) (by kernel_rfl) (fun _ _ _ h => h) (by rfl) (fun w4 c4 => ?_) ?_
        · have z := c4.cell_some B1 (by simp)
          go_simp
        try simp only [Act.put, List.getElem_toArray, List.getElem_cons_succ, List.getElem_cons_zero, List.setIfInBounds_toArray, List.set_cons_zero, List.set_cons_succ]
        refine wpAnyU_take 12 (v := y) C0 rfl (by kernel_rfl) (by kernel_rfl) (by kernel_rfl) (by kernel_rfl) (fun _ _ _ h => h) (by rfl) (fun w4 c4 => ?_) ?_
        · have z := ((hM.chg0 c4).look keyS Tryz.underlying69 (zeroFile w4) s HH.out.2.2.2.1).1; rw [hy] at z; simp only [Option.getD_some] at z
          go_simp
        try simp only [Act.put, List.getElem_toArray, List.getElem_cons_succ, List.getElem_cons_zero, List.setIfInBounds_toArray, List.set_cons_zero, List.set_cons_succ]
        obtain ⟨w5, r5, m5, k5⟩ := R0.files.put t HH.out.2.2.2.2.1 (by simp) (by have := HH.out.2.1; omega) hyV
        have R5 := R0.putL k5 m5
        refine wpAnyU_last 13 rfl (by kernel_rfl) (by rfl) (by rfl) ?_
        refine wp_upd _ _ _ 69 rfl rfl rfl rfl r5 ?_
        try simp only [Act.put, List.getElem_toArray, List.getElem_cons_succ, List.getElem_cons_zero, List.setIfInBounds_toArray, List.set_cons_zero, List.set_cons_succ]
        refine wpAny_fin (by kernel_rfl) ?_ _
        have hKb : K ∉ [bl] := by have h1 := HH.out.1.files.lt; have h2 := H3.out.1; simp; omega
        have b1 := k5.cell_some B1 hKb
        have b2 := k5.cell_some B2 hKb
        have H5 := Lib.hid (And.intro R5 (show Chg [bl] w w5 from ((H3.out.2.2.nil q0).toS.tr k5)))
        clear q0 C0 R0 y1 B1 B2 hM hy hyV r5 m5 k5 R5 hKb
        go_upto_region 8 with (fail)
        have q0 : Chg [] w5 w5.drew := (Chg.refl _ _).drew
        obtain ⟨W1, hW1⟩ : ∃ W1, w5.drew = W1 := ⟨_, rfl⟩
        refine wp_region_U [] (fun _ => false) (by kernel_rfl) ?_
        rw [hW1] at q0 ⊢
        clear hW1
        have C0 : Chg [] W1 W1 := Chg.refl _ _
        have R0 := H5.out.1.chg0 q0
        obtain ⟨⟨-, -, y1⟩, -⟩ := R0.blk.c3b
        have B1 := q0.cell_some b1 (by simp)
        have B2 := q0.cell_some b2 (by simp)
        obtain ⟨lr, hM, hT⟩ := R0.fresh
        obtain ⟨vb, hvb⟩ : ∃ vb, (lookK s lr).getD (.slice none 0 0) = vb := ⟨_, rfl⟩
        obtain ⟨ok, hok⟩ : ∃ ok, (lookK s lr).isSome = ok := ⟨_, rfl⟩
        have hlk := fun (w4 : World) (c4 : Chg [] W1 w4) => ((hM.chg0 c4).look keyS Tryz.underlying76 (zeroB8 w4) s HH.out.2.2.2.1).2
        rw [hvb, hok] at hlk
        have hTw := hT.look s
        have HT := Lib.hid (And.intro hTw (And.intro hvb hok))
        clear hT hM b1 b2 hTw hvb hok
        refine wpAnyU_take 0 (v := (.pointer (some ⟨g, 0, none⟩))) C0 rfl (by kernel_rfl) (by kernel_rfl) (by kernel_rfl) (by kernel_rfl) (fun _ _ _ h => h) (by rfl) (fun w4 c4 => ?_) ?_
        · go_simp
        try simp only [Act.put, List.getElem_toArray, List.getElem_cons_succ, List.getElem_cons_zero, List.setIfInBounds_toArray, List.set_cons_zero, List.set_cons_succ]
        refine wpAnyU_take 1 (v := (.pointer (some ⟨g, 0, none⟩))) C0 rfl (by kernel_rfl) (by kernel_rfl) (by kernel_rfl) (by kernel_rfl) (fun _ _ _ h => h) (by rfl) (fun w4 c4 => ?_) ?_
        · go_simp
        try simp only [Act.put, List.getElem_toArray, List.getElem_cons_succ, List.getElem_cons_zero, List.setIfInBounds_toArray, List.set_cons_zero, List.set_cons_succ]
        refine wpAnyU_take 2 (v := (.pointer (some ⟨g, 2, none⟩))) C0 rfl (by kernel_rfl) (by kernel_rfl) (by kernel_rfl) (by kernel_rfl) (fun _ _ _ h => h) (by rfl) (fun w4 c4 => ?_) ?_
        · go_simp
        try simp only [Act.put, List.getElem_toArray, List.getElem_cons_succ, List.getElem_cons_zero, List.setIfInBounds_toArray, List.set_cons_zero, List.set_cons_succ]
        refine wpAnyU_take 3 (v := (.map (some br))) C0 rfl (by kernel_rfl) (by kernel_rfl) (by kernel_rfl) (by kernel_rfl) (fun _ _ _ h => h) (by rfl) (fun w4 c4 => ?_) ?_
        · have z := c4.cell_some y1 (by simp)
          go_simp
        try simp only [Act.put, List.getElem_toArray, List.getElem_cons_succ, List.getElem_cons_zero, List.setIfInBounds_toArray, List.set_cons_zero, List.set_cons_succ]
        refine wpAnyU_take 4 (v := (.pointer (some ⟨K, 1, none⟩))) C0 rfl (by kernel_rfl) (by kernel_rfl) (by kernel_rfl) (by kernel_rfl) (fun _ _ _ h => h) (by rfl) (fun w4 c4 => ?_) ?_
        · go_simp
        try simp only [Act.put, List.getElem_toArray, List.getElem_cons_succ, List.getElem_cons_zero, List.setIfInBounds_toArray, List.set_cons_zero, List.set_cons_succ]
        refine wpAnyU_take 5 (v := (.string (str s))) C0 rfl (by kernel_rfl) (by kernel_rfl) (by kernel_rfl) (by kernel_rfl) (fun _ _ _ h => h) (by rfl) (fun w4 c4 => ?_) ?_
        · have z := c4.cell_some B1 (by simp)
          go_simp
        try simp only [Act.put, List.getElem_toArray, List.getElem_cons_succ, List.getElem_cons_zero, List.setIfInBounds_toArray, List.set_cons_zero, List.set_cons_succ]
        refine wpAnyU_take 6 (v := (.tuple #[vb, .bool ok])) C0 rfl (by kernel_rfl) (by kernel_rfl) (by kernel_rfl) (by kernel_rfl) (fun _ _ _ h => h) (by rfl) (fun w4 c4 => ?_) ?_
        · have z := hlk w4 c4
          go_simp
        try simp only [Act.put, List.getElem_toArray, List.getElem_cons_succ, List.getElem_cons_zero, List.setIfInBounds_toArray, List.set_cons_zero, List.set_cons_succ]
        refine wpAnyU_take 7 (v := (.tuple #[vb, .bool ok])) C0 rfl (by kernel_rfl) (by kernel_rfl) (by kernel_rfl) (by kernel_rfl) (fun _ _ _ h => h) (by rfl) (fun w4 c4 => ?_) ?_
        · go_simp
        try simp only [Act.put, List.getElem_toArray, List.getElem_cons_succ, List.getElem_cons_zero, List.setIfInBounds_toArray, List.set_cons_zero, List.set_cons_succ]
        refine wpAnyU_take 8 (v := vb) C0 rfl (by kernel_rfl) (by kernel_rfl) (by kernel_rfl) (by kernel_rfl) (fun _ _ _ h => h) (by rfl) (fun w4 c4 => ?_) ?_
        · go_simp
        try simp only [Act.put, List.getElem_toArray, List.getElem_cons_succ, List.getElem_cons_zero, List.setIfInBounds_toArray, List.set_cons_zero, List.set_cons_succ]
        refine wpAnyU_take 9 (v := (.bool ok)) C0 rfl (by kernel_rfl) (by kernel_rfl) (by kernel_rfl) (by kernel_rfl) (fun _ _ _ h => h) (by rfl) (fun w4 c4 => ?_) ?_
        · go_simp
        try simp only [Act.put, List.getElem_toArray, List.getElem_cons_succ, List.getElem_cons_zero, List.setIfInBounds_toArray, List.set_cons_zero, List.set_cons_succ]
        refine wpAnyU_take 10 (v := vb) C0 rfl (by kernel_rfl) (by kernel_rfl) (by kernel_rfl) (by kernel_rfl) (fun _ _ _ h => h) (by rfl) (fun w4 c4 => ?_) ?_
        · go_simp
        try simp only [Act.put, List.getElem_toArray, List.getElem_cons_succ, List.getElem_cons_zero, List.setIfInBounds_toArray, List.set_cons_zero, List.set_cons_succ]
        refine wpAnyU_take 11 (v := (.bool ok)) C0 rfl (by kernel_rfl) (by kernel_rfl) (by kernel_rfl) (by kernel_rfl) (fun _ _ _ h => h) (by rfl) (fun w4 c4 => ?_) ?_
        · go_simp
        try simp only [Act.put, List.getElem_toArray, List.getElem_cons_succ, List.getElem_cons_zero, List.setIfInBounds_toArray, List.set_cons_zero, List.set_cons_succ]
        refine wpAnyU_done (by kernel_rfl) ?_ _
        have H6 := Lib.hid (And.intro R0 (H5.out.2.nil q0))
        clear R0 y1 C0 hlk
        cases ok with
        | false =>
          have e6 : lookK s W.fresh = none := by
            rcases HT.out.1 with ⟨e1, -⟩ | ⟨b, y, e1, e2, -⟩
            · exact e1
            · have := HT.out.2.2; rw [e2] at this; cases this
          have hg := gone_ok W1 S g f bl br _ H6.out.1 s HH.out.2.2.2.1
          have E6 := Lib.hid e6
          clear e6
          go_wp2_with fail
          refine hg.mono ?_
          rintro e w7 ⟨rfl, hR7, hC7⟩
          go_wp2_with fail
          go_ret
          unfold TellEnd
          have e1 : renameW W s t = (goneW ⟨insK t x W.files, W.fresh⟩ s, 0) := by
            have h1 := HQ.out
            unfold renameW; rw [HX.out.2]; simp [HS.out, h1, E6.out]
          rw [e1]
          exact ⟨rfl, hR7, (H6.out.2.mono (fun k hk => .inl (by simp at hk; simp [hk]))).tr hC7⟩
        | true =>
          obtain ⟨b, e6, hbv⟩ : ∃ b, lookK s W.fresh = some b ∧ BytesV W1 (bl :: br :: S) b vb := by
            rcases HT.out.1 with ⟨-, e2⟩ | ⟨b, y, e1, e2, h3⟩
            · have := HT.out.2.2; rw [e2] at this; cases this
            · have := HT.out.2.1; rw [e2] at this; exact ⟨b, e1, by rw [← this]; exact h3⟩
          obtain ⟨a6, q6, rfl, -⟩ := hbv.1.shape
          have E6 := Lib.hid e6
          clear e6
          have HB := Lib.hid hbv
          clear hbv HT
          go_upto_region 10 with (fail)
          have q1 : Chg [] W1 W1.drew := (Chg.refl _ _).drew
          obtain ⟨W2, hW2⟩ : ∃ W2, W1.drew = W2 := ⟨_, rfl⟩
          refine wp_region_U [] (fun i => decide (7 ≤ i)) (by kernel_rfl) ?_
          rw [hW2] at q1 ⊢
          clear hW2
          have C0 : Chg [] W2 W2 := Chg.refl _ _
          have R2 := H6.out.1.chg0 q1
          obtain ⟨⟨-, -, y1⟩, -⟩ := R2.blk.c3b
          have B3 := q1.cell_some B2 (by simp)
          clear B2
          refine wpAnyU_take 0 (v := (.pointer (some ⟨g, 0, none⟩))) C0 rfl (by kernel_rfl) (by kernel_rfl) (by kernel_rfl) (by kernel_rfl) (fun _ _ _ h => h) (by rfl) (fun w4 c4 => ?_) ?_
          · go_simp
          try simp only [Act.put, List.getElem_toArray, List.getElem_cons_succ, List.getElem_cons_zero, List.setIfInBounds_toArray, List.set_cons_zero, List.set_cons_succ]
          refine wpAnyU_take 1 (v := (.pointer (some ⟨g, 0, none⟩))) C0 rfl (by kernel_rfl) (by kernel_rfl) (by kernel_rfl) (by kernel_rfl) (fun _ _ _ h => h) (by rfl) (fun w4 c4 => ?_) ?_
          · go_simp
          try simp only [Act.put, List.getElem_toArray, List.getElem_cons_succ, List.getElem_cons_zero, List.setIfInBounds_toArray, List.set_cons_zero, List.set_cons_succ]
          refine wpAnyU_take 2 (v := (.pointer (some ⟨g, 2, none⟩))) C0 rfl (by kernel_rfl) (by kernel_rfl) (by kernel_rfl) (by kernel_rfl) (fun _ _ _ h => h) (by rfl) (fun w4 c4 => ?_) ?_
          · go_simp
          try simp only [Act.put, List.getElem_toArray, List.getElem_cons_succ, List.getElem_cons_zero, List.setIfInBounds_toArray, List.set_cons_zero, List.set_cons_succ]
          refine wpAnyU_take 3 (v := (.map (some br))) C0 rfl (by kernel_rfl) (by kernel_rfl) (by kernel_rfl) (by kernel_rfl) (fun _ _ _ h => h) (by rfl) (fun w4 c4 => ?_) ?_
          · have z := c4.cell_some y1 (by simp)
            go_simp
          try simp only [Act.put, List.getElem_toArray, List.getElem_cons_succ, List.getElem_cons_zero, List.setIfInBounds_toArray, List.set_cons_zero, List.set_cons_succ]
          refine wpAnyU_take 4 (v := (.pointer (some ⟨K, 2, none⟩))) C0 rfl (by kernel_rfl) (by kernel_rfl) (by kernel_rfl) (by kernel_rfl) (fun _ _ _ h => h) (by rfl) (fun w4 c4 => ?_) ?_
          · go_simp
          try simp only [Act.put, List.getElem_toArray, List.getElem_cons_succ, List.getElem_cons_zero, List.setIfInBounds_toArray, List.set_cons_zero, List.set_cons_succ]
          refine wpAnyU_take 5 (v := (.string (str t))) C0 rfl (by kernel_rfl) (by kernel_rfl) (by kernel_rfl) (by kernel_rfl) (fun _ _ _ h => h) (by rfl) (fun w4 c4 => ?_) ?_
          · have z := c4.cell_some B3 (by simp)
            go_simp
          try simp only [Act.put, List.getElem_toArray, List.getElem_cons_succ, List.getElem_cons_zero, List.setIfInBounds_toArray, List.set_cons_zero, List.set_cons_succ]
          refine wpAnyU_take 6 (v := (.slice a6 b.length q6)) C0 rfl (by kernel_rfl) (by kernel_rfl) (by kernel_rfl) (by kernel_rfl) (fun _ _ _ h => h) (by rfl) (fun w4 c4 => ?_) ?_
          · go_simp
          try simp only [Act.put, List.getElem_toArray, List.getElem_cons_succ, List.getElem_cons_zero, List.setIfInBounds_toArray, List.set_cons_zero, List.set_cons_succ]
          obtain ⟨w8, r8, m8, k8⟩ := R2.fresh.put t HH.out.2.2.2.2.1 (by simp) (by have := HH.out.2.2.1; show W.fresh.length ≤ _; omega) (HB.out.chg q1 (by simp))
          have R8 := R2.putR k8 m8
          refine wpAnyU_last 7 rfl (by kernel_rfl) (by rfl) (by rfl) ?_
          refine wp_upd _ _ _ 76 rfl rfl rfl rfl r8 ?_
          try simp only [Act.put, List.getElem_toArray, List.getElem_cons_succ, List.getElem_cons_zero, List.setIfInBounds_toArray, List.set_cons_zero, List.set_cons_succ]
          refine wpAny_fin (by kernel_rfl) ?_ _
          have hC8 : Chg [bl, br] w w8 := ((H6.out.2.nil q1).mono (fun k hk => .inl (by simp at hk; simp [hk]))).tr (k8.mono (fun k hk => .inl (by simp at hk; simp [hk])))
          have hg := gone_ok w8 S g f bl br _ R8 s HH.out.2.2.2.1
          have hKr : K ∉ [br] := by have h1 := HH.out.1.fresh.lt; have h2 := H3.out.1; simp; omega
          have B4 := k8.cell_some (q1.cell_some B1 (by simp)) hKr
          clear R8 R2 r8 m8 k8 q1 y1 B3 C0 hKr B1
          go_wp2_with fail
          refine hg.mono ?_
          rintro e w7 ⟨rfl, hR7, hC7⟩
          go_wp2_with fail
          go_ret
          unfold TellEnd
          have e1 : renameW W s t = (goneW ⟨insK t x W.files, insK t b W.fresh⟩ s, 0) := by
            have h1 := HQ.out
            unfold renameW; rw [HX.out.2]; simp [HS.out, h1, E6.out]
          rw [e1]
          exact ⟨rfl, hR7, hC8.tr hC7⟩
end Go.Proofs.YtgcmgcffndbpoaaGreatDoor

/- Files in memory: slices.Clone of ints; Blocks. No statement of the seat is proved here. -/
namespace Go.Proofs.YtgcmgcffndbpoaaGreatDoor
open Go.RowKit Go.Aq Go.Aq.Fy Go.Maps
theorem iclone_any (w : World) (v : Value) (n : Nat) (ks : List Nat) (hv : Sees w 1 v n (ints ks)) (hn : n ≤ 1000000) :
    Calls Tryz.prog 41 #[v] w fun e w' => ∃ v', e = .returned v' ∧ Fresh w w' 3 1 v' n (ints ks) := by
  have hl : ks.length = n := by have := hv.len; rw [ints_len] at this; omega
  by_cases h0 : n = 0
  · subst h0
    have : ks = [] := List.eq_nil_of_length_eq_zero hl
    subst this
    obtain ⟨ao, cap, rfl, -⟩ := hv.shape
    cases ao with
    | none =>
      refine (Tryz.slices_Clone_int_nil 0 cap w).mono fun e w' ⟨h1, h2⟩ => ?_
      subst h2
      exact ⟨_, h1, Fresh.nil _ _ _⟩
    | some a =>
      refine (Tryz.slices_Clone_int_zero a cap w).mono fun e w' ⟨v', h1, h2, h3, h4⟩ => ?_
      exact ⟨v', h1, Fresh.of_owns h2 h4⟩
  · obtain ⟨g, off, cap, rfl, -, hc⟩ := hv.at1 (by omega)
    refine (Tryz.slices_Clone_int g off n cap (ks.map fun k : Nat => (k : Int)) w (by simp; omega) (by omega) (fun j hj => ?_)).mono fun e w' ⟨v', h1, h2, h3, h4⟩ => ?_
    · have hj' : j < ks.length := by simpa using hj
      rw [hc j (by omega)]
      simp [ints, hj']
    · refine ⟨v', h1, Fresh.of_owns ?_ h4⟩
      have : ((ks.map fun k : Nat => (k : Int)).take n).map (Value.int .i64) = ints ks := by
        rw [List.take_of_length_le (by simp; omega)]; simp [ints]
      rw [this] at h2
      exact h2
theorem fldB (n : Int) (ao : Option Addr) (m cap : Nat) (w : World) : (Instr.field 72 (.agg #[.int .i64 n, .slice ao m cap]) 1).run Tryz.prog w = .ok (.slice ao m cap) w := by kernel_rfl
set_option maxRecDepth 100000 in
theorem blocks_ok (w : World) (Sd X : List Nat) (f d l bf : Nat) (F : FsD) (h : FsR w Sd X f d l bf F) (s : Nm) (hs : s.length ≤ 1048576) (hb : ((lookK s F.files).getD ⟨0, []⟩).blocks.length ≤ 1000000) :
    Calls Tryz.prog 14 #[.pointer (some ⟨f, 0, none⟩), .string (str s)] w fun e w' => ∃ v, e = .returned v ∧ Fresh w w' 3 1 v ((lookK s F.files).getD ⟨0, []⟩).blocks.length (ints ((lookK s F.files).getD ⟨0, []⟩).blocks) := by
  obtain ⟨⟨-, -, -, c3⟩, -⟩ := Blk.c4b h.blk
  obtain ⟨n, ao, m, cap, ⟨l1, -⟩, h1, h2, h3⟩ := h.files.look s hs
  obtain ⟨v, hv, hV, -⟩ := h3
  have hv' : v = .slice ao m cap := by
    have := congrArg (fun y => match y with | Value.agg xs => xs[1]? | _ => none) hv
    simpa using this.symm
  subst hv'
  generalize (lookK s F.files).getD ⟨0, []⟩ = x at *
  have hcl := iclone_any w _ _ _ hV hb
  have hf := fldB n ao m cap w
  clear h h1 h2 hv hV
  go_enter Tryz.func14, Tryz.ntmps14
  go_wp2_with fail
  refine hcl.mono ?_
  rintro e w1 ⟨v1, rfl, hF⟩
  go_wp2_with fail
  go_ret
  exact ⟨_, rfl, hF⟩
end Go.Proofs.YtgcmgcffndbpoaaGreatDoor

/- Files in memory: the bytes of a file under change. No statement of the seat is proved here. -/
namespace Go.Proofs.YtgcmgcffndbpoaaGreatDoor
open Go.RowKit Go.Aq Go.Aq.Fy Go.Maps
/-- How bytes ends. -/
def BytesEnd (w : World) (T : List Nat) (b : Sec) (e : Ending) (w' : World) : Prop :=
  ∃ v, e = .returned (.tuple #[v, .int .i64 0]) ∧ BytesV w' T b v ∧ Chg [] w w'
set_option maxRecDepth 100000 in
set_option maxHeartbeats 4000000 in
theorem bytes_fresh (w : World) (S : List Nat) (g f bl br : Nat) (F : FsD) (W : WorkD) (h : WorkR w S g f bl br W) (s : Nm) (hs : s.length ≤ 1048576) (b : Sec) (hb : lookK s W.fresh = some b) :
    Calls Tryz.prog 85 #[.pointer (some ⟨g, 0, none⟩), .string (str s)] w (BytesEnd w (bl :: br :: S) (bytesW F W s)) := by
  obtain ⟨⟨-, -, y2⟩, -⟩ := h.blk.c3b
  obtain ⟨lr, hM, hT⟩ := h.fresh
  have hlk := (hM.look keyS Tryz.underlying76 (zeroB8 w) s hs).2
  obtain ⟨y, e2, hy⟩ : ∃ y, lookK s lr = some y ∧ BytesV w (bl :: br :: S) b y := by
    rcases hT.look s with ⟨e1, -⟩ | ⟨b', y, e1, e2, h3⟩
    · rw [hb] at e1; cases e1
    · rw [hb] at e1; cases e1; exact ⟨y, e2, h3⟩
  rw [e2] at hlk
  simp only [Option.getD_some, Option.isSome_some] at hlk
  have e1 : bytesW F W s = b := by unfold bytesW; rw [hb]
  rw [e1]
  have HY := Lib.hid hy
  clear h hM hT hb e2 hy e1
  go_enter Tryz.func85, Tryz.ntmps85
  go_wp2_with fail
  go_ret2
  exact ⟨_, rfl, HY.out, Chg.refl _ _⟩
set_option maxRecDepth 100000 in
set_option maxHeartbeats 4000000 in
theorem bytes_file (w : World) (Sd X S0 : List Nat) (g f d l bf bl br : Nat) (F : FsD) (W : WorkD) (h : WorkR w S0 g f bl br W) (hS0 : ∀ k ∈ S0, k < w.heap.size) (hsub : ∀ k ∈ f :: l :: bf :: Sd, k ∈ S0) (hF : FsR w Sd X f d l bf F) (hd : F.disk.down = false) (s : Nm) (hs : s.length ≤ 1048576) (hb : lookK s W.fresh = none) (x : FileD) (hx : lookK s W.files = some x)
    (hsz : x.size ≤ 256 * x.blocks.length) (hbl : x.blocks.length ≤ 4096) (hks : ∀ k ∈ x.blocks, k < allF F) (hsec : ∀ k, k < F.disk.n → (F.disk.now k).length = 256) :
    Calls Tryz.prog 85 #[.pointer (some ⟨g, 0, none⟩), .string (str s)] w (BytesEnd w (bl :: br :: S0) (bytesW F W s)) := by
  have HS := Lib.hid (And.intro hS0 hsub)
  clear hS0 hsub
  obtain ⟨⟨y0, y1, y2⟩, -⟩ := h.blk.c3b
  obtain ⟨⟨c0, c1, c2, c3⟩, -⟩ := Blk.c4b hF.blk
  obtain ⟨lr, hM, hT⟩ := h.fresh
  have hlk := (hM.look keyS Tryz.underlying76 (zeroB8 w) s hs).2
  have e2 : lookK s lr = none := by
    rcases hT.look s with ⟨-, e2⟩ | ⟨b', y, e1, e2, h3⟩
    · exact e2
    · rw [hb] at e1; cases e1
  rw [e2] at hlk
  simp only [Option.getD_none, Option.isSome_none] at hlk
  obtain ⟨n, ao, m, cap, ⟨l1, -⟩, h1, h2, h3⟩ := h.files.look s hs
  rw [hx] at h1 h2 h3
  simp only [Option.getD_some] at h1 h2 h3
  have e1 : bytesW F W s = bytesB F x := by unfold bytesW; rw [hb, hx]
  rw [e1]
  have HH := Lib.hid (And.intro h (And.intro hF (And.intro hd (And.intro hsz (And.intro hbl (And.intro hks (And.intro hsec (And.intro h1 (And.intro h2 h3)))))))))
  clear h hF hM hT hb e2 hx e1 hd hsz hbl hks hsec h1 h2 h3
  go_enter Tryz.func85, Tryz.ntmps85
  go_upto_region 5 with (fail)
  obtain ⟨w1, hw1⟩ : ∃ w1, w.alloc (Obj.cells #[Value.int IntKind.i64 (n : Int), Value.slice ao m cap] 72) = w1 := ⟨_, rfl⟩
  obtain ⟨K, hK⟩ : ∃ K, w.heap.size = K := ⟨_, rfl⟩
  have hbx : Blk w1 K #[.int .i64 n, .slice ao m cap] 72 := by rw [← hw1, ← hK]; exact Blk.new _ _ _
  have k1 : Chg [] w w1 := by rw [← hw1]; exact (Chg.refl [] w).alloc _
  rw [hw1, hK]
  clear hw1
  replace y0 := k1.cell_some y0 (by simp)
  replace c0 := k1.cell_some c0 (by simp)
  replace c1 := k1.cell_some c1 (by simp)
  replace c2 := k1.cell_some c2 (by simp)
  replace c3 := k1.cell_some c3 (by simp)
  clear y1 y2 hlk l1
  go_upto_region 6 with (fail)
  obtain ⟨w2, hw2⟩ : ∃ w2, w1.alloc (Obj.cells #[.pointer (some ⟨d, 0, none⟩), .pointer (some ⟨l, 0, none⟩), .int .i64 F.mt, .map (some bf)] 75) = w2 := ⟨_, rfl⟩
  obtain ⟨K2, hK2⟩ : ∃ K2, w1.heap.size = K2 := ⟨_, rfl⟩
  have hb2 : Blk w2 K2 #[.pointer (some ⟨d, 0, none⟩), .pointer (some ⟨l, 0, none⟩), .int .i64 F.mt, .map (some bf)] 75 := by rw [← hw2, ← hK2]; exact Blk.new _ _ _
  have k2 : Chg [] w1 w2 := by rw [← hw2]; exact (Chg.refl [] w1).alloc _
  rw [hw2, hK2]
  clear hw2 y0 c0 c1 c2 c3
  obtain ⟨w3, hw3⟩ : ∃ w3, w2.alloc (.map #[] 0) = w3 := ⟨_, rfl⟩
  obtain ⟨M, hM⟩ : ∃ M, w2.heap.size = M := ⟨_, rfl⟩
  have rm : (Instr.makeMap 69 none).run Tryz.prog w2 = .ok (.map (some M)) w3 := by rw [← hw3, ← hM]; kernel_rfl
  have k3 : Chg [] w2 w3 := by rw [← hw3]; exact (Chg.refl [] w2).alloc _
  have F3 : FilesR w3 (M :: K2 :: l :: M :: Sd) M [] := ⟨[], by rw [← hw3, ← hM]; exact MapS.made _ _ _, trivial⟩
  obtain ⟨⟨b0, b1⟩, -⟩ := And.intro (And.intro ((hbx.chg0 (k2.nil k3)).cell 0) ((hbx.chg0 (k2.nil k3)).cell 1)) trivial
  have hs1 := k1.size
  have hs2 := k2.size
  have hlt := HH.out.2.1.lt
  have hV : FileV w3 (M :: K2 :: l :: M :: Sd) x (.agg #[.int .i64 n, .slice ao m cap]) := by
    have h1 := HH.out.2.2.2.2.2.2.2.2.2
    have kk : Chg [] w w3 := (k1.nil k2).nil k3
    refine (h1.wide (S' := M :: K2 :: l :: M :: Sd) fun k hk => ?_).chg kk (by simp)
    simp only [List.mem_cons] at hk
    rcases hk with rfl | rfl | rfl | rfl | hk
    · right; omega
    · right; omega
    · left; exact .tail _ (.tail _ (HS.out.2 _ (by simp)))
    · right; omega
    · left; exact .tail _ (.tail _ (HS.out.2 _ (by simp [hk])))
  obtain ⟨w4, r4, F4, k4⟩ := F3.put s hs (by simp) (by simp) hV
  have hMK : K2 ∉ [M] := by have := hb2.lt; simp; omega
  have hb4 := (hb2.chg0 k3).chg k4 hMK
  obtain ⟨⟨-, -, -, d3⟩, -, -, -, g3⟩ := Blk.c4b hb4
  have H4 := Lib.hid (And.intro hb4 (And.intro F4 (And.intro ((k1.nil k2).nil k3) (And.intro k4 (And.intro hK (And.intro hK2 hM))))))
  have HSZ := Lib.hid (And.intro hs1 (And.intro hs2 (show K2 < M by have := hb2.lt; omega)))
  clear hbx k1 k2 k3 F3 hV F4 k4 hb2 hb4 hMK hs1 hs2 hlt
  go_wp2_with fail
  obtain ⟨hb4, F4, kw3, k4, hK, hK2, hM⟩ := H4.out
  have hlt := HH.out.2.1.lt
  obtain ⟨hs1, hs2, hKMlt⟩ := HSZ.out
  have hs3 := kw3.size
  have hM3 : M < w4.heap.size := F4.lt
  have hK2w : w.heap.size ≤ K2 := by omega
  have hMw : w.heap.size ≤ M := by omega
  have hKM : K2 ≠ M := by omega
  have cw4 : Chg [] w w4 := kw3.trans k4 (fun i hi => .inr (by simp at hi; omega))
  obtain ⟨w5, hw5⟩ : ∃ w5, w4.setCell ⟨K2, 3, none⟩ (.map (some M)) = w5 := ⟨_, rfl⟩
  have hb5 := hb4.set 3 (.map (some M))
  simp only [List.setIfInBounds_toArray, List.set_cons_zero, List.set_cons_succ] at hb5
  have k5 : Chg [K2] w4 w5 := by rw [← hw5]; exact (Chg.refl _ _).setCell (by simp) _
  rw [hw5] at hb5 ⊢
  have cw5 : Chg [] w w5 := cw4.trans k5 (fun i hi => .inr (by simp at hi; omega))
  have hFs : FsR w5 Sd [] K2 d l M { F with files := [(s, x)] } := by
    refine ⟨hb5, HH.out.2.1.disk.chg cw5, HH.out.2.1.log.chg cw5 (by simp), ?_, ⟨?_, hKM, ?_, ?_, HH.out.2.1.ne.2.2.2.2.1, ?_⟩, fun _ h => absurd h (by simp), HH.out.2.1.small⟩
    · exact (F4.chg k5 (fun k hk => .inl (by simp at hk; simp [hk])) (by simp; exact fun e => hKM e.symm)).wide (fun k hk => .inl (by simp at hk ⊢; rcases hk with h | h | h | h <;> simp [h]))
    · have := hlt l (by simp); omega
    · have := hlt l (by simp); omega
    · intro hk; have := hlt K2 (by simp [hk]); omega
    · intro hk; have := hlt M (by simp [hk]); omega
  have hrd := fread_ok w5 Sd [] K2 d l M _ hFs HH.out.2.2.1 s hs x (by simp [lookK]) HH.out.2.2.2.1 HH.out.2.2.2.2.1 HH.out.2.2.2.2.2.1 HH.out.2.2.2.2.2.2.1
  have hfin := fun w6 (c : Chg [] w5 w6) => cw5.nil c
  have hT : ∀ k, w5.heap.size ≤ k → k ∉ bl :: br :: S0 := fun k hk hm => by
    have h1 := HH.out.1.files.lt
    have h2 := HH.out.1.fresh.lt
    have h3 := cw5.size
    rcases List.mem_cons.1 hm with rfl | hm
    · omega
    · rcases List.mem_cons.1 hm with rfl | hm
      · omega
      · have := HS.out.1 k hm; omega
  have HF := Lib.hid (And.intro hfin hT)
  clear hfin hT hFs hb5 k5 cw5 cw4 hb4 F4 kw3 k4 hK hK2 hM hlt hs3 hM3 hK2w hMw hKM H4 hs1 hs2 hKMlt HSZ
  refine hrd.mono ?_
  rintro e w6 ⟨v6, rfl, hS6, hN6, hC6⟩
  obtain ⟨a6, q6, rfl, -⟩ := hS6.shape
  have H6 := Lib.hid (And.intro hS6 (And.intro hN6 hC6))
  clear hS6 hN6 hC6 hrd
  go_wp2_with fail
  go_ret2
  exact ⟨_, rfl, ⟨H6.out.1, fun k hk => HF.out.2 k (H6.out.2.1 k hk)⟩, HF.out.1 _ H6.out.2.2⟩
end Go.Proofs.YtgcmgcffndbpoaaGreatDoor

/- Files in memory: append. No statement of the seat is proved here. -/
namespace Go.Aq.Fy
/-- Bytes put behind a file's bytes. -/
def appendW (F : FsD) (W : WorkD) (s : Nm) (b : Sec) : WorkD × Nat := if hasF W.files s then tellW W s (bytesW F W s ++ b) else (W, 6)
end Go.Aq.Fy
namespace Go.Proofs.YtgcmgcffndbpoaaGreatDoor
open Go.RowKit Go.Aq Go.Aq.Fy Go.Maps
theorem Bs_app (a b : List UInt8) : Bs (a ++ b) = Bs a ++ Bs b := by simp [Bs]
set_option maxRecDepth 100000 in
set_option maxHeartbeats 4000000 in
theorem append_ok (w : World) (S : List Nat) (g f bl br : Nat) (F : FsD) (W : WorkD) (h : WorkR w S g f bl br W) (hin : In w S) (kind : Int) (s t : Nm) (hs : s.length ≤ 1048576) (b : Sec) (v : Value) (hv : Sees w 1 v b.length (Bs b)) (hd : Disj (eyes v) [bl, br]) (hb : b.length ≤ 1000000) (hl : W.files.length ≤ 1000) (hr : W.fresh.length ≤ 1000)
    (hby : hasF W.files s = true → (bytesW F W s).length ≤ 1000000 ∧ ∀ w', Chg [] w w' → Calls Tryz.prog 85 #[.pointer (some ⟨g, 0, none⟩), .string (str s)] w' (BytesEnd w' (bl :: br :: S) (bytesW F W s))) :
    Calls Tryz.prog 62 #[.pointer (some ⟨g, 0, none⟩), .agg #[.int .i64 kind, .string (str s), .string (str t), v]] w (TellEnd w S g f bl br (appendW F W s b)) := by
  have hh := fun w' (c : Chg [] w w') => has_ok w' S g f bl br W (h.chg0 c) s hs
  obtain ⟨ao, cap, rfl, -⟩ := hv.shape
  obtain ⟨n, hn⟩ : ∃ n, b.length = n := ⟨_, rfl⟩
  rw [hn] at hv hd hb ⊢
  have HH := Lib.hid (And.intro h (And.intro hl (And.intro hr (And.intro hs (And.intro hin (And.intro hv (And.intro hd (And.intro hb (And.intro hby hn)))))))))
  clear h hl hr hs hin hv hd hb hby hn
  go_enter Tryz.func62, Tryz.ntmps62
  go_wp2_with fail
  obtain ⟨w1, hw1⟩ : ∃ w1, w.alloc (Obj.cells #[.int .i64 kind, .string (str s), .string (str t), .slice ao n cap] 43) = w1 := ⟨_, rfl⟩
  obtain ⟨K, hK⟩ : ∃ K, w.heap.size = K := ⟨_, rfl⟩
  have hbx : Blk w1 K #[.int .i64 kind, .string (str s), .string (str t), .slice ao n cap] 43 := by rw [← hw1, ← hK]; exact Blk.new _ _ _
  have c1 : Chg [] w w1 := by rw [← hw1]; exact (Chg.refl [] w).alloc _
  rw [hw1, hK]
  clear hw1
  refine (hh w1 c1).mono ?_
  rintro e w2 ⟨rfl, c2⟩
  have H2 := Lib.hid (And.intro hK (And.intro (hbx.chg0 c2) (c1.nil c2)))
  clear hbx c1 c2 hK hh
  obtain ⟨⟨-, b1, -, b3⟩, -⟩ := Blk.c4b H2.out.2.1
  cases hq : hasF W.files s with
  | false =>
    have HQ := Lib.hid hq
    clear hq
    go_wp2_with fail
    go_ret
    unfold TellEnd
    have e1 : appendW F W s b = (W, 6) := by unfold appendW; rw [HQ.out]; rfl
    rw [e1]
    exact ⟨rfl, HH.out.1.chg0 H2.out.2.2, H2.out.2.2.mono (by simp)⟩
  | true =>
    obtain ⟨hbl, hby⟩ := HH.out.2.2.2.2.2.2.2.2.1 hq
    have hby2 := hby w2 H2.out.2.2
    have e1 : appendW F W s b = tellW W s (bytesW F W s ++ b) := by unfold appendW; rw [hq]; rfl
    generalize bytesW F W s = B at *
    have E1 := Lib.hid e1
    obtain ⟨m, hm⟩ : ∃ m, B.length = m := ⟨_, rfl⟩
    rw [hm] at hbl
    have HB := Lib.hid (And.intro hm hbl)
    clear hq hby hbl hm e1
    go_wp2_with fail
    refine hby2.mono ?_
    rintro e w3 ⟨vb, rfl, hV, c3⟩
    rw [BytesV, HB.out.1] at hV
    obtain ⟨hVs, hVd⟩ := hV
    obtain ⟨ab, cb, rfl, -⟩ := hVs.shape
    have H3 := Lib.hid (And.intro H2.out.1 (And.intro (H2.out.2.1.chg0 c3) (And.intro (H2.out.2.2.nil c3) (And.intro hVs hVd))))
    clear H2 b1 b3 hby2 hVs hVd c3
    obtain ⟨⟨-, b1, -, b3⟩, -⟩ := Blk.c4b H3.out.2.1
    go_upto_region 6 with (fail)
    refine wp_region_U [bl, br] (fun _ => false) (by kernel_rfl) ?_
    have q0 : Chg [] w3 w3.drew := (Chg.refl _ _).drew
    obtain ⟨W0, hW0⟩ : ∃ W0, w3.drew = W0 := ⟨_, rfl⟩
    rw [hW0] at q0 ⊢
    clear hW0
    have C0 : Chg [bl, br] W0 W0 := Chg.refl _ _
    have hKb : K ∉ [bl, br] := by have h1 := HH.out.1.files.lt; have h2 := H3.out.1; have h3 := HH.out.1.fresh.lt; simp; omega
    have b1' := q0.cell_some b1 (by simp)
    have b3' := q0.cell_some b3 (by simp)
    clear b1 b3
    refine wpAnyU_take 0 (v := (.pointer (some ⟨g, 0, none⟩))) C0 rfl (by kernel_rfl) (by kernel_rfl) (by kernel_rfl) (by kernel_rfl) (fun _ _ _ h => h) (by rfl) (fun w4 c4 => ?_) ?_
    · go_simp
    try simp only [Act.put, List.getElem_toArray, List.getElem_cons_succ, List.getElem_cons_zero, List.setIfInBounds_toArray, List.set_cons_zero, List.set_cons_succ]
    refine wpAnyU_take 1 (v := (.pointer (some ⟨K, 1, none⟩))) C0 rfl (by kernel_rfl) (by kernel_rfl) (by kernel_rfl) (by kernel_rfl) (fun _ _ _ h => h) (by rfl) (fun w4 c4 => ?_) ?_
    · go_simp
    try simp only [Act.put, List.getElem_toArray, List.getElem_cons_succ, List.getElem_cons_zero, List.setIfInBounds_toArray, List.set_cons_zero, List.set_cons_succ]
    refine wpAnyU_take 2 (v := (.string (str s))) C0 rfl (by kernel_rfl) (by kernel_rfl) (by kernel_rfl) (by kernel_rfl) (fun _ _ _ h => h) (by rfl) (fun w4 c4 => ?_) ?_
    · have z := c4.cell_some b1' hKb
      go_simp
    try simp only [Act.put, List.getElem_toArray, List.getElem_cons_succ, List.getElem_cons_zero, List.setIfInBounds_toArray, List.set_cons_zero, List.set_cons_succ]
    refine wpAnyU_take 3 (v := (.slice ab m cb)) C0 rfl (by kernel_rfl) (by kernel_rfl) (by kernel_rfl) (by kernel_rfl) (fun _ _ _ h => h) (by rfl) (fun w4 c4 => ?_) ?_
    · go_simp
    try simp only [Act.put, List.getElem_toArray, List.getElem_cons_succ, List.getElem_cons_zero, List.setIfInBounds_toArray, List.set_cons_zero, List.set_cons_succ]
    refine wpAnyU_take 5 (v := (.pointer (some ⟨K, 3, none⟩))) C0 rfl (by kernel_rfl) (by kernel_rfl) (by kernel_rfl) (by kernel_rfl) (fun _ _ _ h => h) (by rfl) (fun w4 c4 => ?_) ?_
    · go_simp
    try simp only [Act.put, List.getElem_toArray, List.getElem_cons_succ, List.getElem_cons_zero, List.setIfInBounds_toArray, List.set_cons_zero, List.set_cons_succ]
    refine wpAnyU_take 6 (v := (.slice ao n cap)) C0 rfl (by kernel_rfl) (by kernel_rfl) (by kernel_rfl) (by kernel_rfl) (fun _ _ _ h => h) (by rfl) (fun w4 c4 => ?_) ?_
    · have z := c4.cell_some b3' hKb
      go_simp
    try simp only [Act.put, List.getElem_toArray, List.getElem_cons_succ, List.getElem_cons_zero, List.setIfInBounds_toArray, List.set_cons_zero, List.set_cons_succ]
    have hVs : Sees W0 1 (.slice ab m cb) m (Bs B) := H3.out.2.2.2.1.chg0 q0
    have hmb := HB.out.2
    refine wpAnyU_only 4 rfl (by kernel_rfl) (by rfl) (by rfl) ?_
    go_simp
    refine (bclone_any W0 _ m B hVs (by omega)).mono ?_
    rintro e w5 ⟨v5, rfl, hF5⟩
    refine ⟨hF5.chg.toS, ?_⟩
    try simp only [Act.put, List.getElem_toArray, List.getElem_cons_succ, List.getElem_cons_zero, List.setIfInBounds_toArray, List.set_cons_zero, List.set_cons_succ]
    have hvs : Sees w5 1 (.slice ao n cap) n (Bs b) := HH.out.2.2.2.2.2.1.chg0 ((H3.out.2.2.1.nil q0).nil hF5.chg)
    have hnb := HH.out.2.2.2.2.2.2.2.1
    refine wpAnyU_only 7 rfl (by kernel_rfl) (by rfl) (by rfl) ?_
    refine wp_app _ _ 38 rfl sl_u8y hF5.own rfl hvs rfl (Bs_one _) (by omega) (by omega) ?_
    intro v6 w6 ho6 hc6 hn6
    have hF6 := hF5.app ho6 hc6 hn6
    clear ho6 hc6 hn6
    refine ⟨hF6.chg.toS, ?_⟩
    try simp only [Act.put, List.getElem_toArray, List.getElem_cons_succ, List.getElem_cons_zero, List.setIfInBounds_toArray, List.set_cons_zero, List.set_cons_succ]
    rw [← Bs_app] at hF6
    have cw : Chg [] w w6 := (H3.out.2.2.1.nil q0).nil hF6.chg
    have hlB : (B ++ b).length = m + n := by rw [List.length_append, HB.out.1, HH.out.2.2.2.2.2.2.2.2.2]
    have hS6 : Sees w6 1 v6 (B ++ b).length (Bs (B ++ b)) := by rw [hlB]; exact hF6.own.sees
    have hD6 : Disj (eyes v6) [bl, br] := fun j hj hj' => by
      have h1 := hF6.new j (eyes_own _ j hj)
      have h2 := (H3.out.2.2.1.nil q0).size
      have h3 := HH.out.1.files.lt
      have h4 := HH.out.1.fresh.lt
      simp only [List.mem_cons, List.not_mem_nil, or_false] at hj'
      rcases hj' with rfl | rfl <;> omega
    have ht := tell_ok w6 S g f bl br W (HH.out.1.chg0 cw) (fun k hk => by have h1 := HH.out.2.2.2.2.1 k hk; have h2 := cw.size; omega) s HH.out.2.2.2.1 (B ++ b) v6 hS6 hD6 (by rw [hlB]; omega) HH.out.2.1 HH.out.2.2.1
    obtain ⟨a6, q6, rfl, -⟩ := hF6.shape
    have CW := Lib.hid cw
    have CF := Lib.hid hF6.chg
    clear hF6 hS6 hD6 cw hvs hF5 hlB hVs
    refine wpAnyU_only 8 rfl (by kernel_rfl) (by rfl) (by rfl) ?_
    go_simp
    refine ht.mono ?_
    rintro e w7 ⟨rfl, hR7, hC7⟩
    have C7 : Chg [bl, br] W0 w7 := CF.out.toS.tr hC7
    refine ⟨C7, ?_⟩
    try simp only [Act.put, List.getElem_toArray, List.getElem_cons_succ, List.getElem_cons_zero, List.setIfInBounds_toArray, List.set_cons_zero, List.set_cons_succ]
    have H7 := Lib.hid (And.intro hR7 hC7)
    clear hR7 hC7 ht
    refine wpAnyU_take 9 (v := (.int .i64 ((tellW W s (B ++ b)).2 : Nat))) C7 rfl (by kernel_rfl) (by kernel_rfl) (by kernel_rfl) (by kernel_rfl) (fun _ _ _ h => h) (by rfl) (fun w4 c4 => ?_) ?_
    · go_simp
    try simp only [Act.put, List.getElem_toArray, List.getElem_cons_succ, List.getElem_cons_zero, List.setIfInBounds_toArray, List.set_cons_zero, List.set_cons_succ]
    refine wpAnyU_done (by kernel_rfl) ?_ _
    clear C7
    clear C0 q0 hKb b1' b3' hmb hnb
    go_wp2_with fail
    go_ret
    unfold TellEnd
    rw [E1.out]
    exact ⟨rfl, H7.out.1, (CW.out.mono (by simp)).tr H7.out.2⟩
end Go.Proofs.YtgcmgcffndbpoaaGreatDoor

/- Files in memory: one change. No statement of the seat is proved here. -/
namespace Go.Proofs.YtgcmgcffndbpoaaGreatDoor
open Go.RowKit Go.Aq Go.Aq.Fy Go.Maps
set_option maxRecDepth 100000 in
set_option maxHeartbeats 4000000 in
theorem one_ok (w : World) (S : List Nat) (g f bl br : Nat) (F : FsD) (W : WorkD) (h : WorkR w S g f bl br W) (hin : In w S) (c : ChangeD) (hs : c.name.length ≤ 1048576) (ht : c.tonm.length ≤ 1048576) (v : Value) (hv : Sees w 1 v c.data.length (Bs c.data)) (hd : Disj (eyes v) [bl, br]) (hb : c.data.length ≤ 1000000) (hl : W.files.length ≤ 1000) (hr : W.fresh.length ≤ 1000)
    (hby : hasF W.files c.name = true → (bytesW F W c.name).length ≤ 1000000 ∧ ∀ w', Chg [] w w' → Calls Tryz.prog 85 #[.pointer (some ⟨g, 0, none⟩), .string (str c.name)] w' (BytesEnd w' (bl :: br :: S) (bytesW F W c.name))) :
    Calls Tryz.prog 33 #[.pointer (some ⟨g, 0, none⟩), .agg #[.int .i64 c.kind, .string (str c.name), .string (str c.tonm), v]] w (TellEnd w S g f bl br (oneW F W c)) := by
  obtain ⟨kind, s, t, b⟩ := c
  simp only at hs ht hv hd hb hby ⊢
  have hn1 := fun w' => name_ok w' s (by omega)
  have hn2 := fun w' => name_ok w' t (by omega)
  have hhas := fun w' (c : Chg [] w w') => has_ok w' S g f bl br W (h.chg0 c) s hs
  obtain ⟨ao, cap, rfl, -⟩ := hv.shape
  obtain ⟨n, hn⟩ : ∃ n, b.length = n := ⟨_, rfl⟩
  have htell := fun w' (c : Chg [] w w') => tell_ok w' S g f bl br W (h.chg0 c) (fun k hk => by have h1 := hin k hk; have h2 := c.size; omega) s hs b _ (hv.chg0 c) hd (by omega) hl hr
  have happ := fun w' (c : Chg [] w w') => append_ok w' S g f bl br F W (h.chg0 c) (fun k hk => by have h1 := hin k hk; have h2 := c.size; omega) kind s t hs b _ (hv.chg0 c) hd hb hl hr (fun q => ⟨(hby q).1, fun w'' c' => (hby q).2 w'' (c.nil c')⟩)
  have hren := fun w' (c : Chg [] w w') => rename_ok w' S g f bl br W (h.chg0 c) (fun k hk => by have h1 := hin k hk; have h2 := c.size; omega) kind s t hs ht (.slice ao b.length cap) rfl hl hr
  have hgone := fun w' (c : Chg [] w w') => gone_ok w' S g f bl br W (h.chg0 c) s hs
  rw [hn] at htell happ hren ⊢
  have e0 : oneW F W ⟨kind, s, t, b⟩ = if nameOk s = false ∨ (kind = 4 ∧ nameOk t = false) then (W, 16)
    else if kind = 2 ∨ (kind = 1 ∧ hasF W.files s = false) then tellW W s b
    else if kind = 1 then (W, 7)
    else if kind = 3 then appendW F W s b
    else if kind = 4 then renameW W s t
    else if kind ≠ 5 then (W, 1)
    else if hasF W.files s then (goneW W s, 0) else (W, 6) := rfl
  obtain ⟨R, hR⟩ : ∃ R, oneW F W ⟨kind, s, t, b⟩ = R := ⟨_, rfl⟩
  rw [hR] at e0 ⊢
  obtain ⟨q1, hq1⟩ : ∃ q, nameOk s = q := ⟨_, rfl⟩
  obtain ⟨q2, hq2⟩ : ∃ q, nameOk t = q := ⟨_, rfl⟩
  obtain ⟨q3, hq3⟩ : ∃ q, hasF W.files s = q := ⟨_, rfl⟩
  rw [hq1] at hn1 e0
  rw [hq2] at hn2 e0
  rw [hq3] at hhas e0
  have E0 := Lib.hid (And.intro e0 h)
  clear e0 h hin hv hd hb hby hn hq1 hq2 hq3 hR hs ht hl hr
  go_enter Tryz.func33, Tryz.ntmps33
  go_upto_region 1 with (fail)
  obtain ⟨w1, hw1⟩ : ∃ w1, w.alloc (Obj.cells #[.int .i64 kind, .string (str s), .string (str t), .slice ao n cap] 43) = w1 := ⟨_, rfl⟩
  obtain ⟨K, hK⟩ : ∃ K, w.heap.size = K := ⟨_, rfl⟩
  have hbx : Blk w1 K #[.int .i64 kind, .string (str s), .string (str t), .slice ao n cap] 43 := by rw [← hw1, ← hK]; exact Blk.new _ _ _
  have c1 : Chg [] w w1 := by rw [← hw1]; exact (Chg.refl [] w).alloc _
  rw [hw1, hK]
  clear hw1
  obtain ⟨⟨b0, b1, b2, b3⟩, -⟩ := Blk.c4b hbx
-- what the names say
  cases q1 with
  | false =>
    go_wp2_with (go_at_call 15; refine (hn1 w1).mono ?_; rintro e w2 ⟨rfl, c2⟩; replace b0 := c2.cell_some b0 (by simp); replace b1 := c2.cell_some b1 (by simp); replace b2 := c2.cell_some b2 (by simp); replace b3 := c2.cell_some b3 (by simp))
    go_ret
    unfold TellEnd
    have e1 : R = (W, 16) := by rw [E0.out.1]; simp
    rw [e1]
    exact ⟨rfl, E0.out.2.chg0 (c1.nil c2), (c1.nil c2).mono (by simp)⟩
  | true =>
    by_cases k4 : kind = 4
    · subst k4
      cases q2 with
      | false =>
        go_wp2_with (first | (go_at_call 15; refine (hn2 w2).mono ?_; rintro e w3 ⟨rfl, c3⟩; replace b0 := c3.cell_some b0 (by simp); replace b1 := c3.cell_some b1 (by simp); replace b2 := c3.cell_some b2 (by simp); replace b3 := c3.cell_some b3 (by simp)) | (go_at_call 15; refine (hn1 w1).mono ?_; rintro e w2 ⟨rfl, c2⟩; replace b0 := c2.cell_some b0 (by simp); replace b1 := c2.cell_some b1 (by simp); replace b2 := c2.cell_some b2 (by simp); replace b3 := c2.cell_some b3 (by simp)))
        go_ret
        unfold TellEnd
        have e1 : R = (W, 16) := by rw [E0.out.1]; simp
        rw [e1]
        exact ⟨rfl, E0.out.2.chg0 ((c1.nil c2).nil c3), ((c1.nil c2).nil c3).mono (by simp)⟩
      | true =>
        go_wp2_with (first | (go_at_call 63; refine (hren w3 ((c1.nil c2).nil c3)).mono ?_; rintro e w4 ⟨rfl, hR, hC⟩) | (go_at_call 15; refine (hn2 w2).mono ?_; rintro e w3 ⟨rfl, c3⟩; replace b0 := c3.cell_some b0 (by simp); replace b1 := c3.cell_some b1 (by simp); replace b2 := c3.cell_some b2 (by simp); replace b3 := c3.cell_some b3 (by simp)) | (go_at_call 15; refine (hn1 w1).mono ?_; rintro e w2 ⟨rfl, c2⟩; replace b0 := c2.cell_some b0 (by simp); replace b1 := c2.cell_some b1 (by simp); replace b2 := c2.cell_some b2 (by simp); replace b3 := c2.cell_some b3 (by simp)))
        go_ret
        unfold TellEnd
        have e1 : R = renameW W s t := by rw [E0.out.1]; simp
        rw [e1]
        exact ⟨rfl, hR, ((c1.nil c2).nil c3).toS.tr hC⟩
    · have t4 : (kind == 4) = false := by simp; exact k4
      have K4 := Lib.hid k4
      clear k4
      by_cases k2 : kind = 2
      · subst k2
        clear t4
        go_wp2_with (first | (go_at_call 61; refine (htell w2 (c1.nil c2)).mono ?_; rintro e w4 ⟨rfl, hR, hC⟩) | (go_at_call 15; refine (hn1 w1).mono ?_; rintro e w2 ⟨rfl, c2⟩; replace b0 := c2.cell_some b0 (by simp); replace b1 := c2.cell_some b1 (by simp); replace b2 := c2.cell_some b2 (by simp); replace b3 := c2.cell_some b3 (by simp)))
        go_ret
        unfold TellEnd
        have e1 : R = tellW W s b := by rw [E0.out.1]; simp
        rw [e1]
        exact ⟨rfl, hR, (c1.nil c2).toS.tr hC⟩
      · by_cases k1 : kind = 1
        · subst k1
          clear t4 k2
          cases q3 with
          | false =>
            go_wp2_with (first | (go_at_call 61; refine (htell w3 ((c1.nil c2).nil c3)).mono ?_; rintro e w4 ⟨rfl, hR, hC⟩) | (go_at_call 60; refine (hhas w2 (c1.nil c2)).mono ?_; rintro e w3 ⟨rfl, c3⟩; replace b0 := c3.cell_some b0 (by simp); replace b1 := c3.cell_some b1 (by simp); replace b2 := c3.cell_some b2 (by simp); replace b3 := c3.cell_some b3 (by simp)) | (go_at_call 15; refine (hn1 w1).mono ?_; rintro e w2 ⟨rfl, c2⟩; replace b0 := c2.cell_some b0 (by simp); replace b1 := c2.cell_some b1 (by simp); replace b2 := c2.cell_some b2 (by simp); replace b3 := c2.cell_some b3 (by simp)))
            go_ret
            unfold TellEnd
            have e1 : R = tellW W s b := by rw [E0.out.1]; simp
            rw [e1]
            exact ⟨rfl, hR, ((c1.nil c2).nil c3).toS.tr hC⟩
          | true =>
            go_wp2_with (first | (go_at_call 60; refine (hhas w2 (c1.nil c2)).mono ?_; rintro e w3 ⟨rfl, c3⟩; replace b0 := c3.cell_some b0 (by simp); replace b1 := c3.cell_some b1 (by simp); replace b2 := c3.cell_some b2 (by simp); replace b3 := c3.cell_some b3 (by simp)) | (go_at_call 15; refine (hn1 w1).mono ?_; rintro e w2 ⟨rfl, c2⟩; replace b0 := c2.cell_some b0 (by simp); replace b1 := c2.cell_some b1 (by simp); replace b2 := c2.cell_some b2 (by simp); replace b3 := c2.cell_some b3 (by simp)))
            go_ret
            unfold TellEnd
            have e1 : R = (W, 7) := by rw [E0.out.1]; simp
            rw [e1]
            exact ⟨rfl, E0.out.2.chg0 ((c1.nil c2).nil c3), ((c1.nil c2).nil c3).mono (by simp)⟩
        · by_cases k3 : kind = 3
          · subst k3
            clear t4 k2 k1
            go_wp2_with (first | (go_at_call 62; refine (happ w2 (c1.nil c2)).mono ?_; rintro e w4 ⟨rfl, hR, hC⟩) | (go_at_call 15; refine (hn1 w1).mono ?_; rintro e w2 ⟨rfl, c2⟩; replace b0 := c2.cell_some b0 (by simp); replace b1 := c2.cell_some b1 (by simp); replace b2 := c2.cell_some b2 (by simp); replace b3 := c2.cell_some b3 (by simp)))
            go_ret
            unfold TellEnd
            have e1 : R = appendW F W s b := by rw [E0.out.1]; simp
            rw [e1]
            exact ⟨rfl, hR, (c1.nil c2).toS.tr hC⟩
          · by_cases k5 : kind = 5
            · subst k5
              clear t4 k2 k1 k3
              cases q3 with
              | false =>
                go_wp2_with (first | (go_at_call 60; refine (hhas w2 (c1.nil c2)).mono ?_; rintro e w3 ⟨rfl, c3⟩; replace b0 := c3.cell_some b0 (by simp); replace b1 := c3.cell_some b1 (by simp); replace b2 := c3.cell_some b2 (by simp); replace b3 := c3.cell_some b3 (by simp)) | (go_at_call 15; refine (hn1 w1).mono ?_; rintro e w2 ⟨rfl, c2⟩; replace b0 := c2.cell_some b0 (by simp); replace b1 := c2.cell_some b1 (by simp); replace b2 := c2.cell_some b2 (by simp); replace b3 := c2.cell_some b3 (by simp)))
                go_ret
                unfold TellEnd
                have e1 : R = (W, 6) := by rw [E0.out.1]; simp
                rw [e1]
                exact ⟨rfl, E0.out.2.chg0 ((c1.nil c2).nil c3), ((c1.nil c2).nil c3).mono (by simp)⟩
              | true =>
                go_wp2_with (first | (go_at_call 64; refine (hgone w3 ((c1.nil c2).nil c3)).mono ?_; rintro e w4 ⟨rfl, hR, hC⟩) | (go_at_call 60; refine (hhas w2 (c1.nil c2)).mono ?_; rintro e w3 ⟨rfl, c3⟩; replace b0 := c3.cell_some b0 (by simp); replace b1 := c3.cell_some b1 (by simp); replace b2 := c3.cell_some b2 (by simp); replace b3 := c3.cell_some b3 (by simp)) | (go_at_call 15; refine (hn1 w1).mono ?_; rintro e w2 ⟨rfl, c2⟩; replace b0 := c2.cell_some b0 (by simp); replace b1 := c2.cell_some b1 (by simp); replace b2 := c2.cell_some b2 (by simp); replace b3 := c2.cell_some b3 (by simp)))
                go_ret
                unfold TellEnd
                have e1 : R = (goneW W s, 0) := by rw [E0.out.1]; simp
                rw [e1]
                exact ⟨rfl, hR, ((c1.nil c2).nil c3).toS.tr hC⟩
            · have t2 : (kind == 2) = false := by simp; exact k2
              have t1 : (kind == 1) = false := by simp; exact k1
              have t3 : (kind == 3) = false := by simp; exact k3
              have t5 : (kind != 5) = true := by simp; exact k5
              have KK := Lib.hid (And.intro k2 (And.intro k1 (And.intro k3 k5)))
              clear k2 k1 k3 k5
              go_wp2_with (go_at_call 15; refine (hn1 w1).mono ?_; rintro e w2 ⟨rfl, c2⟩; replace b0 := c2.cell_some b0 (by simp); replace b1 := c2.cell_some b1 (by simp); replace b2 := c2.cell_some b2 (by simp); replace b3 := c2.cell_some b3 (by simp))
              go_ret
              unfold TellEnd
              have e1 : R = (W, 1) := by rw [E0.out.1]; simp [K4.out, KK.out]
              rw [e1]
              exact ⟨rfl, E0.out.2.chg0 (c1.nil c2), (c1.nil c2).mono (by simp)⟩
end Go.Proofs.YtgcmgcffndbpoaaGreatDoor

