/- Fp5, Fp6 in one text. No statement of the seat is proved here. -/
import Derived.Test.YtgcmgcffndbpoaaGreatDoorFpA
set_option linter.unusedSimpArgs false
set_option linter.unusedVariables false
/- Files on a disk: what stands there, before, within and behind a change: plain. No statement of the seat is proved here. -/
namespace Go.Aq.Fy
open Go.Aq Go.RowKit
theorem sub_one {α : Type} {s : List α} {p : α} (h : s.Sublist [p]) : s = [] ∨ s = [p] := by
  cases h with
  | cons _ h => exact .inl (List.sublist_nil.1 h)
  | cons_cons _ h => exact .inr (by rw [List.sublist_nil.1 h])
/-- Head, top and table stand there. -/
structure Lies (L : LogD) (mt : Nat) (fs : Files) (g : Nat → Sec) : Prop where
  head : g 0 = headB L.ring L.seq L.pos
  top : g (homeL L) = topB mt
  tab : ∀ i, i < mt → g (homeL L + 1 + i) = (sectorsB mt fs).getD i []
/-- Sizes that fit. -/
structure Geo (N : Nat) (L : LogD) (M : Nat) : Prop where
  n : N ≤ 4096
  ring : 0 < L.ring
  pos : L.pos < L.ring
  mt : 1 ≤ M ∧ M ≤ 200
  first : homeL L + 1 + M < N
/-- Files that stand on their disk; q: no more changes than these were done. -/
structure FInv (q : Nat) (F : FsD) : Prop where
  geo : Geo F.disk.n F.log F.mt
  rest : Rest F.disk
  seq : F.log.seq ≤ q
  lies : Lies F.log F.mt F.files F.disk.now
  un : Unmarked F.disk.now F.log
  tlen : (tableB F.files).length ≤ F.mt * 256
  files : FilesOk (allF F) F.files
/-! ### tables -/
def pieceT (m : Nat) (fs : Files) (i : Nat) : Sec := ((tableB fs ++ nul (m * 256 - (tableB fs).length)).drop (256 * i)).take 256
theorem sectorsB_fit {m : Nat} {fs : Files} (h : (tableB fs).length ≤ m * 256) : sectorsB m fs = (List.range m).map (pieceT m fs) := by
  unfold sectorsB
  rw [if_neg (by omega)]
  rfl
theorem sectors_len {m : Nat} {fs : Files} (h : (tableB fs).length ≤ m * 256) : (sectorsB m fs).length = m := by rw [sectorsB_fit h]; simp
theorem sectors_get {m i : Nat} {fs : Files} (h : (tableB fs).length ≤ m * 256) (hi : i < m) : (sectorsB m fs).getD i [] = pieceT m fs i := by
  rw [sectorsB_fit h]
  simp [List.getD, hi]
theorem piece_len {m i : Nat} {fs : Files} (h : (tableB fs).length ≤ m * 256) (hi : i < m) : (pieceT m fs i).length = 256 := by
  unfold pieceT nul
  simp only [List.length_take, List.length_drop, List.length_append, List.length_replicate]
  omega
theorem differ_mem {b : Nat} {old new : List Sec} {p : Nat × Sec} : p ∈ differB b old new ↔ ∃ i, i < old.length ∧ old.getD i [] ≠ new.getD i [] ∧ p = (b + i, new.getD i []) := by
  unfold differB
  simp only [List.mem_map, List.mem_filter, List.mem_range, decide_eq_true_eq]
  exact ⟨fun ⟨i, ⟨h1, h2⟩, h3⟩ => ⟨i, h1, h2, h3.symm⟩, fun ⟨i, h1, h2, h3⟩ => ⟨i, ⟨h1, h2⟩, h3.symm⟩⟩
theorem differ_nodup (b : Nat) (old new : List Sec) : ((differB b old new).map (·.1)).Nodup := by
  unfold differB
  rw [List.map_map]
  refine List.pairwise_map.2 ((List.Pairwise.filter _ List.nodup_range).imp fun {i j} h e => h ?_)
  simp only [Function.comp] at e
  omega
theorem differ_len (b : Nat) (old new : List Sec) : (differB b old new).length ≤ old.length := by
  unfold differB
  rw [List.length_map]
  exact Nat.le_trans (List.length_filter_le _ _) (by simp)
/-! ### a change -/
def diffF (F : FsD) (fs : Files) : Puts := differB (homeL F.log + 1) (sectorsB F.mt F.files) (sectorsB F.mt fs)
/-- A change that is to be done: the blocks bl, then the files fs. -/
structure Plan (F : FsD) (bl : Puts) (fs : Files) : Prop where
  keys : ∀ p ∈ bl, ∃ k, k ∈ freeF F ∧ p.1 = firstF F + k
  nodup : (bl.map (·.1)).Nodup
  len : OkP F.disk.n bl
  room : need (diffF F fs).length ≤ F.log.ring
  tlen : (tableB fs).length ≤ F.mt * 256
  ok : FilesOk (allF F) fs
def stagesF (F : FsD) (bl : Puts) (fs : Files) : List Puts := (if bl = [] then [] else [bl]) ++ commitP F.log (diffF F fs)
def logF (F : FsD) (fs : Files) : LogD := if diffF F fs = [] then F.log else nextL F.log (diffF F fs).length
/-- The blocks of the files are as they were. -/
def Keeps (F : FsD) (g : Nat → Sec) : Prop := ∀ k ∈ blks F.files, g (firstF F + k) = F.disk.now (firstF F + k)
def Has (bl : Puts) (g : Nat → Sec) : Prop := ∀ p ∈ bl, g p.1 = p.2
def Old (F : FsD) (g : Nat → Sec) : Prop := Lies F.log F.mt F.files g ∧ Unmarked g F.log ∧ Keeps F g
def New (F : FsD) (bl : Puts) (fs : Files) (g : Nat → Sec) : Prop := Lies (logF F fs) F.mt fs g ∧ Unmarked g (logF F fs) ∧ Keeps F g ∧ Has bl g
/-- The change is told in the ring, and may be done in part. -/
structure Mrk (F : FsD) (bl : Puts) (fs : Files) (g : Nat → Sec) : Prop where
  head : g 0 = headB F.log.ring F.log.seq F.log.pos
  mark : g 1 = markB F.log.seq F.log.pos (diffF F fs).length
  top : g (homeL F.log) = topB F.mt
  ring : Has (changeL F.log (diffF F fs)) g
  tab : ∀ i, i < F.mt → g (homeL F.log + 1 + i) = (sectorsB F.mt fs).getD i [] ∨ (homeL F.log + 1 + i, (sectorsB F.mt fs).getD i []) ∈ diffF F fs
  keeps : Keeps F g
  has : Has bl g
section
variable {q : Nat} {F : FsD} {bl : Puts} {fs : Files}
theorem Plan.tkey (h : Plan F bl fs) (hF : FInv q F) {p : Nat × Sec} (hp : p ∈ diffF F fs) : ∃ i, i < F.mt ∧ p = (homeL F.log + 1 + i, (sectorsB F.mt fs).getD i []) := by
  obtain ⟨i, h1, h2, h3⟩ := differ_mem.1 hp
  rw [sectors_len hF.tlen] at h1
  exact ⟨i, h1, h3⟩
theorem Plan.tok (h : Plan F bl fs) (hF : FInv q F) : OkP F.disk.n (diffF F fs) := fun p hp => by
  obtain ⟨i, h1, rfl⟩ := h.tkey hF hp
  have := hF.geo.first
  exact ⟨by simp only; omega, by simp only; rw [sectors_get h.tlen h1]; exact piece_len h.tlen h1⟩
theorem Plan.bkey (h : Plan F bl fs) {p : Nat × Sec} (hp : p ∈ bl) : firstF F ≤ p.1 ∧ ∀ k ∈ blks F.files, p.1 ≠ firstF F + k := by
  obtain ⟨k, h1, h2⟩ := h.keys p hp
  refine ⟨by omega, fun j hj e => ?_⟩
  have : k = j := by omega
  subst this
  unfold freeF at h1
  have h3 := (List.mem_filter.1 h1).2
  rw [usedF_iff.2 hj] at h3
  cases h3
theorem Plan.stagesOk (h : Plan F bl fs) (hF : FInv q F) : ∀ l ∈ stagesF F bl fs, OkP F.disk.n l := by
  have hg := hF.geo.first
  have hr := hF.geo.ring
  intro l hl
  unfold stagesF at hl
  rcases List.mem_append.1 hl with hl | hl
  · split at hl
    · cases hl
    · rw [List.mem_singleton.1 hl]; exact h.len
  · unfold commitP at hl
    split at hl
    · cases hl
    · simp only [List.mem_cons, List.not_mem_nil, or_false] at hl
      unfold homeL at hg
      rcases hl with rfl | rfl | rfl | rfl
      · exact chg_ok hr (by omega) fun p hp => (h.tok hF p hp).2
      · intro p hp; rw [List.mem_singleton.1 hp]; exact ⟨by simp only; omega, markB_length _ _ _⟩
      · exact h.tok hF
      · intro p hp; unfold headL at hp; rw [List.mem_singleton.1 hp]; exact ⟨by simp only; omega, headB_length _ _ _⟩
/-- The new blocks stand there, in part. -/
theorem old_blocks (h : Plan F bl fs) (hF : FInv q F) {s : Puts} (hs : s.Sublist bl) {g : Nat → Sec} (hg : Old F g) : Old F (setAll g s) := by
  have hh : ∀ j, j < firstF F → setAll g s j = g j := fun j hj => setAll_out fun p hp e => by have := (h.bkey (hs.subset hp)).1; omega
  have hlt : homeL F.log + F.mt < firstF F := by unfold firstF; omega
  have h2 : 2 ≤ homeL F.log := by unfold homeL; omega
  obtain ⟨⟨l1, l2, l3⟩, u, k⟩ := hg
  refine ⟨⟨?_, ?_, fun i hi => ?_⟩, fun n hn => ?_, fun j hj => ?_⟩
  · rw [hh 0 (by omega)]; exact l1
  · rw [hh _ (by omega)]; exact l2
  · rw [hh _ (by omega)]; exact l3 i hi
  · rw [hh 1 (by omega)]; exact u n hn
  · rw [setAll_out fun p hp => (h.bkey (hs.subset hp)).2 j hj]; exact k j hj
/-- Writes at the ring and in front of the table leave old files old. -/
theorem old_ring (h : Plan F bl fs) (hF : FInv q F) {s : Puts} (hs : ∀ p ∈ s, 2 ≤ p.1 ∧ p.1 < homeL F.log) {g : Nat → Sec} (hg : Old F g) : Old F (setAll g s) := by
  have hh : ∀ j, (j < 2 ∨ homeL F.log ≤ j) → setAll g s j = g j := fun j hj => setAll_out fun p hp e => by have := hs p hp; omega
  obtain ⟨⟨l1, l2, l3⟩, u, k⟩ := hg
  refine ⟨⟨?_, ?_, fun i hi => ?_⟩, fun n hn => ?_, fun j hj => ?_⟩
  · rw [hh 0 (by omega)]; exact l1
  · rw [hh _ (by omega)]; exact l2
  · rw [hh _ (by omega)]; exact l3 i hi
  · rw [hh 1 (by omega)]; exact u n hn
  · rw [hh _ (by unfold firstF; omega)]; exact k j hj
theorem has_low (h : Plan F bl fs) {s : Puts} (hs : ∀ p ∈ s, p.1 < firstF F) {g : Nat → Sec} (hg : Has bl g) : Has bl (setAll g s) := fun p hp => by
  rw [setAll_out fun r hr e => by have h1 := hs r hr; have h2 := (h.bkey hp).1; omega]
  exact hg p hp
theorem keeps_low {s : Puts} (hs : ∀ p ∈ s, p.1 < firstF F) {g : Nat → Sec} (hg : Keeps F g) : Keeps F (setAll g s) := fun k hk => by
  rw [setAll_out fun r hr e => by have h1 := hs r hr; omega]
  exact hg k hk
theorem ring_key (hF : FInv q F) {t : Puts} {p : Nat × Sec} (hp : p ∈ changeL F.log t) : 2 ≤ p.1 ∧ p.1 < homeL F.log := by
  obtain ⟨i, hi, e⟩ := chg_key hp
  rw [e]
  unfold inL homeL
  have := Nat.mod_lt (F.log.pos + i) hF.geo.ring
  omega
/-- The table in part. -/
theorem mrk_tab (h : Plan F bl fs) (hF : FInv q F) {s : Puts} (hs : s.Sublist (diffF F fs)) {g : Nat → Sec} (hg : Mrk F bl fs g) : Mrk F bl fs (setAll g s) := by
  have hk : ∀ p ∈ s, ∃ i, i < F.mt ∧ p = (homeL F.log + 1 + i, (sectorsB F.mt fs).getD i []) := fun p hp => h.tkey hF (hs.subset hp)
  have hlow : ∀ p ∈ s, p.1 < firstF F := fun p hp => by obtain ⟨i, hi, rfl⟩ := hk p hp; unfold firstF; simp only; omega
  have hh : ∀ j, j ≤ homeL F.log → setAll g s j = g j := fun j hj => setAll_out fun p hp e => by obtain ⟨i, hi, rfl⟩ := hk p hp; simp only at e; omega
  have h2 : 2 ≤ homeL F.log := by unfold homeL; omega
  refine ⟨?_, ?_, ?_, fun p hp => ?_, fun i hi => ?_, keeps_low hlow hg.keeps, has_low h hlow hg.has⟩
  · rw [hh 0 (by omega)]; exact hg.head
  · rw [hh 1 (by omega)]; exact hg.mark
  · rw [hh _ (by omega)]; exact hg.top
  · rw [hh _ (by have := (ring_key hF hp).2; omega)]; exact hg.ring p hp
  · rcases setAll_or (l := s) (j := homeL F.log + 1 + i) (f := g) with e | ⟨p, hp, e1, e2⟩
    · rw [e]; exact hg.tab i hi
    · left
      rw [e2]
      obtain ⟨j, hj, rfl⟩ := hk p hp
      simp only at e1 ⊢
      have : j = i := by omega
      subst this
      rfl
/-- The whole table, then the head. -/
theorem mrk_new (h : Plan F bl fs) (hF : FInv q F) (hq : q < 2 ^ 47) (ht : diffF F fs ≠ []) {g : Nat → Sec} (hg : Mrk F bl fs g) : New F bl fs (setAll (setAll g (diffF F fs)) (headL (nextL F.log (diffF F fs).length))) := by
  have hm := mrk_tab h hF (List.Sublist.refl _) hg
  have hall : ∀ i, i < F.mt → setAll g (diffF F fs) (homeL F.log + 1 + i) = (sectorsB F.mt fs).getD i [] := fun i hi => by
    rcases hg.tab i hi with e | e
    · rcases setAll_or (l := diffF F fs) (j := homeL F.log + 1 + i) (f := g) with e' | ⟨p, hp, e1, e2⟩
      · rw [e', e]
      · obtain ⟨j, hj, rfl⟩ := h.tkey hF hp
        simp only at e1 e2
        have : j = i := by omega
        subst this
        exact e2
    · exact setAll_each (differ_nodup _ _ _) _ e
  have hlog : logF F fs = nextL F.log (diffF F fs).length := if_neg ht
  have h2 : 2 ≤ homeL F.log := by unfold homeL; omega
  have ho : ∀ j, j ≠ 0 → setAll (setAll g (diffF F fs)) (headL (nextL F.log (diffF F fs).length)) j = setAll g (diffF F fs) j := fun j hj => setAll_out fun p hp e => by
    unfold headL at hp
    rw [List.mem_singleton.1 hp] at e
    exact hj e.symm
  have hlow : ∀ p ∈ headL (nextL F.log (diffF F fs).length), p.1 < firstF F := fun p hp => by unfold headL at hp; rw [List.mem_singleton.1 hp]; unfold firstF; simp only; omega
  refine ⟨⟨?_, ?_, fun i hi => ?_⟩, fun n hn => ?_, keeps_low hlow hm.keeps, has_low h hlow hm.has⟩
  · rw [hlog]; exact setAll_in ⟨_, List.mem_singleton.2 rfl, rfl⟩ fun p hp _ => by rw [List.mem_singleton.1 hp]
  · rw [hlog, show homeL (nextL F.log (diffF F fs).length) = homeL F.log from rfl, ho _ (by omega)]; exact hm.top
  · rw [hlog, show homeL (nextL F.log (diffF F fs).length) = homeL F.log from rfl, ho _ (by omega)]; exact hall i hi
  · rw [hlog, ho 1 (by omega), hm.mark]
    have := hF.seq
    exact mark_ne (by omega) (by show F.log.seq + 1 < _; omega) (by show F.log.seq ≠ F.log.seq + 1; omega)
/-- The mark is set. -/
theorem old_mrk (h : Plan F bl fs) (hF : FInv q F) {g : Nat → Sec} (hg : Old F g) (hb : Has bl g) (hc : Has (changeL F.log (diffF F fs)) g) : Mrk F bl fs (setAll g [(1, markB F.log.seq F.log.pos (diffF F fs).length)]) := by
  have ho : ∀ j, j ≠ 1 → setAll g [(1, markB F.log.seq F.log.pos (diffF F fs).length)] j = g j := fun j hj => setAll_out fun p hp e => by
    rw [List.mem_singleton.1 hp] at e
    exact hj e.symm
  have h2 : 2 ≤ homeL F.log := by unfold homeL; omega
  have hlow : ∀ p ∈ [(1, markB F.log.seq F.log.pos (diffF F fs).length)], p.1 < firstF F := fun p hp => by rw [List.mem_singleton.1 hp]; unfold firstF; simp only; omega
  refine ⟨?_, setAll_in ⟨_, List.mem_singleton.2 rfl, rfl⟩ fun p hp _ => by rw [List.mem_singleton.1 hp], ?_, fun p hp => ?_, fun i hi => ?_, keeps_low hlow hg.2.2, has_low h hlow hb⟩
  · rw [ho 0 (by omega)]; exact hg.1.head
  · rw [ho _ (by omega)]; exact hg.1.top
  · rw [ho _ (by have := (ring_key hF hp).1; omega)]; exact hc p hp
  · rw [ho _ (by omega), hg.1.tab i hi]
    by_cases e : (sectorsB F.mt F.files).getD i [] = (sectorsB F.mt fs).getD i []
    · exact .inl e
    · exact .inr (differ_mem.2 ⟨i, by rw [sectors_len hF.tlen]; exact hi, e, rfl⟩)
/-- Behind all stages. -/
theorem stages_new (h : Plan F bl fs) (hF : FInv q F) (hq : q < 2 ^ 47) : New F bl fs (setAll F.disk.now (stagesF F bl fs).flatten) := by
  have h0 : Old F F.disk.now := ⟨hF.lies, hF.un, fun _ _ => rfl⟩
  have hb : (if bl = [] then [] else [bl] : List Puts).flatten = bl := by split <;> simp_all
  have h1 := old_blocks h hF (List.Sublist.refl _) h0
  have h2 : Has bl (setAll F.disk.now bl) := fun p hp => setAll_each h.nodup p hp
  unfold stagesF
  rw [List.flatten_append, hb, setAll_app]
  generalize setAll F.disk.now bl = g at *
  by_cases ht : diffF F fs = []
  · unfold commitP
    rw [if_pos ht]
    have hlog : logF F fs = F.log := if_pos ht
    refine ⟨⟨?_, ?_, fun i hi => ?_⟩, ?_, h1.2.2, h2⟩
    · rw [hlog]; exact h1.1.head
    · rw [hlog]; exact h1.1.top
    · rw [hlog]
      show g _ = _
      rw [h1.1.tab i hi]
      by_cases e : (sectorsB F.mt F.files).getD i [] = (sectorsB F.mt fs).getD i []
      · exact e
      · have : (homeL F.log + 1 + i, (sectorsB F.mt fs).getD i []) ∈ diffF F fs := differ_mem.2 ⟨i, by rw [sectors_len hF.tlen]; exact hi, e, rfl⟩
        rw [ht] at this; cases this
    · rw [hlog]; exact h1.2.1
  · unfold commitP
    rw [if_neg ht]
    simp only [List.flatten_cons, List.flatten_nil, List.append_nil, setAll_app]
    have h3 := old_ring h hF (fun p hp => ring_key hF hp) h1 (s := changeL F.log (diffF F fs))
    have h4 : Has bl (setAll g (changeL F.log (diffF F fs))) := has_low h (fun p hp => by have := (ring_key hF hp).2; unfold firstF; omega) h2
    have h5 : Has (changeL F.log (diffF F fs)) (setAll g (changeL F.log (diffF F fs))) := fun p hp => setAll_each (chg_nodup (List.length_pos_iff.2 ht) h.room) p hp
    exact mrk_new h hF hq ht (old_mrk h hF h3 h4 h5)
/-- Where a fall came in the midst. -/
theorem stages_cut (h : Plan F bl fs) (hF : FInv q F) (hq : q < 2 ^ 47) {g : Nat → Sec} (hc : Cut F.disk.now (stagesF F bl fs) g) : Old F g ∨ (diffF F fs ≠ [] ∧ (Mrk F bl fs g ∨ New F bl fs g)) := by
  obtain ⟨a, l, b, s, hL, hs, rfl⟩ := hc
  have h0 : Old F F.disk.now := ⟨hF.lies, hF.un, fun _ _ => rfl⟩
  have hb0 : (if bl = [] then [] else [bl] : List Puts).flatten = bl := by split <;> simp_all
  have h1 := old_blocks h hF (List.Sublist.refl _) h0
  have h2 : Has bl (setAll F.disk.now bl) := fun p hp => setAll_each h.nodup p hp
  unfold stagesF at hL
  rcases List.append_eq_append_iff.1 hL with ⟨c, rfl, e2⟩ | ⟨c, e1, e2⟩
  · -- behind the blocks
    rw [List.flatten_append, hb0, setAll_app]
    generalize setAll F.disk.now bl = g at *
    by_cases ht : diffF F fs = []
    · unfold commitP at e2
      rw [if_pos ht] at e2
      cases c <;> cases e2
    · unfold commitP at e2
      rw [if_neg ht] at e2
      have h3 := old_ring h hF (fun p hp => ring_key hF hp) h1 (s := changeL F.log (diffF F fs))
      have h4 : Has bl (setAll g (changeL F.log (diffF F fs))) := has_low h (fun p hp => by have := (ring_key hF hp).2; unfold firstF; omega) h2
      have h5 : Has (changeL F.log (diffF F fs)) (setAll g (changeL F.log (diffF F fs))) := fun p hp => setAll_each (chg_nodup (List.length_pos_iff.2 ht) h.room) p hp
      have h6 := old_mrk h hF h3 h4 h5
      match c, e2 with
      | [], e2 =>
        simp only [List.nil_append, List.cons.injEq] at e2
        obtain ⟨rfl, -⟩ := e2
        left
        exact old_ring h hF (fun p hp => ring_key hF (hs.subset hp)) h1
      | [c1], e2 =>
        simp only [List.cons_append, List.nil_append, List.cons.injEq] at e2
        obtain ⟨rfl, rfl, -⟩ := e2
        simp only [List.flatten_cons, List.flatten_nil, List.append_nil]
        rcases sub_one hs with rfl | rfl
        · left; exact h3
        · exact .inr ⟨ht, .inl h6⟩
      | [c1, c2], e2 =>
        simp only [List.cons_append, List.nil_append, List.cons.injEq] at e2
        obtain ⟨rfl, rfl, rfl, -⟩ := e2
        simp only [List.flatten_cons, List.flatten_nil, List.append_nil, setAll_app]
        exact .inr ⟨ht, .inl (mrk_tab h hF hs h6)⟩
      | [c1, c2, c3], e2 =>
        simp only [List.cons_append, List.nil_append, List.cons.injEq] at e2
        obtain ⟨rfl, rfl, rfl, rfl, -⟩ := e2
        simp only [List.flatten_cons, List.flatten_nil, List.append_nil, setAll_app]
        have h7 := mrk_new h hF hq ht h6
        have h8 := mrk_tab h hF (List.Sublist.refl _) h6
        unfold headL at hs
        rcases sub_one hs with rfl | rfl
        · exact .inr ⟨ht, .inl h8⟩
        · exact .inr ⟨ht, .inr h7⟩
      | c1 :: c2 :: c3 :: c4 :: c5, e2 =>
        simp only [List.cons_append, List.cons.injEq] at e2
        obtain ⟨-, -, -, -, e2⟩ := e2
        cases c5 <;> cases e2
  · -- within the blocks, or right behind them
    split at e1
    · rename_i hbn
      obtain ⟨rfl, rfl⟩ : a = [] ∧ c = [] := by simpa using e1.symm
      subst hbn
      simp only [List.nil_append] at e2
      by_cases ht : diffF F fs = []
      · unfold commitP at e2
        rw [if_pos ht] at e2
        cases e2
      · unfold commitP at e2
        rw [if_neg ht] at e2
        simp only [List.cons.injEq] at e2
        obtain ⟨rfl, -⟩ := e2
        left
        exact old_ring h hF (fun p hp => ring_key hF (hs.subset hp)) h0
    · match a, e1 with
      | [], e1 =>
        simp only [List.nil_append] at e1
        subst e1
        simp only [List.cons_append, List.cons.injEq] at e2
        obtain ⟨rfl, -⟩ := e2
        left
        exact old_blocks h hF hs h0
      | [a1], e1 =>
        simp only [List.cons_append, List.nil_append, List.cons.injEq] at e1
        obtain ⟨rfl, rfl⟩ := e1
        simp only [List.nil_append] at e2
        simp only [List.flatten_cons, List.flatten_nil, List.append_nil]
        by_cases ht : diffF F fs = []
        · unfold commitP at e2
          rw [if_pos ht] at e2
          cases e2
        · unfold commitP at e2
          rw [if_neg ht] at e2
          simp only [List.cons.injEq] at e2
          obtain ⟨rfl, -⟩ := e2
          left
          exact old_ring h hF (fun p hp => ring_key hF (hs.subset hp)) h1
      | a1 :: a2 :: a3, e1 => simp at e1
end
end Go.Aq.Fy

/- What a change comes to, with and without a fall, and what an opening finds: plain. No statement of the seat is proved here. -/
namespace Go.Aq.Fy
open Go.Aq Go.RowKit
/-- A file's bytes on sectors g. -/
def bytesG (first : Nat) (g : Nat → Sec) (x : FileD) : Sec := (x.blocks.flatMap fun k => g (first + k)).take x.size
theorem bytesB_G (F : FsD) (x : FileD) : bytesB F x = bytesG (firstF F) F.disk.now x := rfl
def viewG (first : Nat) (g : Nat → Sec) (fs : Files) : View := mapK (fun _ x => bytesG first g x) fs
/-- Names and bytes of files. -/
def viewF (F : FsD) : View := viewG (firstF F) F.disk.now F.files
theorem view_start (F : FsD) : viewW (bytesB F) ⟨F.files, []⟩ = viewF F := rfl
theorem bytesG_eq {first : Nat} {g g' : Nat → Sec} {x : FileD} (h : ∀ k ∈ x.blocks, g (first + k) = g' (first + k)) : bytesG first g x = bytesG first g' x := by
  unfold bytesG
  congr 1
  induction hb : x.blocks with
  | nil => rfl
  | cons k l ih =>
    rw [hb] at h
    have : ∀ (l : List Nat), (∀ k ∈ l, g (first + k) = g' (first + k)) → (l.flatMap fun k => g (first + k)) = l.flatMap fun k => g' (first + k) := by
      intro l hl
      induction l with
      | nil => rfl
      | cons k l ih => rw [List.flatMap_cons, List.flatMap_cons, hl k (.head _), ih fun j hj => hl j (.tail _ hj)]
    exact this _ h
theorem viewG_eq {first : Nat} {g g' : Nat → Sec} {fs : Files} (h : ∀ k ∈ blks fs, g (first + k) = g' (first + k)) : viewG first g fs = viewG first g' fs := by
  unfold viewG mapK
  refine List.map_congr_left fun p hp => ?_
  have := bytesG_eq (first := first) (x := p.2) fun k hk => h k (List.mem_flatMap.2 ⟨p, hp, hk⟩)
  simp only [this]
/-- Which errors a change may come to by itself. -/
def ErrV (e : Nat) : Prop := e = 0 ∨ e = 16 ∨ e = 10 ∨ e = 7 ∨ e = 6 ∨ e = 1
theorem oneV_err (v : View) (c : ChangeD) : ErrV (oneV v c).2 ∧ ((oneV v c).2 ≠ 0 → (oneV v c).1 = v) := by
  have ht : ∀ s b, ErrV (tellV v s b).2 ∧ ((tellV v s b).2 ≠ 0 → (tellV v s b).1 = v) := fun s b => by
    unfold tellV
    split <;> simp [ErrV]
  have hr : ∀ s t, ErrV (renameV v s t).2 ∧ ((renameV v s t).2 ≠ 0 → (renameV v s t).1 = v) := fun s t => by
    unfold renameV
    repeat' split
    all_goals simp [ErrV]
  unfold oneV
  repeat' split
  all_goals first | exact ht _ _ | exact hr _ _ | simp [ErrV]
theorem allV_err : ∀ (l : List ChangeD) (v : View), ErrV (allV v l).2
  | [], v => .inl rfl
  | c :: l, v => by
    unfold allV
    split
    · exact allV_err l _
    · exact (oneV_err v c).1
theorem firstF_le {q : Nat} {F : FsD} (h : FInv q F) : firstF F + allF F = F.disk.n := by
  have := h.geo.first
  unfold allF firstF
  omega
/-- What changes come to. -/
theorem prep_plan {q : Nat} {F : FsD} (h : FInv q F) (l : List ChangeD) :
    (∃ e, prepF F l = (e, [], [], F.log) ∧ e ≠ 0 ∧ (e = (allV (viewF F) l).2 ∨ ((allV (viewF F) l).2 = 0 ∧ (e = 8 ∨ e = 9)))) ∨
    ((allV (viewF F) l).2 = 0 ∧ ∃ bl fs, prepF F l = (0, stagesF F bl fs, fs, logF F fs) ∧ Plan F bl fs ∧
      (∀ s, lookK s (allW F ⟨F.files, []⟩ l).1.fresh = none → lookK s fs = lookK s (allW F ⟨F.files, []⟩ l).1.files) ∧
      ∀ g, Keeps F g → Has bl g → viewG (firstF F) g fs = (allV (viewF F) l).1) := by
  obtain ⟨hW, hv, he⟩ := all_step (F := F) l (WorkOk.start h.files)
  rw [view_start] at hv he
  generalize hr : allW F ⟨F.files, []⟩ l = r at *
  unfold prepF
  simp only [hr]
  by_cases h1 : r.2 ≠ 0
  · rw [if_pos h1]
    exact .inl ⟨_, rfl, h1, .inl he⟩
  · have h1' : r.2 = 0 := by omega
    rw [if_neg h1]
    have e0 : (allV (viewF F) l).2 = 0 := by rw [← he]; exact h1'
    by_cases h2 : (freeF F).length < needW r.1.fresh
    · rw [if_pos h2]
      exact .inl ⟨8, rfl, by decide, .inr ⟨e0, .inl rfl⟩⟩
    · rw [if_neg h2]
      by_cases h3 : F.mt * 256 < (tableB (placeF r.1.fresh (freeF F) r.1.files)).length
      · rw [if_pos h3]
        exact .inl ⟨8, rfl, by decide, .inr ⟨e0, .inl rfl⟩⟩
      · rw [if_neg h3]
        by_cases h4 : F.log.ring < need (differB (homeL F.log + 1) (sectorsB F.mt F.files) (sectorsB F.mt (placeF r.1.fresh (freeF F) r.1.files))).length
        · rw [if_pos h4]
          exact .inl ⟨9, rfl, by decide, .inr ⟨e0, .inr rfl⟩⟩
        · rw [if_neg h4]
          have hp := PlaceOk.start h.files hW (Nat.not_lt.1 h2)
          obtain ⟨p1, p2, p3, p4⟩ := place_ok (first := firstF F) hp
          have hfl := firstF_le h
          refine .inr ⟨e0, placeP (firstF F) r.1.fresh (freeF F), placeF r.1.fresh (freeF F) r.1.files, rfl, ⟨fun p hp => ?_, ?_, ?_, Nat.not_lt.1 h4, Nat.not_lt.1 h3, p1⟩, p2, fun g hk hb => ?_⟩
          · have h5 : p.1 ∈ (placeP (firstF F) r.1.fresh (freeF F)).map (·.1) := List.mem_map_of_mem hp
            rw [placeP_keys] at h5
            obtain ⟨k, h6, h7⟩ := List.mem_map.1 h5
            exact ⟨k, List.mem_of_mem_take h6, h7.symm⟩
          · rw [placeP_keys]
            have h5 : ((freeF F).take (needW r.1.fresh)).Nodup := (List.take_sublist _ _).nodup (List.Pairwise.filter _ List.nodup_range)
            exact List.pairwise_map.2 (h5.imp fun {a b} hab e => hab (by omega))
          · rw [← hfl]
            refine placeP_ok fun k hk => ?_
            unfold freeF at hk
            exact List.mem_range.1 (List.mem_filter.1 hk).1
          · rw [← hv]
            refine asc_ext (mapK_asc p1.asc) (mapK_asc hW.asc) fun s => ?_
            unfold viewG
            rw [mapK_look, view_look]
            cases hf : lookK s r.1.fresh with
            | none =>
              rw [p2 s hf]
              cases hx : lookK s r.1.files with
              | none => rfl
              | some x =>
                simp only [Option.map_some, bytesB_G]
                rw [bytesG_eq fun k hk' => hk k (hW.used k (List.mem_flatMap.2 ⟨(s, x), look_mem hx, hk'⟩))]
            | some b =>
              obtain ⟨ks, k1, k2, k3⟩ := p3 s b hf
              rw [k1, (hW.sub s b hf).1]
              simp only [Option.map_some]
              congr 1
              exact placed_bytes k2 fun p hp => hb p (k3 p hp)
/-- The files behind a change that was done whole. -/
theorem new_inv {q : Nat} {F : FsD} {bl : Puts} {fs : Files} (h : FInv q F) (hp : Plan F bl fs) {D : DiskD} (hn : D.n = F.disk.n) (hr : Rest D) (hg : New F bl fs D.now) : FInv (q + 1) ⟨D, logF F fs, F.mt, fs⟩ := by
  have e1 : (logF F fs).ring = F.log.ring := by unfold logF; split <;> rfl
  have e2 : (logF F fs).pos < F.log.ring := by
    unfold logF; split
    · exact h.geo.pos
    · exact Nat.mod_lt _ h.geo.ring
  have e3 : (logF F fs).seq ≤ q + 1 := by
    have := h.seq
    unfold logF; split
    · omega
    · show F.log.seq + 1 ≤ _; omega
  have e4 : homeL (logF F fs) = homeL F.log := by unfold homeL; rw [e1]
  have e5 : allF ⟨D, logF F fs, F.mt, fs⟩ = allF F := by unfold allF firstF; simp only [e4, hn]
  refine ⟨⟨by rw [hn]; exact h.geo.n, by rw [e1]; exact h.geo.ring, by rw [e1]; exact e2, h.geo.mt, by rw [e4, hn]; exact h.geo.first⟩, hr, e3, hg.1, hg.2.1, hp.tlen, by rw [e5]; exact hp.ok⟩
theorem logF_first {F : FsD} {fs : Files} (D : DiskD) (m : Files) : firstF ⟨D, logF F fs, F.mt, m⟩ = firstF F := by
  unfold firstF homeL logF
  split <;> rfl
theorem old_inv {q : Nat} {F : FsD} (h : FInv q F) {D : DiskD} (hn : D.n = F.disk.n) (hr : Rest D) (hg : Old F D.now) : FInv q { F with disk := D } :=
  ⟨⟨by rw [hn]; exact h.geo.n, h.geo.ring, h.geo.pos, h.geo.mt, by rw [hn]; exact h.geo.first⟩, hr, h.seq, hg.1, hg.2.1, h.tlen, by
    have : allF { F with disk := D } = allF F := by unfold allF firstF; simp only [hn]
    rw [this]; exact h.files⟩
theorem old_view {F : FsD} {D : DiskD} (hg : Keeps F D.now) : viewF { F with disk := D } = viewF F := viewG_eq hg
/-- How a change goes where no fall comes, and where one comes. -/
theorem do_any {q : Nat} {F : FsD} (h : FInv q F) (hq : q < 2 ^ 47) (l : List ChangeD) :
    (∃ e, doF F l = (F, e) ∧ e ≠ 0 ∧ (e = (allV (viewF F) l).2 ∨ ((allV (viewF F) l).2 = 0 ∧ (e = 8 ∨ e = 9)))) ∨
    ((allV (viewF F) l).2 = 0 ∧ ∃ bl fs, Plan F bl fs ∧
      (∀ s, lookK s (allW F ⟨F.files, []⟩ l).1.fresh = none → lookK s fs = lookK s (allW F ⟨F.files, []⟩ l).1.files) ∧
      (∀ g, Keeps F g → Has bl g → viewG (firstF F) g fs = (allV (viewF F) l).1) ∧
      ((∃ D, doF F l = (⟨D, logF F fs, F.mt, fs⟩, 0) ∧ D.n = F.disk.n ∧ Rest D ∧ New F bl fs D.now ∧ (F.disk.falls = 0 → D.falls = 0)) ∨
       ∃ D, doF F l = ({ F with disk := D }, 12) ∧ D.n = F.disk.n ∧ D.pend = [] ∧ D.dur = D.now ∧ D.falls = 0 ∧ D.down = true ∧ F.disk.falls ≠ 0 ∧ (∀ k, (D.now k).length = 256) ∧ (Old F D.now ∨ (diffF F fs ≠ [] ∧ (Mrk F bl fs D.now ∨ New F bl fs D.now))))) := by
  rcases prep_plan h l with ⟨e, h1, h2, h3⟩ | ⟨h1, bl, fs, h2, h3, h4, h5⟩
  · left
    refine ⟨e, ?_, h2, h3⟩
    unfold doF
    simp only [h1]
    rw [if_pos h2]
  · right
    refine ⟨h1, bl, fs, h3, h4, h5, ?_⟩
    have hok := h3.stagesOk h
    unfold doF
    simp only [h2]
    rw [if_neg (by simp)]
    by_cases hf : F.disk.falls = 0
    · obtain ⟨k, hk⟩ := runP_calm _ _ h.rest hf hok
      left
      rw [hk]
      simp only [if_true]
      refine ⟨_, rfl, rfl, ⟨h.rest.pend, rfl, h.rest.up, ?_⟩, stages_new h3 h hq, fun e => e⟩
      refine setAll_len (n := F.disk.n) h.rest.len fun p hp => ?_
      obtain ⟨m, hm, hp⟩ := List.mem_flatten.1 hp
      exact hok m hm p hp
    · rcases runP_fall _ _ h.rest hok with ⟨k, f, hk, -⟩ | ⟨k, g, hc, hk⟩
      · left
        rw [hk]
        simp only [if_true]
        refine ⟨_, rfl, rfl, ⟨h.rest.pend, rfl, h.rest.up, ?_⟩, stages_new h3 h hq, fun e => absurd e hf⟩
        refine setAll_len (n := F.disk.n) h.rest.len fun p hp => ?_
        obtain ⟨m, hm, hp⟩ := List.mem_flatten.1 hp
        exact hok m hm p hp
      · right
        rw [hk]
        simp only [show ¬ ((12 : Nat) = 0) by decide, if_false]
        exact ⟨_, rfl, rfl, rfl, rfl, rfl, rfl, hf, hc.len h.rest.len hok, stages_cut h3 h hq hc⟩
/-- A disk at some point of a change. -/
structure Phase (F : FsD) (bl : Puts) (fs : Files) (D : DiskD) : Prop where
  n : D.n = F.disk.n
  pend : D.pend = []
  dur : D.dur = D.now
  len : ∀ k, (D.now k).length = 256
  at_ : Old F D.now ∨ (diffF F fs ≠ [] ∧ (Mrk F bl fs D.now ∨ New F bl fs D.now))
theorem Phase.crash {F : FsD} {bl : Puts} {fs : Files} {D : DiskD} (h : Phase F bl fs D) (m : Sec) : Phase F bl fs (crashD D m) := by
  unfold crashD
  split
  · exact h
  · rw [h.pend]
    have : crashS m 0 D.dur [] = D.now := h.dur
    rw [this]
    exact ⟨h.n, rfl, rfl, h.len, h.at_⟩
theorem Phase.crashAt {F : FsD} {bl : Puts} {fs : Files} {D : DiskD} (h : Phase F bl fs D) (k : Nat) (m : Sec) : Phase F bl fs (crashAt D k m) := ⟨h.n, h.pend, h.dur, h.len, h.at_⟩
theorem Phase.reboot {F : FsD} {bl : Puts} {fs : Files} {D : DiskD} (h : Phase F bl fs D) : Phase F bl fs (reboot D) := ⟨h.n, h.pend, h.dur, h.len, h.at_⟩
/-- What an opening finds and makes. -/
structure Opens (q : Nat) (F : FsD) (bl : Puts) (fs : Files) (D : DiskD) (L : LogD) : Prop where
  head : D.now 0 = headB L.ring L.seq L.pos
  of : headOf (D.now 0) = L
  ring : 1 ≤ L.ring ∧ L.ring + 4 ≤ D.n ∧ L.pos < L.ring ∧ L.seq ≤ q + 1
  home : ∀ i, i < markedN D L → atHome D L (readAt D L i) = true
  after : Phase F bl fs (runP D (redoP D L)).1
  good : (runP D (redoP D L)).2 = 0 → (∃ F', F'.disk = (runP D (redoP D L)).1 ∧ F'.log = (if markedN D L = 0 then L else nextL L (markedN D L)) ∧ F'.mt = F.mt ∧ FInv (q + 1) F' ∧
    ((F'.files = F.files ∧ viewF F' = viewF F) ∨ (F'.files = fs ∧ viewF F' = viewG (firstF F) (runP D (redoP D L)).1.now fs ∧ Keeps F (runP D (redoP D L)).1.now ∧ Has bl (runP D (redoP D L)).1.now)))
  calm : D.falls = 0 → (runP D (redoP D L)).2 = 0
theorem FInv.more {q : Nat} {F : FsD} (h : FInv q F) : FInv (q + 1) F := ⟨h.geo, h.rest, by have := h.seq; omega, h.lies, h.un, h.tlen, h.files⟩
theorem Phase.opens {q : Nat} {F : FsD} {bl : Puts} {fs : Files} {D : DiskD} (h : Phase F bl fs D) (hF : FInv q F) (hp : Plan F bl fs) (hq : q + 1 < 2 ^ 47) (hu : D.down = false) : ∃ L, Opens q F bl fs D L := by
  have hrest : Rest D := ⟨h.pend, h.dur, hu, h.len⟩
  have hgeo := hF.geo
  have hfirst := hgeo.first
  have hn4 := hgeo.n
  have hring := hgeo.ring
  have hpos := hgeo.pos
  have hseq := hF.seq
  have hr4 : F.log.ring + 4 ≤ D.n := by rw [h.n]; unfold homeL at hfirst; have := hgeo.mt; omega
  have hrlt : F.log.ring < 65536 := by have := h.n; omega
  have calm : ∀ {L : LogD}, D.now 0 = headB L.ring L.seq L.pos → L.ring = F.log.ring → L.pos < L.ring → L.seq ≤ q + 1 → Unmarked D.now L →
      (∃ F', F'.disk = D ∧ F'.log = L ∧ F'.mt = F.mt ∧ FInv (q + 1) F' ∧ ((F'.files = F.files ∧ viewF F' = viewF F) ∨ (F'.files = fs ∧ viewF F' = viewG (firstF F) D.now fs ∧ Keeps F D.now ∧ Has bl D.now))) → Opens q F bl fs D L := by
    intro L h1 h2 h3 h4 h5 h6
    have hm := unmarked_n h5
    have hr : redoP D L = [] := by unfold redoP; simp only [hm, if_true]
    have hrun : runP D (redoP D L) = (D, 0) := by rw [hr]; rfl
    refine ⟨h1, by rw [h1]; exact head_of (by omega) (by omega) (by omega), ⟨by omega, by omega, h3, h4⟩, fun i hi => by rw [hm] at hi; omega, by rw [hrun]; exact h, fun _ => ?_, fun _ => by rw [hrun]⟩
    rw [hrun, hm]
    simpa using h6
  rcases h.at_ with ho | ⟨hd, hm | hn⟩
  · exact ⟨F.log, calm ho.1.head rfl hpos (by omega) ho.2.1 ⟨{ F with disk := D }, rfl, rfl, rfl, (old_inv hF h.n hrest ho).more, .inl ⟨rfl, old_view ho.2.2⟩⟩⟩
  · -- the mark is set
    refine ⟨F.log, ?_⟩
    obtain ⟨t, ht⟩ : ∃ t, diffF F fs = t := ⟨_, rfl⟩
    have hlen : t.length ≤ 200 := by
      have := differ_len (homeL F.log + 1) (sectorsB F.mt F.files) (sectorsB F.mt fs)
      rw [sectors_len hF.tlen] at this
      have h2 := hgeo.mt
      rw [← ht]; unfold diffF; omega
    have hpos' : 0 < t.length := by rw [← ht]; exact List.length_pos_iff.2 hd
    have hroom := hp.room
    have hmk : markedN D F.log = t.length := marked_n (by rw [hm.mark, ht]) (by omega) (by rw [← ht]; exact hroom)
    have hkey : ∀ p ∈ t, ∃ i, i < F.mt ∧ p = (homeL F.log + 1 + i, (sectorsB F.mt fs).getD i []) := fun p hp' => hp.tkey hF (by rw [ht]; exact hp')
    have hrd : readL D F.log t.length = t := read_change rfl hpos' (fun p hp' => by obtain ⟨i, hi, rfl⟩ := hkey p hp'; simp only; omega) (by have := hm.ring; rw [ht] at this; exact this)
    have hhome : ∀ p ∈ t, atHome D F.log p.1 = true := fun p hp' => by
      obtain ⟨i, hi, rfl⟩ := hkey p hp'
      unfold atHome
      simp only [Bool.and_eq_true, decide_eq_true_eq]
      rw [h.n]
      omega
    have hredo : redoP D F.log = [t, headL (nextL F.log t.length)] := by
      unfold redoP
      simp only [hmk]
      rw [if_neg (by omega), hrd, if_pos (List.all_eq_true.2 hhome)]
    have hokL : ∀ l ∈ redoP D F.log, OkP D.n l := by
      rw [hredo]
      intro l hl
      simp only [List.mem_cons, List.not_mem_nil, or_false] at hl
      rcases hl with rfl | rfl
      · rw [h.n, ← ht]; exact hp.tok hF
      · intro p hp'; unfold headL at hp'; rw [List.mem_singleton.1 hp']; exact ⟨by simp only; omega, headB_length _ _ _⟩
    have hnew := mrk_new hp hF (by omega) hd hm
    rw [ht] at hnew
    have hflat : (redoP D F.log).flatten = t ++ headL (nextL F.log t.length) := by rw [hredo]; simp
    have hlog : logF F fs = nextL F.log t.length := by unfold logF; rw [if_neg hd, ht]
    have hgood : ∀ D' : DiskD, D'.n = D.n → Rest D' → D'.now = setAll D.now (redoP D F.log).flatten → Phase F bl fs D' ∧ ∃ F', F'.disk = D' ∧ F'.log = nextL F.log t.length ∧ F'.mt = F.mt ∧ FInv (q + 1) F' ∧
        ((F'.files = F.files ∧ viewF F' = viewF F) ∨ (F'.files = fs ∧ viewF F' = viewG (firstF F) D'.now fs ∧ Keeps F D'.now ∧ Has bl D'.now)) := by
      intro D' h1 h2 h3
      rw [hflat, setAll_app] at h3
      rw [← h3] at hnew
      refine ⟨⟨by rw [h1, h.n], h2.pend, h2.dur, h2.len, .inr ⟨hd, .inr hnew⟩⟩, ⟨D', logF F fs, F.mt, fs⟩, rfl, hlog, rfl, new_inv hF hp (by rw [h1, h.n]) h2 hnew, .inr ⟨rfl, ?_, hnew.2.2.1, hnew.2.2.2⟩⟩
      unfold viewF
      rw [logF_first]
    have hl2 : ∀ k, (setAll D.now (redoP D F.log).flatten k).length = 256 := setAll_len (n := D.n) h.len fun p hp' => by
      obtain ⟨m, hm', hp'⟩ := List.mem_flatten.1 hp'
      exact hokL m hm' p hp'
    have hhm : ∀ i, i < markedN D F.log → atHome D F.log (readAt D F.log i) = true := fun i hi => by
      rw [hmk] at hi
      have e : (readL D F.log t.length)[i]'(by simp [readL]; exact hi) = (readAt D F.log i, D.now (inL F.log (need t.length - t.length + i))) := by simp [readL]
      have h1 := hhome _ (List.getElem_mem hi)
      have e2 : t[i] = (readAt D F.log i, D.now (inL F.log (need t.length - t.length + i))) := by
        rw [← e]
        congr 1
        exact hrd.symm
      rw [e2] at h1
      exact h1
    have hhead : headOf (D.now 0) = F.log := by rw [hm.head]; exact head_of (by omega) (by omega) (by omega)
    by_cases hf : D.falls = 0
    · obtain ⟨k, hk⟩ := runP_calm _ _ hrest hf hokL
      obtain ⟨g1, g2⟩ := hgood { D with writes := k, now := setAll D.now (redoP D F.log).flatten, dur := setAll D.now (redoP D F.log).flatten } rfl ⟨h.pend, rfl, hu, hl2⟩ rfl
      refine ⟨hm.head, hhead, ⟨by omega, hr4, hpos, by omega⟩, hhm, by rw [hk]; exact g1, fun _ => ?_, fun _ => by rw [hk]⟩
      rw [hk, hmk, if_neg (by omega)]
      exact g2
    · rcases runP_fall _ _ hrest hokL with ⟨k, f, hk, -⟩ | ⟨k, g, hc, hk⟩
      · obtain ⟨g1, g2⟩ := hgood { D with writes := k, now := setAll D.now (redoP D F.log).flatten, dur := setAll D.now (redoP D F.log).flatten, falls := f } rfl ⟨h.pend, rfl, hu, hl2⟩ rfl
        refine ⟨hm.head, hhead, ⟨by omega, hr4, hpos, by omega⟩, hhm, by rw [hk]; exact g1, fun _ => ?_, fun e => absurd e hf⟩
        rw [hk, hmk, if_neg (by omega)]
        exact g2
      · refine ⟨hm.head, hhead, ⟨by omega, hr4, hpos, by omega⟩, hhm, ?_, fun e => ?_, fun e => absurd e hf⟩
        · rw [hk]
          refine ⟨h.n, rfl, rfl, hc.len h.len hokL, .inr ⟨hd, ?_⟩⟩
          obtain ⟨a, l, b, s, hL, hs, hg⟩ := hc
          rw [hredo] at hL
          match a, hL with
          | [], hL =>
            simp only [List.nil_append, List.cons.injEq] at hL
            obtain ⟨rfl, -⟩ := hL
            left
            simp only
            rw [hg]
            exact mrk_tab hp hF (by rw [ht]; exact hs) hm
          | [a1], hL =>
            simp only [List.cons_append, List.nil_append, List.cons.injEq] at hL
            obtain ⟨rfl, rfl, -⟩ := hL
            simp only [List.flatten_cons, List.flatten_nil, List.append_nil] at hg
            simp only
            unfold headL at hs
            rcases sub_one hs with rfl | rfl
            · left
              rw [hg]
              have := mrk_tab hp hF (List.Sublist.refl _) hm
              rw [ht] at this
              exact this
            · right
              rw [hg]
              exact hnew
          | a1 :: a2 :: a3, hL =>
            simp only [List.cons_append, List.cons.injEq] at hL
            obtain ⟨-, -, hL⟩ := hL
            cases a3 <;> cases hL
        · rw [hk] at e
          cases e
  · have hlog : logF F fs = nextL F.log (diffF F fs).length := if_neg hd
    have e1 : (logF F fs).ring = F.log.ring := by rw [hlog]; rfl
    refine ⟨logF F fs, calm hn.1.head e1 (by rw [hlog]; exact Nat.mod_lt _ hring) (by rw [hlog]; show F.log.seq + 1 ≤ _; omega) hn.2.1 ⟨⟨D, logF F fs, F.mt, fs⟩, rfl, rfl, rfl, new_inv hF hp h.n hrest hn, .inr ⟨rfl, ?_, hn.2.2.1, hn.2.2.2⟩⟩⟩
    unfold viewF
    rw [logF_first]
end Go.Aq.Fy

