/- Contracts of package refs: Encode; aqulaw21.first. No statement of the seat is proved here. -/
import Derived.Test.YtihoohhngiomdaaDoorRefsB
import Derived.Deep.RegionHeld3
import Derived.Laws.IdiomStrings
set_option linter.unusedVariables false
namespace Go.Aq
open Go.RowKit Go.Aq.Wd
/-- A ref's kind as a word. -/
def kindL (t : Bool) : List UInt8 := if t then [116, 97, 103] else [98, 114, 97, 110, 99, 104]
/-- A ref's line. -/
def lineR (r : RefD) : List UInt8 := kindL r.tag ++ [32] ++ (quoteL r.name).1 ++ [32] ++ r.key ++ [10]
def encodeL (l : List RefD) : List UInt8 × Nat := if mayL l then (l.flatMap lineR, 0) else ([], 4)
theorem quoteL_len (l : List UInt8) : (quoteL l).1.length ≤ 6 * l.length + 2 := by
  unfold quoteL
  cases hs : sigs l with
  | none => simp
  | some rs =>
    obtain ⟨he, -⟩ := sigs_enc hs
    have h1 := writs_len rs
    have h2 := encL_len rs
    rw [← he] at h2
    simp only [quoteR, List.length_append, List.length_cons, List.length_nil]
    omega
theorem quoteL_name {l : List UInt8} (h : nameL l = true) : (quoteL l).2 = 0 := by
  unfold nameL at h
  unfold quoteL
  cases hs : sigs l with
  | none => rw [hs] at h; cases h
  | some rs => rfl
theorem blk_others {e e' : TypeId} {b : Nat} {w w' : World} (h : Lib.OthersKept e (some b) w w') {k : Nat} {cs : Array Value} (hb : Blk w k cs e') (hk : k ≠ b) (hne : e' ≠ e) : Blk w' k cs e' :=
  h k _ hb (by simpa using hk) fun c fz hh => hne (by cases hh; rfl)
theorem str_cat (a b : List UInt8) : str a ++ str b = str (a ++ b) := by
  apply ByteArray.ext
  show (str a ++ str b).data = _
  simp [str]
theorem str_catL (a b : List UInt8) : str a ++ ⟨b.toArray⟩ = str (a ++ b) := str_cat a b
/-- Two texts put together. -/
theorem run_cat {P : Program} {a b c : ByteArray} (h : a ++ b = c) (hb : a.size + b.size ≤ 9223372036854775807) (w : World) : (Op.stringOp .add a b).run P w = .ok (.string c) w := by rw [run_string_add_sum w a b hb, h]
theorem lineR_len (r : RefD) (h : r.name.length ≤ 1000000 ∧ r.key.length ≤ 1000000) : (lineR r).length ≤ 8000000 := by
  have h1 := quoteL_len r.name
  unfold lineR
  simp only [List.length_append, List.length_cons, List.length_nil]
  have : (kindL r.tag).length ≤ 6 := by unfold kindL; split <;> simp
  omega
theorem lines_len (l : List RefD) (h : ∀ r ∈ l, r.name.length ≤ 1000000 ∧ r.key.length ≤ 1000000) : (l.flatMap lineR).length ≤ 8000000 * l.length := by
  induction l with
  | nil => simp
  | cons a t ih =>
    have := lineR_len a (h a (by simp))
    have := ih fun r hr => h r (by simp [hr])
    rw [List.flatMap_cons, List.length_append, List.length_cons]; omega
end Go.Aq
namespace Go.Proofs.YtihoohhngiomdaaDoor
open Go.RowKit Go.Aq Go.Aq.Wd
/-- A text's bytes as a new slice. -/
theorem conv_bytes (l : List UInt8) (w : World) : ∃ v w', (convert 9 29 (.string (str l))).run Tryd.prog w = .ok v w' ∧ Sees w' 1 v l.length (Bs l) ∧ (∀ k ∈ eyes v, w.heap.size ≤ k) ∧ Chg [] w w' := by
  have hr := run_bytes_of_string w 9 29 5 (str l) Tryd.underlying9 Tryd.underlying29 Tryd.underlying5
  generalize hcap : grownCap w (str l).size 0 5 = cap at hr
  have hge : (str l).size ≤ cap := by rw [← hcap]; exact grownCap_ge w _ _ _
  rw [str_size] at hr hge
  have hb : (w.drew.alloc (.cells (bytesRow (str l) cap) 5 ((bytesRow (str l) cap).size, (bytesRow (str l) cap).size + 1))).heap[w.heap.size]? = some (.cells (bytesRow (str l) cap) 5 ((bytesRow (str l) cap).size, (bytesRow (str l) cap).size + 1)) := heap_alloc_new w.drew _
  refine ⟨_, _, hr, ⟨by rw [Bs_length, Nat.mul_one], _, _, rfl, hge, by simp, ?_⟩, ?_, ((Chg.refl [] w).drew).alloc _⟩
  · intro ad had j u hu
    cases had
    have hj : j < l.length := by have := (List.getElem?_eq_some_iff.1 hu).1; rwa [Bs_length] at this
    rw [Addr.add_lit, Nat.zero_add]
    simp only [World.cell?, hb]
    rw [← hu]
    simp [bytesRow, str, Bs, Bc, Array.getElem?_append, hj]
  · intro k hk
    simp only [eyes] at hk
    split at hk
    · cases hk
    · simp at hk; omega
set_option maxHeartbeats 4000000 in
theorem encode_any (w : World) (hT : Tabs w) (v : Value) (l : List RefD) (hv : Sees w 3 v l.length (Rfs l)) (hl : l.length ≤ 1000000) (hx : ∀ r ∈ l, r.name.length ≤ 1000000 ∧ r.key.length ≤ 1000000) :
    Calls Tryd.prog 9 #[v] w fun e w' => ∃ v', e = .returned (.tuple #[v', .int .i64 (encodeL l).2]) ∧ Sees w' 1 v' (encodeL l).1.length (Bs (encodeL l).1) ∧ (∀ k ∈ eyes v', w.heap.size ≤ k) ∧ Chg [] w w' := by
  have hma := may_any w hT v l hv hl hx
  cases hM : mayL l with
  | false =>
    have hE : encodeL l = ([], 4) := by unfold encodeL; rw [hM]; rfl
    rw [hE]
    rw [hM] at hma
    clear hE hM
    obtain ⟨ao, cap, rfl, hcap, hno⟩ := hv.shape
    clear hno
    go_enter Tryd.func9, Tryd.ntmps9
    go_wp2_with fail
    refine hma.mono ?_
    rintro e w1 ⟨rfl, c1⟩
    go_wp2_with fail
    go_ret2
    exact ⟨_, rfl, Sees.nil _ _, by simp [eyes], c1⟩
  | true =>
    have hE : encodeL l = (l.flatMap lineR, 0) := by unfold encodeL; rw [hM]; rfl
    rw [hE]
    rw [hM] at hma
    have HMay := Lib.hid hM
    clear hE hM
    obtain ⟨nl, HL⟩ : ∃ n, Hid (l.length = n) := ⟨_, rfl⟩
    rw [HL.out] at hv hl
    obtain ⟨ao, cap, rfl, hcap, hno⟩ := hv.shape
    have HNO := Lib.hid hno; clear hno
    go_enter Tryd.func9, Tryd.ntmps9
    go_wp2_with fail
    refine hma.mono ?_
    rintro e w1 ⟨rfl, c1⟩
    clear hma
    have hI0 : Lib.IsBuilder 48 5 w1.heap.size w1.heap.size (Bs []) (w1.alloc (.cells #[.pointer none, .slice none 0 0] 48)) := Lib.fresh_isBuilder 48 5 w1
    have hB0 : Below w1.heap.size w1 (w1.alloc (.cells #[.pointer none, .slice none 0 0] 48)) := (Below.refl _ w1).alloc (Nat.le_refl _) _
    obtain ⟨B, hB⟩ : ∃ B, w1.heap.size = B := ⟨_, rfl⟩
    rw [hB] at hI0 hB0
    have hz : B < (w1.alloc (.cells #[.pointer none, .slice none 0 0] 48)).heap.size := by simp; omega
    have hv1 := hv.chg0 c1
    have hT1 := hT.chg c1
    have HV := Lib.hid (And.intro hv hv1); clear hv hv1
    go_wp2_with fail
    generalize w1.alloc _ = wz at *
    go_loopg [14] nl (fun k vi wr => ∃ (i : Nat), vi = .int .i64 i ∧ i + k = nl ∧ i ≤ nl ∧ Below B w1 wr ∧ B < wr.heap.size ∧ Lib.IsBuilder 48 5 B B (Bs ((l.take i).flatMap lineR)) wr)
    case atStart => exact ⟨0, rfl, by omega, by omega, hB0, hz, hI0⟩
    case round =>
      obtain ⟨i, rfl, hik, hin, hbw, hBs, hI⟩ := hrel
      have hib : (i : Int) ≤ 1000000 := by omega
      have hlen : l.length ≤ 100 := mayL_len HMay.out
      by_cases hi : i < nl
      · have t1 : decide ((i : Int) < (nl : Int)) = true := by simp; omega
        have t1' : decide (i < nl) = true := by simp; omega
        have hil : i < l.length := by rw [HL.out]; exact hi
        obtain ⟨g, off, cap', hs, -, hgl, hcell⟩ := HV.out.2.cells (by omega)
        simp only [Value.slice.injEq, true_and] at hs
        obtain ⟨rfl, rfl⟩ := hs
        have hcr : Chg [] w1 wr := Chg.of_below (by rw [hB]; exact hbw)
        obtain ⟨x0, x1, x2⟩ := Rfs_cells HL.out hcell i hil
        have y0 := hcr.cell_some x0 (by simp)
        have y1 := hcr.cell_some x1 (by simp)
        have y2 := hcr.cell_some x2 (by simp)
        have hb := hx _ (List.getElem_mem hil)
        have hlr := lineR_len _ hb
        have hts := List.take_succ_eq_append_getElem hil
        have hnm : nameL l[i].name = true := by
          have h := mayL_at HMay.out i hil
          unfold mayAt at h
          rw [show l.getD i default = l[i] by simp [List.getD, hil]] at h
          simp only [Bool.and_eq_true] at h
          exact h.1.1
        have hq2 := quoteL_name hnm
        have htl := lines_len (l.take i) fun r hr => hx r (List.mem_of_mem_take hr)
        rw [List.length_take] at htl
        have hTr := hT1.chg hcr
        have hqa := fun w' (h : Chg [] wr w') => quote_any l[i].name w' (hTr.chg h) (by omega)
        rw [hq2] at hqa
        have hka := fun w' => kind_any l[i] w'
        have hlR : lineR l[i] = kindL l[i].tag ++ [32] ++ (quoteL l[i].name).1 ++ [32] ++ l[i].key ++ [10] := rfl
        obtain ⟨K, hK⟩ : ∃ K, wr.heap.size = K := ⟨_, rfl⟩
        clear x0 x1 x2 hcell hnm hq2
        have hws := fun w4 (h4 : Lib.IsBuilder 48 5 B B (Bs ((l.take i).flatMap lineR)) w4) => wString B B ((l.take i).flatMap lineR) (lineR l[i]) w4 h4 (by omega)
        generalize l[i] = r at *
        obtain ⟨tr, nm, ky⟩ := r
        simp only at y0 y1 y2 hb hqa hlR
        unfold rfV at hka
        simp only at hka
        have hql := quoteL_len nm
        have hkl : (kindL tr).length ≤ 6 := by unfold kindL; split <;> simp
        generalize (quoteL nm).1 = q at *
        change ∀ w', Calls _ _ _ w' fun e w'_1 => e = .returned (.string (str (kindL tr))) ∧ Chg [] w' w'_1 at hka
        rw [hlR] at hws hlr
        generalize kindL tr = kd at *
        have z1 : (str kd).size ≤ 6 := by rw [str_size]; omega
        have z2 : (str q).size ≤ 7000000 := by rw [str_size]; omega
        have z3 : (str ky).size ≤ 1000000 := by rw [str_size]; omega
        have z4 : (str (kd ++ [32])).size ≤ 7 := by rw [str_size, List.length_append]; simp; omega
        have z5 : (str (kd ++ [32] ++ q)).size ≤ 8000000 := by rw [str_size]; simp; omega
        have z6 : (str (kd ++ [32] ++ q ++ [32])).size ≤ 8000000 := by rw [str_size]; simp; omega
        have z7 : (str (kd ++ [32] ++ q ++ [32] ++ ky)).size ≤ 9000000 := by rw [str_size]; simp; omega
        clear hql hkl
        have s1 : str kd ++ (⟨#[32]⟩ : ByteArray) = str (kd ++ [32]) := str_catL _ _
        have s2 := str_cat (kd ++ [32]) q
        have s3 : str (kd ++ [32] ++ q) ++ (⟨#[32]⟩ : ByteArray) = str (kd ++ [32] ++ q ++ [32]) := str_catL _ _
        have s4 := str_cat (kd ++ [32] ++ q ++ [32]) ky
        have s5 : str (kd ++ [32] ++ q ++ [32] ++ ky) ++ (⟨#[10]⟩ : ByteArray) = str (kd ++ [32] ++ q ++ [32] ++ ky ++ [10]) := str_catL _ _
        generalize kd ++ [32] = a1 at *
        generalize a1 ++ q = a2 at *
        generalize a2 ++ [32] = a3 at *
        generalize a3 ++ ky = a4 at *
        generalize a4 ++ [10] = a5 at *
        have r1 := fun w => run_cat (P := Tryd.prog) s1 (by have : (⟨#[32]⟩ : ByteArray).size = 1 := rfl; omega) w
        have r2 := fun w => run_cat (P := Tryd.prog) s2 (by omega) w
        have r3 := fun w => run_cat (P := Tryd.prog) s3 (by have : (⟨#[32]⟩ : ByteArray).size = 1 := rfl; omega) w
        have r4 := fun w => run_cat (P := Tryd.prog) s4 (by omega) w
        have r5 := fun w => run_cat (P := Tryd.prog) s5 (by have : (⟨#[10]⟩ : ByteArray).size = 1 := rfl; omega) w
        clear s1 s2 s3 s4 s5 z1 z2 z3 z4 z5 z6 z7
        have hbx : Blk (wr.alloc (.cells #[.bool tr, .string (str nm), .string (str ky)] 24)) K #[.bool tr, .string (str nm), .string (str ky)] 24 := Blk.new_at wr _ _ hK
        have hcx : Chg [] wr (wr.alloc (.cells #[.bool tr, .string (str nm), .string (str ky)] 24)) := (Chg.refl _ _).alloc _
        go_upto_region 7 with (fail)
        generalize wr.alloc (.cells #[.bool tr, .string (str nm), .string (str ky)] 24) = wb at *
        have f0 : wb.cell? ⟨K, 0, none⟩ = some (.bool tr) := Blk.cell hbx 0
        have f1 : wb.cell? ⟨K, 1, none⟩ = some (.string (str nm)) := Blk.cell hbx 1
        have f2 : wb.cell? ⟨K, 2, none⟩ = some (.string (str ky)) := Blk.cell hbx 2
        have hqb := hqa wb hcx
        have HB := Lib.hid (And.intro hB (And.intro hlen (And.intro htl hlr)))
        have HR := Lib.hid (And.intro hts hlR)
        clear hqa y0 y1 y2 hb hlen htl hlr hts hlR hB hcr hTr
        go_wp2_with fail
        refine hqb.mono ?_
        rintro e w2 ⟨rfl, c2⟩
        have hb2 := hbx.chg0 c2
        have e0 := c2.cell_some f0 (by simp)
        have e1 := c2.cell_some f1 (by simp)
        have e2 := c2.cell_some f2 (by simp)
        clear hqb f0 f1 f2 hbx
        go_wp2_with fail
        have hI2 := builder_chg hI (hcx.trans c2 (by simp))
        have hbw2 : Below B w1 w2 := hbw.trans ((hcx.trans c2 (by simp)).below (Nat.le_of_lt hBs) (by simp))
        have hBs2 : B ≤ w2.heap.size := Nat.le_trans (Nat.le_of_lt hBs) (hcx.trans c2 (by simp)).size
        have hKB : B < K := by omega
        clear hI hbw hBs hcx c2 hK
        go_region_held3 (fun w' => w'.cell? ⟨K, 0, none⟩ = some (.bool tr) ∧ w'.cell? ⟨K, 1, none⟩ = some (.string (str nm)) ∧ w'.cell? ⟨K, 2, none⟩ = some (.string (str ky))) (first | exact ⟨e0, e1, e2⟩ | exact ⟨g0, g1, g2⟩ | exact ⟨h0, h1, h2⟩)
          (first
            | (go_at_call 22; refine (hka _).mono ?_; rintro e w3 ⟨rfl, c3⟩; have g3 := ((Chg.refl [] w2).drew).nil c3; have gb := hb2.chg0 g3; have g0 := Blk.cell gb 0; have g1 := Blk.cell gb 1; have g2 := Blk.cell gb 2)
            | (go_at_call 21; refine (hws _ (builder_chg hI2 g3) (Nat.le_trans hBs2 g3.size)).mono ?_; rintro e w4 ⟨rfl, hI4, hb4, k4⟩; have hb := blk_others k4 gb (by omega) (by decide); have h0 := Blk.cell hb 0; have h1 := Blk.cell hb 1; have h2 := Blk.cell hb 2))
        have hbw4 : Below B w1 w4 := (hbw2.trans (g3.below hBs2 (by simp))).trans hb4
        have hBs4 : B < w4.heap.size := by have := Blk.lt hb; have := hb4.size; have := g3.size; omega
        clear hI2 hbw2 hBs2 g3 gb g0 g1 g2 hb h0 h1 h2 hb4 k4 hws hka
        go_wp2_with fail
        go_roundg (gk - 1)
        case measure => omega
        case rel =>
          refine ⟨i + 1, by go_num, by omega, by omega, hbw4, hBs4, ?_⟩
          rw [HR.out.1, List.flatMap_append]
          simpa [HR.out.2] using hI4
      · have t1 : decide ((i : Int) < (nl : Int)) = false := by simp; omega
        have t1' : decide (i < nl) = false := by simp; omega
        rw [List.take_of_length_le (by rw [HL.out]; omega)] at hI
        have hstr : Calls Tryd.prog 23 #[.pointer (some ⟨B, 0, none⟩)] wr fun e w' => e = .returned (.string (str (l.flatMap lineR))) ∧ Below B wr w' := Tryd.Builder_String_any B B (l.flatMap lineR) wr hI (Nat.le_of_lt hBs)
        clear hi hik hI
        go_wp2_with fail
        refine hstr.mono ?_
        rintro e w4 ⟨rfl, hb4⟩
        obtain ⟨vb, w5, hr5, hs5, he5, hc5⟩ := conv_bytes (l.flatMap lineR) w4
        have hc4 : Chg [] w w4 := c1.nil (Chg.of_below (by rw [hB]; exact hbw.trans hb4))
        have HH : Hid (Sees w5 1 vb (l.flatMap lineR).length (Bs (l.flatMap lineR)) ∧ (∀ k ∈ eyes vb, w.heap.size ≤ k) ∧ Chg [] w w5) := ⟨hs5, fun k hk => Nat.le_trans hc4.size (he5 k hk), hc4.nil hc5⟩
        clear hstr hs5 he5 hc5 hc4 hbw hb4 hBs hlen hib t1 t1' hin
        go_wp2_with fail
        go_ret2
        exact ⟨_, rfl, HH.out⟩
end Go.Proofs.YtihoohhngiomdaaDoor
