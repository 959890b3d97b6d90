/- A history in memory: a graph's map and its nodes; dag.Has, dag.later. No statement of the seat is proved here. -/
import Derived.Test.YtphmplbcegibjaaMap
import Derived.Test.YtphmplbcegibjaaStr
import Derived.Test.YtphmplbcegibjaaArr
import Derived.Test.YtphmplbcegibjaaShelf
import Derived.Test.YtphmplbcegibjaaQuiet
import Derived.Maps.OwnSet
import Derived.Carry
import Derived.Deep.LoopGhost
import Derived.Test.YtphmplbcegibjaaDgPlain
set_option linter.unusedVariables false
namespace Go.Aq.Dg
open Go.Aq Go.RowKit Go.Maps
/-- Texts as cells. -/
def Sk (l : List (List UInt8)) : List Value := l.map fun (s : List UInt8) => Value.string (str s)
/-- Texts and sums within bounds. -/
structure SmallG (g : List NodeD) : Prop where
  keys : ∀ x ∈ g, x.key.length ≤ 1048576
  pars : ∀ x ∈ g, ∀ p ∈ x.parents, p.length ≤ 1048576
  all : wt g [] ≤ 2097152
theorem stampK_none {g : List NodeD} {k : List UInt8} (h : hasK g k = false) : stampK g k = 0 := by
  unfold stampK
  rw [List.find?_eq_none.2 fun x hx => by
    intro he
    have : hasK g k = true := hasK_iff.2 ⟨x, hx, by simpa using he⟩
    rw [h] at this; cases this]
  rfl
end Go.Aq.Dg
namespace Go.Proofs.Ytphmplbcegibjaa
open Go.RowKit Go.Aq Go.Aq.Dg Go.Maps

theorem lawS : Keyed Try.prog 9 := string_keyed Try.underlying9
theorem goodS (k : List UInt8) (hk : k.length ≤ 1048576) : GoodKey Try.prog 9 (.string (str k)) :=
  ⟨_, Go.WideMaps.keyOf_string_mk Try.underlying9 (by rw [str_size]; simp only [maxLen]; omega)⟩
def zN : Value := .agg #[.string (str []), .slice none 0 0, .int .i64 0]
theorem zeroN (w : World) : (zeroValue 35).run Try.prog w = .ok zN w := by kernel_rfl
theorem str_ne {a b : List UInt8} (h : a ≠ b) : str a ≠ str b := fun e => h (str_inj e)

/-- The value of a node in the map. -/
def NodeV (w : World) (x : NodeD) (v : Value) : Prop := ∃ pv, v = .agg #[.string (str x.key), pv, .int .i64 x.stamp] ∧ Sees w 1 pv x.parents.length (Sk x.parents)
/-- Pointer p is a graph of the nodes g; its map is block b. -/
def GraphB (w : World) (p b : Nat) (f : Value → Option Value) (g : List NodeD) : Prop :=
  Blk w p #[.map (some b)] 48 ∧ MapF Try.prog 9 w b f ∧ (∀ x ∈ g, ∃ v, f (.string (str x.key)) = some v ∧ NodeV w x v) ∧ ∀ k v, f (.string (str k)) = some v → hasK g k = true
/-- Pointer p is a graph of the nodes g. -/
def GraphR (w : World) (p : Nat) (g : List NodeD) : Prop := ∃ b f, GraphB w p b f g
theorem GraphB.chg {w w' : World} {p b : Nat} {f : Value → Option Value} {g : List NodeD} (h : GraphB w p b f g) (c : Chg [] w w') : GraphB w' p b f g := by
  obtain ⟨h1, h2, h3, h4⟩ := h
  refine ⟨h1.chg0 c, h2.chg c (by simp), fun x hx => ?_, h4⟩
  obtain ⟨v, h5, pv, rfl, h6⟩ := h3 x hx
  exact ⟨_, h5, pv, rfl, h6.chg0 c⟩
theorem GraphR.chg {w w' : World} {p : Nat} {g : List NodeD} (h : GraphR w p g) (c : Chg [] w w') : GraphR w' p g := by
  obtain ⟨b, f, h1⟩ := h
  exact ⟨b, f, h1.chg c⟩
/-- What a look-up answers. -/
theorem GraphR.look {w : World} {b : Nat} {f : Value → Option Value} {g : List NodeD} (h2 : MapF Try.prog 9 w b f) (h3 : ∀ x ∈ g, ∃ v, f (.string (str x.key)) = some v ∧ NodeV w x v) (h4 : ∀ k v, f (.string (str k)) = some v → hasK g k = true)
    (k : List UInt8) (hk : k.length ≤ 1048576) :
    ∃ ks ao n cap st, (∀ w', Chg [] w w' → (Instr.lookup 46 (.map (some b)) (.string (str k)) false).run Try.prog w' = .ok (.agg #[.string ks, .slice ao n cap, .int .i64 st]) w' ∧
      (Instr.lookup 46 (.map (some b)) (.string (str k)) true).run Try.prog w' = .ok (.tuple #[.agg #[.string ks, .slice ao n cap, .int .i64 st], .bool (hasK g k)]) w') ∧
      (hasK g k = false → st = 0) ∧ ∀ x ∈ g, x.key = k → st = x.stamp ∧ Sees w 1 (.slice ao n cap) x.parents.length (Sk x.parents) := by
  have LL : ∀ w', Chg [] w w' → _ := fun w' c => (h2.chg c (by simp)).look lawS Try.underlying46 (zeroN w') (goodS k hk)
  cases hf : f (.string (str k)) with
  | none =>
    have hn : ∀ x ∈ g, x.key ≠ k := fun x hx e => by obtain ⟨v, h5, _⟩ := h3 x hx; rw [e, hf] at h5; cases h5
    have hh : hasK g k = false := by
      cases h : hasK g k
      · rfl
      · obtain ⟨x, hx, e⟩ := hasK_iff.1 h; exact absurd e (hn x hx)
    rw [hf] at LL
    refine ⟨str [], none, 0, 0, 0, ?_, fun _ => rfl, fun x hx e => absurd e (hn x hx)⟩
    rw [hh]; exact fun w' c => LL w' c
  | some v =>
    have hh := h4 k v hf
    obtain ⟨x, hx, rfl⟩ := hasK_iff.1 hh
    obtain ⟨v', h5, pv, rfl, h6⟩ := h3 x hx
    rw [hf] at h5
    cases h5
    obtain ⟨ao, cap, rfl, _⟩ := h6.shape
    rw [hf] at LL
    refine ⟨str x.key, ao, x.parents.length, cap, x.stamp, ?_, fun h => ?_, fun y hy e => ?_⟩
    · rw [hh]; exact fun w' c => LL w' c
    · rw [hh] at h; cases h
    · obtain ⟨v'', h7, pv', rfl, h8⟩ := h3 y hy
      rw [e, hf] at h7
      simp only [Option.some.injEq, Value.agg.injEq, Array.mk.injEq, List.cons.injEq, Value.int.injEq, true_and, and_true] at h7
      obtain ⟨h9, h10⟩ := h7
      rw [← h9] at h8
      exact ⟨h10, h8⟩

set_option maxRecDepth 100000 in
theorem has_any {w : World} {p : Nat} {g : List NodeD} (h : GraphR w p g) (k : List UInt8) (hk : k.length ≤ 1048576) :
    Calls Try.prog 13 #[.pointer (some ⟨p, 0, none⟩), .string (str k)] w fun e w' => e = .returned (.bool (hasK g k)) ∧ Chg [] w w' := by
  obtain ⟨b, f, h1, h2, h3, h4⟩ := h
  obtain ⟨ks, ao, n, cap, st, l2, -, -⟩ := GraphR.look h2 h3 h4 k hk
  replace l2 := (l2 w (Chg.refl [] w)).2
  have c0 := h1.c1
  generalize hasK g k = r at *
  clear h1 h2 h3 h4
  go_enter Try.func13, Try.ntmps13
  go_wp2
  go_ret
  exact ⟨rfl, (Chg.refl [] w).alloc _⟩

theorem fld2 (ks : ByteArray) (ao : Option Addr) (n cap : Nat) (st : Int) (w : World) : (Instr.field 35 (.agg #[.string ks, .slice ao n cap, .int .i64 st]) 2).run Try.prog w = .ok (.int .i64 st) w := by kernel_rfl
theorem fld1 (ks : ByteArray) (ao : Option Addr) (n cap : Nat) (st : Int) (w : World) : (Instr.field 35 (.agg #[.string ks, .slice ao n cap, .int .i64 st]) 1).run Try.prog w = .ok (.slice ao n cap) w := by kernel_rfl
set_option maxRecDepth 100000 in
theorem later_any {w : World} {p : Nat} {g : List NodeD} (nd : (g.map (·.key)).Nodup) (h : GraphR w p g) (a b : List UInt8) (ha : a.length ≤ 1048576) (hb : b.length ≤ 1048576) :
    Calls Try.prog 26 #[.pointer (some ⟨p, 0, none⟩), .string (str a), .string (str b)] w fun e w' => e = .returned (.int .i64 (Lib.compareInt (stampK g b) (stampK g a))) ∧ Chg [] w w' := by
  obtain ⟨m, f, h1, h2, h3, h4⟩ := h
  obtain ⟨ks, ao, n, cap, sa, la, za, na⟩ := GraphR.look h2 h3 h4 a ha
  obtain ⟨ks', ao', n', cap', sb, lb, zb, nb⟩ := GraphR.look h2 h3 h4 b hb
  have ea : stampK g a = sa := by
    cases hh : hasK g a
    · rw [za hh, stampK_none hh]
    · obtain ⟨x, hx, e⟩ := hasK_iff.1 hh
      rw [(na x hx e).1, ← e, stampK_of nd hx]
  have eb : stampK g b = sb := by
    cases hh : hasK g b
    · rw [zb hh, stampK_none hh]
    · obtain ⟨x, hx, e⟩ := hasK_iff.1 hh
      rw [(nb x hx e).1, ← e, stampK_of nd hx]
  rw [ea, eb]
  have c0 := h1.c1
  have kc := Try.cmp_Compare_int
  clear h1 h2 h3 h4 za zb na nb ea eb nd
  generalize hL : Lib.compareInt sb sa = L
  go_enter Try.func26, Try.ntmps26
  go_wp2_with fail
  obtain ⟨X, hne, F, x0, hF0, hF, hX⟩ := fam0 w
  have z0 := fun x => (hF x).cell_some c0.1 (by simp)
  have la := fun x => (la (F x) (hF x)).1
  have lb := fun x => (lb (F x) (hF x)).1
  have f2a := fun x => fld2 ks ao n cap sa (F x)
  have f2b := fun x => fld2 ks' ao' n' cap' sb (F x)
  refine wp_fam F (by kernel_rfl) (by kernel_rfl) x0 hF0 ?_
  repeat (go_big_quiet_step (exact fam_same (hL ▸ kc _ _ _)))
  refine wpQuiet_nil ?_
  rintro w' ⟨x1, rfl⟩
  have hC := hF x1
  go_wp2
  go_ret
  exact ⟨rfl, hC⟩

theorem GraphB.stamp {w : World} {p b : Nat} {f : Value → Option Value} {g : List NodeD} (h : GraphB w p b f g) (nd : (g.map (·.key)).Nodup) (k : List UInt8) (hk : k.length ≤ 1048576) :
    ∃ ks ao n cap, ∀ w', Chg [] w w' → (Instr.lookup 46 (.map (some b)) (.string (str k)) false).run Try.prog w' = .ok (.agg #[.string ks, .slice ao n cap, .int .i64 (stampK g k)]) w' := by
  obtain ⟨h1, h2, h3, h4⟩ := h
  obtain ⟨ks, ao, n, cap, sa, la, za, na⟩ := GraphR.look h2 h3 h4 k hk
  have ea : stampK g k = sa := by
    cases hh : hasK g k
    · rw [za hh, stampK_none hh]
    · obtain ⟨x, hx, e⟩ := hasK_iff.1 hh
      rw [(na x hx e).1, ← e, stampK_of nd hx]
  rw [ea]
  exact ⟨ks, ao, n, cap, fun w' c => (la w' c).1⟩

/-! ### the worklist -/
def tt : DataW Unit := .lit (.bool true)
def setK (met : List (List UInt8)) : DataW Unit := setOf tt (met.map Lit.string)
theorem setK_snoc (met : List (List UInt8)) (k : List UInt8) : setK (met ++ [k]) = (setK met).put (.string k) tt := by
  unfold setK; rw [List.map_append]; exact setOf_snoc _ _ _
theorem keyLit (met : List (List UInt8)) : ∀ x ∈ met.map Lit.string, WideAt.IsKeyLit x := by
  intro x hx
  obtain ⟨k, _, rfl⟩ := List.mem_map.1 hx
  trivial
theorem has_setK (met : List (List UInt8)) (k : List UInt8) : has (setK met) (.string k) = decide (k ∈ met) := by
  unfold setK
  rw [has_setOf _ _ _ (keyLit met)]
  rw [Bool.eq_iff_iff]
  simp only [List.any_map, List.any_eq_true, decide_eq_true_eq, Function.comp]
  constructor
  · rintro ⟨j, hj, e⟩
    have := WideAt.sameKey_eq e
    cases this; exact hj
  · intro h
    exact ⟨k, h, WideAt.sameKey_self trivial⟩
theorem atKey_fold (k : Lit) (hk : WideAt.IsKeyLit k) (z : DataW Unit) : ∀ (acc : List Lit) (m : DataW Unit), IsMap m → (has m k = true → m.atKey k z = tt) → has (acc.foldl (fun m x => m.put x tt) m) k = true → (acc.foldl (fun m x => m.put x tt) m).atKey k z = tt
  | [], m, _, h, hh => h hh
  | x :: acc, m, hm, h, hh => by
    refine atKey_fold k hk z acc (m.put x tt) (hm.put x tt) (fun h1 => ?_) hh
    by_cases e : k = x
    · subst e; exact atKey_put_same hm hk _ _
    · rw [has_put_other e] at h1
      rw [atKey_put_other e]
      exact h h1
theorem atKey_setK (met : List (List UInt8)) (k : List UInt8) (z : DataW Unit) (h : has (setK met) (.string k) = true) : (setK met).atKey (.string k) z = tt :=
  atKey_fold (.string k) trivial z _ _ isMap_empty (fun h => by cases h) h

theorem Own.cut {w : World} {e : TypeId} {size g cap n : Nat} {xs ys : List Value} (h : Own w e size (.slice (some ⟨g, 0, none⟩) n cap) n (xs ++ ys)) {m : Nat} (hm : xs.length = m * size) (hmn : m ≤ n) : Own w e size (.slice (some ⟨g, 0, none⟩) m cap) m xs := by
  refine ⟨hm, .inr ?_⟩
  rcases h.2 with ⟨h1, _⟩ | ⟨g', cap', cur, h1, hb, hg, hc, hcm, hs, ht⟩
  · cases h1
  · cases h1
    refine ⟨g, cap, cur, rfl, hb, hg, by omega, hcm, hs, ?_⟩
    have h2 := congrArg (List.take (m * size)) ht
    rw [List.take_take, Nat.min_eq_left (Nat.mul_le_mul_right _ hmn), ← hm, List.take_left] at h2
    rw [← hm]; exact h2
theorem Own.one {w : World} {k : Nat} {e : TypeId} {v : Value} (h : Blk w k #[v] e) : Own w e 1 (.slice (some ⟨k, 0, none⟩) 1 1) 1 [v] :=
  ⟨rfl, .inr ⟨k, 1, #[v], rfl, Nat.zero_le _, h, Nat.le_refl _, by simp [maxLen], rfl, rfl⟩⟩
theorem sl_S : SliceTy Try.prog 30 9 (.string (str [])) 1 16 := ⟨Try.underlying30, by kernel_rfl, rfl, by decide⟩

theorem _root_.Go.Aq.Chg.g0 {w w' : World} (c : Chg [] w w') : w.grownBy w' none := ⟨c.os, c.tape, c.output, c.size, fun k hk _ => c.block k hk (by simp)⟩
theorem keyS (k : List UInt8) (hk : k.length ≤ 9223372036854775807) : keyOf Try.prog 9 (.string (str k)) = some (.string k) := by
  have := Go.WideMaps.keyOf_string_mk (P := Try.prog) (k := 9) Try.underlying9 (s := str k) (by rw [str_size]; simp only [maxLen]; omega)
  simpa [str] using this
theorem Sk_app (a b : List (List UInt8)) : Sk (a ++ b) = Sk a ++ Sk b := by simp [Sk]
theorem Sk_len (a : List (List UInt8)) : (Sk a).length = a.length := by simp [Sk]
theorem setK_look {w : World} {b n : Nat} {met : List (List UInt8)} (h : w.ownsMap Try.prog 9 (plainElem Try.prog 4) b n (setK met)) (k : List UInt8) (hk : k.length ≤ 9223372036854775807) :
    (Instr.lookup 55 (.map (some b)) (.string (str k)) false).run Try.prog w = .ok (.bool (decide (k ∈ met))) w := by
  have hkey := keyS k hk
  obtain ⟨v, ps, hrun, hv⟩ := h.lookup lawS Try.underlying55 (z := .bool false) (by kernel_rfl) (zd := .lit (.bool false)) (plainElem_bool Try.underlying4 false) hkey
  have hat : (setK met).atKey (.string k) (.lit (.bool false)) = .lit (.bool (decide (k ∈ met))) := by
    by_cases hkm : k ∈ met
    · rw [atKey_setK met k _ (by rw [has_setK]; exact decide_eq_true hkm), decide_eq_true hkm]; rfl
    · rw [atKey_of_not_has (by rw [has_setK]; exact decide_eq_false hkm), decide_eq_false hkm]
  rw [hat] at hv
  unfold plainElem at hv
  rw [Try.underlying4] at hv
  cases v <;> simp at hv
  rw [hrun, hv.1]

set_option maxHeartbeats 1000000 in
set_option maxRecDepth 100000 in
theorem reached_any {w : World} {p : Nat} {g : List NodeD} (nd : (g.map (·.key)).Nodup) (S : SmallG g) (h : GraphR w p g) (key : List UInt8) (hk : key.length ≤ 1048576) :
    Calls Try.prog 29 #[.pointer (some ⟨p, 0, none⟩), .string (str key)] w fun e w' => ∃ b met, e = .returned (.map (some b)) ∧ w.heap.size ≤ b ∧ w'.ownsMap Try.prog 9 (plainElem Try.prog 4) b met.length (setK met) ∧
      (∀ k, k ∈ met ↔ Rch g key k) ∧ met.Nodup ∧ Chg [] w w' := by
  have HS := Lib.hid S
  have ND := Lib.hid nd
  have HG := Lib.hid h
  have hp := h
  obtain ⟨b0, f0, h1, h2, h3, h4⟩ := h
  have hpl := h1.lt
  clear h2 h3 h4 hp S nd
  go_enter Try.func29, Try.ntmps29
  have hmm := @run_makeMap Try.prog
  go_wp2_with fail
  clear hmm
  have hb0 : (w.alloc (.map #[] 0)).ownsMap Try.prog 9 (plainElem (H := Unit) Try.prog 4) w.heap.size 0 (.map []) := World.ownsMap_made _ _ _ _
  have hbk : Blk ((w.alloc (.map #[] 0)).alloc (.cells #[.string (str key)] 9)) (w.alloc (.map #[] 0)).heap.size #[.string (str key)] 9 := Blk.new _ _ _
  have hb1 := hb0.alloc (.cells #[.string (str key)] 9)
  have hc1 : Chg [] w ((w.alloc (.map #[] 0)).alloc (.cells #[.string (str key)] 9)) := ((Chg.refl [] w).alloc _).alloc _
  have e1 : (w.alloc (.map #[] 0)).heap.size = w.heap.size + 1 := by simp
  have hO := Own.one hbk
  rw [e1] at hO hbk
  have hmt := Lib.hid (@List.nil_append (List UInt8))
  go_loopg [6, 7] (1 + wt g []) (fun k (v6 v7 : Value) wr => ∃ (met work : List (List UInt8)) (ao : Option Addr) (cap : Nat), v6 = .slice ao work.length cap ∧ Own wr 9 1 (.slice ao work.length cap) work.length (Sk work) ∧
    (∀ j ∈ (Value.slice ao work.length cap).ownBlock.toList, w.heap.size < j) ∧ wr.ownsMap Try.prog 9 (plainElem Try.prog 4) w.heap.size met.length (setK met) ∧ Chg [] w wr ∧ Inv g key met work ∧ work.length + wt g met ≤ k ∧ (∀ x ∈ work, x.length ≤ 1048576))
  case atStart => exact ⟨[], [key], some ⟨w.heap.size + 1, 0, none⟩, 1, rfl, hO, by simp [Value.ownBlock], hb1, hc1, Inv.init g key, by simp, by simpa using hk⟩
  case round =>
    clear hb0 hbk hb1 hc1 e1 hO hmt h1
    obtain ⟨met, work, ao, cap, rfl, ho, hn, hm, hc, hI, hlt, hw⟩ := hrel
    rcases List.eq_nil_or_concat work with rfl | ⟨ws, k, rfl⟩
    · rw [List.length_nil] at ho ⊢
      have HI := Lib.hid (And.intro hI hlt)
      clear hI hlt hw ho hn
      go_wp2_with fail
      obtain ⟨hI, _⟩ := HI.out
      go_ret
      exact ⟨_, met, rfl, Nat.le_refl _, hm, hI.done, hI.nd, hc⟩
    · have hkl : k.length ≤ 1048576 := hw k (by simp)
      have hlen : (ws ++ [k]).length = ws.length + 1 := by simp
      rw [List.concat_eq_append] at ho hn hI hlt hw ⊢
      rw [hlen] at ho hn hlt ⊢
      obtain ⟨g', cap', e, hcp, hcm, hgl⟩ := ho.pos (by omega)
      injection e with e1 _ e2
      subst e1 e2
      have hcell : wr.cell? ⟨g', ws.length, none⟩ = some (.string (str k)) := by
        rw [ho.cellAt _ (by omega)]; simp [Sk]
      have hgn := hn g' (by simp [Value.ownBlock])
      have hp := hI.paid
      rw [hlen] at hp
      have hsm := HS.out.all
      have hmetle : met.length ≤ 2097152 := Nat.le_trans (met_le hI.nd fun j hj => (hI.r1 j hj).has) (Nat.le_trans (len_wt g) hsm)
      have hl := setK_look hm k (by omega)
      have hcut := fun w' (c : Chg [] wr w') => Own.cut (xs := Sk ws) (ys := [Value.string (str k)]) (m := ws.length) (by have := ho.chg c (fun _ _ => by simp); rw [Sk_app] at this; exact this) (by rw [Sk_len]; omega) (by omega)
      have hnb : ∀ j ∈ (Value.slice (some ⟨g', 0, none⟩) ws.length cap).ownBlock.toList, w.heap.size < j := by simp [Value.ownBlock]; exact hgn
      have hws : ∀ x ∈ ws, x.length ≤ 1048576 := fun x hx => hw x (by simp [hx])
      by_cases hkm : k ∈ met
      · rw [decide_eq_true hkm] at hl
        have HI := Lib.hid (And.intro (hI.skip (.inl hkm)) (And.intro hlt (And.intro hws (And.intro hcut hnb))))
        clear hI hlt hw ho hn hkm hws hcut hnb hp hsm hmetle hlen
        go_wp2_with fail
        obtain ⟨hI, hlt, hws, hcut, hnb⟩ := HI.out
        go_roundg (ws.length + wt g met)
        case measure => omega
        case rel => exact ⟨met, ws, _, cap, rfl, hcut _ (Chg.refl _ _), hnb, hm, hc, hI, Nat.le_refl _, hws⟩
      · rw [decide_eq_false hkm] at hl
        have kh := has_any (HG.out.chg hc) k hkl
        cases hK : hasK g k
        · rw [hK] at kh
          have HI := Lib.hid (And.intro (hI.skip (.inr hK)) (And.intro hlt (And.intro hws (And.intro hcut hnb))))
          clear hI hlt hw ho hn hkm hws hcut hnb hp hsm hmetle hlen hK
          go_wp2_with (go_at_call 13; refine kh.mono ?_; rintro e w1 ⟨rfl, c1⟩)
          obtain ⟨hI, hlt, hws, hcut, hnb⟩ := HI.out
          go_roundg (ws.length + wt g met)
          case measure => omega
          case rel => exact ⟨met, ws, _, cap, rfl, hcut _ c1, hnb, hm.kept c1.g0 (by simp), hc.nil c1, hI, Nat.le_refl _, hws⟩
        · rw [hK] at kh
          obtain ⟨x, hx, rfl⟩ := hasK_iff.1 hK
          obtain ⟨b1, f1, j1, j2, j3, j4⟩ := HG.out
          obtain ⟨ks, aq, nq, cq, sq, lq, -, nn⟩ := GraphR.look j2 j3 j4 x.key hkl
          obtain ⟨-, hsee⟩ := nn x hx rfl
          have hnq : nq = x.parents.length := by obtain ⟨_, _, e, _⟩ := hsee.shape; injection e
          subst hnq
          have hI2 := hI.take ND.out hx hkm
          have hp2 := hI2.paid
          have hwt := wt_take g met hx hkm
          rw [List.length_append] at hp2
          have HI := Lib.hid (And.intro hI2 (And.intro hlt (And.intro hws (And.intro hnb (And.intro hwt HS)))))
          clear hI hlt hw ho hn hkm hws hnb hp hlen hK hI2 hwt j2 j3 j4 nn
          have hcB : ∀ w1 w2 : World, Chg [] wr w1 → w1.grownBy w2 (some w.heap.size) → Chg [] w w2 := fun w1 w2 c1 c2 => (hc.nil c1).trans (Chg.of_grown c2) (fun i hi => by simp at hi; exact .inr (by omega))
          go_wp2_with (first
            | (go_at_call 13; refine kh.mono ?_; rintro e w1 ⟨rfl, c1⟩; have hm1 := hm.kept c1.g0 (by simp))
            | (at_mapUpdate; refine wpList_mapUpdate_own _ rfl _ _ _ 55 rfl 9 4 lawS Try.underlying55 (plainElem Try.prog 4) w.heap.size met.length (setK met) rfl hm1 (by unfold maxLen; omega) _ _ _ rfl rfl (keyS x.key (by omega)) tt [] (plainElem_bool Try.underlying4 true) ?_; intro w2 hm2 hg2; have cW := hcB _ _ c1 hg2; have z0 := (cW.cell_some j1.c1.1 (by simp)); have z1 := (lq w2 cW).1; have z2 := fld1 ks aq x.parents.length cq sq w2)
            | (at_builtin; refine wpList_app (v := .slice (some ⟨g', 0, none⟩) ws.length cap) rfl _ _ 30 rfl sl_S (by exact (hcut w1 c1).chg (Chg.of_grown hg2) (fun j hj hj2 => by have := HI.out.2.2.2.1 j hj; simp at hj2; omega)) rfl (by exact hsee.chg0 cW) rfl (by simp [Sk, Value.oneCell']) (by omega) (by omega) ?_; intro v3 w3 ho3 c3 n3))
          obtain ⟨hI, hlt, hws, hnb, hwt, -⟩ := HI.out
          obtain ⟨a3, cap3, hv3, -, -⟩ := ho3.sees.shape
          rw [← Sk_app, ← List.length_append] at ho3
          rw [← List.length_append] at hv3
          subst hv3
          go_roundg ((ws ++ x.parents).length + wt g (met ++ [x.key]))
          case measure => rw [List.length_append]; omega
          case rel =>
            have hgt : ∀ j ∈ (Value.slice a3 (ws ++ x.parents).length cap3).ownBlock.toList, w.heap.size < j := fun j hj => by
              rcases n3 j hj with h1 | h1
              · exact hnb j h1
              · have := cW.size; have := hm2.lt; omega
            have hm3 := hm2.kept (row := some g') ⟨c3.os, c3.tape, c3.output, c3.size, fun j hj hjn => c3.block j hj (fun h => hjn (by simp [Value.ownBlock] at h; rw [h]))⟩ (by simp; omega)
            refine ⟨met ++ [x.key], ws ++ x.parents, a3, cap3, rfl, ho3, hgt, by rw [setK_snoc, List.length_append]; exact hm3, cW.trans c3 (fun j hj => .inr (Nat.le_of_lt (hnb j hj))), hI, Nat.le_refl _, fun y hy => ?_⟩
            rcases List.mem_append.1 hy with h1 | h1
            · exact hws y h1
            · exact HS.out.pars x hx y h1

end Go.Proofs.Ytphmplbcegibjaa
