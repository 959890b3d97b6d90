/- dag.Base: the nearest common ancestor. No statement of the seat is proved here. -/
import Derived.Test.YtphmplbcegibjaaDgB
import Derived.Maps.RangeWalk
import Derived.Maps.Ext
import Derived.Deep.DeepCutAuto
import Derived.Deep.LoopGhost
set_option linter.unusedVariables false
namespace Go.Proofs.Ytphmplbcegibjaa
open Go.RowKit Go.Aq Go.Aq.Dg Go.Maps

/-- What is struck: the keys that the other set lacks. -/
def pdK (met2 : List (List UInt8)) (kl : Lit) (_ : DataW Unit) : Bool := !has (setK met2) kl

set_option maxRecDepth 100000 in
theorem closure_any (x : List UInt8) (hx : x.length ≤ 9223372036854775807) (v : Bool) (K m2 n2 : Nat) (met2 : List (List UInt8)) (W : World) (hc : W.cell? ⟨K, 0, none⟩ = some (.map (some m2)))
    (hm : W.ownsMap Try.prog 9 (plainElem Try.prog 4) m2 n2 (setK met2)) :
    Calls Try.prog 31 (#[.string (str x), .bool v] ++ #[.pointer (some ⟨K, 0, none⟩)]) W fun e w' => e = .returned (.bool (pdK met2 (.string x) (.lit (.bool v)))) ∧ w' = W := by
  have hl := setK_look hm x hx
  have hp : pdK met2 (.string x) (.lit (.bool v)) = !decide (x ∈ met2) := by unfold pdK; rw [has_setK]
  rw [hp]
  generalize decide (x ∈ met2) = r at *
  clear hp hm
  show Calls _ _ #[.string (str x), .bool v, .pointer (some ⟨K, 0, none⟩)] W _
  go_enter Try.func31, Try.ntmps31
  go_wp2
  all_goals (go_ret; exact ⟨rfl, rfl⟩)

/-- The keys of what is left. -/
theorem has_del {met1 met2 : List (List UInt8)} (k : List UInt8) : has (Lib.deleteFuncD (pdK met2) (setK met1)) (.string k) = true ↔ k ∈ met1 ∧ k ∈ met2 := by
  obtain ⟨es, he⟩ := (tidy_setOf tt _ (keyLit met1)).isMap
  have h1 : has (setK met1) (.string k) = decide (k ∈ met1) := has_setK met1 k
  have h2 : has (setK met2) (.string k) = decide (k ∈ met2) := has_setK met2 k
  have he' : setK met1 = .map es := he
  rw [he'] at h1 ⊢
  rw [has_eq] at h1
  show has (.map (es.filter fun p => !pdK met2 p.1 p.2)) (.string k) = true ↔ _
  rw [has_eq, List.any_eq_true]
  have h1' : k ∈ met1 ↔ (es.any fun p => p.1.sameKey (.string k)) = true := by rw [h1, decide_eq_true_eq]
  have h2' : k ∈ met2 ↔ has (setK met2) (.string k) = true := by rw [h2, decide_eq_true_eq]
  rw [h1', h2', List.any_eq_true]
  constructor
  · rintro ⟨p, hp, e⟩
    obtain ⟨hp1, hp2⟩ := List.mem_filter.1 hp
    refine ⟨⟨p, hp1, e⟩, ?_⟩
    rw [← WideAt.sameKey_eq e]
    simpa [pdK] using hp2
  · rintro ⟨⟨p, hp, e⟩, h⟩
    refine ⟨p, List.mem_filter.2 ⟨hp, ?_⟩, e⟩
    simp only [pdK, Bool.not_not]
    rw [WideAt.sameKey_eq e]
    exact h

theorem del_any {w : World} {m1 m2 n1 n2 K : Nat} {met1 met2 : List (List UInt8)} (hc : w.cell? ⟨K, 0, none⟩ = some (.map (some m2))) (hK : K ≠ m1)
    (h1 : w.ownsMap Try.prog 9 (plainElem Try.prog 4) m1 n1 (setK met1)) (h2 : w.ownsMap Try.prog 9 (plainElem Try.prog 4) m2 n2 (setK met2)) (hne : m2 ≠ m1) :
    Calls Try.prog 30 #[.map (some m1), .func (.func 31) #[] #[.pointer (some ⟨K, 0, none⟩)]] w fun e w' =>
      e = .returned (.tuple #[]) ∧ w'.ownsMap Try.prog 9 (plainElem Try.prog 4) m1 n1 (Lib.deleteFuncD (pdK met2) (setK met1)) ∧ Chg [m1] w w' := by
  have eg : ∀ args w, (callFunc 31 args).run Try.prog w = .ok (.enter 31 args) w := enters_of Try.func31 (by kernel_rfl) rfl
  refine (AnyDf.maps_DeleteFunc Try.l14 lawS (plainElem Try.prog 4) (pdK met2) 31 #[.pointer (some ⟨K, 0, none⟩)] m1 n1 (setK met1) w eg h1 (fun W key val kl yd yp hg hkey hv => ?_)).mono ?_
  · obtain ⟨x, rfl, rfl, hx⟩ := Maps.keyOf_str Try.underlying9 hkey
    have hv0 := hv
    unfold plainElem at hv
    rw [Try.underlying4] at hv
    cases val <;> simp at hv
    obtain ⟨rfl, rfl⟩ := hv
    exact (closure_any x (by simpa [maxLen] using hx) _ K m2 n2 met2 W ((Chg.of_grown hg).cell_some hc (by simpa using hK)) (h2.kept hg (by simpa using hne))).mono fun _ _ ⟨he, hw⟩ => ⟨he, hw ▸ World.grownBy.refl _ _⟩
  · rintro e w' ⟨rfl, h3, h4⟩
    exact ⟨rfl, h3, Chg.of_grown h4⟩

/-- A step of a range over a set of texts. -/
theorem next_str (w : World) {ops : Array Oper} {rest : List Oper} {o : Oper} {a : Act} {Q : Exit → Act → World → Prop} (hg : o.guard = none) (it : Operand) (hop : o.op = Op.next it false)
    (m r n : Nat) (D : DataW Unit) (left : Lit → Bool) (cnt : Nat) (hit : a.eval it = .pointer (some ⟨r, 0, none⟩)) (h : w.ranges Try.prog 9 (plainElem Try.prog 4) m r n D left cnt)
    (hDone : Hid (∀ kl, left kl = false) → wpList Try.prog ops Q rest (a.put o.dst (.tuple #[.bool false])) w)
    (hMore : ∀ (x : List UInt8) (v : Value) (w' : World) (cnt' : Nat), Hid (left (.string x) = true ∧ cnt' < cnt) → w'.ranges Try.prog 9 (plainElem Try.prog 4) m r n D (fun z => left z && !z.sameKey (.string x)) cnt' → Chg [r] w w' →
      (Instr.entry (.pointer (some ⟨r, 0, none⟩))).run Try.prog w' = .ok (.tuple #[.string (str x), v]) w' → wpList Try.prog ops Q rest (a.put o.dst (.tuple #[.bool true, .string (str x), v])) w') :
    wpList Try.prog ops Q (o :: rest) a w := by
  refine wpList_next_ranges w hg it hop 9 lawS (plainElem Try.prog 4) (fun x : List UInt8 => Value.string (str x)) id (fun key kl hk => by obtain ⟨x, e, _⟩ := Maps.keyOf_str Try.underlying9 hk; exact ⟨x, e⟩) (fun v y hv => ⟨v, rfl⟩) m r n D left cnt hit h (fun _ h1 => hDone h1) ?_
  intro x c kl0 y w1' cnt1 hkey hlx hv hat hrg1 hlt hg1 hs1 hen
  obtain rfl : kl0 = .string x := by
    obtain ⟨x', e, e2, _⟩ := Maps.keyOf_str Try.underlying9 hkey
    rw [e2]
    injection e with e3
    have : x = x' := str_inj e3
    rw [this]
  exact hMore x c w1' cnt1 ⟨hlx, hlt⟩ hrg1 (Chg.of_grown hg1) hen

theorem gtr_str (a b : List UInt8) (t : TypeId) (w : World) : (binOp BinOp.gtr t (.string (str a)) (.string (str b))).run Try.prog w = .ok (.bool (decide (b < a))) w := by
  have h : Op.bytesLess (str a).toList (str b).toList = decide (a < b) := by rw [Proofs.bytesLess_eq, str_toList, str_toList]
  have h2 := str_eq a b
  have h3 : (!decide (a < b) && !decide (a = b)) = decide (b < a) := by
    by_cases e : a = b
    · subst e; simp [List.lt_irrefl]
    · by_cases l : a < b
      · have : ¬ b < a := List.lt_asymm l
        simp [l, this]
      · have : b < a := by
          rcases List.le_iff_lt_or_eq.1 (List.not_lt.1 l) with h | h
          · exact h
          · exact absurd h.symm e
        simp [l, e, this]
  rw [← h3, ← h, ← h2]
  simp [binOp, Op.stringOp]

set_option maxHeartbeats 2000000 in
set_option maxRecDepth 100000 in
theorem base_any {w : World} {p : Nat} {g : List NodeD} (nd : (g.map (·.key)).Nodup) (S : SmallG g) (h : GraphR w p g) (a b : List UInt8) (ha : a.length ≤ 1048576) (hb : b.length ≤ 1048576) :
    Calls Try.prog 15 #[.pointer (some ⟨p, 0, none⟩), .string (str a), .string (str b)] w fun e w' => ∃ (x : List UInt8) (r : Int), e = .returned (.tuple #[.string (str x), .int .i64 r]) ∧ BaseR g a b x r ∧ x.length ≤ 1048576 ∧ Chg [] w w' := by
  have kh := fun (wx : World) (c : Chg [] w wx) (k : List UInt8) (hk : k.length ≤ 1048576) => has_any (h.chg c) k hk
  have kr := fun (wx : World) (c : Chg [] w wx) (k : List UInt8) (hk : k.length ≤ 1048576) => reached_any nd S (h.chg c) k hk
  have kl := fun (wx : World) (c : Chg [] w wx) (i j : List UInt8) (hi : i.length ≤ 1048576) (hj : j.length ≤ 1048576) => later_any nd (h.chg c) i j hi hj
  have hna : ∀ r x, hasK g a = false → r = 6 → x = [] → BaseR g a b x r := fun r x h1 h2 h3 => .inl ⟨h2, h3, fun h4 => by rw [h1] at h4; cases h4.1⟩
  have hnb : ∀ r x, hasK g b = false → r = 6 → x = [] → BaseR g a b x r := fun r x h1 h2 h3 => .inl ⟨h2, h3, fun h4 => by rw [h1] at h4; cases h4.2⟩
  have HSm := Lib.hid S
  clear S
  cases hA : hasK g a with
  | false =>
    have k1 := kh w (Chg.refl _ _) a ha
    rw [hA] at k1
    have hR := hna 6 [] hA rfl rfl
    clear hna hnb kr kl kh hA
    go_enter Try.func15, Try.ntmps15
    go_wp2_with (go_at_call 13; refine k1.mono ?_; rintro e w1 ⟨rfl, c1⟩)
    go_ret2
    exact ⟨[], 6, rfl, hR, by simp, c1⟩
  | true =>
    have k1 := kh w (Chg.refl _ _) a ha
    rw [hA] at k1
    cases hB : hasK g b with
    | false =>
      have k2 := fun w1 c => kh w1 c b hb
      rw [hB] at k2
      have hR := hnb 6 [] hB rfl rfl
      clear hna hnb kr kl kh hA hB
      go_enter Try.func15, Try.ntmps15
      go_wp2_with (first
        | (go_at_call 13; refine (k2 w1 c1).mono ?_; rintro e w2 ⟨rfl, c2⟩)
        | (go_at_call 13; refine k1.mono ?_; rintro e w1 ⟨rfl, c1⟩))
      go_ret2
      exact ⟨[], 6, rfl, hR, by simp, c1.nil c2⟩
    | true =>
      have k2 := fun w1 c => kh w1 c b hb
      rw [hB] at k2
      have hAB : Hid (hasK g a = true ∧ hasK g b = true) := ⟨hA, hB⟩
      clear hna hnb kh hA hB
      go_enter Try.func15, Try.ntmps15
      go_upto_region 5 with (first
        | (go_at_call 30; refine kd.mono ?_; rintro e w5 ⟨rfl, hm5, c5⟩)
        | (go_at_call 13; refine (k2 w1 c1).mono ?_; rintro e w2 ⟨rfl, c2⟩; have cA := c1.nil c2)
        | (go_at_call 13; refine k1.mono ?_; rintro e w1 ⟨rfl, c1⟩)
        | (go_at_call 29; refine (kr w3 cB b hb).mono ?_; rintro e w4 ⟨m2, met2, rfl, hg2, hm2, hr2, hnd2, c4⟩; have cC := cB.nil c4; have kd := del_any (w := w4.alloc (.cells #[.map (some m2)] 55)) (K := w4.heap.size) (by simp) (by have := hm1.lt; have := c4.size; omega) ((hm1.kept c4.g0 (by simp)).alloc _) (hm2.alloc _) (by have := hm1.lt; omega))
        | (go_at_call 29; refine (kr w2 cA a ha).mono ?_; rintro e w3 ⟨m1, met1, rfl, hg1, hm1, hr1, hnd1, c3⟩; have cB := cA.nil c3)
        | fail)
      have cD : Chg [] w w5 := (cC.alloc (.cells #[.map (some m2)] 55)).trans c5 (fun i hi => by simp at hi; have := cA.size; exact .inr (by omega))
      have hdel := @has_del met1 met2
      have hk5 := hm5.keysOf
      generalize Lib.deleteFuncD (pdK met2) (setK met1) = D at *
      clear kd k1 k2 kr c1 c2 c3 c4 c5 cA cB cC hm1 hm2
      obtain ⟨es, rfl, hke⟩ := hk5
      have hln := fun ty => hm5.len Try.underlying55 ty
      have hcom : ∀ k, has (.map es) (.string k) = true ↔ Rch g a k ∧ Rch g b k := fun k => by rw [hdel, hr1, hr2]
      clear hdel hr1 hr2
      by_cases hz : es = []
      · subst hz
        have hno : Hid (∀ k, Rch g a k → ¬ Rch g b k) := fun k h1 h2 => by
          have := (hcom k).2 ⟨h1, h2⟩
          cases this
        have hln' : ∀ ty, (Builtin.len_ #[55] ty #[.map (some m1)]).run Try.prog w5 = .ok (.int .i64 0) w5 := fun ty => hln ty
        clear hln hcom hm5 kl hke
        go_wp2_with fail
        go_ret2
        exact ⟨[], 14, rfl, .inr (.inl ⟨rfl, rfl, hAB.out, hno.out⟩), by simp, cD⟩
      · have hsz : Maps.size (DataW.map es : DataW Unit) ≠ 0 := by
          rw [size_eq]; exact fun h => hz (List.eq_nil_of_length_eq_zero h)
        have hex : Hid (∃ k, has (.map es) (.string k) = true) := by
          cases es with
          | nil => exact absurd rfl hz
          | cons q t =>
            obtain ⟨v, hv⟩ := hke q (by simp)
            obtain ⟨x, _, hx, _⟩ := Maps.keyOf_str Try.underlying9 hv
            exact ⟨x, by rw [has_eq, List.any_eq_true]; exact ⟨q, by simp, by rw [hx]; exact WideAt.sameKey_self trivial⟩⟩
        have t1 : ((Maps.size (DataW.map es : DataW Unit) : Int) == 0) = false := by simp; omega
        generalize hD : (DataW.map es : DataW Unit) = D at *
        have HC := Lib.hid hcom
        clear hD hke hz hcom
        generalize Maps.size D = sz at *
        go_wp2_with (first
          | (at_range; refine wpList_range_own _ rfl _ 55 rfl 9 4 lawS Try.underlying55 (plainElem Try.prog 4) m1 met1.length D rfl hm5 ?_; intro w0 hrg0 hg0 hs0)
          | fail)
        go_frame
        have cE := cD.nil (Chg.of_grown hg0)
        have hkl : ∀ k, has D (.string k) = true → k.length ≤ 1048576 := fun k hk => by
          obtain ⟨y, hy, e⟩ := hasK_iff.1 ((HC.out k).1 hk).1.has
          rw [← e]; exact HSm.out.keys y hy
        have HK := Lib.hid hkl
        clear hkl hln hsz t1 hm5 hg0 hs0
        have hrr := cD.size
        generalize Maps.size D = cnt0 at *
        generalize w5.heap.size = r at *
        go_loopg [10, 11, 12] cnt0 (fun k (v10 v11 v12 : Value) wr => ∃ (left : Lit → Bool) (best : List UInt8) (some_ : Bool), v10 = .string (str best) ∧ v11 = .bool some_ ∧ wr.ranges Try.prog 9 (plainElem Try.prog 4) m1 r met1.length D left k ∧ Chg [] w wr ∧
          Hid ((∀ kl, left kl = true → has D kl = true) ∧ (some_ = false → ∀ k, has D (.string k) = true → left (.string k) = true) ∧ (some_ = true → has D (.string best) = true ∧ ∀ k, has D (.string k) = true → left (.string k) = false → beats g k best)))
        case atStart => exact ⟨_, [], false, rfl, rfl, hrg0, cE, fun _ h => h, fun _ _ h => h, fun h => by cases h⟩
        case round =>
          clear hrg0 cE
          obtain ⟨left, best, sm, rfl, rfl, hrg, hc, HL⟩ := hrel
          go_wp2_with (first
            | (at_next; refine next_str _ rfl _ rfl m1 r met1.length _ _ _ rfl hrg ?_ ?_)
            | fail)
          · intro HZ
            cases sm with
            | false =>
              obtain ⟨k, hk⟩ := hex.out
              have := HL.out.2.1 rfl k hk
              rw [HZ.out] at this; cases this
            | true =>
              have H1 := Lib.hid (HL.out.2.2 rfl)
              clear kl HL
              go_wp2_with fail
              go_ret2
              have h1 := H1.out
              exact ⟨best, 0, rfl, .inr (.inr ⟨rfl, hAB.out, (HC.out best).1 h1.1, fun k h2 h3 => h1.2 k ((HC.out k).2 ⟨h2, h3⟩) (HZ.out _)⟩), HK.out best h1.1, hc⟩
          · intro x v12 w1' cnt1 HX hrg1 hg1 hen
            have hDx := HL.out.1 _ HX.out.1
            have hxl := HK.out x hDx
            have hc1 := hc.trans hg1 (fun i hi => by simp at hi; exact .inr (by omega))
            have hsk : ∀ k : List UInt8, (Lit.string k).sameKey (.string x) = true → k = x := fun k hk => by have := WideAt.sameKey_eq hk; injection this
            replace HX := Lib.hid (And.intro hDx (And.intro hsk HX.out))
            clear hDx hsk hg1 hrg hc
            cases sm with
            | false =>
              have H0 := Lib.hid HL.out.1
              have H1 := Lib.hid (HL.out.2.1 rfl)
              clear kl HL
              go_wp2_with fail
              obtain ⟨hDx, hsk, hlx, hlt⟩ := HX.out
              go_roundg cnt1
              case measure => exact hlt
              case rel =>
                refine ⟨_, x, true, rfl, rfl, hrg1, hc1, fun kl h1 => ?_, fun h => by (cases h), fun _ => ⟨hDx, fun k h1 h2 => ?_⟩⟩
                · exact H0.out kl (by simp at h1; exact h1.1)
                · have h3 := H1.out k h1
                  simp only [h3, Bool.true_and, Bool.not_eq_false'] at h2
                  rw [hsk k h2]; exact beats_refl g x
            | true =>
              have hbl := HK.out best (HL.out.2.2 rfl).1
              have H0 := Lib.hid HL.out.1
              have H1 := Lib.hid (HL.out.2.2 rfl)
              have hlat := fun wx (c : Chg [] w wx) => kl wx c x best hxl hbl
              have hless := gtr_str x best 9
              have hb : Hid ((beats g x best → (∀ k, has D (.string k) = true → (left (.string k) && !(Lit.string k).sameKey (.string x)) = false → beats g k best)) ∧ (beats g best x → ∀ k, has D (.string k) = true → (left (.string k) && !(Lit.string k).sameKey (.string x)) = false → beats g k x)) := by
                obtain ⟨_, hsk, _, _⟩ := HX.out
                refine ⟨fun hb k h1 h2 => ?_, fun hb k h1 h2 => ?_⟩
                · cases h3 : left (.string k) with
                  | false => exact H1.out.2 k h1 h3
                  | true =>
                    simp only [h3, Bool.true_and, Bool.not_eq_false'] at h2
                    rw [hsk k h2]; exact hb
                · cases h3 : left (.string k) with
                  | false => exact beats_trans (H1.out.2 k h1 h3) hb
                  | true =>
                    simp only [h3, Bool.true_and, Bool.not_eq_false'] at h2
                    rw [hsk k h2]; exact beats_refl g x
              clear HL kl
              rcases Int.lt_trichotomy (stampK g best) (stampK g x) with h1 | h1 | h1
              · have hB : Hid (beats g best x) := .inl h1
                have hL : Lib.compareInt (stampK g best) (stampK g x) = -1 := by unfold Lib.compareInt; rw [if_pos h1]
                rw [hL] at hlat
                clear hL h1 hless
                go_wp2_with (go_at_call 26; refine (hlat _ hc1).mono ?_; rintro e w2' ⟨rfl, c2'⟩)
                go_roundg cnt1
                case measure => exact HX.out.2.2.2
                case rel => exact ⟨_, x, true, rfl, rfl, hrg1.kept c2'.g0 (by simp) (by simp), hc1.nil c2', fun kl h1 => H0.out kl (by simp at h1; exact h1.1), fun h => by (cases h), fun _ => ⟨HX.out.1, hb.out.2 hB.out⟩⟩
              · have hL : Lib.compareInt (stampK g best) (stampK g x) = 0 := by unfold Lib.compareInt; rw [if_neg (by omega), if_neg (by omega)]
                rw [hL] at hlat
                clear hL
                by_cases hlt : best < x
                · have hB : Hid (beats g best x) := .inr ⟨h1, List.le_of_lt hlt⟩
                  rw [decide_eq_true hlt] at hless
                  clear h1 hlt
                  go_wp2_with (first
                    | (go_at_call 26; refine (hlat w2' (hc1.nil c2')).mono ?_; rintro e w3' ⟨rfl, c3'⟩)
                    | (go_at_call 26; refine (hlat w1' hc1).mono ?_; rintro e w2' ⟨rfl, c2'⟩))
                  go_roundg cnt1
                  case measure => exact HX.out.2.2.2
                  case rel => exact ⟨_, x, true, rfl, rfl, (hrg1.kept c2'.g0 (by simp) (by simp)).kept c3'.g0 (by simp) (by simp), (hc1.nil c2').nil c3', fun kl h1 => H0.out kl (by simp at h1; exact h1.1), fun h => by (cases h), fun _ => ⟨HX.out.1, hb.out.2 hB.out⟩⟩
                · have hB : Hid (beats g x best) := .inr ⟨h1.symm, List.not_lt.1 hlt⟩
                  rw [decide_eq_false hlt] at hless
                  clear h1 hlt
                  go_wp2_with (first
                    | (go_at_call 26; refine (hlat w2' (hc1.nil c2')).mono ?_; rintro e w3' ⟨rfl, c3'⟩)
                    | (go_at_call 26; refine (hlat w1' hc1).mono ?_; rintro e w2' ⟨rfl, c2'⟩))
                  go_roundg cnt1
                  case measure => exact HX.out.2.2.2
                  case rel => exact ⟨_, best, true, rfl, rfl, (hrg1.kept c2'.g0 (by simp) (by simp)).kept c3'.g0 (by simp) (by simp), (hc1.nil c2').nil c3', fun kl h1 => H0.out kl (by simp at h1; exact h1.1), fun h => by (cases h), fun _ => ⟨H1.out.1, hb.out.1 hB.out⟩⟩
              · have hB : Hid (beats g x best) := .inl h1
                have hL : Lib.compareInt (stampK g best) (stampK g x) = 1 := by unfold Lib.compareInt; rw [if_neg (by omega), if_pos h1]
                rw [hL] at hlat
                clear hL h1 hless
                go_wp2_with (first
                    | (go_at_call 26; refine (hlat w2' (hc1.nil c2')).mono ?_; rintro e w3' ⟨rfl, c3'⟩)
                    | (go_at_call 26; refine (hlat w1' hc1).mono ?_; rintro e w2' ⟨rfl, c2'⟩))
                go_roundg cnt1
                case measure => exact HX.out.2.2.2
                case rel => exact ⟨_, best, true, rfl, rfl, (hrg1.kept c2'.g0 (by simp) (by simp)).kept c3'.g0 (by simp) (by simp), (hc1.nil c2').nil c3', fun kl h1 => H0.out kl (by simp at h1; exact h1.1), fun h => by (cases h), fun _ => ⟨H1.out.1, hb.out.1 hB.out⟩⟩

end Go.Proofs.Ytphmplbcegibjaa
