/- The walk of ShaKeys. No statement of the seat is proved here. -/
import Derived.Test.YtgjmcpmdhilkeaaShaLaw
set_option linter.unusedVariables false
namespace Go.Aq
/-- append at an operation under a guard that holds. -/
theorem wpList_appFG {P : Program} {w0 W : World} {ops : Array Oper} {rest : List Oper} {o : Oper} {a : Act} {Q : Exit → Act → World → Prop} (hw : Region.wanted o (yielded ops a.tmps) = true) (s x : Operand) (t : TypeId)
    (ho : o.op = .call { callee := .builtin .append, args := #[s, x], argTypes := #[t, t] })
    {e : TypeId} {z : Value} {size bytes : Nat} (ht : SliceTy P t e z size bytes)
    {v : Value} {n : Nat} {xs : List Value} (hf : Fresh w0 W e size v n xs) (hs : a.eval s = v) {vx : Value} {m : Nat} {news : List Value} (hsrc : Sees W size vx m news) (hx : a.eval x = vx)
    (h1 : ∀ u ∈ news, u.oneCell' = true) (hb : (n + m) * bytes ≤ 140737488355328) (h63 : n + m ≤ 9223372036854775807)
    (h : ∀ v' W', Fresh w0 W' e size v' (n + m) (xs ++ news) → Chg v.ownBlock.toList W W' → wpList P ops Q rest (a.put o.dst v') W') : wpList P ops Q (o :: rest) a W :=
  wpList_step fun K hK => by
    rw [if_pos hw]
    exact wp_app s x t ho ht hf.own hs hsrc hx h1 hb h63 fun v' W' p1 p2 p3 => hK _ _ (h v' W' (hf.app p1 p2 p3) p2)
end Go.Aq
namespace Go.Proofs.Ytgjmcpmdhilkeaa
open Go.RowKit Go.Aq Go.Aq.Sha
theorem str_extract (l : List UInt8) (i j : Nat) : (str l).extract i j = str ((l.take j).drop i) := by
  unfold str
  apply ByteArray.ext
  rw [ByteArray.data_extract]
  simp [List.drop_take]
theorem copyF (w : World) (v : Value) (n : Nat) (bs : List UInt8) (hv : Sees w 1 v n (Bs bs)) (hb : n ≤ 140737488355328) :
    Calls Try.prog 6 #[v] w fun e w' => ∃ v', e = .returned v' ∧ Fresh w w' 5 1 v' n (Bs bs) :=
  (copy_any w v n bs hv hb sl_u8).mono fun e w' ⟨v', h1, h2, h3, h4⟩ => ⟨v', h1, h2, h3, h4⟩
set_option maxHeartbeats 1000000 in
theorem keys_out (va vb : Value) (n m : Nat) (a b : List UInt8) (w : World) (ha : Sees w 1 va n (Bs a)) (hb : Sees w 1 vb m (Bs b)) (h : 4000 < n ∨ 4000 < m) (h63 : n ≤ 9223372036854775807) (h64 : m ≤ 9223372036854775807) :
    Calls Try.prog 4 #[va, vb] w fun e w' => e = .returned (.bool true) ∧ Chg [] w w' := by
  obtain ⟨ao, cap, rfl, hcap, hno⟩ := ha.shape
  obtain ⟨bo, capb, rfl, hcapb, hnob⟩ := hb.shape
  clear hno hnob ha hb
  by_cases h5 : 4000 < n
  · have t1 : decide (4000 < (n : Int)) = true := by simp; omega
    have t1' : decide (4000 < n) = true := by simp; omega
    go_enter Try.func4, Try.ntmps4
    go_wp2_with fail
    refine (first3 _).mono ?_
    rintro e w0 ⟨rfl, c0⟩
    go_wp2_with fail
    refine (first3 _).mono ?_
    rintro e w1 ⟨rfl, c1⟩
    go_wp2_with fail
    go_ret
    exact ⟨rfl, c0.nil c1⟩
  · have t1 : decide (4000 < (n : Int)) = false := by simp; omega
    have t1' : decide (4000 < n) = false := by simp; omega
    have t2 : decide (4000 < (m : Int)) = true := by simp; omega
    have t2' : decide (4000 < m) = true := by simp; omega
    go_enter Try.func4, Try.ntmps4
    go_wp2_with fail
    refine (first3 _).mono ?_
    rintro e w0 ⟨rfl, c0⟩
    go_wp2_with fail
    refine (first3 _).mono ?_
    rintro e w1 ⟨rfl, c1⟩
    go_wp2_with fail
    go_ret
    exact ⟨rfl, c0.nil c1⟩
set_option maxHeartbeats 2000000 in
theorem keys_in (va vb : Value) (n m : Nat) (a b : List UInt8) (w : World) (ha : Sees w 1 va n (Bs a)) (hb : Sees w 1 vb m (Bs b)) (hn : n ≤ 4000) (hm : m ≤ 4000) :
    Calls Try.prog 4 #[va, vb] w fun e w' => e = .returned (.bool true) ∧ Chg [] w w' := by
  obtain ⟨ao, cap, rfl, hcap, hno⟩ := ha.shape
  obtain ⟨bo, capb, rfl, hcapb, hnob⟩ := hb.shape
  clear hno hnob
  have t1 : decide (4000 < (n : Int)) = false := by simp; omega
  have t1' : decide (4000 < n) = false := by simp; omega
  have t2 : decide (4000 < (m : Int)) = false := by simp; omega
  have t2' : decide (4000 < m) = false := by simp; omega
  have HA := Lib.hid ha
  have HB := Lib.hid hb
  clear ha hb
  have hal : a.length = n := by have := HA.out.len; rw [Bs_length] at this; omega
  have hbl : b.length = m := by have := HB.out.len; rw [Bs_length] at this; omega
  have HAL := Lib.hid (And.intro hal hbl); clear hal hbl
  go_enter Try.func4, Try.ntmps4
  go_wp2_with fail
  refine (first3 _).mono ?_
  rintro e w0 ⟨rfl, c0⟩
  go_wp2_with fail
  refine (key_any w0 _ n a (HA.out.chg0 c0) (by omega)).mono ?_
  rintro e w1 ⟨rfl, c1⟩
  have hkl : (hexL (sum a)).length = 64 := by rw [hexL_length, sum_length]
  have hku := unhex_hex (sum a)
  have hkv := validB_hex (sum a) (sum_length a)
  have hsl := sum_length a
  generalize hK : hexL (sum a) = k at *
  have HK := Lib.hid (And.intro hK (And.intro hkl (And.intro hku hkv)))
  have hks : (str k).size = 64 := by rw [str_size, hkl]
  have c01 := c0.nil c1
  clear hK hku hkv c0 c1 hkl
  go_wp2_with fail
  refine (unhex_any w1 k (by have := HK.out.2.1; omega)).mono ?_
  rintro e w2 (⟨bs, vu, hu, rfl, hfu⟩ | ⟨hu, rfl, -⟩)
  · have hbs : bs = sum a := by rw [HK.out.2.2.1] at hu; simpa using hu.symm
    subst hbs
    clear hu
    have c02 := c01.nil hfu.chg
    have hsu := hfu.own.sees
    clear hfu c01
    go_wp2_with fail
    refine (first3 _).mono ?_
    rintro e w3 ⟨rfl, c3⟩
    have c03 := c02.nil c3
    have hsu3 := hsu.chg0 c3
    clear c02 c3 hsu
    go_wp2_with fail
    refine (sum_any w3 _ n a (HA.out.chg0 c03) (by omega)).mono ?_
    rintro e w4 ⟨vs, rfl, hfs⟩
    have c04 := c03.nil hfs.chg
    have hsu4 := hsu3.chg0 hfs.chg
    clear c03 hsu3
    go_wp2_with fail
    refine (same_yes w4 vu vs _ _ (sum a) (sum a) hsu4 hfs.own.sees rfl).mono ?_
    rintro e w5 ⟨rfl, rfl⟩
    clear hsu4 hfs
    go_wp2_with fail
    refine (valid_any _ k (by have := HK.out.2.1; omega)).mono ?_
    rintro e w5 ⟨rfl, c5⟩
    rw [HK.out.2.2.2]
    have c05 := c04.nil c5
    clear c04 c5
    go_wp2_with fail
    have he : (str k).extract 0 (min (64 : Int) 63).toNat = str (k.take 63) := by
      have : (min (64 : Int) 63).toNat = 63 := by decide
      rw [this]
      exact str_extract k 0 63
    rw [he]
    clear he
    have hk63 : (k.take 63).length = 63 := by rw [List.length_take, HK.out.2.1]; decide
    have hv63 := validB_odd (k.take 63) (by omega)
    generalize k.take 63 = k63 at *
    have H63 := Lib.hid hk63
    have HV63 := Lib.hid hv63
    clear hk63 hv63
    refine (valid_any _ k63 (by have := H63.out; omega)).mono ?_
    rintro e w6 ⟨rfl, c6⟩
    rw [HV63.out]
    have c06 := c05.nil c6
    clear c05 c6
    go_wp2_with fail
    refine (same_any w6 _ _ _ _ a b (HA.out.chg0 c06) (HB.out.chg0 c06)).mono ?_
    rintro e w6 ⟨rfl, rfl⟩
    by_cases hab : a = b
    · have td : decide (a = b) = true := by simpa using hab
      rw [td]
      go_wp2_with fail
      refine (key_any _ _ m b (HB.out.chg0 c06) (by omega)).mono ?_
      rintro e w7 ⟨rfl, c7⟩
      have hkb : hexL (sum b) = k := by rw [← hab]; exact HK.out.1
      rw [hkb]
      have c07 := c06.nil c7
      clear c06 c7 hkb hab td
      go_wp2_with fail
      refine (copyF w7 _ n a (HA.out.chg0 c07) (by omega)).mono ?_
      rintro e w7b ⟨vc, rfl, hf7⟩
      have hb7 := HB.out.chg0 (c07.nil hf7.chg)
      go_wp2_with (at_builtin; refine wpList_appFG (w0 := w7) (by first | rfl | decide | simp [Region.wanted, yielded]) _ _ 22 rfl sl_u8 hf7 rfl hb7 rfl (Bs_one _) (by omega) (by omega) ?_; intro v8 w8 hF8 c8)
      have c08 := c07.nil hF8.chg
      rw [← Bs_append] at hF8
      refine (key_any w8 _ _ (a ++ b) hF8.own.sees (by omega)).mono ?_
      rintro e w9 ⟨rfl, c9⟩
      have c09 := c08.nil c9
      have hv9 := validB_hex (sum (a ++ b)) (sum_length _)
      have hl9 : (hexL (sum (a ++ b))).length = 64 := by rw [hexL_length, sum_length]
      generalize hexL (sum (a ++ b)) = k9 at *
      have HL9 := Lib.hid hl9; clear hl9
      have HV9 := Lib.hid hv9; clear hv9 c8 hF8 hb7 hf7 c9
      go_wp2_with fail
      refine (valid_any _ k9 (by have := HL9.out; omega)).mono ?_
      rintro e w10 ⟨rfl, c10⟩
      rw [HV9.out]
      go_wp2_with fail
      go_ret
      exact ⟨rfl, c09.nil c10⟩
    · have td : decide (a = b) = false := by simpa using hab
      rw [td]
      clear hab td
      go_wp2_with fail
      refine (copyF w6 _ n a (HA.out.chg0 c06) (by omega)).mono ?_
      rintro e w7 ⟨vc, rfl, hf7⟩
      have hb7 := HB.out.chg0 (c06.nil hf7.chg)
      go_wp2_with (at_builtin; refine wpList_appFG (w0 := w6) (by first | rfl | decide | simp [Region.wanted, yielded]) _ _ 22 rfl sl_u8 hf7 rfl hb7 rfl (Bs_one _) (by omega) (by omega) ?_; intro v8 w8 hF8 c8)
      have c08 := c06.nil hF8.chg
      rw [← Bs_append] at hF8
      refine (key_any w8 _ _ (a ++ b) hF8.own.sees (by omega)).mono ?_
      rintro e w9 ⟨rfl, c9⟩
      have c09 := c08.nil c9
      have hv9 := validB_hex (sum (a ++ b)) (sum_length _)
      have hl9 : (hexL (sum (a ++ b))).length = 64 := by rw [hexL_length, sum_length]
      generalize hexL (sum (a ++ b)) = k9 at *
      have HL9 := Lib.hid hl9; clear hl9
      have HV9 := Lib.hid hv9; clear hv9 c8 hF8 hb7 hf7 c9
      go_wp2_with fail
      refine (valid_any _ k9 (by have := HL9.out; omega)).mono ?_
      rintro e w10 ⟨rfl, c10⟩
      rw [HV9.out]
      go_wp2_with fail
      go_ret
      exact ⟨rfl, c09.nil c10⟩
  · rw [HK.out.2.2.1] at hu
    simp at hu
theorem keysTop (va : Value) (n : Nat) (a : List UInt8) {w : World} (ha : Sees w 1 va n (Bs a) ∧ n ≤ 9223372036854775807) (vb : Value) (m : Nat) (b : List UInt8) (hb : Sees w 1 vb m (Bs b) ∧ m ≤ 9223372036854775807) :
    Calls Try.prog 4 #[va, vb] w fun e w' => e = .returned (.bool true) ∧ Chg [] w w' := by
  by_cases h : n ≤ 4000 ∧ m ≤ 4000
  · exact keys_in va vb n m a b w ha.1 hb.1 h.1 h.2
  · exact keys_out va vb n m a b w ha.1 hb.1 (by omega) ha.2 hb.2
end Go.Proofs.Ytgjmcpmdhilkeaa
