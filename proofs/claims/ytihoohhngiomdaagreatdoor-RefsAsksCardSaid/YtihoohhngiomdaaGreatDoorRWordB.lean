/- Contracts of the document's answer to chapter 2: written, Text, Name, Quote. No statement of the seat is proved here. -/
import Derived.Test.YtihoohhngiomdaaGreatDoorRWordA
import Derived.Test.YtihoohhngiomdaaGreatDoorNumAll
import Derived.Test.YtihoohhngiomdaaGreatDoorRSgn
set_option linter.unusedVariables false
namespace Go.Aq.Wd
/-- What the document's written says: nothing where a sign stands for itself. -/
def rwrit (c : Nat) : List UInt8 := if special c then writ c else []
theorem hex_strip : ∀ c, c < 160 → (if (hexL [UInt8.ofNat c]).headD 0 = 48 then (hexL [UInt8.ofNat c]).drop 1 else hexL [UInt8.ofNat c]) = hexC c := by decide +kernel
theorem hex_first : ∀ c, c < 160 → ((hexL [UInt8.ofNat c]).headD 0 = 48 ↔ c < 16) := by decide +kernel
theorem Bc_ofNat (c : Nat) (h : c < 256) : Value.int .u8 (c : Nat) = Bc (UInt8.ofNat c) := by
  unfold Bc; rw [u8n c h]
end Go.Aq.Wd
namespace Go.Proofs.YtihoohhngiomdaaGreatDoor
open Go.RowKit Go.Aq Go.Aq.Wd
set_option maxHeartbeats 1000000 in
theorem rwritten_any (c : Nat) (hc : c ≤ 2000000) (w : World) :
    Calls Tryz.prog 70 #[.int .i64 c] w fun e w' => e = .returned (.string (str (rwrit c))) ∧ Chg [] w w' := by
  by_cases h34 : c = 34
  · subst h34
    have r1 : ∀ w : World, (convert 25 9 (.slice (some ⟨w.heap.size, 0, none⟩) 2 2)).run Tryz.prog (w.alloc (.cells #[.int .u8 92, .int .u8 34] 5)) = .ok (.string (str [92, 34])) (w.alloc (.cells #[.int .u8 92, .int .u8 34] 5)) := fun w => run_str8 (Sees.row (cs := #[.int .u8 92, .int .u8 34]) (by exact Blk.new _ _ _) rfl)
    have e1 : rwrit 34 = [92, 34] := by decide
    rw [e1]
    go_enter Tryz.func70, Tryz.ntmps70
    go_wp2_with fail
    go_ret
    exact ⟨rfl, (Chg.refl _ _).alloc _⟩
  · by_cases h92 : c = 92
    · subst h92
      have r1 : ∀ w : World, (convert 25 9 (.slice (some ⟨w.heap.size, 0, none⟩) 2 2)).run Tryz.prog (w.alloc (.cells #[.int .u8 92, .int .u8 92] 5)) = .ok (.string (str [92, 92])) (w.alloc (.cells #[.int .u8 92, .int .u8 92] 5)) := fun w => run_str8 (Sees.row (cs := #[.int .u8 92, .int .u8 92]) (by exact Blk.new _ _ _) rfl)
      have e1 : rwrit 92 = [92, 92] := by decide
      rw [e1]
      go_enter Tryz.func70, Tryz.ntmps70
      go_wp2_with fail
      go_ret
      exact ⟨rfl, (Chg.refl _ _).alloc _⟩
    · have t1 : ((c : Int) == 34) = false := by rw [beq_eq_false_iff_ne]; omega
      have t2 : ((c : Int) == 92) = false := by rw [beq_eq_false_iff_ne]; omega
      by_cases h10 : c = 10
      · subst h10
        have e1 : rwrit 10 = [92, 110] := by decide
        rw [e1]
        clear t1 t2
        go_enter Tryz.func70, Tryz.ntmps70
        go_wp2_with fail
        go_ret
        exact ⟨rfl, Chg.refl _ _⟩
      · have t3 : ((c : Int) == 10) = false := by rw [beq_eq_false_iff_ne]; omega
        have hct := rcontrol_any c hc
        cases hlow : low c with
        | false =>
          have e1 : rwrit c = [] := by simp [rwrit, special, hlow, h34, h92]
          rw [e1]
          rw [hlow] at hct
          clear h34 h92 h10 hlow e1
          go_enter Tryz.func70, Tryz.ntmps70
          go_wp2_with fail
          refine (hct _).mono ?_
          rintro e w1 ⟨rfl, rfl⟩
          go_wp2_with fail
          go_ret
          exact ⟨rfl, Chg.refl _ _⟩
        | true =>
          have h160 : c < 160 := by simp only [low, Bool.or_eq_true, Bool.and_eq_true, decide_eq_true_eq] at hlow; omega
          have e1 : rwrit c = [92, 117, 123] ++ hexC c ++ [125] := by
            have : special c = true := by simp [special, hlow]
            rw [rwrit, this, if_pos rfl, writ, if_neg (by omega), if_neg h10, hlow, if_pos rfl]
          rw [hlow] at hct
          rw [e1]
          have hhx := fun (w : World) => refHex_any (w.alloc (.cells #[Bc (UInt8.ofNat c)] 5)) (.slice (some ⟨w.heap.size, 0, none⟩) 1 1) 1 [UInt8.ofNat c] (Sees.row (cs := #[Bc (UInt8.ofNat c)]) (by exact Blk.new _ _ _) rfl) (by decide)
          have hstrip := hex_strip c h160
          have hfirst := hex_first c h160
          have hlen := hexL_length [UInt8.ofNat c]
          have eb := Bc_ofNat c (by omega)
          rw [← eb] at hhx
          have hch : (hexL [UInt8.ofNat c]).length = 2 := hlen
          clear hlow e1 h34 h92 h10 eb
          generalize hexL [UInt8.ofNat c] = H at *
          have hpos : 0 < H.length := by omega
          have hdH : H.headD 0 = H[0] := by cases H; (simp at hch); rfl
          have ix : ∀ w', (Instr.index 9 (.string (str H)) (.int .i64 0)).run Tryz.prog w' = .ok (.int .u8 ((H[0]).toNat : Int)) w' := fun w' => idxS w' H 0 hpos
          have hyl := (H[0]).toNat_lt
          have hH48 : H[0] = 48 ↔ (H[0]).toNat = 48 := by
            constructor
            · intro h; rw [h]; rfl
            · intro h; have := u8e _ _ h; rw [← this]; rfl
          rw [hdH] at hfirst hstrip
          have hsH := str_size H
          rw [hch] at hsH
          by_cases h0 : H[0] = 48
          · rw [if_pos h0] at hstrip
            have hn := hH48.1 h0
            rw [hn] at ix
            have e3 := str_from H 1
            rw [hch, hstrip] at e3
            have e4 : (⟨#[92, 117, 123]⟩ : ByteArray) ++ str (hexC c) = str ([92, 117, 123] ++ hexC c) := str_appR _ _
            have e5 : str ([92, 117, 123] ++ hexC c) ++ ⟨#[125]⟩ = str ([92, 117, 123] ++ hexC c ++ [125]) := str_appL _ _
            have hcl : (hexC c).length ≤ 2 := by unfold hexC; split <;> simp
            have s1 := str_size (hexC c)
            have s2 : (str ([92, 117, 123] ++ hexC c)).size ≤ 6 := by rw [str_size]; simp; omega
            clear hstrip hfirst hdH hH48 h0 hlen hch
            generalize [92, 117, 123] ++ hexC c = X at *
            generalize hexC c = Y at *
            go_enter Tryz.func70, Tryz.ntmps70
            go_wp2_with fail
            refine (hct _).mono ?_
            rintro e w1 ⟨rfl, rfl⟩
            go_wp2_with fail
            refine (hhx _).mono ?_
            rintro e w2 ⟨rfl, c2⟩
            have c3 := ((Chg.refl [] w1).alloc (.cells #[.int .u8 (c : Nat)] 5)).nil c2
            clear hhx hct
            go_wp2_with fail
            go_ret
            exact ⟨rfl, c3⟩
          · rw [if_neg h0] at hstrip
            have hn : ((H[0]).toNat : Int) ≠ 48 := fun h => h0 (hH48.2 (by omega))
            have t5 : (((H[0]).toNat : Int) == 48) = false := by rw [beq_eq_false_iff_ne]; exact hn
            have e4 : (⟨#[92, 117, 123]⟩ : ByteArray) ++ str H = str ([92, 117, 123] ++ H) := str_appR _ _
            have e5 : str ([92, 117, 123] ++ H) ++ ⟨#[125]⟩ = str ([92, 117, 123] ++ H ++ [125]) := str_appL _ _
            have s2 : (str ([92, 117, 123] ++ H)).size ≤ 6 := by rw [str_size]; simp; omega
            rw [← hstrip]
            clear hstrip hfirst hdH hH48 h0 hlen hch hn
            generalize (H[0]).toNat = y at *
            generalize [92, 117, 123] ++ H = X at *
            go_enter Tryz.func70, Tryz.ntmps70
            go_wp2_with fail
            refine (hct _).mono ?_
            rintro e w1 ⟨rfl, rfl⟩
            go_wp2_with fail
            refine (hhx _).mono ?_
            rintro e w2 ⟨rfl, c2⟩
            have c3 := ((Chg.refl [] w1).alloc (.cells #[.int .u8 (c : Nat)] 5)).nil c2
            clear hhx hct
            go_wp2_with fail
            go_ret
            exact ⟨rfl, c3⟩
end Go.Proofs.YtihoohhngiomdaaGreatDoor
