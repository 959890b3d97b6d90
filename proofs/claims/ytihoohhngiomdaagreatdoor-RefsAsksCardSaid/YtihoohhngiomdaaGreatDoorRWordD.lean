/- Contracts of the document's answer to chapter 2: escape, text, plain. No statement of the seat is proved here. -/
import Derived.Test.YtihoohhngiomdaaGreatDoorRWordB
set_option linter.unusedVariables false
namespace Go.Aq.Wd
/-- What the document's escape says. -/
def rescL (r : List UInt8) : Nat × Nat × Nat := match escO r with
  | some k => (k, (writ k).length, 0)
  | none => if escShort r then (0, 0, 2) else (0, 0, 4)
/-- Which of the first signs that are written by a backslash would need more bytes. -/
def shF (r : List UInt8) (i : Nat) : Bool := (List.range i).any fun c => special c && decide (r.length < (writ c).length) && r.isPrefixOf (writ c)
theorem shF_zero (r : List UInt8) : shF r 0 = false := rfl
theorem shF_succ (r : List UInt8) (i : Nat) : shF r (i + 1) = (shF r i || (special i && decide (r.length < (writ i).length) && r.isPrefixOf (writ i))) := by
  unfold shF
  rw [List.range_succ, List.any_append]
  simp
theorem special_lt (c : Nat) (h : special c = true) : c < 160 := by
  simp only [special, low, Bool.or_eq_true, Bool.and_eq_true, beq_iff_eq, decide_eq_true_eq] at h
  omega
theorem resc_none (r : List UInt8) (h : ∀ c, c < 160 → special c = true → (writ c).isPrefixOf r = false) : rescL r = if shF r 160 then (0, 0, 2) else (0, 0, 4) := by
  have hn : escO r = none := (escO_none r).2 fun c hc => by
    have hs := (mem_escs c).1 hc
    exact h c (special_lt c hs) hs
  have he : escShort r = shF r 160 := by
    unfold escShort shF
    rw [Bool.eq_iff_iff, List.any_eq_true, List.any_eq_true]
    constructor
    · rintro ⟨c, hc, hp⟩
      have hs := (mem_escs c).1 hc
      refine ⟨c, List.mem_range.2 (special_lt c hs), ?_⟩
      have hp' := List.isPrefixOf_iff_prefix.1 hp
      have hle := hp'.length_le
      have hne : r.length ≠ (writ c).length := fun e => by
        have := hp'.eq_of_length e
        have h2 := h c (special_lt c hs) hs
        rw [this] at h2
        rw [List.isPrefixOf_iff_prefix.2 (List.prefix_refl _)] at h2
        simp at h2
      rw [hs, hp, decide_eq_true (by omega)]; rfl
    · rintro ⟨c, hc, hp⟩
      simp only [Bool.and_eq_true, decide_eq_true_eq] at hp
      exact ⟨c, (mem_escs c).2 hp.1.1, hp.2⟩
  unfold rescL
  rw [hn, he]
theorem resc_some (r : List UInt8) (c : Nat) (hs : special c = true) (h : (writ c).isPrefixOf r = true) : rescL r = (c, (writ c).length, 0) := by
  unfold rescL
  rw [escO_is r c ((mem_escs c).2 hs) h]
theorem take_prefix (r W : List UInt8) (h : W.length ≤ r.length) : ((str (r.take W.length)).toList == (str W).toList) = W.isPrefixOf r := by
  rw [str_toList, str_toList, Bool.eq_iff_iff, beq_iff_eq, List.isPrefixOf_iff_prefix]
  constructor
  · intro e; rw [← e]; exact List.take_prefix _ _
  · intro e; exact (List.prefix_iff_eq_take.1 e).symm
theorem text_or : ∀ k, k < 160 → (192 ||| k / 64) = 192 + k / 64 ∧ (128 ||| k % 64) = 128 + k % 64 := by decide +kernel
theorem enc1_160 (k : Nat) (h1 : 128 ≤ k) (h2 : k < 160) : enc1 k = [UInt8.ofNat (192 + k / 64), UInt8.ofNat (128 + k % 64)] := by
  unfold enc1; rw [if_neg (by omega), if_pos (by omega)]
end Go.Aq.Wd
namespace Go.Proofs.YtihoohhngiomdaaGreatDoor
open Go.RowKit Go.Aq Go.Aq.Wd
set_option maxHeartbeats 1000000 in
theorem rtextc_any (k : Nat) (hk : k < 160) (w : World) :
    Calls Tryz.prog 76 #[.int .i64 k] w fun e w' => e = .returned (.string (str (enc1 k))) ∧ Chg [] w w' := by
  by_cases h : k < 128
  · have t1 : decide ((k : Int) < 128) = true := by simp; omega
    have t1' : decide (k < 128) = true := by simp; omega
    rw [enc1_low k h]
    have eb := Bc_ofNat k (by omega)
    have r1 : ∀ w : World, (convert 25 9 (.slice (some ⟨w.heap.size, 0, none⟩) 1 1)).run Tryz.prog (w.alloc (.cells #[.int .u8 (k : Nat)] 5)) = .ok (.string (str [UInt8.ofNat k])) (w.alloc (.cells #[.int .u8 (k : Nat)] 5)) := fun w => by
      rw [eb]; exact run_str8 (Sees.row (cs := #[Bc (UInt8.ofNat k)]) (by exact Blk.new _ _ _) rfl)
    have hkb : (k : Int) < 160 := by omega
    clear eb h
    go_enter Tryz.func76, Tryz.ntmps76
    go_wp2_with fail
    go_ret
    exact ⟨rfl, (Chg.refl _ _).alloc _⟩
  · have t1 : decide ((k : Int) < 128) = false := by simp; omega
    have t1' : decide (k < 128) = false := by simp; omega
    rw [enc1_160 k (by omega) hk]
    have eb := Bc_ofNat (192 + k / 64) (by omega)
    have ec := Bc_ofNat (128 + k % 64) (by omega)
    obtain ⟨o1, o2⟩ := text_or k hk
    have b1 : bits .or .i64 192 ((k / 64 : Nat) : Int) = ((192 + k / 64 : Nat) : Int) := by rw [← o1]; exact (bits_i64 192 (k / 64) (by omega) (by omega)).2.1
    have b2 : bits .or .i64 128 ((k % 64 : Nat) : Int) = ((128 + k % 64 : Nat) : Int) := by rw [← o2]; exact (bits_i64 128 (k % 64) (by omega) (by omega)).2.1
    have b3 : bits .and .i64 (k : Int) 63 = ((k % 64 : Nat) : Int) := i64mask k 63 6 (by omega) (by decide) (by decide)
    have dv : (k : Int) / 64 = ((k / 64 : Nat) : Int) := by simp
    have q1 : 192 + k / 64 < 256 := by omega
    have q2 : 128 + k % 64 < 256 := by omega
    generalize 192 + k / 64 = x1 at *
    generalize 128 + k % 64 = x2 at *
    generalize k / 64 = y1 at *
    generalize k % 64 = y2 at *
    have r1 : ∀ w : World, (convert 25 9 (.slice (some ⟨w.heap.size, 0, none⟩) 2 2)).run Tryz.prog (w.alloc (.cells #[.int .u8 (x1 : Nat), .int .u8 (x2 : Nat)] 5)) = .ok (.string (str [UInt8.ofNat x1, UInt8.ofNat x2])) (w.alloc (.cells #[.int .u8 (x1 : Nat), .int .u8 (x2 : Nat)] 5)) := fun w => by
      rw [eb, ec]; exact run_str8 (Sees.row (cs := #[Bc (UInt8.ofNat x1), Bc (UInt8.ofNat x2)]) (by exact Blk.new _ _ _) rfl)
    have hkb : (k : Int) < 160 := by omega
    have q1' : (x1 : Int) < 256 := by omega
    have q2' : (x2 : Int) < 256 := by omega
    clear eb ec o1 o2 h
    go_enter Tryz.func76, Tryz.ntmps76
    go_wp2_with fail
    go_ret
    exact ⟨rfl, (Chg.refl _ _).alloc _⟩
set_option maxRecDepth 100000 in
set_option maxHeartbeats 4000000 in
theorem rescape_any (l : List UInt8) (p : Nat) (w : World) (hp : p ≤ l.length) (hl : l.length ≤ 1000000000) :
    Calls Tryz.prog 75 #[.string (str l), .int .i64 p] w fun e w' => e = .returned (.tuple #[.int .i64 (rescL (l.drop p)).1, .int .i64 (rescL (l.drop p)).2.1, .int .i64 (rescL (l.drop p)).2.2]) ∧ Chg [] w w' := by
  have hsz := str_size l
  have hfr := str_from l p
  have hrl : (l.drop p).length = l.length - p := List.length_drop
  have hsr := str_size (l.drop p)
  have hrb : (l.drop p).length ≤ 1000000000 := by omega
  clear hrl
  generalize l.drop p = r at *
  go_enter Tryz.func75, Tryz.ntmps75
  go_wp2_with fail
  go_loopg [7, 8] 160 (fun k vs vc wr => ∃ (c : Nat), vs = .bool (shF r c) ∧ vc = .int .i64 c ∧ c + k = 160 ∧ Chg [] w wr ∧ Hid (∀ d, d < c → special d = true → (writ d).isPrefixOf r = false))
  case atStart => exact ⟨0, rfl, rfl, rfl, Chg.refl _ _, fun d h => absurd h (by omega)⟩
  case round =>
    obtain ⟨c, rfl, rfl, hck, hc, HA⟩ := hrel
    by_cases h160 : c < 160
    · have t1 : decide ((c : Int) < 160) = true := by simp; omega
      have t1' : decide (c < 160) = true := by simp; omega
      have hw := rwritten_any c (by omega)
      have hsu := shF_succ r c
      have hcb : (c : Int) ≤ 160 := by omega
      have hso := resc_some r c
      have htp := take_prefix r (writ c)
      have htq := take_prefix (writ c) r
      have hu1 := str_upto r (writ c).length
      have hu2 := str_upto (writ c) r.length
      have hsw := str_size (writ c)
      have hw6 := writ_le c
      have hrw : rwrit c = if special c then writ c else [] := rfl
      have hwn := writ_ne c
      cases hsp : special c with
      | false =>
        rw [hsp] at hsu hrw
        simp only [Bool.false_and, Bool.or_false] at hsu
        have e1 : (str (rwrit c)).toList.isEmpty = true := by rw [str_toList, hrw]; rfl
        have HSU := Lib.hid hsu
        have HB : Hid (∀ d, d < c + 1 → special d = true → (writ d).isPrefixOf r = false) := fun d hd hs => by
          by_cases h : d < c
          · exact HA.out d h hs
          · obtain rfl : d = c := by omega
            rw [hsp] at hs; simp at hs
        have HP := Lib.hid (And.intro hck h160)
        clear hsu hrw hck hsp hso htp htq hu1 hu2 hsw hwn hw6
        generalize rwrit c = W0 at *
        go_wp2_with fail
        refine (hw wr).mono ?_
        rintro e w3 ⟨rfl, c3⟩
        clear hw
        go_wp2_with fail
        go_roundg (gk - 1)
        case measure => have := HP.out; omega
        case rel => exact ⟨c + 1, by rw [HSU.out], by go_num, by have := HP.out; omega, hc.nil c3, HB⟩
      | true =>
        rw [hsp] at hsu hrw
        rw [if_pos rfl] at hrw
        simp only [Bool.true_and] at hsu
        rw [hrw] at hw
        have e1 : (str (writ c)).toList.isEmpty = false := by
          rw [str_toList]
          cases hx : writ c with
          | nil => exact absurd hx hwn
          | cons a t => rfl
        have hso := hso hsp
        have HP := Lib.hid (And.intro hck h160)
        by_cases hle : (writ c).length ≤ r.length
        · have t2 : decide (((writ c).length : Int) ≤ (r.length : Int)) = true := by simp; omega
          have t2' : decide ((writ c).length ≤ r.length) = true := by simp; omega
          have hcmp := htp hle
          cases hpre : (writ c).isPrefixOf r with
          | true =>
            have HS := Lib.hid (hso hpre)
            rw [hpre] at hcmp
            clear hsu hck hsp hso htp htq hwn hrw hpre hu2 h160
            generalize writ c = W at *
            go_wp2_with fail
            refine (hw wr).mono ?_
            rintro e w3 ⟨rfl, c3⟩
            clear hw
            go_wp2_with fail
            go_ret3
            exact ⟨by rw [HS.out]; rfl, hc.nil c3⟩
          | false =>
            rw [hpre] at hcmp
            have t3 : decide ((r.length : Int) < ((writ c).length : Int)) = false := by simp; omega
            have t3' : decide (r.length < (writ c).length) = false := by simp; omega
            rw [t3'] at hsu
            simp only [Bool.false_and, Bool.or_false] at hsu
            have HSU := Lib.hid hsu
            have HB : Hid (∀ d, d < c + 1 → special d = true → (writ d).isPrefixOf r = false) := fun d hd hs => by
              by_cases h : d < c
              · exact HA.out d h hs
              · obtain rfl : d = c := by omega
                exact hpre
            clear hsu hck hsp hso htp htq hwn hrw hpre hu2 h160
            generalize writ c = W at *
            generalize hsh : shF r c = sh at *
            cases sh with
            | true =>
              have HSH := Lib.hid hsh
              clear hsh
              go_wp2_with fail
              refine (hw wr).mono ?_
              rintro e w3 ⟨rfl, c3⟩
              clear hw
              go_wp2_with fail
              go_roundg (gk - 1)
              case measure => have := HP.out; omega
              case rel => exact ⟨c + 1, by rw [HSU.out], by go_num, by have := HP.out; omega, hc.nil c3, HB⟩
            | false =>
              have HSH := Lib.hid hsh
              clear hsh
              go_wp2_with fail
              refine (hw wr).mono ?_
              rintro e w3 ⟨rfl, c3⟩
              clear hw
              go_wp2_with fail
              go_roundg (gk - 1)
              case measure => have := HP.out; omega
              case rel => exact ⟨c + 1, by rw [HSU.out], by go_num, by have := HP.out; omega, hc.nil c3, HB⟩
        · have t2 : decide (((writ c).length : Int) ≤ (r.length : Int)) = false := by simp; omega
          have t2' : decide ((writ c).length ≤ r.length) = false := by simp; omega
          have t3 : decide ((r.length : Int) < ((writ c).length : Int)) = true := by simp; omega
          have t3' : decide (r.length < (writ c).length) = true := by simp; omega
          have hcmp := htq (by omega)
          rw [t3'] at hsu
          simp only [Bool.true_and] at hsu
          have HSU := Lib.hid hsu
          have hpf : (writ c).isPrefixOf r = false := by
            rw [Bool.eq_false_iff]; intro h; exact hle ((List.isPrefixOf_iff_prefix.1 h).length_le)
          have HB : Hid (∀ d, d < c + 1 → special d = true → (writ d).isPrefixOf r = false) := fun d hd hs => by
            by_cases h : d < c
            · exact HA.out d h hs
            · obtain rfl : d = c := by omega
              exact hpf
          have hrw6 : r.length ≤ (writ c).length := by omega
          clear hsu hck hsp hso htp htq hwn hrw hu1 h160 hpf hle
          generalize r.isPrefixOf (writ c) = pf at *
          generalize writ c = W at *
          generalize shF r c = sh at *
          cases sh with
          | true =>
            go_wp2_with fail
            refine (hw wr).mono ?_
            rintro e w3 ⟨rfl, c3⟩
            clear hw
            go_wp2_with fail
            go_roundg (gk - 1)
            case measure => have := HP.out; omega
            case rel => exact ⟨c + 1, by rw [HSU.out]; rfl, by go_num, by have := HP.out; omega, hc.nil c3, HB⟩
          | false =>
            go_wp2_with fail
            refine (hw wr).mono ?_
            rintro e w3 ⟨rfl, c3⟩
            clear hw
            go_wp2_with fail
            go_roundg (gk - 1)
            case measure => have := HP.out; omega
            case rel => exact ⟨c + 1, by rw [HSU.out]; rfl, by go_num, by have := HP.out; omega, hc.nil c3, HB⟩
    · have t1 : decide ((c : Int) < 160) = false := by simp; omega
      have t1' : decide (c < 160) = false := by simp; omega
      obtain rfl : c = 160 := by omega
      have HN := Lib.hid (resc_none r HA.out)
      generalize hsh : shF r 160 = sh at *
      have HSH := Lib.hid hsh
      clear hsh h160 t1 t1'
      cases sh with
      | true =>
        go_wp2_with fail
        go_ret3
        exact ⟨by rw [HN.out]; rfl, hc⟩
      | false =>
        go_wp2_with fail
        go_ret3
        exact ⟨by rw [HN.out]; rfl, hc⟩
end Go.Proofs.YtihoohhngiomdaaGreatDoor
