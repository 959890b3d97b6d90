/- Shapes, pictures and acts in plain Lean. No statement of the seat is proved here. -/
import Derived.Test.YtfammoidikdbpaaGreatDoorStr
set_option linter.unusedVariables false
namespace Go.Aq
/-- A picture's shape. -/
structure ShpD where
  w : Int
  h : Int
  c : Int
  d : Int
def shpZ : ShpD := ⟨0, 0, 0, 0⟩
def shpV (s : ShpD) : Value := .agg #[.int .i64 s.w, .int .i64 s.h, .int .i64 s.c, .int .i64 s.d]
/-- May a shape's numbers be? -/
def numsB (s : ShpD) : Bool := decide (1 ≤ s.w) && decide (s.w ≤ 256) && decide (1 ≤ s.h) && decide (s.h ≤ 256) && decide (1 ≤ s.c) && decide (s.c ≤ 4) && (s.d == 8 || s.d == 16)
def rowD (s : ShpD) : Int := if numsB s then s.w * s.c * s.d / 8 else 0
def sizeD (s : ShpD) : Int := if numsB s then rowD s * s.h else 0
def maySh (s : ShpD) : Bool := numsB s && decide (sizeD s ≤ 16384)
def mayPix (s : ShpD) (n : Nat) : Bool := maySh s && ((n : Int) == sizeD s)
theorem numsB_iff (s : ShpD) : numsB s = true ↔ (1 ≤ s.w ∧ s.w ≤ 256) ∧ (1 ≤ s.h ∧ s.h ≤ 256) ∧ (1 ≤ s.c ∧ s.c ≤ 4) ∧ (s.d = 8 ∨ s.d = 16) := by
  simp only [numsB, Bool.and_eq_true, Bool.or_eq_true, decide_eq_true_eq, beq_iff_eq]
  omega
theorem row_bound (w c d : Int) (h1 : 1 ≤ w ∧ w ≤ 256) (h2 : 1 ≤ c ∧ c ≤ 4) (h3 : d = 8 ∨ d = 16) : (1 ≤ w * c ∧ w * c ≤ 1024) ∧ (8 ≤ w * c * d ∧ w * c * d ≤ 16384) ∧ 1 ≤ w * c * d / 8 ∧ w * c * d / 8 ≤ 2048 := by
  have e1 : 1 ≤ w * c ∧ w * c ≤ 1024 := by
    have a1 : 1 * 1 ≤ w * c := Int.mul_le_mul h1.1 h2.1 (by decide) (by omega)
    have a2 : w * c ≤ 256 * 4 := Int.mul_le_mul h1.2 h2.2 (by omega) (by decide)
    omega
  refine ⟨e1, ?_⟩
  generalize w * c = m at *
  rcases h3 with rfl | rfl <;> omega
theorem row_size_bound (s : ShpD) (h : numsB s = true) : (1 ≤ rowD s ∧ rowD s ≤ 2048) ∧ 1 ≤ sizeD s ∧ sizeD s ≤ 524288 := by
  have e1 : rowD s = s.w * s.c * s.d / 8 := by unfold rowD; rw [if_pos h]
  have e2 : sizeD s = rowD s * s.h := by unfold sizeD; rw [if_pos h]
  obtain ⟨hw, hh, hc, hd⟩ := (numsB_iff s).1 h
  have hb := (row_bound s.w s.c s.d hw hc hd).2.2
  rw [← e1] at hb
  refine ⟨hb, ?_⟩
  rw [e2]
  generalize rowD s = r at *
  have a1 : 1 * 1 ≤ r * s.h := Int.mul_le_mul hb.1 hh.1 (by decide) (by omega)
  have a2 : r * s.h ≤ 2048 * 256 := Int.mul_le_mul hb.2 hh.2 (by omega) (by decide)
  omega
/-- The picture of three numbers. -/
def picS (x y z : Nat) : ShpD := ⟨((1 + x % 12 : Nat) : Int), ((1 + y % 10 : Nat) : Int), ((1 + z % 4 : Nat) : Int), if 11 < z % 16 then 16 else 8⟩
def picN (x y z : Nat) : Nat := (1 + x % 12) * (1 + z % 4) * (if 11 < z % 16 then 2 else 1) * (1 + y % 10)
def picB (x y z i : Nat) : UInt8 := UInt8.ofNat (x % 256 * i + y % 256 * (i / 7) + z % 256)
def picP (x y z : Nat) : List UInt8 := (List.range (picN x y z)).map (picB x y z)
theorem picP_len (x y z : Nat) : (picP x y z).length = picN x y z := by simp [picP]
theorem picS_nums (x y z : Nat) : numsB (picS x y z) = true := by
  rw [numsB_iff]
  unfold picS
  simp only
  refine ⟨by omega, by omega, by omega, ?_⟩
  split <;> simp
theorem picS_size (x y z : Nat) : sizeD (picS x y z) = (picN x y z : Int) := by
  have h := picS_nums x y z
  unfold sizeD rowD
  rw [if_pos h, if_pos h]
  unfold picS picN
  simp only
  generalize 1 + x % 12 = a
  generalize 1 + y % 10 = b
  generalize 1 + z % 4 = c
  split
  · rw [Int.natCast_mul, Int.natCast_mul, Int.natCast_mul]
    congr 1
    generalize (a : Int) * (c : Int) = m
    omega
  · rw [Int.natCast_mul, Int.natCast_mul, Int.natCast_mul]
    congr 1
    generalize (a : Int) * (c : Int) = m
    omega
theorem picN_le (x y z : Nat) : 1 ≤ picN x y z ∧ picN x y z ≤ 960 := by
  unfold picN
  have h1 : 1 + x % 12 ≤ 12 := by omega
  have h2 : 1 + y % 10 ≤ 10 := by omega
  have h3 : 1 + z % 4 ≤ 4 := by omega
  have h1' : 1 ≤ 1 + x % 12 := by omega
  have h2' : 1 ≤ 1 + y % 10 := by omega
  have h3' : 1 ≤ 1 + z % 4 := by omega
  generalize 1 + x % 12 = a at *
  generalize 1 + y % 10 = b at *
  generalize 1 + z % 4 = c at *
  have e1 : a * c ≤ 12 * 4 := Nat.mul_le_mul h1 h3
  have e1' : 1 * 1 ≤ a * c := Nat.mul_le_mul h1' h3'
  generalize a * c = m at *
  split
  · have e2 : m * 2 * b ≤ 96 * 10 := Nat.mul_le_mul (by omega) h2
    have e3 : 1 * 1 ≤ m * 2 * b := Nat.mul_le_mul (by omega) h2'
    omega
  · have e2 : m * 1 * b ≤ 48 * 10 := Nat.mul_le_mul (by omega) h2
    have e3 : 1 * 1 ≤ m * 1 * b := Nat.mul_le_mul (by omega) h2'
    omega
theorem picS_maySh (x y z : Nat) : maySh (picS x y z) = true := by
  have := picN_le x y z
  unfold maySh
  rw [picS_nums, picS_size, Bool.true_and]
  exact decide_eq_true (by omega)
/-- An act. -/
structure ActD where
  kind : Int
  n : Int
  m : Int
  name : List UInt8
  other : List UInt8
  text : List UInt8
  key : Int
  shp : ShpD
  pix : List UInt8
  mask : List UInt8
def actZ : ActD := ⟨0, 0, 0, [], [], [], 0, shpZ, [], []⟩
instance : Inhabited ActD := ⟨actZ⟩
def actL (a : ActD) (pv mv : Value) : List Value := [.int .i64 a.kind, .int .i64 a.n, .int .i64 a.m, .string (str a.name), .string (str a.other), .string (str a.text), .int .i64 a.key, .int .i64 a.shp.w, .int .i64 a.shp.h, .int .i64 a.shp.c, .int .i64 a.shp.d, pv, mv]
def actV (a : ActD) (pv mv : Value) : Value := .agg (actL a pv mv).toArray
/-- The branches of a merge. -/
def sideT (x : Nat) : List UInt8 := if x % 2 = 1 then [98] else [97]
def sideF (x : Nat) : List UInt8 := if x % 2 = 1 then [97] else [98]
/-- An act of the first ones. -/
def frontA (k x y z : Nat) : ActD :=
  if k < 6 then { actZ with kind := 1, name := sideT x, other := [117], shp := picS (3 + y % 2) 7 z, pix := picP (3 + y % 2) 7 z }
  else if k = 6 then { actZ with kind := 2, name := [98], key := ((x % 8 : Nat) : Int) }
  else if k = 7 then { actZ with kind := 3, name := [116, UInt8.ofNat (48 + y % 4)], key := ((x % 8 : Nat) : Int) }
  else if k = 8 then (if y % 2 = 1 then { actZ with kind := 4, name := [116, 48], n := 1 } else { actZ with kind := 4, name := [98] })
  else if 99 < y then { actZ with kind := 5, name := sideT x, other := sideF x, shp := picS 3 7 z, pix := picP 3 7 z }
  else { actZ with kind := 5, name := sideT x, other := sideF x }
/-- An act of the last ones. -/
def backA (k x y z : Nat) : ActD :=
  if k = 11 then (if z % 2 = 1 then { actZ with kind := 7, n := ((x % 8 : Nat) : Int), m := ((y % 8 : Nat) : Int) } else { actZ with kind := 6, name := [97] })
  else if k = 12 then (if z % 2 = 1 then { actZ with kind := 9, n := ((x % 6 : Nat) : Int) } else { actZ with kind := 8, key := ((x % 8 : Nat) : Int) })
  else if k = 13 then (if z % 2 = 1 then { actZ with kind := 11 } else { actZ with kind := 10 })
  else if k = 14 then (if 199 < z then { actZ with kind := 12, mask := [UInt8.ofNat y] } else { actZ with kind := 13, n := ((1 + x % 40 : Nat) : Int), mask := [UInt8.ofNat y, UInt8.ofNat z] })
  else { actZ with kind := 14 }
def actK (k x y z : Nat) : ActD := if k < 11 then frontA k x y z else backA k x y z
def actAt (b : List UInt8) (i : Nat) : ActD := actK ((b.getD (4 * i) 0).toNat % 16) (b.getD (4 * i + 1) 0).toNat (b.getD (4 * i + 2) 0).toNat (b.getD (4 * i + 3) 0).toNat
def actsN (n : Nat) : Nat := min (n / 4) 300
/-- The acts of bytes. -/
def actsA (b : List UInt8) : List ActD := (List.range (actsN b.length)).map (actAt b)
theorem actsA_len (b : List UInt8) : (actsA b).length = actsN b.length := by simp [actsA]
theorem actsA_get (b : List UInt8) (i : Nat) (h : i < (actsA b).length) : (actsA b)[i] = actAt b i := by simp [actsA]
end Go.Aq
