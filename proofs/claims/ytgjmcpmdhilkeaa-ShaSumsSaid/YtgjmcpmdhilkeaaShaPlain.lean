/- SHA-256 in plain Lean, over natural numbers. -/
namespace Go.Aq.Sha
def m32 : Nat := 4294967296
def rotr (x n : Nat) : Nat := (x >>> n ||| x <<< (32 - n)) % m32
def s0 (x : Nat) : Nat := rotr x 7 ^^^ rotr x 18 ^^^ x >>> 3
def s1 (x : Nat) : Nat := rotr x 17 ^^^ rotr x 19 ^^^ x >>> 10
def S1 (x : Nat) : Nat := rotr x 6 ^^^ rotr x 11 ^^^ rotr x 25
def S0 (x : Nat) : Nat := rotr x 2 ^^^ rotr x 13 ^^^ rotr x 22
def ch (e f g : Nat) : Nat := (e &&& f) ^^^ ((m32 - 1 - e) &&& g)
def maj (a b c : Nat) : Nat := (a &&& b) ^^^ (a &&& c) ^^^ (b &&& c)
def K : List Nat := [
  0x428a2f98, 0x71374491, 0xb5c0fbcf, 0xe9b5dba5, 0x3956c25b, 0x59f111f1, 0x923f82a4, 0xab1c5ed5,
  0xd807aa98, 0x12835b01, 0x243185be, 0x550c7dc3, 0x72be5d74, 0x80deb1fe, 0x9bdc06a7, 0xc19bf174,
  0xe49b69c1, 0xefbe4786, 0x0fc19dc6, 0x240ca1cc, 0x2de92c6f, 0x4a7484aa, 0x5cb0a9dc, 0x76f988da,
  0x983e5152, 0xa831c66d, 0xb00327c8, 0xbf597fc7, 0xc6e00bf3, 0xd5a79147, 0x06ca6351, 0x14292967,
  0x27b70a85, 0x2e1b2138, 0x4d2c6dfc, 0x53380d13, 0x650a7354, 0x766a0abb, 0x81c2c92e, 0x92722c85,
  0xa2bfe8a1, 0xa81a664b, 0xc24b8b70, 0xc76c51a3, 0xd192e819, 0xd6990624, 0xf40e3585, 0x106aa070,
  0x19a4c116, 0x1e376c08, 0x2748774c, 0x34b0bcb5, 0x391c0cb3, 0x4ed8aa4a, 0x5b9cca4f, 0x682e6ff3,
  0x748f82ee, 0x78a5636f, 0x84c87814, 0x8cc70208, 0x90befffa, 0xa4506ceb, 0xbef9a3f7, 0xc67178f2]
def H0 : List Nat := [0x6a09e667, 0xbb67ae85, 0x3c6ef372, 0xa54ff53a, 0x510e527f, 0x9b05688c, 0x1f83d9ab, 0x5be0cd19]
/-- The word at four bytes. -/
def word (b : List UInt8) (i : Nat) : Nat := (b.getD i 0).toNat * 16777216 + (b.getD (i + 1) 0).toNat * 65536 + (b.getD (i + 2) 0).toNat * 256 + (b.getD (i + 3) 0).toNat
/-- The next word of a schedule. -/
def nextW (w : List Nat) : Nat := let i := w.length; (w.getD (i - 16) 0 + s0 (w.getD (i - 15) 0) + w.getD (i - 7) 0 + s1 (w.getD (i - 2) 0)) % m32
def spread : Nat → List Nat → List Nat
  | 0, w => w
  | n + 1, w => spread n (w ++ [nextW w])
def first16 (b : List UInt8) (at_ : Nat) : List Nat := (List.range 16).map fun i => word b (at_ + 4 * i)
def sched (b : List UInt8) (at_ : Nat) : List Nat := spread 48 (first16 b at_)
structure St where
  a : Nat
  b : Nat
  c : Nat
  d : Nat
  e : Nat
  f : Nat
  g : Nat
  h : Nat
def round (s : St) (k w : Nat) : St :=
  let t := (s.h + S1 s.e + ch s.e s.f s.g + k + w) % m32
  let u := (S0 s.a + maj s.a s.b s.c) % m32
  ⟨(t + u) % m32, s.a, s.b, s.c, (s.d + t) % m32, s.e, s.f, s.g⟩
def rounds (s : St) (w : List Nat) : Nat → Nat → St
  | 0, _ => s
  | n + 1, i => rounds (round s (K.getD i 0) (w.getD i 0)) w n (i + 1)
def mix (s : St) (b : List UInt8) (at_ : Nat) : St :=
  let t := rounds s (sched b at_) 64 0
  ⟨(s.a + t.a) % m32, (s.b + t.b) % m32, (s.c + t.c) % m32, (s.d + t.d) % m32, (s.e + t.e) % m32, (s.f + t.f) % m32, (s.g + t.g) % m32, (s.h + t.h) % m32⟩
def st0 : St := ⟨0x6a09e667, 0xbb67ae85, 0x3c6ef372, 0xa54ff53a, 0x510e527f, 0x9b05688c, 0x1f83d9ab, 0x5be0cd19⟩
def be (n : Nat) : Nat → List UInt8
  | 0 => []
  | k + 1 => UInt8.ofNat (n >>> (8 * k)) :: be n k
/-- How many zeros stand behind the first byte of the padding. -/
def zeros (n : Nat) : Nat := (119 - n % 64) % 64
def pad (b : List UInt8) : List UInt8 := b ++ [0x80] ++ List.replicate (zeros b.length) 0 ++ be (8 * b.length) 8
def foldB (f : St → Nat → St) : Nat → Nat → St → St
  | 0, _, s => s
  | n + 1, at_, s => foldB f n (at_ + 64) (f s at_)
def blocks (m : List UInt8) (n at_ : Nat) (s : St) : St := foldB (fun s a => mix s m a) n at_ s
def out (s : St) : List UInt8 := be s.a 4 ++ be s.b 4 ++ be s.c 4 ++ be s.d 4 ++ be s.e 4 ++ be s.f 4 ++ be s.g 4 ++ be s.h 4
def sum (b : List UInt8) : List UInt8 := out (blocks (pad b) ((pad b).length / 64) 0 st0)
def hexD (n : Nat) : UInt8 := if n < 10 then UInt8.ofNat (48 + n) else UInt8.ofNat (87 + n)
def hex (b : List UInt8) : List UInt8 := b.flatMap fun x => [hexD (x.toNat / 16), hexD (x.toNat % 16)]
end Go.Aq.Sha
