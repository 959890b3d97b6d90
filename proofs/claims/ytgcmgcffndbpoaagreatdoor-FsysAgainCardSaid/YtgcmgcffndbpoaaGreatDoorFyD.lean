/- Disk, log and files in plain Lean: what each call of these packages makes of them. No statement of the seat is proved here. -/
import Derived.Test.YtgcmgcffndbpoaaGreatDoorFyK
import Derived.Test.YtgcmgcffndbpoaaGreatDoorNumA
set_option linter.unusedVariables false
namespace Go.Aq.Fy
open Go.Aq Go.RowKit
abbrev Sec := List UInt8
/-- Some nought bytes. -/
def nul (n : Nat) : Sec := List.replicate n 0
/-- A sector of nought bytes. -/
def zsec : Sec := nul 256
/-- Bytes filled up to a sector. -/
def fill (b : Sec) : Sec := b ++ nul (256 - b.length)
def setS (f : Nat → Sec) (k : Nat) (b : Sec) : Nat → Sec := fun j => if j = k then b else f j
abbrev Puts := List (Nat × Sec)
/-- Writes in their order. -/
def setAll (f : Nat → Sec) (l : Puts) : Nat → Sec := l.foldl (fun g p => setS g p.1 p.2) f
/-! ### disk -/
structure DiskD where
  n : Nat
  now : Nat → Sec
  dur : Nat → Sec
  pend : Puts
  writes : Int
  falls : Nat
  mask : Sec
  down : Bool
/-- A bit of a mask. -/
def bitL (m : Sec) (i : Nat) : Bool := (m.getD (i / 8) 0).toNat.testBit (i % 8)
/-- What a fall leaves of writes that pend. -/
def crashS (m : Sec) : Nat → (Nat → Sec) → Puts → (Nat → Sec)
  | _, f, [] => f
  | i, f, (k, b) :: l => crashS m (i + 1) (if bitL m i then setS f k b else f) l
def newD (n : Nat) : DiskD := ⟨n, fun _ => zsec, fun _ => zsec, [], 0, 0, [], false⟩
def crashD (D : DiskD) (m : Sec) : DiskD := if D.down then D else { D with now := crashS m 0 D.dur D.pend, dur := crashS m 0 D.dur D.pend, pend := [], down := true }
def flushD (D : DiskD) : DiskD × Nat := if D.down then (D, 12) else ({ D with dur := setAll D.dur D.pend, pend := [] }, 0)
/-- A write behind its look at the place and the length. -/
def putD (D : DiskD) (k : Nat) (b : Sec) : DiskD × Nat :=
  if D.falls = 0 then ({ D with writes := wrap64 (D.writes + 1), pend := D.pend ++ [(k, b)], now := setS D.now k b }, 0)
  else if D.falls = 1 then (crashD { D with writes := wrap64 (D.writes + 1), pend := D.pend ++ [(k, b)], falls := 0 } D.mask, 12)
  else ({ D with writes := wrap64 (D.writes + 1), pend := D.pend ++ [(k, b)], falls := D.falls - 1, now := setS D.now k b }, 0)
def writeD (D : DiskD) (k : Nat) (b : Sec) : DiskD × Nat :=
  if D.down then (D, 12) else if D.n ≤ k then (D, 1) else if b.length ≠ 256 then (D, 4) else putD D k b
def crashAt (D : DiskD) (n : Nat) (m : Sec) : DiskD := { D with falls := n, mask := m }
def reboot (D : DiskD) : DiskD := { D with down := false }
/-- Writes, up to the first error. -/
def eachD : DiskD → Puts → DiskD × Nat
  | D, [] => (D, 0)
  | D, p :: l => if (writeD D p.1 p.2).2 = 0 then eachD (writeD D p.1 p.2).1 l else writeD D p.1 p.2
/-- Writes, and a flush behind them. -/
def writesD (D : DiskD) (l : Puts) : DiskD × Nat := if (eachD D l).2 = 0 then flushD (eachD D l).1 else eachD D l
/-- Stages, each flushed. -/
def runP : DiskD → List Puts → DiskD × Nat
  | D, [] => (D, 0)
  | D, s :: l => if (writesD D s).2 = 0 then runP (writesD D s).1 l else writesD D s
/-! ### log -/
structure LogD where
  ring : Nat
  seq : Nat
  pos : Nat
def headB (ring seq pos : Nat) : Sec := fill ([65, 81] ++ beB ring 2 ++ beB seq 6 ++ beB pos 2)
def markB (seq pos n : Nat) : Sec := fill ([65, 67] ++ beB seq 6 ++ beB pos 2 ++ beB n 2)
def need (n : Nat) : Nat := if n < 1 then 0 else n + (n - 1) / 64 + 1
def homeL (L : LogD) : Nat := 2 + L.ring
def inL (L : LogD) (i : Nat) : Nat := 2 + (L.pos + i) % L.ring
def atHome (D : DiskD) (L : LogD) (k : Nat) : Bool := decide (homeL L ≤ k) && decide (k < D.n)
/-- The places of puts as sectors, from the chunk i on. -/
def descs (l : Puts) (d : Nat) : List Sec := (List.range d).map fun i => fill (((l.drop (64 * i)).take 64).flatMap fun p => beB p.1 2)
/-- What a change lays into the ring. -/
def changeL (L : LogD) (l : Puts) : Puts := (descs l ((l.length + 63) / 64) ++ l.map (·.2)).mapIdx fun i b => (inL L i, b)
/-- Where the log stands behind a change of n puts. -/
def nextL (L : LogD) (n : Nat) : LogD := ⟨L.ring, L.seq + 1, (L.pos + need n) % L.ring⟩
def headL (L : LogD) : Puts := [(0, headB L.ring L.seq L.pos)]
/-- The stages of a change. -/
def commitP (L : LogD) (l : Puts) : List Puts := if l = [] then [] else [changeL L l, [(1, markB L.seq L.pos l.length)], l, headL (nextL L l.length)]
/-- The number of puts that the mark tells; 0: none. -/
def markedN (D : DiskD) (L : LogD) : Nat :=
  let n := beVal (((D.now 1).drop 10).take 2)
  if D.now 1 = markB L.seq L.pos n ∧ need n ≤ L.ring then n else 0
/-- The puts that stand in the ring. -/
def readAt (D : DiskD) (L : LogD) (i : Nat) : Nat := beVal (((D.now (inL L (i / 64))).drop (i % 64 * 2)).take 2)
def readL (D : DiskD) (L : LogD) (n : Nat) : Puts := (List.range n).map fun i => (readAt D L i, D.now (inL L (need n - n + i)))
/-- The stages by which a change is done once more. -/
def redoP (D : DiskD) (L : LogD) : List Puts :=
  let n := markedN D L
  if n = 0 then [] else if (readL D L n).all (fun p => atHome D L p.1) then [readL D L n, headL (nextL L n)] else []
/-- What a sector tells as a head. -/
def headOf (b : Sec) : LogD := ⟨beVal ((b.drop 2).take 2), beVal ((b.drop 4).take 6), beVal ((b.drop 10).take 2)⟩
def headOk (D : DiskD) : Bool :=
  let L := headOf (D.now 0)
  decide (D.now 0 = headB L.ring L.seq L.pos) && decide (1 ≤ L.ring ∧ L.ring + 4 ≤ D.n ∧ L.pos < L.ring)
/-- A log opened: the disk, the log, whether a change was done once more, an error. -/
def openL (D : DiskD) : DiskD × LogD × Bool × Nat :=
  if D.down then (D, ⟨0, 0, 0⟩, false, 12)
  else if headOk D then
    let L := headOf (D.now 0)
    let s := redoP D L
    let r := runP D s
    if r.2 = 0 then (r.1, if s = [] then L else nextL L (markedN D L), !s.isEmpty, 0) else (r.1, ⟨0, 0, 0⟩, false, r.2)
  else (D, ⟨0, 0, 0⟩, false, 4)
/-! ### files -/
structure FileD where
  size : Nat
  blocks : List Nat
deriving DecidableEq
abbrev Files := List (Nm × FileD)
structure FsD where
  disk : DiskD
  log : LogD
  mt : Nat
  files : Files
def nameOk (s : Nm) : Bool := s.all (fun c => decide (33 ≤ c.toNat) && decide (c.toNat ≤ 126)) && decide (s ≠ []) && decide (s.length ≤ 80)
def cnt (n : Nat) : Nat := (n + 255) / 256
def topB (m : Nat) : Sec := fill ([65, 70] ++ beB m 2)
def firstF (F : FsD) : Nat := homeL F.log + 1 + F.mt
def allF (F : FsD) : Nat := F.disk.n - firstF F
def rowB (p : Nm × FileD) : Sec := UInt8.ofNat p.1.length :: p.1 ++ beB p.2.size 4 ++ p.2.blocks.flatMap fun k => beB k 2
def tableB (l : Files) : Sec := beB l.length 2 ++ l.flatMap rowB
/-- A table's sectors; none: they are too few. -/
def sectorsB (m : Nat) (l : Files) : List Sec :=
  if m * 256 < (tableB l).length then [] else (List.range m).map fun i => (((tableB l ++ nul (m * 256 - (tableB l).length)).drop (256 * i)).take 256)
/-- The sectors that differ. -/
def differB (b : Nat) (old new : List Sec) : Puts := ((List.range old.length).filter fun i => old.getD i [] ≠ new.getD i []).map fun i => (b + i, new.getD i [])
structure ChangeD where
  kind : Int
  name : Nm
  tonm : Nm
  data : Sec
/-- Files under change. -/
structure WorkD where
  files : Files
  fresh : List (Nm × Sec)
def hasF (l : Files) (s : Nm) : Bool := (lookK s l).isSome
/-- The bytes in blocks. -/
def bytesB (F : FsD) (x : FileD) : Sec := (x.blocks.flatMap fun k => F.disk.now (firstF F + k)).take x.size
def bytesW (F : FsD) (w : WorkD) (s : Nm) : Sec := match lookK s w.fresh with
  | some b => b
  | none => match lookK s w.files with
    | some x => bytesB F x
    | none => []
def tellW (w : WorkD) (s : Nm) (b : Sec) : WorkD × Nat :=
  if 65535 < b.length ∨ (hasF w.files s = false ∧ 400 ≤ w.files.length) then (w, 10) else (⟨insK s ⟨b.length, []⟩ w.files, insK s b w.fresh⟩, 0)
def goneW (w : WorkD) (s : Nm) : WorkD := ⟨delK s w.files, delK s w.fresh⟩
def renameW (w : WorkD) (s t : Nm) : WorkD × Nat :=
  match lookK s w.files with
  | none => (w, 6)
  | some x => if s = t then (w, 0) else if hasF w.files t then (w, 7) else
    (goneW ⟨insK t x w.files, match lookK s w.fresh with | some b => insK t b w.fresh | none => w.fresh⟩ s, 0)
def oneW (F : FsD) (w : WorkD) (c : ChangeD) : WorkD × Nat :=
  if nameOk c.name = false ∨ (c.kind = 4 ∧ nameOk c.tonm = false) then (w, 16)
  else if c.kind = 2 ∨ (c.kind = 1 ∧ hasF w.files c.name = false) then tellW w c.name c.data
  else if c.kind = 1 then (w, 7)
  else if c.kind = 3 then (if hasF w.files c.name then tellW w c.name (bytesW F w c.name ++ c.data) else (w, 6))
  else if c.kind = 4 then renameW w c.name c.tonm
  else if c.kind ≠ 5 then (w, 1)
  else if hasF w.files c.name then (goneW w c.name, 0) else (w, 6)
def allW (F : FsD) : WorkD → List ChangeD → WorkD × Nat
  | w, [] => (w, 0)
  | w, c :: l => if (oneW F w c).2 = 0 then allW F (oneW F w c).1 l else oneW F w c
/-- Is a block some file's? -/
def usedF (l : Files) (k : Nat) : Bool := l.any fun p => p.2.blocks.contains k
def freeF (F : FsD) : List Nat := (List.range (allF F)).filter fun k => !usedF F.files k
def needW (l : List (Nm × Sec)) : Nat := (l.map fun p => cnt p.2.length).sum
/-- New blocks for what was told anew. -/
def placeF : List (Nm × Sec) → List Nat → Files → Files
  | [], _, l => l
  | (s, b) :: r, free, l => placeF r (free.drop (cnt b.length)) (insK s ⟨b.length, free.take (cnt b.length)⟩ l)
/-- The sectors of a file's bytes at its blocks. -/
def blockP (first : Nat) (b : Sec) (ks : List Nat) : Puts := ks.mapIdx fun i k => (first + k, ((b ++ nul (cnt b.length * 256 - b.length)).drop (256 * i)).take 256)
def placeP (first : Nat) : List (Nm × Sec) → List Nat → Puts
  | [], _ => []
  | (s, b) :: r, free => blockP first b (free.take (cnt b.length)) ++ placeP first r (free.drop (cnt b.length))
/-- What changes come to: an error, or the stages to be written, the files and the log behind them. -/
def prepF (F : FsD) (l : List ChangeD) : Nat × List Puts × Files × LogD :=
  let r := allW F ⟨F.files, []⟩ l
  if r.2 ≠ 0 then (r.2, [], [], F.log)
  else if (freeF F).length < needW r.1.fresh then (8, [], [], F.log)
  else
    let fs := placeF r.1.fresh (freeF F) r.1.files
    if F.mt * 256 < (tableB fs).length then (8, [], [], F.log)
    else
      let t := differB (homeL F.log + 1) (sectorsB F.mt F.files) (sectorsB F.mt fs)
      if F.log.ring < need t.length then (9, [], [], F.log)
      else
        let bl := placeP (firstF F) r.1.fresh (freeF F)
        (0, (if bl = [] then [] else [bl]) ++ commitP F.log t, fs, if t = [] then F.log else nextL F.log t.length)
def doF (F : FsD) (l : List ChangeD) : FsD × Nat :=
  let p := prepF F l
  if p.1 ≠ 0 then (F, p.1)
  else
    let r := runP F.disk p.2.1
    if r.2 = 0 then (⟨r.1, p.2.2.2, F.mt, p.2.2.1⟩, 0) else ({ F with disk := r.1 }, r.2)
end Go.Aq.Fy
