/- The plain model of the layer script: names, scanner, words of a line. No program in sight. -/
import Derived.Lib.AtoiAll
import Derived.Lib.ItoaNum
namespace Off
open Go (Lib.itoa Lib.atoiAll)

abbrev Bs := List UInt8

structure Bid where
  R : Int
  N : Int
  deriving DecidableEq, Repr

structure Cmd where
  kind : Int
  block : Bid
  pos : Int
  n : Int
  text : Bs
  flag : Bool
  other : Bid
  deriving DecidableEq, Repr

structure Ev where
  kind : Int
  n : Int
  to : Int
  keep : Int
  flag : Bool
  cmd : Cmd
  deriving DecidableEq, Repr

def Bid.z : Bid := ⟨0, 0⟩
def Bid.t : Bid := ⟨1, 0⟩
def Cmd.z : Cmd := ⟨0, .z, 0, 0, [], false, .z⟩
def Ev.z : Ev := ⟨0, 0, 0, 0, false, .z⟩

def rightOp (i : Bid) : Bool := decide (0 ≤ i.R) && decide (i.R < 16) && decide (1 ≤ i.N) && decide (i.N ≤ 1048576)
def rightBlock (i : Bid) : Bool := decide (i = .z) || decide (i = .t) || rightOp i

def sRoot : Bs := [114, 111, 111, 116]
def sTrash : Bs := [116, 114, 97, 115, 104]

def showId (i : Bid) : Bs :=
  if i = .z then sRoot else if i = .t then sTrash else if rightOp i = false then [63] else Go.Lib.itoa i.R ++ 46 :: Go.Lib.itoa i.N

def atoiV (s : Bs) : Option Int := match Go.Lib.atoiAll s with | .ok v => some v | _ => none

/-- what stands ahead of the first c, and behind it -/
def upto (c : UInt8) : Bs → Bs
  | [] => []
  | b :: l => if b = c then [] else b :: upto c l
def behind (c : UInt8) : Bs → Bs
  | [] => []
  | b :: l => if b = c then l else behind c l

def opOf (s : Bs) : Bid :=
  match atoiV (upto 46 s) with
  | none => .z
  | some r => match atoiV (behind 46 s) with
    | none => .z
    | some n => ⟨r, n⟩

def readId (s : Bs) : Option Bid :=
  if s = sRoot then some .z else if s = sTrash then some .t
  else if rightOp (opOf s) = true ∧ showId (opOf s) = s then some (opOf s) else none

/-! the scanner -/
abbrev Sc (α : Type) := Bs → Option (α × Bs)

def word (s : Bs) : Bs × Bs := (upto 32 s, behind 32 s)

def number : Sc Int := fun s =>
  match atoiV (word s).1 with
  | none => none
  | some n => if Go.Lib.itoa n = (word s).1 then some (n, (word s).2) else none

def block : Sc Bid := fun s => (readId (word s).1).map fun i => (i, (word s).2)

def hexs : Bs := [48, 49, 50, 51, 52, 53, 54, 55, 56, 57, 97, 98, 99, 100, 101, 102]
def hexV (c : UInt8) : Option UInt8 :=
  if 48 ≤ c ∧ c ≤ 57 then some (c - 48) else if 97 ≤ c ∧ c ≤ 102 then some (c - 87) else none

def textLoop (acc : Bs) : Bs → Option (Bs × Bs)
  | [] => none
  | c :: r =>
    if c = 34 then some (acc, r)
    else if c = 92 then
      match r with
      | a :: b :: r' => match hexV a with
        | none => none
        | some h => match hexV b with
          | none => none
          | some l => textLoop (acc ++ [h <<< 4 ||| l]) r'
      | _ => none
    else textLoop (acc ++ [c]) r

def text : Sc Bs := fun s => match s with
  | 34 :: r => textLoop [] r
  | _ => none

def sIn : Bs := [105, 110]
def sBehind : Bs := [98, 101, 104, 105, 110, 100]
def scInOf (w s : Bs) : Option (Bool × Bs) := if w = sIn then some (true, s) else if w = sBehind then some (false, s) else none
def scIn : Sc Bool := fun s => scInOf (word s).1 (word s).2

def sJoin : Bs := [106, 111, 105, 110]
def sIndent : Bs := [105, 110, 100, 101, 110, 116]
def sOutdent : Bs := [111, 117, 116, 100, 101, 110, 116]
def sUp : Bs := [117, 112]
def sDown : Bs := [100, 111, 119, 110]
def sTrashC : Bs := [116, 114, 97, 115, 104]
def sRestore : Bs := [114, 101, 115, 116, 111, 114, 101]
def sFold : Bs := [102, 111, 108, 100]
def sUnfold : Bs := [117, 110, 102, 111, 108, 100]
def sNew : Bs := [110, 101, 119]
def sType : Bs := [116, 121, 112, 101]
def sErase : Bs := [101, 114, 97, 115, 101]
def sSplit : Bs := [115, 112, 108, 105, 116]
def sMove : Bs := [109, 111, 118, 101]
def sPlace : Bs := [112, 108, 97, 99, 101]
def sDo : Bs := [100, 111]
def sSync : Bs := [115, 121, 110, 99]
def sCompact : Bs := [99, 111, 109, 112, 97, 99, 116]
def sStart : Bs := [115, 116, 97, 114, 116]
def sDrop : Bs := [100, 114, 111, 112]
def sCrash : Bs := [99, 114, 97, 115, 104]
def sTell : Bs := [116, 101, 108, 108]
def sDeliver : Bs := [100, 101, 108, 105, 118, 101, 114]
def sCopy : Bs := [99, 111, 112, 121]

def simple (w : Bs) : Int :=
  if w = sJoin then 5 else if w = sIndent then 6 else if w = sOutdent then 7 else if w = sUp then 8
  else if w = sDown then 9 else if w = sTrashC then 10 else if w = sRestore then 11
  else if w = sFold then 12 else if w = sUnfold then 12 else 0

def commandOf (w s : Bs) : Option (Cmd × Bs) :=
  if w = sNew then
    (scIn s).bind fun (f, s) => (block s).bind fun (b, s) => (text s).bind fun (t, s) => some (⟨1, b, 0, 0, t, f, .z⟩, s)
  else if w = sType then
    (block s).bind fun (b, s) => (number s).bind fun (p, s) => (text s).bind fun (t, s) => some (⟨2, b, p, 0, t, false, .z⟩, s)
  else if w = sErase then
    (block s).bind fun (b, s) => (number s).bind fun (p, s) => (number s).bind fun (n, s) => some (⟨3, b, p, n, [], false, .z⟩, s)
  else if w = sSplit then
    (block s).bind fun (b, s) => (number s).bind fun (p, s) => some (⟨4, b, p, 0, [], false, .z⟩, s)
  else if w = sMove then
    (scIn s).bind fun (f, s) => (block s).bind fun (b, s) => (block s).bind fun (o, s) => some (⟨13, b, 0, 0, [], f, o⟩, s)
  else if w = sPlace then
    (block s).bind fun (b, s) => (block s).bind fun (o, s) => (text s).bind fun (t, s) => some (⟨14, b, 0, 0, t, false, o⟩, s)
  else if simple w = 0 then none
  else (block s).bind fun (b, s) => some (⟨simple w, b, 0, 0, [], decide (w = sFold), .z⟩, s)
def command : Sc Cmd := fun s => commandOf (word s).1 (word s).2

def eventOf (w : Bs) (n : Int) (s : Bs) : Option (Ev × Bs) :=
    if w = sDo then (command s).bind fun (c, s) => some (⟨1, n, 0, 0, false, c⟩, s)
    else if w = sSync then some (⟨2, n, 0, 0, false, .z⟩, s)
    else if w = sCompact then some (⟨8, n, 0, 0, false, .z⟩, s)
    else if w = sStart then some (⟨7, n, 0, 0, false, .z⟩, s)
    else if w = sDrop then some (⟨5, n, 0, 0, false, .z⟩, s)
    else if w = sCrash then (number s).bind fun (k, s) => some (⟨6, n, 0, k, false, .z⟩, s)
    else if w = sTell then (number s).bind fun (k, s) => some (⟨3, n, k, 0, false, .z⟩, s)
    else if w = sDeliver then some (⟨4, n, 0, 0, false, .z⟩, s)
    else if w = sCopy then some (⟨4, n, 0, 0, true, .z⟩, s)
    else none
def event : Sc Ev := fun s => (number (word s).2).bind fun (n, r) => eventOf (word s).1 n r

/-! showing -/
def hexD (v : UInt8) : UInt8 := hexs.getD v.toNat 0
def plainByte (c : UInt8) : Bool := decide (32 ≤ c) && decide (c ≤ 126) && decide (c ≠ 34) && decide (c ≠ 92)
def quoteByte (c : UInt8) : Bs := if plainByte c then [c] else [92, hexD (c >>> 4), hexD (c &&& 15)]
def quoted (s : Bs) : Bs := 34 :: (s.flatMap quoteByte ++ [34])

def whereW (f : Bool) : Bs := if f then sIn else sBehind

def plainW (c : Cmd) : Bs :=
  if c.kind = 5 then sJoin else if c.kind = 6 then sIndent else if c.kind = 7 then sOutdent else if c.kind = 8 then sUp
  else if c.kind = 9 then sDown else if c.kind = 10 then sTrashC else if c.kind = 11 then sRestore
  else if c.kind ≠ 12 then [63] else if c.flag then sFold else sUnfold

def cmdWords (c : Cmd) : List Bs :=
  if c.kind = 1 then [sNew, whereW c.flag, showId c.block, quoted c.text]
  else if c.kind = 2 then [sType, showId c.block, Go.Lib.itoa c.pos, quoted c.text]
  else if c.kind = 3 then [sErase, showId c.block, Go.Lib.itoa c.pos, Go.Lib.itoa c.n]
  else if c.kind = 4 then [sSplit, showId c.block, Go.Lib.itoa c.pos]
  else if c.kind = 13 then [sMove, whereW c.flag, showId c.block, showId c.other]
  else if c.kind = 14 then [sPlace, showId c.block, showId c.other, quoted c.text]
  else [plainW c, showId c.block]

def cmdTold (c : Cmd) : Cmd :=
  if c.kind = 1 then ⟨c.kind, c.block, 0, 0, c.text, c.flag, .z⟩
  else if c.kind = 2 then ⟨c.kind, c.block, c.pos, 0, c.text, false, .z⟩
  else if c.kind = 3 then ⟨c.kind, c.block, c.pos, c.n, [], false, .z⟩
  else if c.kind = 4 then ⟨c.kind, c.block, c.pos, 0, [], false, .z⟩
  else if c.kind = 13 then ⟨c.kind, c.block, 0, 0, [], c.flag, c.other⟩
  else if c.kind = 14 then ⟨c.kind, c.block, 0, 0, c.text, false, c.other⟩
  else ⟨c.kind, c.block, 0, 0, [], decide (c.kind = 12) && c.flag, .z⟩

def evWords (e : Ev) : List Bs :=
  if e.kind = 1 then [sDo, Go.Lib.itoa e.n] ++ cmdWords e.cmd
  else if e.kind = 2 then [sSync, Go.Lib.itoa e.n]
  else if e.kind = 8 then [sCompact, Go.Lib.itoa e.n]
  else if e.kind = 7 then [sStart, Go.Lib.itoa e.n]
  else if e.kind = 5 then [sDrop, Go.Lib.itoa e.n]
  else if e.kind = 6 then [sCrash, Go.Lib.itoa e.n, Go.Lib.itoa e.keep]
  else if e.kind = 3 then [sTell, Go.Lib.itoa e.n, Go.Lib.itoa e.to]
  else if e.kind = 4 then [if e.flag then sCopy else sDeliver, Go.Lib.itoa e.n]
  else []

def evTold (e : Ev) : Ev :=
  if e.kind = 1 then ⟨e.kind, e.n, 0, 0, false, cmdTold e.cmd⟩
  else if e.kind = 6 then ⟨e.kind, e.n, 0, e.keep, false, .z⟩
  else if e.kind = 3 then ⟨e.kind, e.n, e.to, 0, false, .z⟩
  else if e.kind = 4 then ⟨e.kind, e.n, 0, 0, e.flag, .z⟩
  else ⟨e.kind, e.n, 0, 0, false, .z⟩

def rightEv (e : Ev) : Bool :=
  decide (e.kind ≠ 1) || (decide (1 ≤ e.cmd.kind) && decide (e.cmd.kind ≤ 14) && rightBlock e.cmd.block && rightBlock e.cmd.other)

def joinW : List Bs → Bs
  | [] => []
  | [a] => a
  | a :: b :: r => a ++ 32 :: joinW (b :: r)

def evLine (e : Ev) : Bs := joinW (evWords e)
def evOk (e : Ev) : Bool := decide (evTold e = e) && decide (0 < (evWords e).length) && rightEv e

def parseLine (l : Bs) : Option Ev :=
  match event l with
  | none => none
  | some (e, _) => if evOk e = true ∧ evLine e = l then some e else none

end Off
