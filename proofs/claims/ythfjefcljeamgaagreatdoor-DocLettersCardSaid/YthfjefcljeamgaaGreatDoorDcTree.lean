/- joined: The plain model of the document: names, ops, the tree of blocks, texts. No program in sight. The orders of the document's plain model: names, stamps, moves, children. The tree of the plain model: the replay of moves has no ring; what stands above and below a block; the children in order. -/
import Derived.Lib.Bytealg
namespace Off
structure Bid where
 R : Int
 N : Int
 deriving DecidableEq, Repr
def Bid.z : Bid := ⟨0, 0⟩
def Bid.t : Bid := ⟨1, 0⟩
def rightOp (i : Bid) : Bool := decide (0 ≤ i.R) && decide (i.R < 16) && decide (1 ≤ i.N) && decide (i.N ≤ 1048576)
def rightBlock (i : Bid) : Bool := decide (i = .z) || decide (i = .t) || rightOp i
theorem rightOp_iff {i : Bid} : rightOp i = true ↔ 0 ≤ i.R ∧ i.R < 16 ∧ 1 ≤ i.N ∧ i.N ≤ 1048576 := by
 unfold rightOp; simp only [Bool.and_eq_true, decide_eq_true_eq, and_assoc]
end Off
namespace Dc
open Off (Bid rightOp rightBlock rightOp_iff)
abbrev Bs := List UInt8
structure Chr where
 op : Bid
 i : Int
 deriving DecidableEq, Repr
def Chr.z : Chr := ⟨.z, 0⟩
structure Cut where
 op : Bid
 fr : Int
 to : Int
 deriving DecidableEq, Repr
structure Op where
 kind : Int
 id : Bid
 t : Int
 block : Bid
 parent : Bid
 key : Bs
 seg : Bid
 left : Chr
 right : Chr
 text : Bs
 cuts : List Cut
 flag : Bool
 deriving DecidableEq, Repr
def Op.z : Op := ⟨0, .z, 0, .z, .z, [], .z, .z, .z, [], [], false⟩
structure Place where
 parent : Bid
 key : Bs
 deriving DecidableEq, Repr
def Place.z : Place := ⟨.z, []⟩
/-! names and stamps -/
def rightStamp (t r : Int) : Bool := decide (1 ≤ t) && decide (t ≤ 1099511627776) && decide (0 ≤ r) && decide (r < 16)
def rightChr (c : Chr) : Bool := decide (c = .z) || (rightOp c.op && decide (0 ≤ c.i) && decide (c.i < 64))
def cmpI (a b : Int) : Int := if a < b then -1 else if b < a then 1 else 0
def or2 (a b : Int) : Int := if a ≠ 0 then a else b
def orderId (a b : Bid) : Int := or2 (cmpI a.R b.R) (cmpI a.N b.N)
def orderSt (t r t' r' : Int) : Int := or2 (cmpI t t') (cmpI r r')
def cmpS (a b : Bs) : Int := Go.Lib.compareBytes a b
def rightKey (k : Bs) : Bool := decide (k ≠ []) && decide (k.length ≤ 32) && decide (k.getLast? ≠ some 0)
/-! ops -/
def rightCut (c : Cut) : Bool := rightOp c.op && decide (0 ≤ c.fr) && decide (c.fr < c.to) && decide (c.to ≤ 64)
def rPlace (o : Op) : Bool := rightBlock o.parent && rightKey o.key
def rSeg (o : Op) : Bool := rightOp o.seg && rightChr o.left && rightChr o.right
def rText (o : Op) : Bool := decide (o.text ≠ []) && decide (o.text.length ≤ 64)
def rCuts (o : Op) : Bool := decide (0 < o.cuts.length) && decide (o.cuts.length ≤ 16) && o.cuts.all rightCut
def Op.bare (o : Op) : Op := { Op.z with kind := o.kind, id := o.id, t := o.t }
def Op.own (o : Op) : Op :=
 if o.kind = 1 then { o.bare with parent := o.parent, key := o.key }
 else if o.kind = 2 then { o.bare with block := o.block, parent := o.parent, key := o.key }
 else if o.kind = 3 then { o.bare with seg := o.seg, left := o.left, right := o.right, text := o.text }
 else if o.kind = 4 then { o.bare with cuts := o.cuts }
 else if o.kind = 5 then { o.bare with seg := o.seg, left := o.left, right := o.right, parent := o.parent, key := o.key }
 else { o.bare with block := o.block, flag := o.flag }
def Op.parts (o : Op) : Bool :=
 if o.kind = 1 then rPlace o
 else if o.kind = 2 then rightOp o.block && rPlace o
 else if o.kind = 3 then rSeg o && rText o
 else if o.kind = 4 then rCuts o
 else if o.kind = 5 then rSeg o && rPlace o
 else if o.kind = 6 then rightOp o.block
 else false
def Op.ok (o : Op) : Bool := rightStamp o.t o.id.R && rightOp o.id && o.parts && decide (o.own = o)
def Op.size (o : Op) : Nat := if o.kind = 3 then o.text.length else if o.kind = 5 then 1 else 0
/-! the tree -/
abbrev Places := Bid → Option Place
structure Move where
 t : Int
 r : Int
 id : Bid
 block : Bid
 parent : Bid
 key : Bs
 deriving DecidableEq, Repr
def orderMove (a b : Move) : Int := or2 (orderSt a.t a.r b.t b.r) (orderId a.id b.id)
def Move.right (m : Move) : Bool := rightStamp m.t m.r && rightOp m.id && rightOp m.block && rightBlock m.parent && rightKey m.key
/-- b stands above a -/
inductive Bel (f : Places) : Bid → Bid → Prop
 | one {a : Bid} {p : Place} : f a = some p → Bel f a p.parent
 | more {a b : Bid} {p : Place} : f a = some p → Bel f p.parent b → Bel f a b
open Classical in
noncomputable def below (f : Places) (a b : Bid) : Bool := decide (Bel f a b)
def setP (f : Places) (x : Bid) (p : Option Place) : Places := fun y => if y = x then p else f y
noncomputable def allowed (f : Places) (m : Move) : Bool := decide (m.parent ≠ m.block) && !below f m.parent m.block
noncomputable def step (f : Places) (m : Move) : Places := if allowed f m = true then setP f m.block (some ⟨m.parent, m.key⟩) else f
def noPlaces : Places := fun _ => none
noncomputable def replay (ms : List Move) : Places := ms.foldl step noPlaces
structure Step where
 m : Move
 done : Bool
 was : Place
 had : Bool
 deriving DecidableEq, Repr
/-- the blocks above one -/
inductive WayIs (f : Places) : Bid → List Bid → Prop
 | nil {a : Bid} : f a = none → WayIs f a []
 | cons {a : Bid} {p : Place} {l : List Bid} : f a = some p → WayIs f p.parent l → WayIs f a (p.parent :: l)
/-- where a move joins a row -/
def moveAt (ms : List Move) (m : Move) : Nat := (ms.takeWhile fun x => decide (orderMove x m < 0)).length
/-! the children -/
structure Child where
 key : Bs
 id : Bid
 deriving DecidableEq, Repr
def orderChild (a b : Child) : Int := or2 (cmpS a.key b.key) (orderId a.id b.id)
abbrev Lists := Bid → List Child
structure KidsOk (f : Places) (L : Lists) : Prop where
 sorted : ∀ p, (L p).Pairwise fun a b => orderChild a b < 0
 mem : ∀ p c, c ∈ L p ↔ f c.id = some ⟨p, c.key⟩
/-! switches -/
structure Word where
 on : Bool
 t : Int
 r : Int
 from' : Bid
 deriving DecidableEq, Repr
def Word.later (w v : Word) : Bool := decide (0 < or2 (orderSt w.t w.r v.t v.r) (orderId w.from' v.from'))
abbrev Words := Bid → Option Word
def sayW (g : Words) (name : Bid) (w : Word) : Words :=
 match g name with
 | some old => if w.later old then fun y => if y = name then some w else g y else g
 | none => fun y => if y = name then some w else g y
/-! characters in a row -/
structure Run where
 op : Bid
 fr : Nat
 gone : Bool
 mark : Bool
 text : Bs
 deriving DecidableEq, Repr
def Run.len (r : Run) : Nat := r.text.length
def Run.has (r : Run) (c : Chr) : Bool := decide (r.op = c.op) && decide ((r.fr : Int) ≤ c.i) && decide (c.i < r.fr + r.len)
def Run.left (r : Run) (n : Nat) : Run := { r with text := r.text.take n }
def Run.right (r : Run) (n : Nat) : Run := { r with fr := r.fr + n, text := r.text.drop n }
def Run.joins (r b : Run) : Bool := decide (r.op = b.op) && decide (r.fr + r.len = b.fr) && decide (r.gone = b.gone) && !r.mark && !b.mark
abbrev Row := List Run
def lenR : Row → Nat
 | [] => 0
 | r :: l => r.len + lenR l
def splitR : Row → Nat → Row × Nat
 | [], _ => ([], 0)
 | r :: l, k => if k = 0 then (r :: l, 0) else if k < r.len then (r.left k :: r.right k :: l, 1) else
   let x := splitR l (k - r.len); (r :: x.1, x.2 + 1)
/-- the row mended, read from the left: the last run of what is done -/
def mendStep (out : Row) (r : Run) : Row :=
 match out.getLast? with
 | some q => if q.joins r then out.dropLast ++ [{ q with text := q.text ++ r.text }] else out ++ [r]
 | none => [r]
def mendR (l : Row) : Row := l.foldl mendStep []
def rightItem (x : Run) : Bool := rightOp x.op && decide (1 ≤ x.len) && decide (x.len ≤ 64) && decide (x.fr ≤ 64) && decide (x.fr + x.len ≤ 64) && (!x.mark || decide (x.len = 1))
def overlaps (l : Row) (x : Run) : Bool := l.any fun r => decide (r.op = x.op) && decide (r.fr < x.fr + x.len) && decide (x.fr < r.fr + r.len)
def insertAt {α : Type} (l : List α) (i : Nat) (x : α) : List α := l.take i ++ x :: l.drop i
def putErr (l : Row) (k : Int) (x : Run) : Int :=
 if rightItem x = false then 10 else if k < 0 ∨ (lenR l : Int) < k then 11 else if overlaps l x then 12 else 0
def putR (l : Row) (k : Int) (x : Run) : Row :=
 if putErr l k x ≠ 0 then l else
  let s := splitR l k.toNat
  mendR (insertAt s.1 s.2 x)
def cutRun (r : Run) (c : Cut) : Row × Nat :=
 let a := max c.fr r.fr
 let b := min c.to (r.fr + r.len)
 if r.op ≠ c.op ∨ r.gone = true ∨ b ≤ a then ([r], 0) else
  let i := (a - r.fr).toNat
  let j := (b - r.fr).toNat
  ((if (r.fr : Int) < a then [r.left i] else []) ++ ({ (r.left j).right i with gone := true } :: if b < r.fr + r.len then [r.right j] else []), j - i)
def cutR (l : Row) (c : Cut) : Row := mendR (l.flatMap fun r => (cutRun r c).1)
def findR : Row → Chr → Option Nat
 | [], _ => none
 | r :: l, c => if r.has c then some (c.i - r.fr).toNat else (findR l c).map (· + r.len)
def whereR (l : Row) (c : Chr) : Nat := (findR l c).getD 0
/-! a text that many write at once -/
structure Node where
 up : Chr
 l : List Chr
 r : List Chr
 deriving DecidableEq, Repr
abbrev Nodes := Chr → Option Node
def Node.side (n : Node) (s : Bool) : List Chr := if s then n.r else n.l
structure YT where
 row : Row
 nodes : Nodes
def YT.new : YT := ⟨[], fun c => if c = .z then some ⟨.z, [], []⟩ else none⟩
/-- a stands above b -/
inductive Abv (N : Nodes) (a : Chr) : Chr → Prop
 | one {b : Chr} {n : Node} : N b = some n → b ≠ .z → n.up = a → Abv N a b
 | more {b : Chr} {n : Node} : N b = some n → b ≠ .z → Abv N a n.up → Abv N a b
open Classical in
noncomputable def above (N : Nodes) (a b : Chr) : Bool := decide (Abv N a b)
def edge1 (N : Nodes) (s : Bool) (c : Chr) : Option Chr :=
 match N c with
 | some n => if s then n.r.getLast? else n.l.head?
 | none => none
inductive EdgeIs (N : Nodes) (s : Bool) : Chr → Chr → Prop
 | stop {c : Chr} : edge1 N s c = none → EdgeIs N s c c
 | go {c x e : Chr} : edge1 N s c = some x → EdgeIs N s x e → EdgeIs N s c e
open Classical in
noncomputable def edge (N : Nodes) (s : Bool) (c : Chr) : Chr := if h : ∃ e, EdgeIs N s c e then Classical.choose h else c
structure Seat where
 up : Chr
 side : Bool
 pos : Nat
 deriving DecidableEq, Repr
def sideOf (N : Nodes) (c : Chr) (s : Bool) : List Chr := match N c with | some n => n.side s | none => []
def chrAt (l : List Chr) (id : Bid) : Nat := (l.takeWhile fun c => decide (orderId c.op id < 0)).length
noncomputable def seatOf (N : Nodes) (o : Op) : Seat :=
 let lft := decide (o.right ≠ .z) && above N o.left o.right
 let up := if lft then o.right else o.left
 ⟨up, !lft, chrAt (sideOf N up (!lft)) o.id⟩
noncomputable def placeOf (t : YT) (s : Seat) : Int :=
 if 0 < s.pos then (whereR t.row (edge t.nodes true ((sideOf t.nodes s.up s.side).getD (s.pos - 1) .z)) : Int) + 1
 else if s.side = false then whereR t.row (edge t.nodes false s.up)
 else if s.up = .z then 0
 else (whereR t.row s.up : Int) + 1
def setNode (N : Nodes) (c : Chr) (n : Node) : Nodes := fun x => if x = c then some n else N x
def sit (N : Nodes) (c : Chr) (s : Seat) : Nodes :=
 match N s.up with
 | some n => setNode (setNode N s.up (if s.side then { n with r := insertAt n.r s.pos c } else { n with l := insertAt n.l s.pos c })) c ⟨s.up, [], []⟩
 | none => N
def sitRest (id : Bid) : Nat → Nat → Nodes → Nodes
 | _, 0, N => N
 | i, k + 1, N => sitRest id (i + 1) k (sit N ⟨id, i⟩ ⟨⟨id, (i : Int) - 1⟩, true, 0⟩)
def itemOf (o : Op) : Run := if o.kind = 5 then ⟨o.id, 0, false, true, [0]⟩ else ⟨o.id, 0, false, false, o.text⟩
def insErr (t : YT) (o : Op) : Int :=
 if o.ok = false ∨ o.size = 0 then 10
 else if (t.nodes ⟨o.id, 0⟩).isSome then 12
 else if (t.nodes o.left).isNone ∨ (t.nodes o.right).isNone then 13
 else 0
noncomputable def insY (t : YT) (o : Op) : YT :=
 let s := seatOf t.nodes o
 ⟨putR t.row (placeOf t s) (itemOf o), sitRest o.id 1 (o.size - 1) (sit t.nodes ⟨o.id, 0⟩ s)⟩
def cutY (t : YT) (c : Cut) : YT := ⟨cutR t.row c, t.nodes⟩
/-! the texts of blocks -/
structure Src where
 seg : Bid
 size : Int
 mark : Bool
 deriving DecidableEq, Repr
def Src.z : Src := ⟨.z, 0, false⟩
structure TX where
 texts : Bid → Option YT
 made : Bid → Option Src
def TX.new : TX := ⟨fun _ => none, fun _ => none⟩
def setT (f : Bid → Option YT) (x : Bid) (t : YT) : Bid → Option YT := fun y => if y = x then some t else f y
def setM (f : Bid → Option Src) (x : Bid) (s : Src) : Bid → Option Src := fun y => if y = x then some s else f y
def openErr (x : TX) (seg : Bid) : Int :=
 if rightOp seg = false then 10 else if (x.texts seg).isSome ∨ ((x.made seg).getD .z).mark = true then 12 else 0
def openX (x : TX) (seg : Bid) : TX := ⟨setT x.texts seg .new, x.made⟩
def insXErr (x : TX) (o : Op) : Int :=
 if (x.texts o.id).isSome ∨ (x.made o.id).isSome then 12
 else match x.texts o.seg with
  | none => 13
  | some t => insErr t o
noncomputable def insX (x : TX) (o : Op) : TX :=
 match x.texts o.seg with
 | none => x
 | some t => ⟨setT x.texts o.seg (insY t o), setM x.made o.id ⟨o.seg, o.size, decide (o.kind = 5)⟩⟩
def delErr (x : TX) : List Cut → Int
 | [] => 0
 | c :: l => match x.made c.op with
  | none => 13
  | some s => if s.size < c.to then 11 else delErr x l
def del1 (x : TX) (c : Cut) : TX :=
 match x.made c.op with
 | none => x
 | some s => match x.texts s.seg with
  | none => x
  | some t => ⟨setT x.texts s.seg (cutY t c), x.made⟩
def delX (x : TX) (l : List Cut) : TX := l.foldl del1 x
def doXErr (x : TX) (o : Op) : Int :=
 if o.ok = false then 10 else if 0 < o.size then insXErr x o else if o.kind = 4 then delErr x o.cuts else 10
noncomputable def doX (x : TX) (o : Op) : TX := if 0 < o.size then insX x o else delX x o.cuts
def segX (x : TX) (b : Bid) : Option Bid := if (x.texts b).isSome then some b else if ((x.made b).getD .z).mark then some ((x.made b).getD .z).seg else none
structure Piece where
 run : Run
 owner : Bid
 deriving DecidableEq, Repr
def Run.opens (r : Run) : Bool := r.mark && !r.gone
def Run.shows (r : Run) : Bool := !r.mark && !r.gone
def piecesR (owner : Bid) : Row → List Piece
 | [] => []
 | r :: l => let w := if r.opens then r.op else owner; ⟨r, w⟩ :: piecesR w l
def pieces (x : TX) (seg : Bid) : List Piece := match x.texts seg with | none => [] | some t => piecesR seg t.row
def stretchL (b : Bid) (l : List Piece) : List Piece := l.filter fun p => decide (p.owner = b) && !p.run.opens
def stretchF (b seg : Bid) (l : List Piece) : Bool := decide (b = seg) || l.any fun p => decide (p.owner = b) && p.run.opens
def stretch (x : TX) (b : Bid) : List Piece := match segX x b with | none => [] | some seg => stretchL b (pieces x seg)
def stretchOk (x : TX) (b : Bid) : Bool := match segX x b with | none => false | some seg => stretchF b seg (pieces x seg)
def textOf (x : TX) (b : Bid) : Bs := (stretch x b).flatMap fun p => if p.run.shows then p.run.text else []
/-! the document -/
structure Doc where
 ops : List Op
 kinds : Bid → Option Int
 tx : TX
 ms : List Move
 words : Words
def Doc.new : Doc := ⟨[], fun _ => none, .new, [], fun _ => none⟩
noncomputable def Doc.places (d : Doc) : Places := replay d.ms
def Doc.has (d : Doc) (i : Bid) : Bool := (d.kinds i).isSome
def Doc.there (d : Doc) (b : Bid) : Bool := decide (b = .z) || decide (b = .t) || decide (d.kinds b = some 1) || decide (d.kinds b = some 5)
def Doc.known (d : Doc) (o : Op) : Bool :=
 if o.kind = 1 ∨ o.kind = 5 then d.there o.parent
 else if o.kind = 2 then d.there o.block && d.there o.parent
 else if o.kind = 6 then d.there o.block
 else true
def writeErr (x : TX) (o : Op) : Int :=
 if o.kind = 1 then openErr x o.id else if o.kind = 3 ∨ o.kind = 5 ∨ o.kind = 4 then doXErr x o else 0
noncomputable def writeX (x : TX) (o : Op) : TX :=
 if o.kind = 1 then openX x o.id else if o.kind = 3 ∨ o.kind = 5 ∨ o.kind = 4 then doX x o else x
def moveOf (o : Op) (b : Bid) : Move := ⟨o.t, o.id.R, o.id, b, o.parent, o.key⟩
def addMove (ms : List Move) (m : Move) : List Move := insertAt ms (moveAt ms m) m
def Doc.err (d : Doc) (o : Op) : Int :=
 if o.ok = false then 10 else if d.has o.id then 12 else if d.known o = false then 13 else writeErr d.tx o
def setK (f : Bid → Option Int) (x : Bid) (k : Int) : Bid → Option Int := fun y => if y = x then some k else f y
noncomputable def Doc.apply (d : Doc) (o : Op) : Doc :=
 { ops := d.ops ++ [o], kinds := setK d.kinds o.id o.kind, tx := writeX d.tx o, ms := if o.kind = 1 ∨ o.kind = 5 then addMove d.ms (moveOf o o.id) else if o.kind = 2 then addMove d.ms (moveOf o o.block) else d.ms, words := if o.kind = 6 then sayW d.words o.block ⟨o.flag, o.t, o.id.R, o.id⟩ else d.words }
noncomputable def Doc.act (d : Doc) (o : Op) : Doc := if d.err o = 0 then d.apply o else d
structure Block where
 id : Bid
 depth : Int
 fold : Bool
 text : Bs
 deriving DecidableEq, Repr
/-- what is below a block, in order -/
inductive Pre (L : Lists) : Bid → List Bid → Prop
 | mk {a : Bid} {ls : List (List Bid)} : ls.length = (L a).length → (∀ (k : Nat) (h : k < (L a).length) (h' : k < ls.length), Pre L ((L a)[k]).id (ls[k])) →
   Pre L a (((L a).zip ls).flatMap fun x => x.1.id :: x.2)
end Dc
namespace Dc
open Off (Bid)
theorem cmpI_neg {a b : Int} : cmpI a b < 0 ↔ a < b := by unfold cmpI; split <;> (try split) <;> omega
theorem cmpI_zero {a b : Int} : cmpI a b = 0 ↔ a = b := by unfold cmpI; split <;> (try split) <;> omega
theorem cmpI_pos {a b : Int} : 0 < cmpI a b ↔ b < a := by unfold cmpI; split <;> (try split) <;> omega
theorem or2_neg {a b : Int} : or2 a b < 0 ↔ a < 0 ∨ (a = 0 ∧ b < 0) := by unfold or2; split <;> omega
theorem or2_pos {a b : Int} : 0 < or2 a b ↔ 0 < a ∨ (a = 0 ∧ 0 < b) := by unfold or2; split <;> omega
theorem or2_zero {a b : Int} : or2 a b = 0 ↔ a = 0 ∧ b = 0 := by unfold or2; split <;> omega
theorem orderId_neg {a b : Bid} : orderId a b < 0 ↔ a.R < b.R ∨ (a.R = b.R ∧ a.N < b.N) := by
 unfold orderId; rw [or2_neg, cmpI_neg, cmpI_zero, cmpI_neg]
theorem orderId_pos {a b : Bid} : 0 < orderId a b ↔ b.R < a.R ∨ (a.R = b.R ∧ b.N < a.N) := by
 unfold orderId; rw [or2_pos, cmpI_pos, cmpI_zero, cmpI_pos]
theorem orderId_zero {a b : Bid} : orderId a b = 0 ↔ a = b := by
 unfold orderId; rw [or2_zero, cmpI_zero, cmpI_zero]
 constructor
 ·rintro ⟨h1, h2⟩; cases a; cases b; simp_all
 ·rintro rfl; exact ⟨rfl, rfl⟩
theorem orderId_trans {a b c : Bid} (h : orderId a b < 0) (h' : orderId b c < 0) : orderId a c < 0 := by
 rw [orderId_neg] at *; omega
theorem orderId_swap {a b : Bid} : orderId a b < 0 ↔ 0 < orderId b a := by rw [orderId_neg, orderId_pos]; omega
theorem orderSt_neg {t r t' r' : Int} : orderSt t r t' r' < 0 ↔ t < t' ∨ (t = t' ∧ r < r') := by
 unfold orderSt; rw [or2_neg, cmpI_neg, cmpI_zero, cmpI_neg]
theorem orderSt_pos {t r t' r' : Int} : 0 < orderSt t r t' r' ↔ t' < t ∨ (t = t' ∧ r' < r) := by
 unfold orderSt; rw [or2_pos, cmpI_pos, cmpI_zero, cmpI_pos]
theorem orderSt_zero {t r t' r' : Int} : orderSt t r t' r' = 0 ↔ t = t' ∧ r = r' := by
 unfold orderSt; rw [or2_zero, cmpI_zero, cmpI_zero]
theorem orderMove_neg {a b : Move} : orderMove a b < 0 ↔ a.t < b.t ∨ (a.t = b.t ∧ (a.r < b.r ∨ (a.r = b.r ∧ (a.id.R < b.id.R ∨ (a.id.R = b.id.R ∧ a.id.N < b.id.N))))) := by
 unfold orderMove; rw [or2_neg, orderSt_neg, orderSt_zero, orderId_neg]; omega
theorem orderMove_pos {a b : Move} : 0 < orderMove a b ↔ b.t < a.t ∨ (a.t = b.t ∧ (b.r < a.r ∨ (a.r = b.r ∧ (b.id.R < a.id.R ∨ (a.id.R = b.id.R ∧ b.id.N < a.id.N))))) := by
 unfold orderMove; rw [or2_pos, orderSt_pos, orderSt_zero, orderId_pos]; omega
theorem orderMove_zero {a b : Move} : orderMove a b = 0 ↔ a.t = b.t ∧ a.r = b.r ∧ a.id = b.id := by
 unfold orderMove; rw [or2_zero, orderSt_zero, orderId_zero, and_assoc]
theorem orderMove_trans {a b c : Move} (h : orderMove a b < 0) (h' : orderMove b c < 0) : orderMove a c < 0 := by
 rw [orderMove_neg] at *; omega
theorem orderMove_swap {a b : Move} : orderMove a b < 0 ↔ 0 < orderMove b a := by rw [orderMove_neg, orderMove_pos]; omega
theorem cmpS_zero : ∀ {a b : Bs}, cmpS a b = 0 ↔ a = b
 | [], [] => by simp [cmpS, Go.Lib.compareBytes]
 | [], _ :: _ => by simp [cmpS, Go.Lib.compareBytes]
 | _ :: _, [] => by simp [cmpS, Go.Lib.compareBytes]
 | a :: as, b :: bs => by
  have ih := @cmpS_zero as bs
  unfold cmpS at ih ⊢
  unfold Go.Lib.compareBytes
  by_cases h1 : a < b
  ·rw [if_pos h1]; simp; rintro rfl; exact absurd h1 (UInt8.lt_irrefl _)
  ·by_cases h2 : b < a
   ·rw [if_neg h1, if_pos h2]; simp; rintro rfl; exact absurd h2 (UInt8.lt_irrefl _)
   ·rw [if_neg h1, if_neg h2, ih]
    have : a = b := by
     have h1' : ¬ a.toNat < b.toNat := fun h => h1 (UInt8.lt_iff_toNat_lt.2 h)
     have h2' : ¬ b.toNat < a.toNat := fun h => h2 (UInt8.lt_iff_toNat_lt.2 h)
     exact UInt8.toNat_inj.1 (by omega)
    simp [this]
theorem cmpS_swap : ∀ {a b : Bs}, cmpS a b = - cmpS b a
 | [], [] => by simp [cmpS, Go.Lib.compareBytes]
 | [], _ :: _ => by simp [cmpS, Go.Lib.compareBytes]
 | _ :: _, [] => by simp [cmpS, Go.Lib.compareBytes]
 | a :: as, b :: bs => by
  have ih := @cmpS_swap as bs
  unfold cmpS at ih ⊢
  unfold Go.Lib.compareBytes
  have e1 : (a < b) = (a.toNat < b.toNat) := propext UInt8.lt_iff_toNat_lt
  have e2 : (b < a) = (b.toNat < a.toNat) := propext UInt8.lt_iff_toNat_lt
  simp only [e1, e2]
  split
  ·rename_i h1
   rw [if_neg (by omega)]
  ·split
   ·simp
   ·exact ih
theorem cmpS_trans : ∀ {a b c : Bs}, cmpS a b < 0 → cmpS b c < 0 → cmpS a c < 0
 | [], [], _ => by simp [cmpS, Go.Lib.compareBytes]
 | _ :: _, [], _ => by simp [cmpS, Go.Lib.compareBytes]
 | [], _ :: _, [] => by simp [cmpS, Go.Lib.compareBytes]
 | _ :: _, _ :: _, [] => by simp [cmpS, Go.Lib.compareBytes]
 | [], _ :: _, _ :: _ => by simp [cmpS, Go.Lib.compareBytes]
 | a :: as, b :: bs, c :: cs => by
  have ih := @cmpS_trans as bs cs
  unfold cmpS at ih ⊢
  unfold Go.Lib.compareBytes
  have e : ∀ x y : UInt8, (x < y) = (x.toNat < y.toNat) := fun x y => propext UInt8.lt_iff_toNat_lt
  simp only [e]
  intro h1 h2
  by_cases x1 : a.toNat < b.toNat
  ·by_cases x2 : b.toNat < c.toNat
   ·rw [if_pos (by omega)]; omega
   ·rw [if_neg x2] at h2
    by_cases x3 : c.toNat < b.toNat
    ·rw [if_pos x3] at h2; omega
    ·rw [if_pos (by omega)]; omega
  ·rw [if_neg x1] at h1
   by_cases x1' : b.toNat < a.toNat
   ·rw [if_pos x1'] at h1; omega
   ·rw [if_neg x1'] at h1
    by_cases x2 : b.toNat < c.toNat
    ·rw [if_pos (by omega)]; omega
    ·rw [if_neg x2] at h2
     by_cases x3 : c.toNat < b.toNat
     ·rw [if_pos x3] at h2; omega
     ·rw [if_neg x3] at h2
      rw [if_neg (by omega), if_neg (by omega)]
      exact ih h1 h2
theorem orderChild_neg {a b : Child} : orderChild a b < 0 ↔ cmpS a.key b.key < 0 ∨ (a.key = b.key ∧ orderId a.id b.id < 0) := by
 unfold orderChild; rw [or2_neg, cmpS_zero]
theorem orderChild_zero {a b : Child} : orderChild a b = 0 ↔ a = b := by
 unfold orderChild; rw [or2_zero, cmpS_zero, orderId_zero]
 constructor
 ·rintro ⟨h1, h2⟩; cases a; cases b; simp_all
 ·rintro rfl; exact ⟨rfl, rfl⟩
theorem orderChild_swap {a b : Child} : orderChild a b < 0 ↔ 0 < orderChild b a := by
 unfold orderChild; rw [or2_neg, or2_pos, cmpS_zero, cmpS_zero, orderId_swap]
 have := @cmpS_swap a.key b.key
 constructor
 ·rintro (h | ⟨h, h'⟩)
  ·left; omega
  ·exact .inr ⟨h.symm, h'⟩
 ·rintro (h | ⟨h, h'⟩)
  ·left; omega
  ·exact .inr ⟨h.symm, h'⟩
theorem orderChild_trans {a b c : Child} (h : orderChild a b < 0) (h' : orderChild b c < 0) : orderChild a c < 0 := by
 rw [orderChild_neg] at *
 rcases h with h | ⟨h1, h2⟩ <;> rcases h' with h' | ⟨h3, h4⟩
 ·exact .inl (cmpS_trans h h')
 ·exact .inl (h3 ▸ h)
 ·exact .inl (h1 ▸ h')
 ·exact .inr ⟨h1.trans h3, orderId_trans h2 h4⟩
/-! ### where one joins a sorted row: any row, any comparison -/
section
variable {α β : Type}
/-- the first n say yes, the others no -/
theorem split_at (p : α → Bool) : ∀ (l : List α), (∀ (i j : Nat) (hi : i < l.length) (hj : j < l.length), i ≤ j → p l[j] = true → p l[i] = true) →
  ∀ (j : Nat) (hj : j < l.length), p l[j] = decide (j < (l.takeWhile p).length)
 | [], _, j, hj => absurd hj (Nat.not_lt_zero _)
 | a :: l, h, j, hj => by
  by_cases ha : p a = true
  ·rw [List.takeWhile_cons_of_pos ha]
   cases j with
   | zero => simp [ha]
   | succ j =>
    have ih := split_at p l (fun i j hi hj hij => by
     have := h (i + 1) (j + 1) (by simp; omega) (by simp; omega) (by omega)
     simpa using this) j (by simpa using hj)
    simp only [List.getElem_cons_succ, List.length_cons]
    rw [ih]
    simp
  ·rw [List.takeWhile_cons_of_neg ha]
   have hn : p (a :: l)[j] = false := by
    cases hp : p (a :: l)[j] with
    | false => rfl
    | true => exact absurd (h 0 j (by simp) hj (Nat.zero_le _) hp) ha
   rw [hn]; simp
theorem takeWhile_le (p : α → Bool) : ∀ l : List α, (l.takeWhile p).length ≤ l.length
 | [] => Nat.le_refl _
 | a :: l => by
  rw [List.takeWhile_cons]
  split
  ·have := takeWhile_le p l; simp; omega
  ·simp
end
/-- a sorted row under a comparison: what is below x stands ahead -/
theorem below_ahead {α : Type} {c : α → α → Int} (ht : ∀ {a b d}, c a b < 0 → c b d < 0 → c a d < 0) {l : List α} (hs : l.Pairwise fun a b => c a b < 0) (x : α) :
  ∀ (i j : Nat) (hi : i < l.length) (hj : j < l.length), i ≤ j → decide (c l[j] x < 0) = true → decide (c l[i] x < 0) = true := by
 intro i j hi hj hij h
 rcases Nat.eq_or_lt_of_le hij with rfl | hlt
 ·exact h
 ·simp only [decide_eq_true_eq] at h ⊢
  exact ht (List.pairwise_iff_getElem.1 hs i j hi hj hlt) h
end Dc
namespace Dc
open Off (Bid rightOp rightBlock)
def Ranked (f : Places) (rk : Bid → Nat) : Prop := ∀ a p, f a = some p → rk p.parent < rk a
theorem bel_rank {f : Places} {rk : Bid → Nat} (h : Ranked f rk) {a b : Bid} (hb : Bel f a b) : rk b < rk a := by
 induction hb with
 | one h1 => exact h _ _ h1
 | more h1 _ ih => have := h _ _ h1; omega
theorem bel_cases {f : Places} {a b : Bid} : Bel f a b ↔ ∃ p, f a = some p ∧ (p.parent = b ∨ Bel f p.parent b) := by
 constructor
 ·intro h
  cases h with
  | one h1 => exact ⟨_, h1, .inl rfl⟩
  | more h1 h2 => exact ⟨_, h1, .inr h2⟩
 ·rintro ⟨p, h1, rfl | h2⟩
  ·exact .one h1
  ·exact .more h1 h2
theorem bel_trans {f : Places} {a b c : Bid} (h : Bel f a b) (h' : Bel f b c) : Bel f a c := by
 induction h with
 | one h1 => exact .more h1 h'
 | more h1 _ ih => exact .more h1 (ih h')
theorem below_iff {f : Places} {a b : Bid} : below f a b = true ↔ Bel f a b := by unfold below; simp
theorem below_none {f : Places} {a b : Bid} (h : f a = none) : below f a b = false := by
 cases hb : below f a b with
 | false => rfl
 | true => obtain ⟨p, h1, _⟩ := bel_cases.1 (below_iff.1 hb); rw [h] at h1; cases h1
theorem below_some {f : Places} {a b : Bid} {p : Place} (h : f a = some p) : below f a b = (decide (p.parent = b) || below f p.parent b) := by
 rw [Bool.eq_iff_iff, below_iff, bel_cases]
 simp only [Bool.or_eq_true, decide_eq_true_eq, below_iff]
 constructor
 ·rintro ⟨q, h1, h2⟩; rw [h] at h1; cases h1; exact h2
 ·intro h2; exact ⟨p, h, h2⟩
theorem step_ranked {f : Places} {rk : Bid → Nat} (h : Ranked f rk) (m : Move) : ∃ rk', Ranked (step f m) rk' := by
 unfold step
 by_cases ha : allowed f m = true
 ·rw [if_pos ha]
  unfold allowed at ha
  simp only [Bool.and_eq_true, decide_eq_true_eq, Bool.not_eq_true'] at ha
  obtain ⟨h1, h2⟩ := ha
  have h2' : ¬ Bel f m.parent m.block := fun e => by rw [below_iff.2 e] at h2; cases h2
  let U : Bid → Prop := fun x => x = m.block ∨ Bel f x m.block
  refine ⟨fun x => open Classical in if U x then rk x + rk m.parent + 1 else rk x, ?_⟩
  intro a p hp
  unfold setP at hp
  by_cases hab : a = m.block
  ·rw [if_pos hab] at hp
   cases hp
   have hn : ¬ U m.parent := fun hh => by rcases hh with e | e; exact h1 e; exact h2' e
   have hy : U a := .inl hab
   simp only [hn, hy, if_true, if_false]
   omega
  ·rw [if_neg hab] at hp
   have hr := h a p hp
   by_cases hU : U p.parent
   ·have hy : U a := by
     rcases hU with e | e
     ·exact .inr (bel_cases.2 ⟨p, hp, .inl e⟩)
     ·exact .inr (.more hp e)
    simp only [hU, hy, if_true]
    omega
   ·simp only [hU, if_false]
    split <;> omega
 ·rw [if_neg ha]; exact ⟨rk, h⟩
theorem fold_ranked : ∀ (ms : List Move) (f : Places), (∃ rk, Ranked f rk) → ∃ rk, Ranked (ms.foldl step f) rk
 | [], _, h => h
 | m :: ms, f, ⟨_, h⟩ => fold_ranked ms (step f m) (step_ranked h m)
theorem replay_ranked (ms : List Move) : ∃ rk, Ranked (replay ms) rk :=
 fold_ranked ms noPlaces ⟨fun _ => 0, fun a p h => by simp [noPlaces] at h⟩
theorem fold_from : ∀ (ms : List Move) (f : Places) (a : Bid) (p : Place), ms.foldl step f a = some p →
  f a = some p ∨ ∃ m ∈ ms, m.block = a ∧ m.parent = p.parent ∧ m.key = p.key ∧ m.parent ≠ m.block
 | [], _, _, _, h => .inl h
 | m :: ms, f, a, p, h => by
  rcases fold_from ms (step f m) a p h with h1 | ⟨m', h1, h2⟩
  ·unfold step at h1
   by_cases ha : allowed f m = true
   ·rw [if_pos ha] at h1
    unfold setP at h1
    by_cases hab : a = m.block
    ·rw [if_pos hab] at h1
     cases h1
     unfold allowed at ha
     simp only [Bool.and_eq_true, decide_eq_true_eq] at ha
     exact .inr ⟨m, by simp, hab.symm, rfl, rfl, ha.1⟩
    ·rw [if_neg hab] at h1; exact .inl h1
   ·rw [if_neg ha] at h1; exact .inl h1
  ·exact .inr ⟨m', by simp [h1], h2⟩
theorem replay_from {ms : List Move} {a : Bid} {p : Place} (h : replay ms a = some p) : ∃ m ∈ ms, m.block = a ∧ m.parent = p.parent ∧ m.key = p.key ∧ m.parent ≠ m.block := by
 rcases fold_from ms noPlaces a p h with h1 | h1
 ·simp [noPlaces] at h1
 ·exact h1
theorem replay_dom {ms : List Move} {a : Bid} (h : replay ms a ≠ none) : a ∈ ms.map (·.block) := by
 cases hp : replay ms a with
 | none => exact absurd hp h
 | some p => obtain ⟨m, h1, h2, _⟩ := replay_from hp; exact List.mem_map.2 ⟨m, h1, h2⟩
/-- what is undone is as it was -/
theorem undo_done {f : Places} {m : Move} (h : allowed f m = true) : setP (step f m) m.block (f m.block) = f := by
 unfold step; rw [if_pos h]
 funext y
 unfold setP
 by_cases hy : y = m.block
 ·simp [hy]
 ·simp [hy]
theorem undo_not {f : Places} {m : Move} (h : allowed f m = false) : step f m = f := by unfold step; rw [if_neg (by simp [h])]
/-! ### the way up -/
theorem way_exists {f : Places} {rk : Bid → Nat} (h : Ranked f rk) : ∀ (n : Nat) (a : Bid), rk a ≤ n → ∃ l, WayIs f a l
 | n, a, hn => by
  cases hf : f a with
  | none => exact ⟨[], .nil hf⟩
  | some p =>
   have hlt := h a p hf
   match n, hn with
   | 0, hn => omega
   | n + 1, hn =>
    obtain ⟨l, hl⟩ := way_exists h n p.parent (by omega)
    exact ⟨_, .cons hf hl⟩
theorem way_unique {f : Places} {a : Bid} {l l' : List Bid} (h : WayIs f a l) (h' : WayIs f a l') : l = l' := by
 induction h generalizing l' with
 | nil h1 =>
  cases h' with
  | nil => rfl
  | cons h2 _ => rw [h1] at h2; cases h2
 | cons h1 _ ih =>
  cases h' with
  | nil h2 => rw [h1] at h2; cases h2
  | cons h2 h3 => rw [h1] at h2; cases h2; rw [ih h3]
open Classical in
noncomputable def way (f : Places) (a : Bid) : List Bid := if h : ∃ l, WayIs f a l then Classical.choose h else []
theorem way_is {f : Places} {rk : Bid → Nat} (h : Ranked f rk) (a : Bid) : WayIs f a (way f a) := by
 have he := way_exists h _ a (Nat.le_refl _)
 unfold way
 rw [dif_pos he]
 exact Classical.choose_spec he
theorem way_eq {f : Places} {a : Bid} {l : List Bid} (h : WayIs f a l) : way f a = l := by
 have he : ∃ l, WayIs f a l := ⟨l, h⟩
 unfold way
 rw [dif_pos he]
 exact way_unique (Classical.choose_spec he) h
theorem way_none {f : Places} {a : Bid} (h : f a = none) : way f a = [] := way_eq (.nil h)
theorem way_some {f : Places} {rk : Bid → Nat} (hr : Ranked f rk) {a : Bid} {p : Place} (h : f a = some p) : way f a = p.parent :: way f p.parent :=
 way_eq (.cons h (way_is hr _))
/-! ### rows of children -/
def chAt (l : List Child) (c : Child) : Nat := (l.takeWhile fun x => decide (orderChild x c < 0)).length
theorem chAt_le (l : List Child) (c : Child) : chAt l c ≤ l.length := takeWhile_le _ _
theorem orderChild_self (c : Child) : orderChild c c = 0 := orderChild_zero.2 rfl
theorem chAt_split {l : List Child} (hs : l.Pairwise fun a b => orderChild a b < 0) (c : Child) (j : Nat) (hj : j < l.length) : decide (orderChild l[j] c < 0) = decide (j < chAt l c) :=
 split_at (fun x => decide (orderChild x c < 0)) l (below_ahead (c := orderChild) (fun h h' => orderChild_trans h h') hs c) j hj
theorem chAt_mem {l : List Child} (hs : l.Pairwise fun a b => orderChild a b < 0) {c : Child} (hc : c ∈ l) : ∃ h : chAt l c < l.length, l[chAt l c] = c := by
 obtain ⟨j, hj, rfl⟩ := List.getElem_of_mem hc
 have h1 := chAt_split hs l[j] j hj
 rw [orderChild_self] at h1
 simp at h1
 have h2 : chAt l l[j] < l.length := by omega
 refine ⟨h2, ?_⟩
 rcases Nat.eq_or_lt_of_le h1 with e | hlt
 ·simp [e]
 ·have h3 := chAt_split hs l[j] (chAt l l[j]) h2
  have h4 := List.pairwise_iff_getElem.1 hs _ _ h2 hj hlt
  simp [h4] at h3
def dropL (L : Lists) (p : Place) (b : Bid) : Lists := fun q => if q = p.parent then (L q).eraseIdx (chAt (L q) ⟨p.key, b⟩) else L q
def addL (L : Lists) (p : Place) (b : Bid) : Lists := fun q => if q = p.parent then insertAt (L q) (chAt (L q) ⟨p.key, b⟩) ⟨p.key, b⟩ else L q
theorem kids_nodup {l : List Child} (hs : l.Pairwise fun a b => orderChild a b < 0) : l.Nodup :=
 hs.imp fun {a b} h e => by subst e; rw [orderChild_self] at h; omega
theorem mem_eraseAt {α : Type} {l : List α} (hn : l.Nodup) {i : Nat} (hi : i < l.length) (x : α) : x ∈ l.eraseIdx i ↔ x ∈ l ∧ x ≠ l[i] := by
 rw [List.mem_eraseIdx_iff_getElem?]
 constructor
 ·rintro ⟨j, hne, hj⟩
  obtain ⟨hj', e⟩ := List.getElem?_eq_some_iff.1 hj
  refine ⟨List.mem_of_getElem? hj, fun e' => hne ?_⟩
  exact (List.getElem_inj hn).1 (e.trans e')
 ·rintro ⟨hx, hne⟩
  obtain ⟨j, hj, rfl⟩ := List.getElem_of_mem hx
  exact ⟨j, fun e => hne (by subst e; rfl), List.getElem?_eq_getElem hj⟩
theorem drop_ok {g : Places} {L : Lists} (h : KidsOk g L) {b : Bid} {p : Place} (hb : g b = some p) : KidsOk (setP g b none) (dropL L p b) := by
 have hm : (⟨p.key, b⟩ : Child) ∈ L p.parent := (h.mem _ _).2 hb
 obtain ⟨hlt, hat⟩ := chAt_mem (h.sorted p.parent) hm
 refine ⟨fun q => ?_, fun q c => ?_⟩
 ·unfold dropL
  split
  ·exact (h.sorted q).sublist (List.eraseIdx_sublist _ _)
  ·exact h.sorted q
 ·unfold dropL
  by_cases hq : q = p.parent
  ·subst hq
   rw [if_pos rfl, mem_eraseAt (kids_nodup (h.sorted _)) hlt, hat, h.mem]
   unfold setP
   by_cases hc : c.id = b
   ·rw [if_pos hc]
    simp
    intro h1
    rw [hc, hb] at h1
    cases c
    simp at h1 hc ⊢
    cases p; simp_all
   ·rw [if_neg hc]
    constructor
    ·exact fun h1 => h1.1
    ·exact fun h1 => ⟨h1, fun e => hc (by rw [e])⟩
  ·rw [if_neg hq, h.mem]
   unfold setP
   by_cases hc : c.id = b
   ·rw [if_pos hc]
    simp
    intro h1
    rw [hc, hb] at h1
    cases h1
    exact hq rfl
   ·rw [if_neg hc]
theorem mem_insertAt {α : Type} {l : List α} {i : Nat} {x y : α} : y ∈ insertAt l i x ↔ y = x ∨ y ∈ l := by
 unfold insertAt
 rw [List.mem_append, List.mem_cons]
 have : y ∈ l ↔ y ∈ l.take i ∨ y ∈ l.drop i := by
  conv => lhs; rw [← List.take_append_drop i l]
  exact List.mem_append
 rw [this]
 constructor
 ·rintro (h | h | h)
  ·exact .inr (.inl h)
  ·exact .inl h
  ·exact .inr (.inr h)
 ·rintro (h | h | h)
  ·exact .inr (.inl h)
  ·exact .inl h
  ·exact .inr (.inr h)
theorem length_insertAt {α : Type} {l : List α} {i : Nat} {x : α} (h : i ≤ l.length) : (insertAt l i x).length = l.length + 1 := by
 unfold insertAt; simp; omega
/-- joined where it belongs, a sorted row stays sorted -/
theorem sorted_insert {α : Type} {c : α → α → Int} {l : List α} (hs : l.Pairwise fun a b => c a b < 0) (x : α) {n : Nat} (hn : n ≤ l.length)
  (hsp : ∀ (j : Nat) (hj : j < l.length), decide (c l[j] x < 0) = decide (j < n)) (hge : ∀ y ∈ l, ¬ c y x < 0 → c x y < 0) : (insertAt l n x).Pairwise fun a b => c a b < 0 := by
 unfold insertAt
 rw [List.pairwise_append]
 refine ⟨hs.sublist (List.take_sublist _ _), ?_, ?_⟩
 ·rw [List.pairwise_cons]
  refine ⟨fun y hy => ?_, hs.sublist (List.drop_sublist _ _)⟩
  obtain ⟨j, hj, rfl⟩ := List.getElem_of_mem hy
  simp at hj
  rw [List.getElem_drop]
  refine hge _ (List.getElem_mem _) ?_
  have := hsp (n + j) (by omega)
  rw [decide_eq_false (by omega : ¬ n + j < n)] at this
  exact of_decide_eq_false this
 ·intro a ha b hb
  obtain ⟨j, hj, rfl⟩ := List.getElem_of_mem ha
  simp at hj
  have hax : c l[j] x < 0 := by
   have := hsp j (by omega)
   rw [decide_eq_true (by omega : j < n)] at this
   exact of_decide_eq_true this
  rw [List.getElem_take]
  rcases List.mem_cons.1 hb with rfl | hb
  ·exact hax
  ·obtain ⟨i, hi, rfl⟩ := List.getElem_of_mem hb
   simp at hi
   rw [List.getElem_drop]
   exact List.pairwise_iff_getElem.1 hs j (n + i) (by omega) (by omega) (by omega)
theorem add_ok {g : Places} {L : Lists} (h : KidsOk g L) {b : Bid} {p : Place} (hb : g b = none) : KidsOk (setP g b (some p)) (addL L p b) := by
 have hnm : ∀ c ∈ L p.parent, c.id ≠ b := fun c hc e => by
  have := (h.mem _ _).1 hc
  rw [e, hb] at this; cases this
 refine ⟨fun q => ?_, fun q c => ?_⟩
 ·unfold addL
  by_cases hq : q = p.parent
  ·subst hq
   rw [if_pos rfl]
   refine sorted_insert (c := orderChild) (h.sorted _) _ (chAt_le _ _) (chAt_split (h.sorted _) _) ?_
   intro y hy hny
   have h1 : ¬ orderChild y ⟨p.key, b⟩ = 0 := fun e => hnm y hy (by rw [orderChild_zero.1 e])
   have h2 := orderChild_swap (a := (⟨p.key, b⟩ : Child)) (b := y)
   exact h2.2 (by omega)
  ·rw [if_neg hq]; exact h.sorted q
 ·unfold addL
  by_cases hq : q = p.parent
  ·subst hq
   rw [if_pos rfl, mem_insertAt, h.mem]
   unfold setP
   by_cases hc : c.id = b
   ·rw [if_pos hc, hc, hb]
    simp
    constructor
    ·rintro rfl; cases p; rfl
    ·intro e; cases c; cases p; simp_all
   ·rw [if_neg hc]
    constructor
    ·rintro (rfl | h1)
     ·exact absurd rfl hc
     ·exact h1
    ·exact fun h1 => .inr h1
  ·rw [if_neg hq, h.mem]
   unfold setP
   by_cases hc : c.id = b
   ·rw [if_pos hc, hc, hb]
    simp
    rintro rfl
    exact hq rfl
   ·rw [if_neg hc]
theorem sorted_unique {α : Type} {c : α → α → Int} (hs : ∀ {a b}, c a b < 0 → ¬ c b a < 0) (hi : ∀ a, ¬ c a a < 0) : ∀ {l l' : List α}, (l.Pairwise fun a b => c a b < 0) → (l'.Pairwise fun a b => c a b < 0) → (∀ x, x ∈ l ↔ x ∈ l') → l = l'
 | [], [], _, _, _ => rfl
 | [], b :: l', _, _, h => absurd ((h b).2 (by simp)) (by simp)
 | a :: l, [], _, _, h => absurd ((h a).1 (by simp)) (by simp)
 | a :: l, b :: l', h1, h2, h => by
  obtain ⟨p1, q1⟩ := List.pairwise_cons.1 h1
  obtain ⟨p2, q2⟩ := List.pairwise_cons.1 h2
  have hab : a = b := by
   rcases List.mem_cons.1 ((h a).1 (by simp)) with e | e
   ·exact e
   ·rcases List.mem_cons.1 ((h b).2 (by simp)) with e' | e'
    ·exact e'.symm
    ·exact absurd (p2 a e) (hs (p1 b e'))
  subst hab
  rw [sorted_unique (c := c) hs hi q1 q2 fun x => ?_]
  constructor
  ·intro hx
   rcases List.mem_cons.1 ((h x).1 (by simp [hx])) with rfl | e
   ·exact absurd (p1 x hx) (hi x)
   ·exact e
  ·intro hx
   rcases List.mem_cons.1 ((h x).2 (by simp [hx])) with rfl | e
   ·exact absurd (p2 x hx) (hi x)
   ·exact e
theorem kids_unique {g : Places} {L L' : Lists} (h : KidsOk g L) (h' : KidsOk g L') : L = L' := by
 funext p
 refine sorted_unique (c := orderChild) (fun {a b} h1 h2 => ?_) (fun a h1 => ?_) (h.sorted p) (h'.sorted p) (fun x => by rw [h.mem, h'.mem])
 ·rw [orderChild_swap] at h2; omega
 ·rw [orderChild_self] at h1; omega
theorem nodup_length_le {α : Type} [DecidableEq α] : ∀ {l m : List α}, l.Nodup → (∀ a ∈ l, a ∈ m) → l.length ≤ m.length
 | [], _, _, _ => Nat.zero_le _
 | a :: l, m, h, hs => by
  obtain ⟨h1, h2⟩ := List.nodup_cons.1 h
  have hm : a ∈ m := hs a (by simp)
  have := nodup_length_le (l := l) (m := m.erase a) h2 (fun x hx => by
   have hne : x ≠ a := fun e => h1 (e ▸ hx)
   exact (List.mem_erase_of_ne hne).2 (hs x (by simp [hx])))
  rw [List.length_erase_of_mem hm] at this
  have : 0 < m.length := List.length_pos_of_mem hm
  simp
  omega
theorem kids_ids_nodup {g : Places} {L : Lists} (h : KidsOk g L) (p : Bid) : ((L p).map (·.id)).Nodup := by
 rw [List.nodup_iff_pairwise_ne, List.pairwise_map]
 refine List.Pairwise.imp_of_mem (fun {a b} ha hb h1 e => ?_) (h.sorted p)
 have h2 := (h.mem _ _).1 ha
 have h3 := (h.mem _ _).1 hb
 rw [e, h3] at h2
 have : a = b := by cases a; cases b; simp_all
 rw [this, orderChild_self] at h1
 omega
theorem kids_len {g : Places} {L : Lists} (h : KidsOk g L) {dom : List Bid} (hd : ∀ a, g a ≠ none → a ∈ dom) (p : Bid) : (L p).length ≤ dom.length := by
 have := nodup_length_le (kids_ids_nodup h p) (m := dom) (fun a ha => by
  obtain ⟨c, hc, rfl⟩ := List.mem_map.1 ha
  exact hd _ (by rw [(h.mem _ _).1 hc]; simp))
 simpa using this
end Dc
