/- joined: The plain model of the document: names, ops, the tree of blocks, texts. No program in sight. The orders of the document's plain model: names, stamps, moves, children. The tree of the plain model: the replay of moves has no ring; what stands above and below a block; the children in order. -/
import Derived.Lib.Bytealg
theorem Ac:type_of% @Nat.le_refl:=@Nat.le_refl
theorem Ad:type_of% @List.length_take:=@List.length_take
theorem Ae:type_of% @if_neg:=@if_neg
theorem Ah:type_of% @Nat.zero_le:=@Nat.zero_le
theorem Ai:type_of% @List.length_append:=@List.length_append
theorem Aj:type_of% @List.getElem?_eq_getElem:=@List.getElem?_eq_getElem
theorem Ak:type_of% @if_pos:=@if_pos
theorem Am:type_of% @List.length_drop:=@List.length_drop
theorem Ap:type_of% @Option.some.inj:=@Option.some.inj
theorem Au:type_of% @decide_eq_true_eq:=@decide_eq_true_eq
theorem Aw:type_of% @Array.getElem?_toList:=@Array.getElem?_toList
theorem AC:type_of% @List.mem_append:=@List.mem_append
theorem AG:type_of% @Nat.le_trans:=@Nat.le_trans
theorem AH:type_of% @List.take_length:=@List.take_length
theorem AI:type_of% @List.append_assoc:=@List.append_assoc
theorem AK:type_of% @Nat.lt_of_lt_of_le:=@Nat.lt_of_lt_of_le
theorem AM:type_of% @List.length_map:=@List.length_map
theorem AN:type_of% @Bool.and_eq_true:=@Bool.and_eq_true
theorem AO:type_of% @List.getElem?_take:=@List.getElem?_take
theorem AQ:type_of% @List.getElem_mem:=@List.getElem_mem
theorem AS:type_of% @List.getElem?_eq_some_iff:=@List.getElem?_eq_some_iff
theorem AU:type_of% @List.mem_singleton:=@List.mem_singleton
theorem AW:type_of% @List.take_add_one:=@List.take_add_one
theorem AX:type_of% @Array.length_toList:=@Array.length_toList
theorem AZ:type_of% @Option.some.injEq:=@Option.some.injEq
theorem A5:type_of% @List.mem_map:=@List.mem_map
theorem A7:type_of% @List.mem_cons:=@List.mem_cons
theorem A9:type_of% @List.take_append_drop:=@List.take_append_drop
theorem Ba:type_of% @List.mem_flatMap:=@List.mem_flatMap
theorem Bo:type_of% @List.map_append:=@List.map_append
theorem Br:type_of% @List.take_left':=@List.take_left'
theorem BC:type_of% @List.mem_of_mem_drop:=@List.mem_of_mem_drop
theorem BE:type_of% @List.flatMap_cons:=@List.flatMap_cons
theorem BO:type_of% @List.length_cons:=@List.length_cons
theorem BQ:type_of% @Option.ne_none_iff_exists':=@Option.ne_none_iff_exists'
theorem BR:type_of% @Nat.eq_or_lt_of_le:=@Nat.eq_or_lt_of_le
theorem BU:type_of% @List.flatMap_append:=@List.flatMap_append
theorem B5:type_of% @List.getElem?_drop:=@List.getElem?_drop
theorem B8:type_of% @Nat.min_eq_left:=@Nat.min_eq_left
theorem B9:type_of% @List.all_eq_true:=@List.all_eq_true
theorem Cd:type_of% @List.map_cons:=@List.map_cons
theorem Cf:type_of% @Nat.min_def:=@Nat.min_def
theorem Ci:type_of% @List.drop_eq_getElem_cons:=@List.drop_eq_getElem_cons
theorem CB:type_of% @List.take_of_length_le:=@List.take_of_length_le
theorem CJ:type_of% @List.append_nil:=@List.append_nil
theorem CM:type_of% @List.getElem_of_mem:=@List.getElem_of_mem
theorem C3:type_of% @List.take_take:=@List.take_take
theorem C9:type_of% @List.pairwise_iff_getElem:=@List.pairwise_iff_getElem
theorem Da:type_of% @Array.getElem?_eq_getElem:=@Array.getElem?_eq_getElem
theorem Dj:type_of% @List.take_append_of_le_length:=@List.take_append_of_le_length
theorem Dn:type_of% @decide_eq_false:=@decide_eq_false
theorem Dy:type_of% @List.foldl_append:=@List.foldl_append
theorem DW:type_of% @true_and:=@true_and
theorem DX:type_of% @and_true:=@and_true
theorem DY:type_of% @List.getElem?_eq_none:=@List.getElem?_eq_none
theorem D8:type_of% @Option.isSome_iff_exists:=@Option.isSome_iff_exists
theorem Ed:type_of% @List.mem_cons_of_mem:=@List.mem_cons_of_mem
theorem Ei:type_of% @List.getElem?_map:=@List.getElem?_map
theorem Ej:type_of% @Bool.eq_false_iff:=@Bool.eq_false_iff
theorem EE:type_of% @List.drop_length:=@List.drop_length
theorem Ff:type_of% @List.nodup_append:=@List.nodup_append
theorem Fg:type_of% @List.getElem?_of_mem:=@List.getElem?_of_mem
theorem F5:type_of% @Option.getD_some:=@Option.getD_some
theorem Gl:type_of% @List.drop_of_length_le:=@List.drop_of_length_le
theorem Gm:type_of% @Bool.false_eq_true:=@Bool.false_eq_true
theorem Gy:type_of% @List.length_set:=@List.length_set
theorem Gz:type_of% @Bool.or_eq_true:=@Bool.or_eq_true
theorem GA:type_of% @Array.getElem?_setIfInBounds:=@Array.getElem?_setIfInBounds
theorem GB:type_of% @Nat.lt_irrefl:=@Nat.lt_irrefl
theorem GP:type_of% @dif_pos:=@dif_pos
theorem Ho:type_of% @Nat.mul_le_mul_right:=@Nat.mul_le_mul_right
theorem Hq:type_of% @Nat.le_succ:=@Nat.le_succ
theorem Ix:type_of% @List.take_succ_cons:=@List.take_succ_cons
theorem IL:type_of% @List.nodup_cons:=@List.nodup_cons
theorem JK:type_of% @of_decide_eq_true:=@of_decide_eq_true
theorem JL:type_of% @List.drop_zero:=@List.drop_zero
theorem JM:type_of% @Bool.not_eq_true':=@Bool.not_eq_true'
theorem LN:type_of% @List.eq_nil_of_length_eq_zero:=@List.eq_nil_of_length_eq_zero
theorem LO:type_of% @Array.toArray_toList:=@Array.toArray_toList
theorem Nv:type_of% @List.foldl_cons:=@List.foldl_cons
theorem Nw:type_of% @Array.toList_append:=@Array.toList_append
theorem N4:type_of% @Nat.succ_mul:=@Nat.succ_mul
theorem N5:type_of% @List.map_nil:=@List.map_nil
theorem ai:type_of% @List.mem_append_left:=@List.mem_append_left
theorem al:type_of% @List.getElem_append_left:=@List.getElem_append_left
theorem ap:type_of% @List.mem_of_mem_take:=@List.mem_of_mem_take
theorem ar:type_of% @List.getLast?_eq_some_getLast:=@List.getLast?_eq_some_getLast
theorem au:type_of% @List.cons_append:=@List.cons_append
theorem av:type_of% @List.getElem?_append_left:=@List.getElem?_append_left
theorem aw:type_of% @List.nil_append:=@List.nil_append
theorem ay:type_of% @Nat.mod_lt:=@Nat.mod_lt
theorem az:type_of% @List.mem_cons_self:=@List.mem_cons_self
theorem aE:type_of% @List.dropLast_concat_getLast:=@List.dropLast_concat_getLast
theorem aG:type_of% @decide_eq_true:=@decide_eq_true
theorem aH:type_of% @List.getD_eq_getElem?_getD:=@List.getD_eq_getElem?_getD
theorem aK:type_of% @Nat.not_lt_zero:=@Nat.not_lt_zero
theorem aM:type_of% @List.nodup_nil:=@List.nodup_nil
theorem aQ:type_of% @List.singleton_append:=@List.singleton_append
theorem bu:type_of% @List.map_map:=@List.map_map
namespace Off
structure Bid where
 R:Int
 N:Int
 deriving DecidableEq,Repr
def Bid.z:Bid:=⟨0,0⟩
def Bid.t:Bid:=⟨1,0⟩
def AV(i:Bid):Bool:=decide (0≤i.R)&&decide (i.R<16)&&decide (1≤i.N)&&decide (i.N≤1048576)
def Bn(i:Bid):Bool:=decide (i= .z)||decide (i= .t)||AV i
theorem DF{i:Bid}:AV i=true↔0≤i.R∧i.R<16∧1≤i.N∧i.N≤1048576:=by
 unfold AV;simp only[AN,Au,and_assoc]
end Off
namespace Dc
open Off (Bid AV Bn DF)
abbrev Bs:=List UInt8
structure Chr where
 op:Bid
 i:Int
 deriving DecidableEq,Repr
def Chr.z:Chr:=⟨.z,0⟩
structure Cut where
 op:Bid
 fr:Int
 to:Int
 deriving DecidableEq,Repr
structure Op where
 kind:Int
 id:Bid
 t:Int
 block:Bid
 parent:Bid
 key:Bs
 seg:Bid
 left:Chr
 right:Chr
 text:Bs
 cuts:List Cut
 flag:Bool
 deriving DecidableEq,Repr
def Op.z:Op:=⟨0,.z,0,.z,.z,[],.z,.z,.z,[],[],false⟩
structure Dt where
 parent:Bid
 key:Bs
 deriving DecidableEq,Repr
def Dt.z:Dt:=⟨.z,[]⟩
/-! names and stamps -/
def Bm(t r:Int):Bool:=decide (1≤t)&&decide (t≤1099511627776)&&decide (0≤r)&&decide (r<16)
def Hv(c:Chr):Bool:=decide (c= .z)||(AV c.op&&decide (0≤c.i)&&decide (c.i<64))
def LJ(a b:Int):Int:=if a<b then-1 else if b<a then 1 else 0
def or2(a b:Int):Int:=if a≠0 then a else b
def BD(a b:Bid):Int:=or2 (LJ a.R b.R) (LJ a.N b.N)
def Fv(t r t' r':Int):Int:=or2 (LJ t t') (LJ r r')
def Gi(a b:Bs):Int:=Go.Lib.compareBytes a b
def D4(k:Bs):Bool:=decide (k≠ [])&&decide (k.length≤32)&&decide (k.getLast?≠some 0)
/-! ops -/
def CL(c:Cut):Bool:=AV c.op&&decide (0≤c.fr)&&decide (c.fr<c.to)&&decide (c.to≤64)
def KI(o:Op):Bool:=Bn o.parent&&D4 o.key
def WT(o:Op):Bool:=AV o.seg&&Hv o.left&&Hv o.right
def Vo(o:Op):Bool:=decide (o.text≠ [])&&decide (o.text.length≤64)
def TN(o:Op):Bool:=decide (0<o.cuts.length)&&decide (o.cuts.length≤16)&&o.cuts.all CL
def Op.bare(o:Op):Op:={Op.z with kind:=o.kind,id:=o.id,t:=o.t}
def Op.own(o:Op):Op:=
 if o.kind=1 then{o.bare with parent:=o.parent,key:=o.key}
 else if o.kind=2 then{o.bare with block:=o.block,parent:=o.parent,key:=o.key}
 else if o.kind=3 then{o.bare with seg:=o.seg,left:=o.left,right:=o.right,text:=o.text}
 else if o.kind=4 then{o.bare with cuts:=o.cuts}
 else if o.kind=5 then{o.bare with seg:=o.seg,left:=o.left,right:=o.right,parent:=o.parent,key:=o.key}
 else{o.bare with block:=o.block,flag:=o.flag}
def Op.parts(o:Op):Bool:=
 if o.kind=1 then KI o
 else if o.kind=2 then AV o.block&&KI o
 else if o.kind=3 then WT o&&Vo o
 else if o.kind=4 then TN o
 else if o.kind=5 then WT o&&KI o
 else if o.kind=6 then AV o.block
 else false
def Op.ok(o:Op):Bool:=Bm o.t o.id.R&&AV o.id&&o.parts&&decide (o.own=o)
def Op.size(o:Op):Nat:=if o.kind=3 then o.text.length else if o.kind=5 then 1 else 0
/-! the tree -/
abbrev AB:=Bid→Option Dt
structure C2 where
 t:Int
 r:Int
 id:Bid
 block:Bid
 parent:Bid
 key:Bs
 deriving DecidableEq,Repr
def Bi(a b:C2):Int:=or2 (Fv a.t a.r b.t b.r) (BD a.id b.id)
def C2.right(m:C2):Bool:=Bm m.t m.r&&AV m.id&&AV m.block&&Bn m.parent&&D4 m.key
/-- b stands above a -/
inductive Bel (f:AB):Bid→Bid→Prop
 |one {a:Bid} {p:Dt}:f a=some p→Bel f a p.parent
 |more {a b:Bid} {p:Dt}:f a=some p→Bel f p.parent b→Bel f a b
open Classical in
noncomputable def below(f:AB)(a b:Bid):Bool:=decide (Bel f a b)
def EG(f:AB)(x:Bid)(p:Option Dt):AB:=fun y=>if y=x then p else f y
noncomputable def Dl(f:AB)(m:C2):Bool:=decide (m.parent≠m.block)&& !below f m.parent m.block
noncomputable def step(f:AB)(m:C2):AB:=if Dl f m=true then EG f m.block (some ⟨m.parent,m.key⟩)else f
def Cj:AB:=fun _=>none
noncomputable def Hf(ms:List C2):AB:=ms.foldl step Cj
structure CS where
 m:C2
 done:Bool
 was:Dt
 had:Bool
 deriving DecidableEq,Repr
/-- the blocks above one -/
inductive I8 (f:AB):Bid→List Bid→Prop
 |nil {a:Bid}:f a=none→I8 f a []
 |cons {a:Bid} {p:Dt} {l:List Bid}:f a=some p→I8 f p.parent l→I8 f a (p.parent::l)
/-- where a move joins a row -/
def Pi(ms:List C2)(m:C2):Nat:=(ms.takeWhile fun x=>decide (Bi x m<0)).length
/-! the children -/
structure C0 where
 key:Bs
 id:Bid
 deriving DecidableEq,Repr
def Bq(a b:C0):Int:=or2 (Gi a.key b.key) (BD a.id b.id)
abbrev CZ:=Bid→List C0
structure CH(f:AB)(L:CZ):Prop where
 sorted:∀p,(L p).Pairwise fun a b=>Bq a b<0
 mem:∀p c,c∈L p↔f c.id=some ⟨p,c.key⟩
/-! switches -/
structure I7 where
 on:Bool
 t:Int
 r:Int
 from':Bid
 deriving DecidableEq,Repr
def I7.later(w v:I7):Bool:=decide (0<or2 (Fv w.t w.r v.t v.r) (BD w.from' v.from'))
abbrev FM:=Bid→Option I7
def KD(g:FM)(name:Bid)(w:I7):FM:=
 match g name with
 |some old=>if w.later old then fun y=>if y=name then some w else g y else g
 |none=>fun y=>if y=name then some w else g y
/-! characters in a row -/
structure Run where
 op:Bid
 fr:Nat
 gone:Bool
 mark:Bool
 text:Bs
 deriving DecidableEq,Repr
def Run.len(r:Run):Nat:=r.text.length
def Run.has(r:Run)(c:Chr):Bool:=decide (r.op=c.op)&&decide ((r.fr:Int)≤c.i)&&decide (c.i<r.fr+r.len)
def Run.left(r:Run)(n:Nat):Run:={r with text:=r.text.take n}
def Run.right(r:Run)(n:Nat):Run:={r with fr:=r.fr+n,text:=r.text.drop n}
def Run.joins(r b:Run):Bool:=decide (r.op=b.op)&&decide (r.fr+r.len=b.fr)&&decide (r.gone=b.gone)&& !r.mark&& !b.mark
abbrev Row:=List Run
def CO:Row→Nat
 |[]=>0
 |r::l=>r.len+CO l
def Bw:Row→Nat→Row×Nat
 |[],_=>([],0)
 |r::l,k=>if k=0 then(r::l,0)else if k<r.len then(r.left k::r.right k::l,1)else
  let x:=Bw l (k-r.len);(r::x.1,x.2+1)
/-- the row mended, read from the left: the last run of what is done -/
def B6(out:Row)(r:Run):Row:=
 match out.getLast? with
 |some q=>if q.joins r then out.dropLast++[{q with text:=q.text++r.text}]else out++[r]
 |none=>[r]
def ID(l:Row):Row:=l.foldl B6 []
def Dz(x:Run):Bool:=AV x.op&&decide (1≤x.len)&&decide (x.len≤64)&&decide (x.fr≤64)&&decide (x.fr+x.len≤64)&&(!x.mark||decide (x.len=1))
def overlaps(l:Row)(x:Run):Bool:=l.any fun r=>decide (r.op=x.op)&&decide (r.fr<x.fr+x.len)&&decide (x.fr<r.fr+r.len)
def Ax{α:Type}(l:List α)(i:Nat)(x:α):List α:=l.take i++x::l.drop i
def Hg(l:Row)(k:Int)(x:Run):Int:=
 if Dz x=false then 10 else if k<0∨(CO l:Int)<k then 11 else if overlaps l x then 12 else 0
def Jq(l:Row)(k:Int)(x:Run):Row:=
 if Hg l k x≠0 then l else
  let s:=Bw l k.toNat
  ID (Ax s.1 s.2 x)
def DR(r:Run)(c:Cut):Row×Nat:=
 let a:=max c.fr r.fr
 let b:=min c.to (r.fr+r.len)
 if r.op≠c.op∨r.gone=true∨b≤a then([r],0)else
  let i:=(a-r.fr).toNat
  let j:=(b-r.fr).toNat
  ((if(r.fr:Int)<a then[r.left i]else[])++({(r.left j).right i with gone:=true}::if b<r.fr+r.len then[r.right j]else[]),j-i)
def NZ(l:Row)(c:Cut):Row:=ID (l.flatMap fun r=>(DR r c).1)
def FH:Row→Chr→Option Nat
 |[],_=>none
 |r::l,c=>if r.has c then some (c.i-r.fr).toNat else(FH l c).map (·+r.len)
def Dw(l:Row)(c:Chr):Nat:=(FH l c).getD 0
/-! a text that many write at once -/
structure CP where
 up:Chr
 l:List Chr
 r:List Chr
 deriving DecidableEq,Repr
abbrev C5:=Chr→Option CP
def CP.side(n:CP)(s:Bool):List Chr:=if s then n.r else n.l
structure YT where
 row:Row
 nodes:C5
def YT.new:YT:=⟨[],fun c=>if c= .z then some ⟨.z,[],[]⟩else none⟩
/-- a stands above b -/
inductive Abv (N:C5) (a:Chr):Chr→Prop
 |one {b:Chr} {n:CP}:N b=some n→b≠ .z→n.up=a→Abv N a b
 |more {b:Chr} {n:CP}:N b=some n→b≠ .z→Abv N a n.up→Abv N a b
open Classical in
noncomputable def IJ(N:C5)(a b:Chr):Bool:=decide (Abv N a b)
def Ly(N:C5)(s:Bool)(c:Chr):Option Chr:=
 match N c with
 |some n=>if s then n.r.getLast? else n.l.head?
 |none=>none
inductive Hm (N:C5) (s:Bool):Chr→Chr→Prop
 |stop {c:Chr}:Ly N s c=none→Hm N s c c
 |go {c x e:Chr}:Ly N s c=some x→Hm N s x e→Hm N s c e
open Classical in
noncomputable def FW(N:C5)(s:Bool)(c:Chr):Chr:=if h:∃e,Hm N s c e then Classical.choose h else c
structure Kv where
 up:Chr
 side:Bool
 pos:Nat
 deriving DecidableEq,Repr
def EU(N:C5)(c:Chr)(s:Bool):List Chr:=match N c with|some n=>n.side s|none=>[]
def GM(l:List Chr)(id:Bid):Nat:=(l.takeWhile fun c=>decide (BD c.op id<0)).length
noncomputable def BG(N:C5)(o:Op):Kv:=
 let lft:=decide (o.right≠ .z)&&IJ N o.left o.right
 let up:=if lft then o.right else o.left
 ⟨up,!lft,GM (EU N up (!lft)) o.id⟩
noncomputable def C4(t:YT)(s:Kv):Int:=
 if 0<s.pos then(Dw t.row (FW t.nodes true ((EU t.nodes s.up s.side).getD (s.pos-1) .z)):Int)+1
 else if s.side=false then Dw t.row (FW t.nodes false s.up)
 else if s.up= .z then 0
 else(Dw t.row s.up:Int)+1
def JQ(N:C5)(c:Chr)(n:CP):C5:=fun x=>if x=c then some n else N x
def sit(N:C5)(c:Chr)(s:Kv):C5:=
 match N s.up with
 |some n=>JQ (JQ N s.up (if s.side then{n with r:=Ax n.r s.pos c}else{n with l:=Ax n.l s.pos c})) c ⟨s.up,[],[]⟩
 |none=>N
def Ez(id:Bid):Nat→Nat→C5→C5
 |_,0,N=>N
 |i,k+1,N=>Ez id (i+1) k (sit N ⟨id,i⟩ ⟨⟨id,(i:Int)-1⟩,true,0⟩)
def B0(o:Op):Run:=if o.kind=5 then⟨o.id,0,false,true,[0]⟩else⟨o.id,0,false,false,o.text⟩
def PD(t:YT)(o:Op):Int:=
 if o.ok=false∨o.size=0 then 10
 else if(t.nodes ⟨o.id,0⟩).isSome then 12
 else if(t.nodes o.left).isNone∨(t.nodes o.right).isNone then 13
 else 0
noncomputable def Gv(t:YT)(o:Op):YT:=
 let s:=BG t.nodes o
 ⟨Jq t.row (C4 t s) (B0 o),Ez o.id 1 (o.size-1) (sit t.nodes ⟨o.id,0⟩ s)⟩
def PR(t:YT)(c:Cut):YT:=⟨NZ t.row c,t.nodes⟩
/-! the texts of blocks -/
structure Src where
 seg:Bid
 size:Int
 mark:Bool
 deriving DecidableEq,Repr
def Src.z:Src:=⟨.z,0,false⟩
structure TX where
 texts:Bid→Option YT
 made:Bid→Option Src
def TX.new:TX:=⟨fun _=>none,fun _=>none⟩
def EF(f:Bid→Option YT)(x:Bid)(t:YT):Bid→Option YT:=fun y=>if y=x then some t else f y
def Mc(f:Bid→Option Src)(x:Bid)(s:Src):Bid→Option Src:=fun y=>if y=x then some s else f y
def DG(x:TX)(seg:Bid):Int:=
 if AV seg=false then 10 else if(x.texts seg).isSome∨((x.made seg).getD .z).mark=true then 12 else 0
def Gn(x:TX)(seg:Bid):TX:=⟨EF x.texts seg .new,x.made⟩
def FG(x:TX)(o:Op):Int:=
 if(x.texts o.id).isSome∨(x.made o.id).isSome then 12
 else match x.texts o.seg with
  |none=>13
  |some t=>PD t o
noncomputable def LI(x:TX)(o:Op):TX:=
 match x.texts o.seg with
 |none=>x
 |some t=>⟨EF x.texts o.seg (Gv t o),Mc x.made o.id ⟨o.seg,o.size,decide (o.kind=5)⟩⟩
def FK(x:TX):List Cut→Int
 |[]=>0
 |c::l=>match x.made c.op with
  |none=>13
  |some s=>if s.size<c.to then 11 else FK x l
def del1(x:TX)(c:Cut):TX:=
 match x.made c.op with
 |none=>x
 |some s=>match x.texts s.seg with
  |none=>x
  |some t=>⟨EF x.texts s.seg (PR t c),x.made⟩
def delX(x:TX)(l:List Cut):TX:=l.foldl del1 x
def E4(x:TX)(o:Op):Int:=
 if o.ok=false then 10 else if 0<o.size then FG x o else if o.kind=4 then FK x o.cuts else 10
noncomputable def doX(x:TX)(o:Op):TX:=if 0<o.size then LI x o else delX x o.cuts
def Gs(x:TX)(b:Bid):Option Bid:=if(x.texts b).isSome then some b else if((x.made b).getD .z).mark then some ((x.made b).getD .z).seg else none
structure DK where
 run:Run
 owner:Bid
 deriving DecidableEq,Repr
def Run.opens(r:Run):Bool:=r.mark&& !r.gone
def Run.shows(r:Run):Bool:= !r.mark&& !r.gone
def Em(owner:Bid):Row→List DK
 |[]=>[]
 |r::l=>let w:=if r.opens then r.op else owner;⟨r,w⟩::Em w l
def EW(x:TX)(seg:Bid):List DK:=match x.texts seg with|none=>[]|some t=>Em seg t.row
def DD(b:Bid)(l:List DK):List DK:=l.filter fun p=>decide (p.owner=b)&& !p.run.opens
def Fo(b seg:Bid)(l:List DK):Bool:=decide (b=seg)||l.any fun p=>decide (p.owner=b)&&p.run.opens
def Dv(x:TX)(b:Bid):List DK:=match Gs x b with|none=>[]|some seg=>DD b (EW x seg)
def D3(x:TX)(b:Bid):Bool:=match Gs x b with|none=>false|some seg=>Fo b seg (EW x seg)
def Dp(x:TX)(b:Bid):Bs:=(Dv x b).flatMap fun p=>if p.run.shows then p.run.text else[]
/-! the document -/
structure Doc where
 ops:List Op
 kinds:Bid→Option Int
 tx:TX
 ms:List C2
 words:FM
def Doc.new:Doc:=⟨[],fun _=>none,.new,[],fun _=>none⟩
noncomputable def Doc.places(d:Doc):AB:=Hf d.ms
def Doc.has(d:Doc)(i:Bid):Bool:=(d.kinds i).isSome
def Doc.there(d:Doc)(b:Bid):Bool:=decide (b= .z)||decide (b= .t)||decide (d.kinds b=some 1)||decide (d.kinds b=some 5)
def Doc.known(d:Doc)(o:Op):Bool:=
 if o.kind=1∨o.kind=5 then d.there o.parent
 else if o.kind=2 then d.there o.block&&d.there o.parent
 else if o.kind=6 then d.there o.block
 else true
def D2(x:TX)(o:Op):Int:=
 if o.kind=1 then DG x o.id else if o.kind=3∨o.kind=5∨o.kind=4 then E4 x o else 0
noncomputable def Gh(x:TX)(o:Op):TX:=
 if o.kind=1 then Gn x o.id else if o.kind=3∨o.kind=5∨o.kind=4 then doX x o else x
def CN(o:Op)(b:Bid):C2:=⟨o.t,o.id.R,o.id,b,o.parent,o.key⟩
def DI(ms:List C2)(m:C2):List C2:=Ax ms (Pi ms m) m
def Doc.err(d:Doc)(o:Op):Int:=
 if o.ok=false then 10 else if d.has o.id then 12 else if d.known o=false then 13 else D2 d.tx o
def Sj(f:Bid→Option Int)(x:Bid)(k:Int):Bid→Option Int:=fun y=>if y=x then some k else f y
noncomputable def Doc.apply(d:Doc)(o:Op):Doc:=
 {ops:=d.ops++[o],kinds:=Sj d.kinds o.id o.kind,tx:=Gh d.tx o,ms:=if o.kind=1∨o.kind=5 then DI d.ms (CN o o.id)else if o.kind=2 then DI d.ms (CN o o.block)else d.ms,words:=if o.kind=6 then KD d.words o.block ⟨o.flag,o.t,o.id.R,o.id⟩else d.words}
noncomputable def Doc.act(d:Doc)(o:Op):Doc:=if d.err o=0 then d.apply o else d
structure Ky where
 id:Bid
 depth:Int
 fold:Bool
 text:Bs
 deriving DecidableEq,Repr
/-- what is below a block, in order -/
inductive Pre (L:CZ):Bid→List Bid→Prop
 |mk {a:Bid} {ls:List (List Bid)}:ls.length=(L a).length→(∀(k:Nat) (h:k<(L a).length) (h':k<ls.length),Pre L ((L a)[k]).id (ls[k]))→
  Pre L a (((L a).zip ls).flatMap fun x=>x.1.id::x.2)
end Dc
namespace Dc
open Off (Bid)
theorem Kq{a b:Int}:LJ a b<0↔a<b:=by unfold LJ;split<;>(try split)<;>omega
theorem E8{a b:Int}:LJ a b=0↔a=b:=by unfold LJ;split<;>(try split)<;>omega
theorem Kp{a b:Int}:0<LJ a b↔b<a:=by unfold LJ;split<;>(try split)<;>omega
theorem JY{a b:Int}:or2 a b<0↔a<0∨(a=0∧b<0):=by unfold or2;split<;>omega
theorem LS{a b:Int}:0<or2 a b↔0<a∨(a=0∧0<b):=by unfold or2;split<;>omega
theorem JX{a b:Int}:or2 a b=0↔a=0∧b=0:=by unfold or2;split<;>omega
theorem Ge{a b:Bid}:BD a b<0↔a.R<b.R∨(a.R=b.R∧a.N<b.N):=by
 unfold BD;rw[JY,Kq,E8,Kq]
theorem Lm{a b:Bid}:0<BD a b↔b.R<a.R∨(a.R=b.R∧b.N<a.N):=by
 unfold BD;rw[LS,Kp,E8,Kp]
theorem Ii{a b:Bid}:BD a b=0↔a=b:=by
 unfold BD;rw[JX,E8,E8]
 constructor
 ·rintro⟨h1,h2⟩;cases a;cases b;simp_all
 ·rintro rfl;exact⟨rfl,rfl⟩
theorem Hh{a b c:Bid}(h:BD a b<0)(h':BD b c<0):BD a c<0:=by
 rw[Ge]at*;omega
theorem JW{a b:Bid}:BD a b<0↔0<BD b a:=by rw[Ge,Lm];omega
theorem QF{t r t' r':Int}:Fv t r t' r'<0↔t<t'∨(t=t'∧r<r'):=by
 unfold Fv;rw[JY,Kq,E8,Kq]
theorem QE{t r t' r':Int}:0<Fv t r t' r'↔t'<t∨(t=t'∧r'<r):=by
 unfold Fv;rw[LS,Kp,E8,Kp]
theorem Ih{t r t' r':Int}:Fv t r t' r'=0↔t=t'∧r=r':=by
 unfold Fv;rw[JX,E8,E8]
theorem Jw{a b:C2}:Bi a b<0↔a.t<b.t∨(a.t=b.t∧(a.r<b.r∨(a.r=b.r∧(a.id.R<b.id.R∨(a.id.R=b.id.R∧a.id.N<b.id.N))))):=by
 unfold Bi;rw[JY,QF,Ih,Ge];omega
theorem NI{a b:C2}:0<Bi a b↔b.t<a.t∨(a.t=b.t∧(b.r<a.r∨(a.r=b.r∧(b.id.R<a.id.R∨(a.id.R=b.id.R∧b.id.N<a.id.N))))):=by
 unfold Bi;rw[LS,QE,Ih,Lm];omega
theorem ME{a b:C2}:Bi a b=0↔a.t=b.t∧a.r=b.r∧a.id=b.id:=by
 unfold Bi;rw[JX,Ih,Ii,and_assoc]
theorem IA{a b c:C2}(h:Bi a b<0)(h':Bi b c<0):Bi a c<0:=by
 rw[Jw]at*;omega
theorem MF{a b:C2}:Bi a b<0↔0<Bi b a:=by rw[Jw,NI];omega
theorem H3:∀{a b:Bs},Gi a b=0↔a=b
 |[],[]=>by simp[Gi,Go.Lib.compareBytes]
 |[],_::_=>by simp[Gi,Go.Lib.compareBytes]
 |_::_,[]=>by simp[Gi,Go.Lib.compareBytes]
 |a::as,b::bs=>by
  have ih:= @H3 as bs
  unfold Gi at ih⊢
  unfold Go.Lib.compareBytes
  by_cases h1:a<b
  ·rw[Ak h1];simp;rintro rfl;exact absurd h1 (UInt8.lt_irrefl _)
  ·by_cases h2:b<a
   ·rw[Ae h1,Ak h2];simp;rintro rfl;exact absurd h2 (UInt8.lt_irrefl _)
   ·rw[Ae h1,Ae h2,ih]
    have:a=b:=by
     have h1':¬a.toNat<b.toNat:=fun h=>h1 (UInt8.lt_iff_toNat_lt.2 h)
     have h2':¬b.toNat<a.toNat:=fun h=>h2 (UInt8.lt_iff_toNat_lt.2 h)
     exact UInt8.toNat_inj.1 (by omega)
    simp[this]
theorem OP:∀{a b:Bs},Gi a b= -Gi b a
 |[],[]=>by simp[Gi,Go.Lib.compareBytes]
 |[],_::_=>by simp[Gi,Go.Lib.compareBytes]
 |_::_,[]=>by simp[Gi,Go.Lib.compareBytes]
 |a::as,b::bs=>by
  have ih:= @OP as bs
  unfold Gi at ih⊢
  unfold Go.Lib.compareBytes
  have e1:(a<b)=(a.toNat<b.toNat):=propext UInt8.lt_iff_toNat_lt
  have e2:(b<a)=(b.toNat<a.toNat):=propext UInt8.lt_iff_toNat_lt
  simp only[e1,e2]
  split
  ·rename_i h1
   rw[Ae (by omega)]
  ·split
   ·simp
   ·exact ih
theorem Nk:∀{a b c:Bs},Gi a b<0→Gi b c<0→Gi a c<0
 |[],[],_=>by simp[Gi,Go.Lib.compareBytes]
 |_::_,[],_=>by simp[Gi,Go.Lib.compareBytes]
 |[],_::_,[]=>by simp[Gi,Go.Lib.compareBytes]
 |_::_,_::_,[]=>by simp[Gi,Go.Lib.compareBytes]
 |[],_::_,_::_=>by simp[Gi,Go.Lib.compareBytes]
 |a::as,b::bs,c::cs=>by
  have ih:= @Nk as bs cs
  unfold Gi at ih⊢
  unfold Go.Lib.compareBytes
  have e:∀x y:UInt8,(x<y)=(x.toNat<y.toNat):=fun x y=>propext UInt8.lt_iff_toNat_lt
  simp only[e]
  intro h1 h2
  by_cases x1:a.toNat<b.toNat
  ·by_cases x2:b.toNat<c.toNat
   ·rw[Ak (by omega)];omega
   ·rw[Ae x2]at h2
    by_cases x3:c.toNat<b.toNat
    ·rw[Ak x3]at h2;omega
    ·rw[Ak (by omega)];omega
  ·rw[Ae x1]at h1
   by_cases x1':b.toNat<a.toNat
   ·rw[Ak x1']at h1;omega
   ·rw[Ae x1']at h1
    by_cases x2:b.toNat<c.toNat
    ·rw[Ak (by omega)];omega
    ·rw[Ae x2]at h2
     by_cases x3:c.toNat<b.toNat
     ·rw[Ak x3]at h2;omega
     ·rw[Ae x3]at h2
      rw[Ae (by omega),Ae (by omega)]
      exact ih h1 h2
theorem MG{a b:C0}:Bq a b<0↔Gi a.key b.key<0∨(a.key=b.key∧BD a.id b.id<0):=by
 unfold Bq;rw[JY,H3]
theorem IB{a b:C0}:Bq a b=0↔a=b:=by
 unfold Bq;rw[JX,H3,Ii]
 constructor
 ·rintro⟨h1,h2⟩;cases a;cases b;simp_all
 ·rintro rfl;exact⟨rfl,rfl⟩
theorem IC{a b:C0}:Bq a b<0↔0<Bq b a:=by
 unfold Bq;rw[JY,LS,H3,H3,JW]
 have:= @OP a.key b.key
 constructor
 ·rintro(h|⟨h,h'⟩)
  ·left;omega
  ·exact .inr ⟨h.symm,h'⟩
 ·rintro(h|⟨h,h'⟩)
  ·left;omega
  ·exact .inr ⟨h.symm,h'⟩
theorem KO{a b c:C0}(h:Bq a b<0)(h':Bq b c<0):Bq a c<0:=by
 rw[MG]at*
 rcases h with h|⟨h1,h2⟩<;>rcases h' with h'|⟨h3,h4⟩
 ·exact .inl (Nk h h')
 ·exact .inl (h3▸h)
 ·exact .inl (h1▸h')
 ·exact .inr ⟨h1.trans h3,Hh h2 h4⟩
/-! ### where one joins a sorted row: any row, any comparison -/
section
variable {α β:Type}
/-- the first n say yes, the others no -/
theorem IR(p:α→Bool):∀(l:List α),(∀(i j:Nat) (hi:i<l.length) (hj:j<l.length),i≤j→p l[j]=true→p l[i]=true)→
  ∀(j:Nat) (hj:j<l.length),p l[j]=decide (j<(l.takeWhile p).length)
 |[],_,j,hj=>absurd hj (aK _)
 |a::l,h,j,hj=>by
  by_cases ha:p a=true
  ·rw[List.takeWhile_cons_of_pos ha]
   cases j with
   |zero=>simp[ha]
   |succ j=>
    have ih:=IR p l (fun i j hi hj hij=>by
     have:=h (i+1) (j+1) (by simp;omega) (by simp;omega) (by omega)
     simpa using this) j (by simpa using hj)
    simp only[List.getElem_cons_succ,BO]
    rw[ih]
    simp
  ·rw[List.takeWhile_cons_of_neg ha]
   have hn:p (a::l)[j]=false:=by
    cases hp:p (a::l)[j]with
    |false=>rfl
    |true=>exact absurd (h 0 j (by simp) hj (Ah _) hp) ha
   rw[hn];simp
theorem Fj(p:α→Bool):∀l:List α,(l.takeWhile p).length≤l.length
 |[]=>Ac _
 |a::l=>by
  rw[List.takeWhile_cons]
  split
  ·have:=Fj p l;simp;omega
  ·simp
end
/-- a sorted row under a comparison: what is below x stands ahead -/
theorem RF{α:Type}{c:α→α→Int}(ht:∀{a b d},c a b<0→c b d<0→c a d<0){l:List α}(hs:l.Pairwise fun a b=>c a b<0)(x:α):
  ∀(i j:Nat) (hi:i<l.length) (hj:j<l.length),i≤j→decide (c l[j] x<0)=true→decide (c l[i] x<0)=true:=by
 intro i j hi hj hij h
 rcases BR hij with rfl|hlt
 ·exact h
 ·simp only[Au]at h⊢
  exact ht (C9.1 hs i j hi hj hlt) h
end Dc
namespace Dc
open Off (Bid AV Bn)
def Ce(f:AB)(rk:Bid→Nat):Prop:=∀a p,f a=some p→rk p.parent<rk a
theorem VN{f:AB}{rk:Bid→Nat}(h:Ce f rk){a b:Bid}(hb:Bel f a b):rk b<rk a:=by
 induction hb with
 |one h1=>exact h _ _ h1
 |more h1 _ ih=>have:=h _ _ h1;omega
theorem E9{f:AB}{a b:Bid}:Bel f a b↔ ∃p,f a=some p∧(p.parent=b∨Bel f p.parent b):=by
 constructor
 ·intro h
  cases h with
  |one h1=>exact⟨_,h1,.inl rfl⟩
  |more h1 h2=>exact⟨_,h1,.inr h2⟩
 ·rintro⟨p,h1,rfl|h2⟩
  ·exact .one h1
  ·exact .more h1 h2
theorem K2{f:AB}{a b c:Bid}(h:Bel f a b)(h':Bel f b c):Bel f a c:=by
 induction h with
 |one h1=>exact .more h1 h'
 |more h1 _ ih=>exact .more h1 (ih h')
theorem Jj{f:AB}{a b:Bid}:below f a b=true↔Bel f a b:=by unfold below;simp
theorem Nn{f:AB}{a b:Bid}(h:f a=none):below f a b=false:=by
 cases hb:below f a b with
 |false=>rfl
 |true=>obtain⟨p,h1,_⟩:=E9.1 (Jj.1 hb);rw[h]at h1;cases h1
theorem TD{f:AB}{a b:Bid}{p:Dt}(h:f a=some p):below f a b=(decide (p.parent=b)||below f p.parent b):=by
 rw[Bool.eq_iff_iff,Jj,E9]
 simp only[Gz,Au,Jj]
 constructor
 ·rintro⟨q,h1,h2⟩;rw[h]at h1;cases h1;exact h2
 ·intro h2;exact⟨p,h,h2⟩
theorem Qn{f:AB}{rk:Bid→Nat}(h:Ce f rk)(m:C2):∃rk',Ce (step f m) rk':=by
 unfold step
 by_cases ha:Dl f m=true
 ·rw[Ak ha]
  unfold Dl at ha
  simp only[AN,Au,JM]at ha
  obtain⟨h1,h2⟩:=ha
  have h2':¬Bel f m.parent m.block:=fun e=>by rw[Jj.2 e]at h2;cases h2
  let U:Bid→Prop:=fun x=>x=m.block∨Bel f x m.block
  refine⟨fun x=>open Classical in if U x then rk x+rk m.parent+1 else rk x,?_⟩
  intro a p hp
  unfold EG at hp
  by_cases hab:a=m.block
  ·rw[Ak hab]at hp
   cases hp
   have hn:¬U m.parent:=fun hh=>by rcases hh with e|e;exact h1 e;exact h2' e
   have hy:U a:= .inl hab
   simp only[hn,hy,if_true,if_false]
   omega
  ·rw[Ae hab]at hp
   have hr:=h a p hp
   by_cases hU:U p.parent
   ·have hy:U a:=by
     rcases hU with e|e
     ·exact .inr (E9.2 ⟨p,hp,.inl e⟩)
     ·exact .inr (.more hp e)
    simp only[hU,hy,if_true]
    omega
   ·simp only[hU,if_false]
    split<;>omega
 ·rw[Ae ha];exact⟨rk,h⟩
theorem Lt:∀(ms:List C2) (f:AB),(∃rk,Ce f rk)→∃rk,Ce (ms.foldl step f) rk
 |[],_,h=>h
 |m::ms,f,⟨_,h⟩=>Lt ms (step f m) (Qn h m)
theorem Jv(ms:List C2):∃rk,Ce (Hf ms) rk:=
 Lt ms Cj ⟨fun _=>0,fun a p h=>by simp[Cj]at h⟩
theorem OE:∀(ms:List C2) (f:AB) (a:Bid) (p:Dt),ms.foldl step f a=some p→
  f a=some p∨∃m∈ms,m.block=a∧m.parent=p.parent∧m.key=p.key∧m.parent≠m.block
 |[],_,_,_,h=> .inl h
 |m::ms,f,a,p,h=>by
  rcases OE ms (step f m) a p h with h1|⟨m',h1,h2⟩
  ·unfold step at h1
   by_cases ha:Dl f m=true
   ·rw[Ak ha]at h1
    unfold EG at h1
    by_cases hab:a=m.block
    ·rw[Ak hab]at h1
     cases h1
     unfold Dl at ha
     simp only[AN,Au]at ha
     exact .inr ⟨m,by simp,hab.symm,rfl,rfl,ha.1⟩
    ·rw[Ae hab]at h1;exact .inl h1
   ·rw[Ae ha]at h1;exact .inl h1
  ·exact .inr ⟨m',by simp[h1],h2⟩
theorem Lh{ms:List C2}{a:Bid}{p:Dt}(h:Hf ms a=some p):∃m∈ms,m.block=a∧m.parent=p.parent∧m.key=p.key∧m.parent≠m.block:=by
 rcases OE ms Cj a p h with h1|h1
 ·simp[Cj]at h1
 ·exact h1
theorem FT{ms:List C2}{a:Bid}(h:Hf ms a≠none):a∈ms.map (·.block):=by
 cases hp:Hf ms a with
 |none=>exact absurd hp h
 |some p=>obtain⟨m,h1,h2,_⟩:=Lh hp;exact A5.2 ⟨m,h1,h2⟩
/-- what is undone is as it was -/
theorem Uf{f:AB}{m:C2}(h:Dl f m=true):EG (step f m) m.block (f m.block)=f:=by
 unfold step;rw[Ak h]
 funext y
 unfold EG
 by_cases hy:y=m.block
 ·simp[hy]
 ·simp[hy]
theorem U8{f:AB}{m:C2}(h:Dl f m=false):step f m=f:=by unfold step;rw[Ae (by simp[h])]
/-! ### the way up -/
theorem LY{f:AB}{rk:Bid→Nat}(h:Ce f rk):∀(n:Nat) (a:Bid),rk a≤n→∃l,I8 f a l
 |n,a,hn=>by
  cases hf:f a with
  |none=>exact⟨[],.nil hf⟩
  |some p=>
   have hlt:=h a p hf
   match n,hn with
   |0,hn=>omega
   |n+1,hn=>
    obtain⟨l,hl⟩:=LY h n p.parent (by omega)
    exact⟨_,.cons hf hl⟩
theorem RU{f:AB}{a:Bid}{l l':List Bid}(h:I8 f a l)(h':I8 f a l'):l=l':=by
 induction h generalizing l' with
 |nil h1=>
  cases h' with
  |nil=>rfl
  |cons h2 _=>rw[h1]at h2;cases h2
 |cons h1 _ ih=>
  cases h' with
  |nil h2=>rw[h1]at h2;cases h2
  |cons h2 h3=>rw[h1]at h2;cases h2;rw[ih h3]
open Classical in
noncomputable def way(f:AB)(a:Bid):List Bid:=if h:∃l,I8 f a l then Classical.choose h else[]
theorem U5{f:AB}{rk:Bid→Nat}(h:Ce f rk)(a:Bid):I8 f a (way f a):=by
 have he:=LY h _ a (Ac _)
 unfold way
 rw[GP he]
 exact Classical.choose_spec he
theorem U6{f:AB}{a:Bid}{l:List Bid}(h:I8 f a l):way f a=l:=by
 have he:∃l,I8 f a l:=⟨l,h⟩
 unfold way
 rw[GP he]
 exact RU (Classical.choose_spec he) h
theorem U4{f:AB}{a:Bid}(h:f a=none):way f a=[]:=U6 (.nil h)
theorem Qg{f:AB}{rk:Bid→Nat}(hr:Ce f rk){a:Bid}{p:Dt}(h:f a=some p):way f a=p.parent::way f p.parent:=
 U6 (.cons h (U5 hr _))
/-! ### rows of children -/
def K0(l:List C0)(c:C0):Nat:=(l.takeWhile fun x=>decide (Bq x c<0)).length
theorem PW(l:List C0)(c:C0):K0 l c≤l.length:=Fj _ _
theorem Ef(c:C0):Bq c c=0:=IB.2 rfl
theorem Ip{l:List C0}(hs:l.Pairwise fun a b=>Bq a b<0)(c:C0)(j:Nat)(hj:j<l.length):decide (Bq l[j] c<0)=decide (j<K0 l c):=
 IR (fun x=>decide (Bq x c<0)) l (RF (c:=Bq) (fun h h'=>KO h h') hs c) j hj
theorem RB{l:List C0}(hs:l.Pairwise fun a b=>Bq a b<0){c:C0}(hc:c∈l):∃h:K0 l c<l.length,l[K0 l c]=c:=by
 obtain⟨j,hj,rfl⟩:=CM hc
 have h1:=Ip hs l[j] j hj
 rw[Ef]at h1
 simp at h1
 have h2:K0 l l[j]<l.length:=by omega
 refine⟨h2,?_⟩
 rcases BR h1 with e|hlt
 ·simp[e]
 ·have h3:=Ip hs l[j] (K0 l l[j]) h2
  have h4:=C9.1 hs _ _ h2 hj hlt
  simp[h4]at h3
def Rm(L:CZ)(p:Dt)(b:Bid):CZ:=fun q=>if q=p.parent then(L q).eraseIdx (K0 (L q) ⟨p.key,b⟩)else L q
def VQ(L:CZ)(p:Dt)(b:Bid):CZ:=fun q=>if q=p.parent then Ax (L q) (K0 (L q) ⟨p.key,b⟩) ⟨p.key,b⟩else L q
theorem SZ{l:List C0}(hs:l.Pairwise fun a b=>Bq a b<0):l.Nodup:=
 hs.imp fun{a b} h e=>by subst e;rw[Ef]at h;omega
theorem QK{α:Type}{l:List α}(hn:l.Nodup){i:Nat}(hi:i<l.length)(x:α):x∈l.eraseIdx i↔x∈l∧x≠l[i]:=by
 rw[List.mem_eraseIdx_iff_getElem?]
 constructor
 ·rintro⟨j,hne,hj⟩
  obtain⟨hj',e⟩:=AS.1 hj
  refine⟨List.mem_of_getElem? hj,fun e'=>hne ?_⟩
  exact(List.getElem_inj hn).1 (e.trans e')
 ·rintro⟨hx,hne⟩
  obtain⟨j,hj,rfl⟩:=CM hx
  exact⟨j,fun e=>hne (by subst e;rfl),Aj hj⟩
theorem Wp{g:AB}{L:CZ}(h:CH g L){b:Bid}{p:Dt}(hb:g b=some p):CH (EG g b none) (Rm L p b):=by
 have hm:(⟨p.key,b⟩:C0)∈L p.parent:=(h.mem _ _).2 hb
 obtain⟨hlt,hat⟩:=RB (h.sorted p.parent) hm
 refine⟨fun q=>?_,fun q c=>?_⟩
 ·unfold Rm
  split
  ·exact(h.sorted q).sublist (List.eraseIdx_sublist _ _)
  ·exact h.sorted q
 ·unfold Rm
  by_cases hq:q=p.parent
  ·subst hq
   rw[Ak rfl,QK (SZ (h.sorted _)) hlt,hat,h.mem]
   unfold EG
   by_cases hc:c.id=b
   ·rw[Ak hc]
    simp
    intro h1
    rw[hc,hb]at h1
    cases c
    simp at h1 hc⊢
    cases p;simp_all
   ·rw[Ae hc]
    constructor
    ·exact fun h1=>h1.1
    ·exact fun h1=>⟨h1,fun e=>hc (by rw[e])⟩
  ·rw[Ae hq,h.mem]
   unfold EG
   by_cases hc:c.id=b
   ·rw[Ak hc]
    simp
    intro h1
    rw[hc,hb]at h1
    cases h1
    exact hq rfl
   ·rw[Ae hc]
theorem FA{α:Type}{l:List α}{i:Nat}{x y:α}:y∈Ax l i x↔y=x∨y∈l:=by
 unfold Ax
 rw[AC,A7]
 have:y∈l↔y∈l.take i∨y∈l.drop i:=by
  conv=>lhs;rw[←A9 i l]
  exact AC
 rw[this]
 constructor
 ·rintro(h|h|h)
  ·exact .inr (.inl h)
  ·exact .inl h
  ·exact .inr (.inr h)
 ·rintro(h|h|h)
  ·exact .inr (.inl h)
  ·exact .inl h
  ·exact .inr (.inr h)
theorem A3{α:Type}{l:List α}{i:Nat}{x:α}(h:i≤l.length):(Ax l i x).length=l.length+1:=by
 unfold Ax;simp;omega
/-- joined where it belongs, a sorted row stays sorted -/
theorem G8{α:Type}{c:α→α→Int}{l:List α}(hs:l.Pairwise fun a b=>c a b<0)(x:α){n:Nat}(hn:n≤l.length)
  (hsp:∀(j:Nat) (hj:j<l.length),decide (c l[j] x<0)=decide (j<n))(hge:∀y∈l,¬c y x<0→c x y<0):(Ax l n x).Pairwise fun a b=>c a b<0:=by
 unfold Ax
 rw[List.pairwise_append]
 refine⟨hs.sublist (List.take_sublist _ _),?_,?_⟩
 ·rw[List.pairwise_cons]
  refine⟨fun y hy=>?_,hs.sublist (List.drop_sublist _ _)⟩
  obtain⟨j,hj,rfl⟩:=CM hy
  simp at hj
  rw[List.getElem_drop]
  refine hge _ (AQ _) ?_
  have:=hsp (n+j) (by omega)
  rw[Dn (by omega:¬n+j<n)]at this
  exact of_decide_eq_false this
 ·intro a ha b hb
  obtain⟨j,hj,rfl⟩:=CM ha
  simp at hj
  have hax:c l[j] x<0:=by
   have:=hsp j (by omega)
   rw[aG (by omega:j<n)]at this
   exact JK this
  rw[List.getElem_take]
  rcases A7.1 hb with rfl|hb
  ·exact hax
  ·obtain⟨i,hi,rfl⟩:=CM hb
   simp at hi
   rw[List.getElem_drop]
   exact C9.1 hs j (n+i) (by omega) (by omega) (by omega)
theorem VP{g:AB}{L:CZ}(h:CH g L){b:Bid}{p:Dt}(hb:g b=none):CH (EG g b (some p)) (VQ L p b):=by
 have hnm:∀c∈L p.parent,c.id≠b:=fun c hc e=>by
  have:=(h.mem _ _).1 hc
  rw[e,hb]at this;cases this
 refine⟨fun q=>?_,fun q c=>?_⟩
 ·unfold VQ
  by_cases hq:q=p.parent
  ·subst hq
   rw[Ak rfl]
   refine G8 (c:=Bq) (h.sorted _) _ (PW _ _) (Ip (h.sorted _) _) ?_
   intro y hy hny
   have h1:¬Bq y ⟨p.key,b⟩=0:=fun e=>hnm y hy (by rw[IB.1 e])
   have h2:=IC (a:=(⟨p.key,b⟩:C0)) (b:=y)
   exact h2.2 (by omega)
  ·rw[Ae hq];exact h.sorted q
 ·unfold VQ
  by_cases hq:q=p.parent
  ·subst hq
   rw[Ak rfl,FA,h.mem]
   unfold EG
   by_cases hc:c.id=b
   ·rw[Ak hc,hc,hb]
    simp
    constructor
    ·rintro rfl;cases p;rfl
    ·intro e;cases c;cases p;simp_all
   ·rw[Ae hc]
    constructor
    ·rintro(rfl|h1)
     ·exact absurd rfl hc
     ·exact h1
    ·exact fun h1=> .inr h1
  ·rw[Ae hq,h.mem]
   unfold EG
   by_cases hc:c.id=b
   ·rw[Ak hc,hc,hb]
    simp
    rintro rfl
    exact hq rfl
   ·rw[Ae hc]
theorem Jt{α:Type}{c:α→α→Int}(hs:∀{a b},c a b<0→¬c b a<0)(hi:∀a,¬c a a<0):∀{l l':List α},(l.Pairwise fun a b=>c a b<0)→(l'.Pairwise fun a b=>c a b<0)→(∀x,x∈l↔x∈l')→l=l'
 |[],[],_,_,_=>rfl
 |[],b::l',_,_,h=>absurd ((h b).2 (by simp)) (by simp)
 |a::l,[],_,_,h=>absurd ((h a).1 (by simp)) (by simp)
 |a::l,b::l',h1,h2,h=>by
  obtain⟨p1,q1⟩:=List.pairwise_cons.1 h1
  obtain⟨p2,q2⟩:=List.pairwise_cons.1 h2
  have hab:a=b:=by
   rcases A7.1 ((h a).1 (by simp))with e|e
   ·exact e
   ·rcases A7.1 ((h b).2 (by simp))with e'|e'
    ·exact e'.symm
    ·exact absurd (p2 a e) (hs (p1 b e'))
  subst hab
  rw[Jt (c:=c) hs hi q1 q2 fun x=>?_]
  constructor
  ·intro hx
   rcases A7.1 ((h x).1 (by simp[hx]))with rfl|e
   ·exact absurd (p1 x hx) (hi x)
   ·exact e
  ·intro hx
   rcases A7.1 ((h x).2 (by simp[hx]))with rfl|e
   ·exact absurd (p2 x hx) (hi x)
   ·exact e
theorem QW{g:AB}{L L':CZ}(h:CH g L)(h':CH g L'):L=L':=by
 funext p
 refine Jt (c:=Bq) (fun{a b} h1 h2=>?_) (fun a h1=>?_) (h.sorted p) (h'.sorted p) (fun x=>by rw[h.mem,h'.mem])
 ·rw[IC]at h2;omega
 ·rw[Ef]at h1;omega
theorem EO{α:Type}[DecidableEq α]:∀{l m:List α},l.Nodup→(∀a∈l,a∈m)→l.length≤m.length
 |[],_,_,_=>Ah _
 |a::l,m,h,hs=>by
  obtain⟨h1,h2⟩:=IL.1 h
  have hm:a∈m:=hs a (by simp)
  have:=EO (l:=l) (m:=m.erase a) h2 (fun x hx=>by
   have hne:x≠a:=fun e=>h1 (e▸hx)
   exact(List.mem_erase_of_ne hne).2 (hs x (by simp[hx])))
  rw[List.length_erase_of_mem hm]at this
  have:0<m.length:=List.length_pos_of_mem hm
  simp
  omega
theorem MW{g:AB}{L:CZ}(h:CH g L)(p:Bid):((L p).map (·.id)).Nodup:=by
 rw[List.nodup_iff_pairwise_ne,List.pairwise_map]
 refine List.Pairwise.imp_of_mem (fun{a b} ha hb h1 e=>?_) (h.sorted p)
 have h2:=(h.mem _ _).1 ha
 have h3:=(h.mem _ _).1 hb
 rw[e,h3]at h2
 have:a=b:=by cases a;cases b;simp_all
 rw[this,Ef]at h1
 omega
theorem J4{g:AB}{L:CZ}(h:CH g L){dom:List Bid}(hd:∀a,g a≠none→a∈dom)(p:Bid):(L p).length≤dom.length:=by
 have:=EO (MW h p) (m:=dom) (fun a ha=>by
  obtain⟨c,hc,rfl⟩:=A5.1 ha
  exact hd _ (by rw[(h.mem _ _).1 hc];simp))
 simpa using this
end Dc
