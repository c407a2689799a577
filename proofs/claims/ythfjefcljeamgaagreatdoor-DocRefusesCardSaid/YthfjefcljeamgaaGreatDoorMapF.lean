/- joined: What the walks of the document share: which blocks a call keeps. Maps as plain functions: what a map's block holds, and the laws of its operations. -/
import Derived.WalkKit
import Derived.Lib.Hide
import Derived.Deep.Draws
import Derived.Deep.QuietTactic
import Derived.BigQuiet
import Derived.LaidLaws
import Derived.Lib.QuietBelow
import Derived.Lib.Builder
import Derived.OrdersHeld
import Derived.Maps.RangeWalk
import Derived.MapKept
import Derived.Test.YthfjefcljeamgaaGreatDoorDcTree
namespace Go.Proofs.YthfjefcljeamgaaGreatDoor
section
open Go.RowKit
/-- Of the blocks that were there, only those of S may have turned. -/
structure Aa(S:Nat→Prop)(w w':World):Prop where
 os:w'.os=w.os
 tape:w'.tape=w.tape
 output:w'.output=w.output
 size:w.heap.size≤w'.heap.size
 block:∀k,k<w.heap.size→¬S k→w'.heap[k]? =w.heap[k]?
def No:Nat→Prop:=fun _=>False
def At1(b:Nat):Nat→Prop:=fun k=>k=b
section
variable {S S':Nat→Prop} {w w' w'':World}
theorem Aa.refl(S:Nat→Prop)(w:World):Aa S w w:=⟨rfl,rfl,rfl,Ac _,fun _ _ _=>rfl⟩
theorem Aa.step(h:Aa S w w')(h':Aa S' w' w'')(hs:∀k,S' k→k<w.heap.size→S k):Aa S w w'':=
 ⟨h'.os.trans h.os,h'.tape.trans h.tape,h'.output.trans h.output,AG h.size h'.size,fun k hk hn=>
  (h'.block k (AK hk h.size) (fun e=>hn (hs k e hk))).trans (h.block k hk hn)⟩
theorem Aa.trans(h:Aa S w w')(h':Aa S w' w''):Aa S w w'':=h.step h' fun _ e _=>e
theorem Aa.no(h:Aa S w w')(h':Aa No w' w''):Aa S w w'':=h.step h' fun _ e _=>e.elim
theorem Aa.mono(h:Aa S w w')(hs:∀k,S k→k<w.heap.size→S' k):Aa S' w w':=
 ⟨h.os,h.tape,h.output,h.size,fun k hk hn=>h.block k hk fun e=>hn (hs k e hk)⟩
theorem Aa.of_below(h:Below w.heap.size w w'):Aa S w w':=⟨h.os,h.tape,h.output,h.size,fun k hk _=>h.block k hk⟩
theorem Aa.any(h:Aa No w w'):Aa S w w':=h.mono fun _ e=>e.elim
theorem Aa.setNew(h:Aa S w w'){b j:Nat}(hb:w.heap.size≤b)(v:Value):Aa S w (w'.setCell ⟨b,j,none⟩ v):=
 ⟨h.os,h.tape,h.output,AG h.size (by simp[World.setCell]),fun k hk hn=>
  (Below.heap_setCell w' ⟨b,j,none⟩ v k (by show k≠b;omega)).trans (h.block k hk hn)⟩
theorem Aa.set1{b o:Nat}(h:Aa (At1 b) w w')(v:Value):Aa (At1 b) w (w'.setCell ⟨b,o,none⟩ v):=
 ⟨h.os,h.tape,h.output,AG h.size (by simp[World.setCell]),fun k hk hn=>
  (Below.heap_setCell w' ⟨b,o,none⟩ v k (fun e=>hn e)).trans (h.block k hk hn)⟩
theorem Aa.below(h:Aa S w w'){B:Nat}(hB:B≤w.heap.size)(hs:∀k,S k→B≤k):Below B w w':=
 ⟨h.os,h.tape,h.output,h.size,fun k hk=>h.block k (by omega) fun e=>by have:=hs k e;omega⟩
theorem Aa.drew(h:Aa S w w'):Aa S w w'.drew:=⟨h.os,h.tape,h.output,h.size,h.block⟩
theorem Aa.drewN(h:Aa S w w')(n:Nat):Aa S w (w'.drewN n):=⟨h.os,h.tape,h.output,h.size,h.block⟩
theorem Aa.alloc(h:Aa S w w')(o:Obj):Aa S w (w'.alloc o):=
 ⟨h.os,h.tape,h.output,AG h.size (by simp),fun k hk hn=>(Below.heap_alloc w' o k (AK hk h.size)).trans (h.block k hk hn)⟩
theorem Aa.setCell(h:Aa S w w'){a:Addr}(ha:a.block<w.heap.size→S a.block)(v:Value):Aa S w (w'.setCell a v):=
 ⟨h.os,h.tape,h.output,AG h.size (by simp[World.setCell]),fun k hk hn=>
  (Below.heap_setCell w' a v k (fun e=>hn (e▸ha (e▸hk)))).trans (h.block k hk hn)⟩
theorem Aa.grown(h:Aa S w w'){row:Option Nat}(hg:w'.grownBy w'' row)(hr:∀k,row=some k→w.heap.size≤k):Aa S w w'':=
 ⟨hg.os.trans h.os,hg.tape.trans h.tape,hg.output.trans h.output,AG h.size hg.size,fun k hk hn=>
  (hg.block k (AK hk h.size) (fun e=>by have:=hr k e.symm;omega)).trans (h.block k hk hn)⟩
theorem Aa.cell(h:Aa S w w'){b o:Nat}(hb:b<w.heap.size)(hn:¬S b):w'.cell? ⟨b,o,none⟩=w.cell? ⟨b,o,none⟩:=
 World.cell?_of_block (w:=w) (h.block b hb hn)
theorem Aa.heap(h:Aa S w w'){b:Nat}{o:Obj}(hb:w.heap[b]? =some o)(hn:¬S b):w'.heap[b]? =some o:=
 (h.block b (Array.getElem?_eq_some_iff.1 hb).1 hn).trans hb
end
theorem Aa.cellOf{S:Nat→Prop}{w w':World}(h:Aa S w w'){b o:Nat}{v:Value}(hc:w.cell? ⟨b,o,none⟩=some v)(hn:¬S b):w'.cell? ⟨b,o,none⟩=some v:=
 (h.cell (World.block_lt_of_cell? _ _ hc) hn).trans hc
/-- what a block that the call itself laid holds, behind what keeps it -/
theorem Aa.own{S:Nat→Prop}{w w':World}{o:Obj}(h:Aa S (w.alloc o) w')(hn:¬S w.heap.size):w'.heap[w.heap.size]? =some o:=
 h.heap (heap_alloc_new w o) hn
theorem heap_set{w:World}{b:Nat}{cs:Array Value}{T:TypeId}{fr:Nat×Nat}(h:w.heap[b]? =some (.cells cs T fr))(j:Nat)(v:Value):
  (w.setCell ⟨b,j,none⟩ v).heap[b]? =some (.cells (cs.setIfInBounds j v) T fr):=by
 simp[World.setCell,Array.getElem?_modify,h]
theorem AP{w:World}{b:Nat}{o:Obj}(h:w.heap[b]? =some o){b' j:Nat}(hne:b≠b')(v:Value):
  (w.setCell ⟨b',j,none⟩ v).heap[b]? =some o:=(Below.heap_setCell w ⟨b',j,none⟩ v b hne).trans h
theorem Ab{w:World}{b:Nat}{o:Obj}(h:w.heap[b]? =some o)(o':Obj):(w.alloc o').heap[b]? =some o:=
 (Below.heap_alloc w o' b (Array.getElem?_eq_some_iff.1 h).1).trans h
theorem Ao{w:World}{b:Nat}{o:Obj}(h:w.heap[b]? =some o):b<w.heap.size:=(Array.getElem?_eq_some_iff.1 h).1
theorem Ag{S:Nat→Prop}(w:World)(d:Nat)(os:Array Obj):Aa S w (Sort.grow (redrawn w d) os):=Aa.of_below (below_regrown w d os)
theorem KH{w w':World}(h:Aa No w w'):∃p:Regrown,w'=Sort.grow (redrawn w p.d) p.os:=
 regrown_of_below (h.below (Ac _) fun _ e=>e.elim)
theorem BV{P:Program}{f:FuncId}{args:Array Value}{w:World}{d:Nat}{os:Array Obj}{v:Value}
  (h:Calls P f args (Sort.grow (redrawn w d) os) fun e w'=>e= .returned v∧Aa No (Sort.grow (redrawn w d) os) w'):
  Calls P f args (Sort.grow (redrawn w d) os) fun e w''=>e= .returned v∧∃p:Regrown,w''=Sort.grow (redrawn w p.d) p.os:=
 h.mono fun _ _ ⟨he,hb⟩=>⟨he,KH ((Ag w d os).trans hb)⟩
/-! short words -/
theorem Kx{S:Nat→Prop}{w w':World}(h:Aa S w w':=by repeat(first|exact Aa.refl _ _|assumption|refine Aa.alloc ?_ _|refine Aa.drewN ?_ _|refine Aa.drew ?_ |refine Aa.set1 ?_ _|refine Aa.no ?_ (by assumption)|refine Aa.any ?_)):Aa S w w':=h
theorem Rx{p:Prop}(h:p:=by kernel_rfl):p:=h
theorem Hx{p:Prop}(h:p):Hid p:=h
theorem Cx{w:World}{b:Nat}{cs:Array Value}{T:TypeId}{fr:Nat×Nat}(hb:w.heap[b]? =some (.cells cs T fr))(j:Nat):w.cell? ⟨b,j,none⟩=cs[j]? :=Lib.cell_of_heap hb j
theorem Fx{w:World}{b:Nat}{cs:Array Value}{T:TypeId}(hb:w.heap[b]? =some (.cells cs T (0,0)))(j:Nat):w.frozen? ⟨b,j,none⟩=false:=Lib.frozen_of_heap hb j
theorem Nx(w:World)(o:Obj):(w.alloc o).heap[w.heap.size]? =some o:=heap_alloc_new w o
theorem Ex{w:World}{a:Addr}{v:Value}(h:w.cell? a=some v)(d:Nat)(os:Array Obj):(Sort.grow (redrawn w d) os).cell? a=some v:=cell_regrown h d os
theorem Gx{α:Type}:(∀{xs:List α} {i:Nat} (h:i<xs.toArray.size),xs.toArray[i]=xs[i]'(by simpa using h))∧(∀(a:α) (as:List α) (h:0<(a::as).length),(a::as)[0]'h=a)∧∀(a:α) (as:List α) (i:Nat) (h:i+1<(a::as).length),(a::as)[i+1]'h=as[i]'(Nat.lt_of_succ_lt_succ h):=⟨fun _=>rfl,fun _ _ _=>rfl,fun _ _ _ _=>rfl⟩
theorem Sx{α:Type}:(∀(l:List α) (i:Nat) (a:α),l.toArray.setIfInBounds i a=(l.set i a).toArray)∧(∀{x:α} {xs:List α} {a:α},(x::xs).set 0 a=a::xs)∧∀{x:α} {xs:List α} {i:Nat} {a:α},(x::xs).set (i+1) a=x::xs.set i a:=⟨List.setIfInBounds_toArray,fun{_ _ _}=>rfl,fun{_ _ _ _}=>rfl⟩
/-- an operation of a drawn region is taken first -/
theorem Tx{P:Program}{md:Region.Mode}{ops:Array Oper}{Q:Exit→Act→World→Prop}{S:World→Prop}(i:Nat){oi:Oper}(v:Value){fuel:Nat}{listed:Array Bool}{a:Act}{w:World}
  (hy:∀w,S w→(execOp a.eval oi).run P w= .ok (.value v) w)(h:wpAnyH P md ops Q S fuel (listed.setIfInBounds i true) (a.put oi.dst v) w)
  (hi:ops[i]? =some oi:=by exact rfl)(hs:Region.noSelect ops=true:=by kernel_rfl)(hf:Region.free md ops listed i=true:=by kernel_rfl)(hr:(Region.ready md ops listed).contains i=true:=by kernel_rfl)
  (hQ:∀c a w,Q (.panic c) (a.put oi.dst v) w→Q (.panic c) a w:=by exact fun _ _ _ h=>h)(hw:Region.wanted oi (yielded ops a.tmps)=true:=by rfl)(hS:S w:=by assumption):wpAnyH P md ops Q S (fuel+1) listed a w:=
 wpAnyH_take hi hs hf hr hQ (.inl ⟨hw,hy⟩) hS h
end
section
open Go.RowKit
open Go.ChangeMaps (setBlock heap_setBlock_same heap_setBlock_other)
open Go.MapKept (stamped_push stamped_modify stamped_erase stamped_empty stamped_iff)
/-- the keys of a map's type as plain data -/
structure FP{α:Type}[DecidableEq α](P:Program)(k:TypeId)(d:TypeDesc)(kv:α→Value):Prop where
 und:P.underlying k=some d
 inj:∀{a b:α},kv a=kv b→a=b
 check:∀(w:World) (em:Bool) (a:α),(Instr.checkKey em 10000 k (kv a)).run P w= .ok () w
 eq:∀(w:World) (a b:α),(Op.equal k (kv a) (kv b)).run P w= .ok (decide (a=b)) w
 now:∀(a b:α),Instr.sameNow d (kv a) (kv b)=none
 stays:∀(w:World) (a:α),(Instr.keyThatStays (kv a) (kv a)).run P w= .ok (kv a) w
section
variable {α β:Type} {P:Program} {k:TypeId} {d:TypeDesc} {kv:α→Value}
theorem RG[DecidableEq α](K:FP P k d kv)(w:World)(x:α):∀(es:List MapEntry) (i:Nat),(∀e∈es,∃a,e.key=kv a)→
  ((Instr.findAsking k (kv x) es i).run P w= .ok none w∧∀e∈es,e.key≠kv x)∨
  ∃j e,(Instr.findAsking k (kv x) es i).run P w= .ok (some (i+j,e.val)) w∧es[j]? =some e∧e.key=kv x
 |[],i,_=> .inl ⟨by simp[Instr.findAsking],by simp⟩
 |e::es,i,h=>by
  obtain⟨a,ha⟩:=h e (by simp)
  by_cases hxa:x=a
  ·refine .inr ⟨0,e,?_,rfl,by rw[ha,hxa]⟩
   simp[Instr.findAsking,ha,K.eq,hxa,Result.andThen]
  ·have hne:e.key≠kv x:=fun h1=>hxa (K.inj (h1.symm.trans ha))
   rcases RG K w x es (i+1) (fun e' he'=>h e' (by simp[he']))with⟨h1,h2⟩|⟨j,e',h1,h2,h3⟩
   ·refine .inl ⟨?_,?_⟩
    ·simp[Instr.findAsking,ha,K.eq,hxa,Result.andThen,h1]
    ·intro e' he'
     rcases A7.1 he' with rfl|he'
     ·exact hne
     ·exact h2 e' he'
   ·refine .inr ⟨j+1,e',?_,by simpa using h2,h3⟩
    have:i+1+j=i+(j+1):=by omega
    simp[Instr.findAsking,ha,K.eq,hxa,Result.andThen,h1,this]
theorem Tq[DecidableEq α](K:FP P k d kv)(w:World)(x:α)(es:List MapEntry)(h:∀e∈es,∃a,e.key=kv a):
  ((Instr.findKey k (kv x) es).run P w= .ok none w∧∀e∈es,e.key≠kv x)∨
  ∃j e,(Instr.findKey k (kv x) es).run P w= .ok (some (j,e.val)) w∧es[j]? =some e∧e.key=kv x:=by
 cases es with
 |nil=>exact .inl ⟨by simp[Instr.findKey,run_underlying K.und,Instr.findNow,Result.andThen],by simp⟩
 |cons e es=>
  obtain⟨a,ha⟩:=h e (by simp)
  have hn:Instr.findNow d (kv x) (e::es) 0=none:=by simp[Instr.findNow,ha,K.now]
  have hrun:(Instr.findKey k (kv x) (e::es)).run P w=(Instr.findAsking k (kv x) (e::es) 0).run P w:=by
   simp[Instr.findKey,run_underlying K.und,hn,Result.andThen]
  rw[hrun]
  rcases RG K w x (e::es) 0 h with h1|⟨j,e',h1,h2,h3⟩
  ·exact .inl h1
  ·exact .inr ⟨j,e',by simpa using h1,h2,h3⟩
/-- the entries es say the function f -/
structure EsF(kv:α→Value)(ev:β→Value)(es:Array MapEntry)(clock:Nat)(f:α→Option β):Prop where
 stamped:MapKept.Stamped es clock
 sound:∀e∈es.toList,∃a b,e.key=kv a∧e.val=ev b∧f a=some b
 full:∀a b,f a=some b→∃e∈es.toList,e.key=kv a∧e.val=ev b
/-- block b is a map that says f -/
def A8(kv:α→Value)(ev:β→Value)(b:Nat)(f:α→Option β)(w:World):Prop:=
 ∃es clock,w.heap[b]? =some (.map es clock)∧EsF kv ev es clock f
def Db[DecidableEq α](f:α→Option β)(x:α)(v:Option β):α→Option β:=fun y=>if y=x then v else f y
variable {ev:β→Value} {f:α→Option β} {b:Nat} {w w':World}
theorem A8.lt(h:A8 kv ev b f w):b<w.heap.size:=by obtain⟨es,c,hb,_⟩:=h;exact Ao hb
theorem A8.keep(h:A8 kv ev b f w)(hb:w'.heap[b]? =w.heap[b]?):A8 kv ev b f w':=by
 obtain⟨es,c,h1,h2⟩:=h
 exact⟨es,c,hb.trans h1,h2⟩
theorem A8.keeps{S:Nat→Prop}(h:A8 kv ev b f w)(k:Aa S w w')(hn:¬S b):A8 kv ev b f w':=h.keep (k.block b h.lt hn)
theorem A8.alloc(h:A8 kv ev b f w)(o:Obj):A8 kv ev b f (w.alloc o):=h.keeps ((Aa.refl No w).alloc o) id
theorem A8.setCell(h:A8 kv ev b f w){a:Addr}(v:Value)(hne:b≠a.block):A8 kv ev b f (w.setCell a v):=h.keep (Below.heap_setCell w a v b hne)
theorem A8.new(w:World):A8 kv ev w.heap.size (fun _=>none) (w.alloc (.map #[] 0)):=
 ⟨#[],0,(MapKept.heap_alloc w _).1,stamped_empty 0,by simp,by simp⟩
theorem EsF.keys{es:Array MapEntry}{c:Nat}(h:EsF kv ev es c f):∀e∈es.toList,∃a,e.key=kv a:=fun e he=>by
 obtain⟨a,b,h1,_,_⟩:=h.sound e he;exact⟨a,h1⟩
theorem EsF.hit{es:Array MapEntry}{c:Nat}(h:EsF kv ev es c f)(hi:∀{a b:α},kv a=kv b→a=b){e:MapEntry}(he:e∈es.toList){a:α}(ha:e.key=kv a):(f a).map ev=some e.val:=by
 obtain⟨a',b,h1,h2,h3⟩:=h.sound e he
 obtain rfl:=hi (ha.symm.trans h1)
 rw[h3,h2];rfl
theorem EsF.isNone{es:Array MapEntry}{c:Nat}(h:EsF kv ev es c f){a:α}(hn:∀e∈es.toList,e.key≠kv a):f a=none:=by
 cases hf:f a with
 |none=>rfl
 |some b=>obtain⟨e,he,h1,_⟩:=h.full a b hf;exact absurd h1 (hn e he)
theorem A8.look[DecidableEq α](K:FP P k d kv){t e:TypeId}(ht:P.underlying t=some (.map k e)){z:Value}(hz:(zeroValue e).run P w= .ok z w)(h:A8 kv ev b f w)(x:α)(c:Bool):
  (Instr.lookup t (.map (some b)) (kv x) c).run P w= .ok (if c then .tuple #[((f x).map ev).getD z,.bool (f x).isSome]else((f x).map ev).getD z) w:=by
 obtain⟨es,clock,hb,F⟩:=h
 rcases Tq K w x es.toList F.keys with⟨h1,h2⟩|⟨j,e0,h1,h2,h3⟩
 ·simp[Instr.lookup,run_underlying ht,MapKept.run_getObj_map hb,K.check,h1,hz,Result.andThen,F.isNone h2]
 ·have hm:=F.hit K.inj (List.mem_of_getElem? h2) h3
  have hs:(f x).isSome=true:=by cases hf:f x<;>simp_all
  simp[Instr.lookup,run_underlying ht,MapKept.run_getObj_map hb,K.check,h1,Result.andThen,hm,hs]
theorem Es(w:World)(b:Nat)(o:Obj):Aa (At1 b) w (setBlock w b o):=
 ⟨rfl,rfl,rfl,by simp[setBlock],fun i _ hi=>by
  have:b≠i:=fun e=>hi e.symm
  simp[setBlock,this]⟩
theorem A8.put[DecidableEq α](K:FP P k d kv){t e:TypeId}(ht:P.underlying t=some (.map k e))(h:A8 kv ev b f w)(x:α)(v:β):
  ∃w',(Instr.mapUpdate t (.map (some b)) (kv x) (ev v)).run P w= .ok () w'∧A8 kv ev b (Db f x (some v)) w'∧Aa (At1 b) w w'∧w'.heap.size=w.heap.size:=by
 obtain⟨es,clock,hb,F⟩:=h
 have hsz:∀o,(setBlock w b o).heap.size=w.heap.size:=fun o=>by simp[setBlock]
 rcases Tq K w x es.toList F.keys with⟨h1,h2⟩|⟨j,e0,h1,h2,h3⟩
 ·refine⟨setBlock w b (.map (es.push ⟨kv x,ev v,clock⟩) (clock+1)),?_,⟨_,_,heap_setBlock_same hb _,stamped_push F.stamped h2,?_,?_⟩,Es _ _ _,hsz _⟩
  ·simp[Instr.mapUpdate,run_underlying ht,MapKept.run_getObj_map hb,K.check,h1,MapKept.run_setObj_map _ hb,Result.andThen,setBlock]
  ·intro e he
   simp only[Array.toList_push,AC,AU]at he
   rcases he with he|rfl
   ·obtain⟨a,u,k1,k2,k3⟩:=F.sound e he
    have hne:a≠x:=fun e1=>h2 e he (by rw[k1,e1])
    exact⟨a,u,k1,k2,by simp[Db,hne,k3]⟩
   ·exact⟨x,v,rfl,rfl,by simp[Db]⟩
  ·intro a u hu
   unfold Db at hu
   by_cases hax:a=x
   ·subst hax
    rw[Ak rfl]at hu
    cases hu
    exact⟨⟨kv a,ev v,clock⟩,by simp,rfl,rfl⟩
   ·rw[Ae hax]at hu
    obtain⟨e,he,k1,k2⟩:=F.full a u hu
    exact⟨e,by simp at he⊢;exact .inl he,k1,k2⟩
 ·have hj:es[j]? =some e0:=by simpa using h2
  have hlist:(es.modify j (fun e'=>{e' with key:=kv x,val:=ev v})).toList=es.toList.set j {e0 with key:=kv x,val:=ev v}:=by
   rw[Array.toList_modify,Go.ChangeMaps.modify_eq_set _ _ _ _ h2]
  have hkeyf:∀e',es[j]? =some e'→({e' with key:=kv x,val:=ev v}:MapEntry).key=e'.key:=fun e' he'=>by rw[hj]at he';cases he';exact h3.symm
  have hst:=(stamped_iff es clock).1 F.stamped
  have hjl:j<es.toList.length:=(AS.1 h2).1
  have hje:es.toList[j]=e0:=(AS.1 h2).2
  refine⟨setBlock w b (.map (es.modify j (fun e'=>{e' with key:=kv x,val:=ev v})) clock),?_,⟨_,_,heap_setBlock_same hb _,stamped_modify F.stamped _ _ (fun _ _=>rfl) (fun e' _ he'=>hkeyf e' he'),?_,?_⟩,Es _ _ _,hsz _⟩
  ·simp[Instr.mapUpdate,run_underlying ht,MapKept.run_getObj_map hb,K.check,h1,hj,h3,K.stays,MapKept.run_setObj_map _ hb,Result.andThen,setBlock]
  ·intro e he
   rw[hlist]at he
   obtain⟨i,hi,ex⟩:=CM he
   rw[List.getElem_set]at ex
   split at ex
   ·subst ex
    exact⟨x,v,rfl,rfl,by simp[Db]⟩
   ·rename_i hne
    have hi':i<es.toList.length:=by simpa using hi
    have hmem:e∈es.toList:=ex▸AQ hi'
    obtain⟨a,u,k1,k2,k3⟩:=F.sound e hmem
    have hax:a≠x:=by
     rintro rfl
     have hij:=C9.1 hst.2.2
     rcases Nat.lt_or_ge i j with hlt|hge
     ·exact hij i j hi' hjl hlt (by rw[ex,hje,k1,h3])
     ·exact hij j i hjl hi' (by omega) (by rw[ex,hje,k1,h3])
    exact⟨a,u,k1,k2,by simp[Db,hax,k3]⟩
  ·intro a u hu
   rw[hlist]
   unfold Db at hu
   by_cases hax:a=x
   ·subst hax
    rw[Ak rfl]at hu
    cases hu
    exact⟨{e0 with key:=kv a,val:=ev v},List.mem_iff_getElem.2 ⟨j,by simpa using hjl,by simp⟩,rfl,rfl⟩
   ·rw[Ae hax]at hu
    obtain⟨e,he,k1,k2⟩:=F.full a u hu
    obtain⟨i,hi,ex⟩:=CM he
    have hne:j≠i:=by
     rintro rfl
     rw[hje]at ex
     subst ex
     exact hax (K.inj (k1.symm.trans h3))
    exact⟨e,List.mem_iff_getElem.2 ⟨i,by simpa using hi,by rw[List.getElem_set,Ae hne];exact ex⟩,k1,k2⟩
theorem A8.drop[DecidableEq α](K:FP P k d kv){t e ty:TypeId}(ht:P.underlying t=some (.map k e))(h:A8 kv ev b f w)(x:α):
  ∃w',(Builtin.delete_ #[t,k] ty #[.map (some b),kv x]).run P w= .ok (.tuple #[]) w'∧A8 kv ev b (Db f x none) w'∧Aa (At1 b) w w'∧w'.heap.size=w.heap.size:=by
 obtain⟨es,clock,hb,F⟩:=h
 have hsz:∀o,(setBlock w b o).heap.size=w.heap.size:=fun o=>by simp[setBlock]
 have hst:=(stamped_iff es clock).1 F.stamped
 rcases Tq K w x es.toList F.keys with⟨h1,h2⟩|⟨j,e0,h1,h2,h3⟩
 ·refine⟨setBlock w b (.map es clock),?_,⟨_,_,heap_setBlock_same hb _,F.stamped,?_,?_⟩,Es _ _ _,hsz _⟩
  ·simp[Builtin.delete_,run_underlying ht,MapKept.run_getObj_map hb,K.check,h1,MapKept.run_setObj_map _ hb,Result.andThen,setBlock]
  ·intro e he
   obtain⟨a,u,k1,k2,k3⟩:=F.sound e he
   have hne:a≠x:=fun e1=>h2 e he (by rw[k1,e1])
   exact⟨a,u,k1,k2,by simp[Db,hne,k3]⟩
  ·intro a u hu
   unfold Db at hu
   by_cases hax:a=x
   ·rw[Ak hax]at hu;cases hu
   ·rw[Ae hax]at hu;exact F.full a u hu
 ·have hjl:j<es.toList.length:=(AS.1 h2).1
  have hje:es.toList[j]=e0:=(AS.1 h2).2
  have hjs:j<es.size:=by simpa using hjl
  have hsub:(es.eraseIdxIfInBounds j).toList=es.toList.eraseIdx j:=by
   unfold Array.eraseIdxIfInBounds
   rw[GP hjs]
   simp
  refine⟨setBlock w b (.map (es.eraseIdxIfInBounds j) clock),?_,⟨_,_,heap_setBlock_same hb _,stamped_erase F.stamped j,?_,?_⟩,Es _ _ _,hsz _⟩
  ·simp[Builtin.delete_,run_underlying ht,MapKept.run_getObj_map hb,K.check,h1,MapKept.run_setObj_map _ hb,Result.andThen,setBlock]
  ·intro e he
   rw[hsub]at he
   obtain⟨i,hne,hi⟩:=List.mem_eraseIdx_iff_getElem?.1 he
   obtain⟨hi',ex⟩:=AS.1 hi
   obtain⟨a,u,k1,k2,k3⟩:=F.sound e (List.mem_of_getElem? hi)
   have hax:a≠x:=by
    rintro rfl
    have hij:=C9.1 hst.2.2
    rcases Nat.lt_or_ge i j with hlt|hge
    ·exact hij i j hi' hjl hlt (by rw[ex,hje,k1,h3])
    ·exact hij j i hjl hi' (by omega) (by rw[ex,hje,k1,h3])
   exact⟨a,u,k1,k2,by simp[Db,hax,k3]⟩
  ·intro a u hu
   rw[hsub]
   unfold Db at hu
   by_cases hax:a=x
   ·rw[Ak hax]at hu;cases hu
   ·rw[Ae hax]at hu
    obtain⟨e,he,k1,k2⟩:=F.full a u hu
    obtain⟨i,hi,ex⟩:=CM he
    have hne:i≠j:=by
     rintro rfl
     rw[hje]at ex
     subst ex
     exact hax (K.inj (k1.symm.trans h3))
    exact⟨e,List.mem_eraseIdx_iff_getElem?.2 ⟨i,hne,by rw[Aj hi,ex]⟩,k1,k2⟩
/-- the keys of a map that says f: no more than a list that holds them all -/
theorem MI{α:Type}[DecidableEq α]:∀{l m:List α},l.Nodup→(∀a∈l,a∈m)→l.length≤m.length
 |[],_,_,_=>Ah _
 |a::l,m,h,hs=>by
  obtain⟨h1,h2⟩:=IL.1 h
  have hm:a∈m:=hs a (by simp)
  have:=MI (l:=l) (m:=m.erase a) h2 (fun x hx=>by
   have hne:x≠a:=fun e=>h1 (e▸hx)
   exact(List.mem_erase_of_ne hne).2 (hs x (by simp[hx])))
  rw[List.length_erase_of_mem hm]at this
  have:0<m.length:=List.length_pos_of_mem hm
  simp
  omega
theorem EsF.size_le[DecidableEq α]{es:Array MapEntry}{c:Nat}(h:EsF kv ev es c f){m:List α}(hm:∀a,f a≠none→a∈m):es.size≤m.length:=by
 have hst:=(stamped_iff es c).1 h.stamped
 obtain⟨ks,hks,hlen⟩:∃ks:List α,es.toList.map (·.key)=ks.map kv∧∀a∈ks,a∈m:=by
  have:∀l:List MapEntry,(∀e∈l,e∈es.toList)→∃ks:List α,l.map (·.key)=ks.map kv∧∀a∈ks,a∈m:=by
   intro l
   induction l with
   |nil=>intro _;exact⟨[],rfl,by simp⟩
   |cons e l ih=>
    intro hl
    obtain⟨ks,h1,h2⟩:=ih fun e he=>hl e (by simp[he])
    obtain⟨a,u,k1,_,k3⟩:=h.sound e (hl e (by simp))
    refine⟨a::ks,by simp[k1,h1],fun x hx=>?_⟩
    rcases A7.1 hx with rfl|hx
    ·exact hm x (by rw[k3];simp)
    ·exact h2 x hx
  exact this _ fun _ he=>he
 have hnd:ks.Nodup:=by
  have h1:(es.toList.map (·.key)).Nodup:=List.pairwise_map.2 hst.2.2
  rw[hks]at h1
  exact(List.pairwise_map.1 h1).imp fun h e=>h (by rw[e])
 have:=MI hnd hlen
 have h2:es.toList.length=ks.length:=by simpa using congrArg List.length hks
 simp at h2
 omega
end
/-! ### at the operations -/
section
variable {α β:Type} [DecidableEq α] {P:Program} {k:TypeId} {d:TypeDesc} {kv:α→Value} {ev:β→Value} {f:α→Option β}
 {ops:Array Oper} {rest:List Oper} {o:Oper} {a:Act} {w:World} {Q:Exit→Act→World→Prop}
theorem EJ(hg:o.guard=none)(K:FP P k d kv){t e:TypeId}(ht:P.underlying t=some (.map k e)){b:Nat}(h:A8 kv ev b f w)
  (m x v:Operand)(hop:o.op=Op.mapUpdate t m x v)(hm:a.eval m= .map (some b))(key:α)(hx:a.eval x=kv key)(u:β)(hv:a.eval v=ev u)
  (hK:∀w',A8 kv ev b (Db f key (some u)) w'→Aa (At1 b) w w'→w'.heap.size=w.heap.size→wpList P ops Q rest (a.put o.dst undef) w'):wpList P ops Q (o::rest) a w:=by
 refine wpList_plain hg fun K' hK'=>?_
 obtain⟨w',hrun,h1,h2,h3⟩:=h.put K ht key u
 unfold Oper.wp
 simp[execOp,hop,hm,hx,hv,hrun,Result.andThen]
 exact hK' _ _ (hK w' h1 h2 h3)
theorem N6(hg:o.guard=none)(K:FP P k d kv){t e:TypeId}(ht:P.underlying t=some (.map k e)){b:Nat}(h:A8 kv ev b f w)
  (m x:Operand)(hop:o.op=Op.call {callee:=Callee.builtin Builtin.delete,args:= #[m,x],argTypes:= #[t,k]})(hm:a.eval m= .map (some b))(key:α)(hx:a.eval x=kv key)
  (hK:∀w',A8 kv ev b (Db f key none) w'→Aa (At1 b) w w'→w'.heap.size=w.heap.size→wpList P ops Q rest (a.put o.dst (.tuple #[])) w'):wpList P ops Q (o::rest) a w:=by
 refine wpList_plain hg fun K' hK'=>?_
 obtain⟨w',hrun,h1,h2,h3⟩:=h.drop (ty:=o.type) K ht key
 unfold Oper.wp
 simp[execOp,hop,resolve,invoke,builtin,hm,hx,hrun,Result.andThen]
 exact hK' _ _ (hK w' h1 h2 h3)
end
end
end Go.Proofs.YthfjefcljeamgaaGreatDoor
