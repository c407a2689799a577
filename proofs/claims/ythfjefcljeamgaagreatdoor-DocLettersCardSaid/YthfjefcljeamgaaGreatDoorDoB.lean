/- joined: The document: what lies on the heap; a part of it turns. The document: what is asked of it. -/
import Derived.Test.YthfjefcljeamgaaGreatDoorTxH
import Derived.Test.YthfjefcljeamgaaGreatDoorRegsB
namespace Go.Proofs.YthfjefcljeamgaaGreatDoor
set_option maxRecDepth 100000
set_option maxHeartbeats 4000000
section
open Go.RowKit
theorem EH.mono{F F':Nat→Prop}{b:Nat}{ss:List Dc.CS}{ids:Off.Bid→Option Int}{f:Dc.AB}{ch:List Off.Bid}{w:World}(h:EH F b ss ids f ch w)(hF:∀g,F g→g<w.heap.size→F' g):EH F' b ss ids f ch w:=by
 obtain⟨vs,bi,bp,vc,h1,h2,h3,h4,h5,f1,f2,f3,f4,f5,f6⟩:=h
 exact⟨vs,bi,bp,vc,h1,h2,h3,h4,h5,hF _ f1 (Ao h1),hF _ f2 h3.lt,hF _ f3 h4.lt,fun g hg=>hF _ (f4 g hg) (h2.own_lt hg),fun g hg=>hF _ (f5 g hg) (h5.own_lt hg),f6⟩
theorem Di.mono'{F F':Nat→Prop}{b:Nat}{f:Dc.AB}{L:Dc.CZ}{w:World}(h:Di F b f L w)(hF:∀g,F g→g<w.heap.size→F' g):Di F' b f L w:=h.low.mono fun g hg=>hF g hg.1 hg.2
theorem DJ.mono'{F F':Nat→Prop}{b:Nat}{g:Dc.FM}{w:World}(h:DJ F b g w)(hF:∀x,F x→x<w.heap.size→F' x):DJ F' b g w:=by
 obtain⟨bm,h1,h2,f1,f2⟩:=h
 exact⟨bm,h1,h2,hF _ f1 (Ao h1),hF _ f2 h2.lt⟩
structure Sl where
 a:Option Addr
 n:Nat
 c:Nat
@[reducible] def Sl.v(s:Sl):Value:= .slice s.a s.n s.c
@[reducible] def EN(p:Dc.Op×Sl):List Value:=(As p.1 p.2.v).toList
/-- the value v is the row of the ops l -/
def FO(F:Nat→Prop)(v:Value)(l:List Dc.Op)(w:World):Prop:=
 ∃ps:List (Dc.Op×Sl),ps.map (·.1)=l∧Aq 29 20 EN v ps w∧OT F v∧∀p∈ps,BI 4 AD p.2.v p.1.cuts w∧∀g,p.2.v.ownBlock=some g→F g∧g<w.heap.size∧v.ownBlock≠some g
theorem FO.keeps{F S:Nat→Prop}{v:Value}{l:List Dc.Op}{w w':World}(h:FO F v l w)(k:Aa S w w')(hn:∀g,F g→¬S g):FO F v l w':=by
 obtain⟨ps,h1,h2,h3,h4⟩:=h
 exact⟨ps,h1,h2.keeps k (fun g hg=>hn g (h3 g hg)),h3,fun p hp=>⟨(h4 p hp).1.keeps k fun g hg=>hn g ((h4 p hp).2 g hg).1,fun g hg=>⟨((h4 p hp).2 g hg).1,AK ((h4 p hp).2 g hg).2.1 k.size,((h4 p hp).2 g hg).2.2⟩⟩⟩
theorem FO.mono{F F':Nat→Prop}{v:Value}{l:List Dc.Op}{w:World}(h:FO F v l w)(hF:∀g,F g→g<w.heap.size→F' g):FO F' v l w:=by
 obtain⟨ps,h1,h2,h3,h4⟩:=h
 exact⟨ps,h1,h2,fun g hg=>hF g (h3 g hg) (h2.own_lt hg),fun p hp=>⟨(h4 p hp).1,fun g hg=>⟨hF g ((h4 p hp).2 g hg).1 ((h4 p hp).2 g hg).2.1,((h4 p hp).2 g hg).2⟩⟩⟩
theorem FO.nil(F:Nat→Prop)(w:World):FO F (.slice none 0 0) [] w:=⟨[],rfl,Aq.nil,(fun g hg=>by cases hg),(fun p hp=>by cases hp)⟩
theorem VD:(Tryz.prog.info? 29).map (fun i=>(i.zero,i.size,i.bytes))=some (some (.agg Be),20,192):=by kernel_rfl
theorem WL:I9 22 29 20 EN:=GY VD Tryz.underlying22 (by decide) rfl (by decide) (fun _=>rfl) (fun _=>rfl)
/-- an op is laid behind a row of ops -/
theorem FO.append{F:Nat→Prop}{v:Value}{l:List Dc.Op}{w w5:World}(h:FO F v l w)(hl:l.length≤1000000){o:Dc.Op}{va:Option Addr}{vn vc:Nat}(k5:Aa No w w5)(hr5:Aq 64 4 AD (.slice va vn vc) o.cuts w5)
  (ho5:∀g,(Value.slice va vn vc).ownBlock=some g→w.heap.size≤g)(ty:TypeId):
  ∃v' w7,(Builtin.append_ #[22,22] ty #[v,.slice (some ⟨w5.heap.size,0,none⟩) 1 1]).run Tryz.prog (w5.alloc (.cells (As o (.slice va vn vc)) 29))= .ok v' w7∧
   FO (Bv F w) v' (l++[o]) w7∧Aa (Gp v) w w7∧(∀g,v'.ownBlock=some g→v.ownBlock=some g∨w.heap.size≤g):=by
 obtain⟨ps,rfl,h2,h3,h4⟩:=h
 rw[AM]at hl
 have ka:Aa No w (w5.alloc (.cells (As o (.slice va vn vc)) 29)):=k5.alloc _
 have hg9:=Nx w5 (.cells (As o (.slice va vn vc)) 29)
 obtain⟨v',w7,hr7,ho7,k7,hov7⟩:=WL.append (h2.no ka) ⟨w5.heap.size,0,none⟩ 1 1 [((o,⟨va,vn,vc⟩):Dc.Op×Sl)] rfl (Ey (y:=((o,⟨va,vn,vc⟩):Dc.Op×Sl)) hg9) (by omega) ty
 have kw7:Aa (Gp v) w w7:=ka.any.trans k7
 have hz5:=k5.size
 have hza:(w5.alloc (.cells (As o (.slice va vn vc)) 29)).heap.size=w5.heap.size+1:=World.size_alloc _ _
 have hvl:∀g,v.ownBlock=some g→g<w.heap.size:=fun g hg=>h2.own_lt hg
 have hov:∀g,v'.ownBlock=some g→v.ownBlock=some g∨w5.heap.size<g:=fun g hg=>by
  rcases hov7 with e|e
  ·exact .inl (e▸hg)
  ·rw[e,hza]at hg
   have:=Ap hg
   exact .inr (by omega)
 have h5l:∀g,(Value.slice va vn vc).ownBlock=some g→g<w5.heap.size:=fun g hg=>hr5.own_lt hg
 refine⟨v',w7,hr7,⟨ps++[(o,⟨va,vn,vc⟩)],by simp,ho7,fun g hg=>?_,fun p hp=>?_⟩,kw7,fun g hg=>(hov g hg).imp_right fun e=>by omega⟩
 ·rcases hov g hg with e|e
  ·exact .inl (h3 g e)
  ·exact .inr (by omega)
 ·rcases AC.1 hp with hp|hp
  ·obtain⟨q1,q2⟩:=h4 p hp
   refine⟨q1.keeps kw7 fun g hg e=>(q2 g hg).2.2 e,fun g hg=>⟨.inl (q2 g hg).1,AK (q2 g hg).2.1 kw7.size,fun e=>?_⟩⟩
   rcases hov g e with e|e
   ·exact(q2 g hg).2.2 e
   ·have:=(q2 g hg).2.1;omega
  ·rw[AU]at hp
   subst hp
   have hz7:=k7.size
   refine⟨((hr5.lies fun _=>rfl).no ((Aa.refl No w5).alloc _)).keeps k7 fun g hg e=>?_,fun g hg=>⟨.inr (ho5 g hg),by have:=h5l g hg;omega,fun e=>?_⟩⟩
   ·have:=hvl g e;have:=ho5 g hg;omega
   ·rcases hov g e with e|e
    ·have:=hvl g e;have:=ho5 g hg;omega
    ·have:=h5l g hg;omega
inductive Nu where
 |self
 |ops
 |kinds
 |tx
 |tree
 |kids
 |words
 deriving DecidableEq
/-- what a document on the heap says; between two steps of an op the tree's places f and the children's g may differ -/
structure DSt where
 ops:List Dc.Op
 kinds:Off.Bid→Option Int
 tx:Dc.TX
 ss:List Dc.CS
 ids:Off.Bid→Option Int
 f:Dc.AB
 ch:List Off.Bid
 g:Dc.AB
 L:Dc.CZ
 words:Dc.FM
@[reducible] def Il(vo:Value)(bk bx bt bc bw:Nat):Array Value:= #[vo,.map (some bk),.pointer (some ⟨bx,0,none⟩),.pointer (some ⟨bt,0,none⟩),.pointer (some ⟨bc,0,none⟩),.pointer (some ⟨bw,0,none⟩)]
structure E6(F:Nat→Prop)(lab:Nat→Option Nu)(vo:Value)(bk bx bt bc bw b:Nat)(s:DSt)(w:World):Prop where
 own:∀k,lab k≠none→F k∧k<w.heap.size
 cells:w.heap[b]? =some (.cells (Il vo bk bx bt bc bw) 113 (0,0))
 self:lab b=some .self
 ops:FO (fun g=>lab g=some .ops) vo s.ops w
 kindsL:lab bk=some .kinds
 kinds:A8 idV GR bk s.kinds w
 tx:Bg (fun g=>lab g=some .tx) bx s.tx w
 tree:EH (fun g=>lab g=some .tree) bt s.ss s.ids s.f s.ch w
 kids:Di (fun g=>lab g=some .kids) bc s.g s.L w
 words:DJ (fun g=>lab g=some .words) bw s.words w
def Eu(F:Nat→Prop)(b:Nat)(s:DSt)(w:World):Prop:=∃lab vo bk bx bt bc bw,E6 F lab vo bk bx bt bc bw b s w
def Ee(lab:Nat→Option Nu)(c:Nu)(n m:Nat):Nat→Option Nu:=fun k=>if n≤k∧k<m then some c else lab k
section
variable {F:Nat→Prop} {lab:Nat→Option Nu} {vo:Value} {bk bx bt bc bw b:Nat} {s:DSt} {w w':World}
theorem E6.keeps{S:Nat→Prop}(h:E6 F lab vo bk bx bt bc bw b s w)(k:Aa S w w')(hn:∀g,F g→¬S g):E6 F lab vo bk bx bt bc bw b s w':=by
 have hl:∀g,lab g≠none→¬S g:=fun g hg=>hn g (h.own g hg).1
 have hc:∀c g,lab g=some c→¬S g:=fun c g hg=>hl g (by rw[hg];simp)
 exact⟨fun k' hk=>⟨(h.own k' hk).1,AK (h.own k' hk).2 k.size⟩,k.heap h.cells (hc _ _ h.self),h.self,h.ops.keeps k (hc _),h.kindsL,h.kinds.keeps k (hc _ _ h.kindsL),h.tx.keeps k (hc _),h.tree.keeps k (hc _),h.kids.keeps k (hc _),h.words.keeps k (hc _)⟩
theorem E6.no(h:E6 F lab vo bk bx bt bc bw b s w)(k:Aa No w w'):E6 F lab vo bk bx bt bc bw b s w':=h.keeps k fun _ _ e=>e
theorem Eu.keeps{S:Nat→Prop}(h:Eu F b s w)(k:Aa S w w')(hn:∀g,F g→¬S g):Eu F b s w':=by
 obtain⟨lab,vo,bk,bx,bt,bc,bw,h⟩:=h
 exact⟨lab,vo,bk,bx,bt,bc,bw,h.keeps k hn⟩
theorem Eu.no(h:Eu F b s w)(k:Aa No w w'):Eu F b s w':=h.keeps k fun _ _ e=>e
theorem Eu.mono{F':Nat→Prop}(h:Eu F b s w)(hF:∀g,F g→g<w.heap.size→F' g):Eu F' b s w:=by
 obtain⟨lab,vo,bk,bx,bt,bc,bw,h⟩:=h
 exact⟨lab,vo,bk,bx,bt,bc,bw,fun k hk=>⟨hF k (h.own k hk).1 (h.own k hk).2,(h.own k hk).2⟩,h.cells,h.self,h.ops,h.kindsL,h.kinds,h.tx,h.tree,h.kids,h.words⟩
/-- the parts with other labels, behind a turn of the part c -/
theorem E6.others(h:E6 F lab vo bk bx bt bc bw b s w){c:Nu}(k:Aa (fun g=>lab g=some c) w w'):
  (∀y,lab y≠none→Ee lab c w.heap.size w'.heap.size y=lab y)∧(∀y,Ee lab c w.heap.size w'.heap.size y≠none→Bv F w y∧y<w'.heap.size)∧
  (∀x,x≠c→∀y,lab y=some x→Ee lab c w.heap.size w'.heap.size y=some x∧¬lab y=some c)∧(∀y,lab y=some c∨w.heap.size≤y→y<w'.heap.size→Ee lab c w.heap.size w'.heap.size y=some c):=by
 have h1:∀y,lab y≠none→Ee lab c w.heap.size w'.heap.size y=lab y:=fun y hy=>by
  have:=(h.own y hy).2
  unfold Ee
  rw[Ae (by omega)]
 refine⟨h1,fun y hy=>?_,fun x hx y hy=>⟨(h1 y (by rw[hy];simp)).trans hy,fun e=>hx (by rw[hy]at e;cases e;rfl)⟩,fun y hy hl=>?_⟩
 ·unfold Ee at hy
  by_cases e:w.heap.size≤y∧y<w'.heap.size
  ·exact⟨.inr e.1,e.2⟩
  ·rw[Ae e]at hy
   exact⟨.inl (h.own y hy).1,AK (h.own y hy).2 k.size⟩
 ·rcases hy with hy|hy
  ·exact(h1 y (by rw[hy];simp)).trans hy
  ·unfold Ee
   rw[Ak ⟨hy,hl⟩]
theorem E6.turnTx(h:E6 F lab vo bk bx bt bc bw b s w){x':Dc.TX}(k:Aa (fun g=>lab g=some .tx) w w')(hx:Bg (Bv (fun g=>lab g=some .tx) w) bx x' w'):
  E6 (Bv F w) (Ee lab .tx w.heap.size w'.heap.size) vo bk bx bt bc bw b {s with tx:=x'} w':=by
 obtain⟨_,o2,o3,o4⟩:=h.others k
 exact⟨o2,k.heap h.cells (o3 _ (by decide) _ h.self).2,(o3 _ (by decide) _ h.self).1,(h.ops.keeps k fun g hg=>(o3 _ (by decide) g hg).2).mono fun g hg _=>(o3 _ (by decide) g hg).1,(o3 _ (by decide) _ h.kindsL).1,h.kinds.keeps k (o3 _ (by decide) _ h.kindsL).2,
  hx.mono o4,(h.tree.keeps k fun g hg=>(o3 _ (by decide) g hg).2).mono fun g hg _=>(o3 _ (by decide) g hg).1,(h.kids.keeps k fun g hg=>(o3 _ (by decide) g hg).2).mono' fun g hg _=>(o3 _ (by decide) g hg).1,
  (h.words.keeps k fun g hg=>(o3 _ (by decide) g hg).2).mono' fun g hg _=>(o3 _ (by decide) g hg).1⟩
theorem E6.turnTree(h:E6 F lab vo bk bx bt bc bw b s w){F':Nat→Prop}{ss:List Dc.CS}{ids:Off.Bid→Option Int}{f:Dc.AB}{ch:List Off.Bid}(k:Aa (fun g=>lab g=some .tree) w w')(hx:EH F' bt ss ids f ch w')(hF:∀g,F' g→lab g=some .tree∨w.heap.size≤g):
  E6 (Bv F w) (Ee lab .tree w.heap.size w'.heap.size) vo bk bx bt bc bw b {s with ss:=ss,ids:=ids,f:=f,ch:=ch} w':=by
 obtain⟨_,o2,o3,o4⟩:=h.others k
 exact⟨o2,k.heap h.cells (o3 _ (by decide) _ h.self).2,(o3 _ (by decide) _ h.self).1,(h.ops.keeps k fun g hg=>(o3 _ (by decide) g hg).2).mono fun g hg _=>(o3 _ (by decide) g hg).1,(o3 _ (by decide) _ h.kindsL).1,h.kinds.keeps k (o3 _ (by decide) _ h.kindsL).2,
  (h.tx.keeps k fun g hg=>(o3 _ (by decide) g hg).2).mono fun g hg _=>(o3 _ (by decide) g hg).1,hx.mono fun g hg hl=>o4 g (hF g hg) hl,(h.kids.keeps k fun g hg=>(o3 _ (by decide) g hg).2).mono' fun g hg _=>(o3 _ (by decide) g hg).1,
  (h.words.keeps k fun g hg=>(o3 _ (by decide) g hg).2).mono' fun g hg _=>(o3 _ (by decide) g hg).1⟩
theorem E6.turnKids(h:E6 F lab vo bk bx bt bc bw b s w){f:Dc.AB}{L:Dc.CZ}(k:Aa (fun g=>lab g=some .kids) w w')(hx:Di (Bv (fun g=>lab g=some .kids) w) bc f L w'):
  E6 (Bv F w) (Ee lab .kids w.heap.size w'.heap.size) vo bk bx bt bc bw b {s with g:=f,L:=L} w':=by
 obtain⟨_,o2,o3,o4⟩:=h.others k
 exact⟨o2,k.heap h.cells (o3 _ (by decide) _ h.self).2,(o3 _ (by decide) _ h.self).1,(h.ops.keeps k fun g hg=>(o3 _ (by decide) g hg).2).mono fun g hg _=>(o3 _ (by decide) g hg).1,(o3 _ (by decide) _ h.kindsL).1,h.kinds.keeps k (o3 _ (by decide) _ h.kindsL).2,
  (h.tx.keeps k fun g hg=>(o3 _ (by decide) g hg).2).mono fun g hg _=>(o3 _ (by decide) g hg).1,(h.tree.keeps k fun g hg=>(o3 _ (by decide) g hg).2).mono fun g hg _=>(o3 _ (by decide) g hg).1,hx.mono' o4,
  (h.words.keeps k fun g hg=>(o3 _ (by decide) g hg).2).mono' fun g hg _=>(o3 _ (by decide) g hg).1⟩
theorem E6.turnWords(h:E6 F lab vo bk bx bt bc bw b s w){g:Dc.FM}(k:Aa (fun g=>lab g=some .words) w w')(hx:DJ (fun g=>lab g=some .words) bw g w'):
  E6 (Bv F w) (Ee lab .words w.heap.size w'.heap.size) vo bk bx bt bc bw b {s with words:=g} w':=by
 obtain⟨_,o2,o3,o4⟩:=h.others k
 exact⟨o2,k.heap h.cells (o3 _ (by decide) _ h.self).2,(o3 _ (by decide) _ h.self).1,(h.ops.keeps k fun g hg=>(o3 _ (by decide) g hg).2).mono fun g hg _=>(o3 _ (by decide) g hg).1,(o3 _ (by decide) _ h.kindsL).1,h.kinds.keeps k (o3 _ (by decide) _ h.kindsL).2,
  (h.tx.keeps k fun g hg=>(o3 _ (by decide) g hg).2).mono fun g hg _=>(o3 _ (by decide) g hg).1,(h.tree.keeps k fun g hg=>(o3 _ (by decide) g hg).2).mono fun g hg _=>(o3 _ (by decide) g hg).1,(h.kids.keeps k fun g hg=>(o3 _ (by decide) g hg).2).mono' fun g hg _=>(o3 _ (by decide) g hg).1,
  hx.mono' fun g hg hl=>o4 g (.inl hg) hl⟩
theorem E6.turnKinds(h:E6 F lab vo bk bx bt bc bw b s w){g:Off.Bid→Option Int}(k:Aa (fun g=>lab g=some .kinds) w w')(hx:A8 idV GR bk g w'):
  E6 (Bv F w) (Ee lab .kinds w.heap.size w'.heap.size) vo bk bx bt bc bw b {s with kinds:=g} w':=by
 obtain⟨_,o2,o3,o4⟩:=h.others k
 exact⟨o2,k.heap h.cells (o3 _ (by decide) _ h.self).2,(o3 _ (by decide) _ h.self).1,(h.ops.keeps k fun g hg=>(o3 _ (by decide) g hg).2).mono fun g hg _=>(o3 _ (by decide) g hg).1,o4 bk (.inl h.kindsL) (AK (h.own bk (by rw[h.kindsL];simp)).2 k.size),hx,
  (h.tx.keeps k fun g hg=>(o3 _ (by decide) g hg).2).mono fun g hg _=>(o3 _ (by decide) g hg).1,(h.tree.keeps k fun g hg=>(o3 _ (by decide) g hg).2).mono fun g hg _=>(o3 _ (by decide) g hg).1,(h.kids.keeps k fun g hg=>(o3 _ (by decide) g hg).2).mono' fun g hg _=>(o3 _ (by decide) g hg).1,
  (h.words.keeps k fun g hg=>(o3 _ (by decide) g hg).2).mono' fun g hg _=>(o3 _ (by decide) g hg).1⟩
end
end
section
open Go.RowKit
attribute [local go_sem ↓] Go.wp_at_zero Go.wp_at_succ
def BM(r:Bool)(w:World)(e:Ending)(w':World):Prop:=e= .returned (.bool r)∧Aa No w w'
theorem Ou{bm:Nat}{f:Off.Bid→Option Int}{w:World}(h:A8 idV GR bm f w)(R N:Int)(c:Bool):
  (Instr.lookup 43 (.map (some bm)) (.agg #[.int .i64 R,.int .i64 N]) c).run Tryz.prog w= .ok (if c then .tuple #[.int .i64 ((f ⟨R,N⟩).getD 0),.bool (f ⟨R,N⟩).isSome]else .int .i64 ((f ⟨R,N⟩).getD 0)) w:=by
 rw[h.look (z:=GR 0) Eh Tryz.underlying43 Rx ⟨R,N⟩ c]
 cases f ⟨R,N⟩<;>rfl
theorem Nj{F:Nat→Prop}{b:Nat}{s:DSt}{w:World}(h:Eu F b s w)(a:Off.Bid):
  Calls Tryz.prog 22 #[.pointer (some ⟨b,0,none⟩),idV a] w (BM (s.kinds a).isSome w):=by
 obtain⟨lab,vo,bk,bx,bt,bc,bw,h⟩:=h
 obtain⟨R,N⟩:=a
 have HL:=Hx (fun W (k:Aa No w W)=>Ou (h.kinds.keeps k id) R N true)
 simp only[if_true]at HL
 have hb:=h.cells
 generalize (s.kinds ⟨R,N⟩).isSome=r at HL⊢
 generalize (s.kinds ⟨R,N⟩).getD 0=v at HL
 clear h
 go_enter Tryz.func22,Tryz.ntmps22
 go_upto_region 1 with(fail)
 have k0:Aa No w (w.alloc (.cells #[.int .i64 R,.int .i64 N] 24)):=(Aa.refl No w).alloc _
 have hA:=Nx w (.cells #[.int .i64 R,.int .i64 N] 24)
 generalize w.alloc (.cells #[.int .i64 R,.int .i64 N] 24)=w1 at k0 hA⊢
 obtain⟨A,eA⟩:∃A,A=w.heap.size:=⟨_,rfl⟩
 rw[←eA]at hA⊢
 clear eA
 have z1:=Ex (Cx (k0.heap hb id) 1)
 have z2:=Ex (Cx hA 0)
 have z3:=Ex (Cx hA 1)
 have lk:=fun d os=>HL.out _ (k0.trans (Ag w1 d os))
 refine wp_region_quiet_below Rx Rx ?_
 repeat(quiet_step(fail))
 refine wpQuiet_nil ?_
 intro _ hw'
 obtain⟨⟨dq,osq⟩,hw''⟩:=hw'
 subst hw''
 have k2:Aa No w1 (Sort.grow (redrawn w1 dq) osq):=Ag w1 dq osq
 clear z1 z2 z3 lk
 generalize Sort.grow (redrawn w1 dq) osq=w2 at k2⊢
 go_wp2_with fail
 go_ret
 exact⟨rfl,k0.trans k2⟩
def FQ(f:Off.Bid→Option Int)(b:Off.Bid):Bool:=decide (b= .z)||decide (b= .t)||decide (f b=some 1)||decide (f b=some 5)
theorem VA(f:Off.Bid→Option Int)(b:Off.Bid):(decide (f b=some 1)||decide (f b=some 5))=(decide ((f b).getD 0=1)||decide ((f b).getD 0=5)):=by
 cases f b<;>simp
theorem J9{F:Nat→Prop}{b:Nat}{s:DSt}{w:World}(h:Eu F b s w)(hE:Env w)(a:Off.Bid):
  Calls Tryz.prog 25 #[.pointer (some ⟨b,0,none⟩),idV a] w (BM (FQ s.kinds a) w):=by
 obtain⟨lab,vo,bk,bx,bt,bc,bw,h⟩:=h
 obtain⟨R,N⟩:=a
 have HL:=Hx (fun W (k:Aa No w W)=>Ou (h.kinds.keeps k id) R N false)
 simp only[if_false,Gm]at HL
 have hb:=h.cells
 have hr:FQ s.kinds ⟨R,N⟩=(decide ((⟨R,N⟩:Off.Bid)= .z)||decide ((⟨R,N⟩:Off.Bid)= .t)||(decide ((s.kinds ⟨R,N⟩).getD 0=1)||decide ((s.kinds ⟨R,N⟩).getD 0=5))):=by
  unfold FQ;rw[Bool.or_assoc,VA]
 rw[hr]
 generalize (s.kinds ⟨R,N⟩).getD 0=v at HL⊢
 have HPOST:Hid (∀w',Aa No w w'→BM (decide ((⟨R,N⟩:Off.Bid)= .z)||decide ((⟨R,N⟩:Off.Bid)= .t)||(decide (v=1)||decide (v=5))) w (.returned (.bool (decide ((⟨R,N⟩:Off.Bid)= .z)||decide ((⟨R,N⟩:Off.Bid)= .t)||(decide (v=1)||decide (v=5))))) w'):=Hx fun w' k=>⟨rfl,k⟩
 generalize BM (decide ((⟨R,N⟩:Off.Bid)= .z)||decide ((⟨R,N⟩:Off.Bid)= .t)||(decide (v=1)||decide (v=5))) w=post at HPOST⊢
 clear h hr
 have r0:=hE.root0
 have r1:=hE.root1
 have t0:=hE.trash0
 have t1:=hE.trash1
 have hz0:0<w.heap.size:=by have:=hE.size;omega
 have hz1:1<w.heap.size:=by have:=hE.size;omega
 by_cases hq:(⟨R,N⟩:Off.Bid)= .z
 ·have hq':=hq
  simp only[Off.Bid.z,Off.Bid.mk.injEq]at hq'
  obtain⟨rfl,rfl⟩:=hq'
  simp only[hq,decide_true,Bool.true_or]at HPOST
  clear hq
  go_enter Tryz.func25,Tryz.ntmps25
  go_wp2_with fail
  exact HPOST.out _ Kx
 ·by_cases hq2:(⟨R,N⟩:Off.Bid)= .t
  ·have hq':=hq2
   simp only[Off.Bid.t,Off.Bid.mk.injEq]at hq'
   obtain⟨rfl,rfl⟩:=hq'
   simp only[hq2,decide_true,Bool.true_or,Bool.or_true]at HPOST
   clear hq hq2
   go_enter Tryz.func25,Tryz.ntmps25
   go_wp2_with fail
   exact HPOST.out _ Kx
  ·simp only[hq,hq2,decide_false,Bool.false_or]at HPOST
   have hd:(¬R=0∧¬R=1)∨(R=1∧¬N=0)∨(R=0∧¬N=0):=by
    simp only[Off.Bid.z,Off.Bid.t,Off.Bid.mk.injEq]at hq hq2
    omega
   clear hq hq2
   rcases hd with⟨d1,d2⟩|⟨rfl,d1⟩|⟨rfl,d1⟩
   ·have k0:Aa No w (w.alloc (.cells #[.int .i64 R,.int .i64 N] 24)):=(Aa.refl No w).alloc _
    have hA:=Nx w (.cells #[.int .i64 R,.int .i64 N] 24)
    go_enter Tryz.func25,Tryz.ntmps25
    go_upto_region 3 with(fail)
    clear d1 d2 r0 r1 t0 t1 hz0 hz1
    generalize w.alloc (.cells #[.int .i64 R,.int .i64 N] 24)=w1 at k0 hA⊢
    obtain⟨A,eA⟩:∃A,A=w.heap.size:=⟨_,rfl⟩
    rw[←eA]at hA⊢
    clear eA
    have z1:=Ex (Cx (k0.heap hb id) 1)
    have z2:=Ex (Cx hA 0)
    have z3:=Ex (Cx hA 1)
    have lk:=fun d os=>HL.out _ (k0.trans (Ag w1 d os))
    refine wp_region_quiet_below Rx Rx ?_
    repeat(quiet_step(fail))
    refine wpQuiet_nil ?_
    intro _ hw'
    obtain⟨⟨dq,osq⟩,hw''⟩:=hw'
    subst hw''
    have k2:Aa No w1 (Sort.grow (redrawn w1 dq) osq):=Ag w1 dq osq
    clear z1 z2 z3 lk
    generalize Sort.grow (redrawn w1 dq) osq=w2 at k2⊢
    have k02:=k0.trans k2
    by_cases h1:v=1
    ·subst h1
     go_wp2_with fail
     exact HPOST.out _ k02
    ·by_cases h5:v=5
     ·subst h5
      go_wp2_with fail
      exact HPOST.out _ k02
     ·have b1:(v==1)=false:=by simp[h1]
      have b5:(v==5)=false:=by simp[h5]
      simp only[h1,h5,decide_false,Bool.or_false]at HPOST
      go_wp2_with fail
      exact HPOST.out _ k02
   ·have k0:Aa No w (w.alloc (.cells #[.int .i64 1,.int .i64 N] 24)):=(Aa.refl No w).alloc _
    have hA:=Nx w (.cells #[.int .i64 1,.int .i64 N] 24)
    go_enter Tryz.func25,Tryz.ntmps25
    go_upto_region 3 with(fail)
    clear d1 r0 r1 t0 t1 hz0 hz1
    generalize w.alloc (.cells #[.int .i64 1,.int .i64 N] 24)=w1 at k0 hA⊢
    obtain⟨A,eA⟩:∃A,A=w.heap.size:=⟨_,rfl⟩
    rw[←eA]at hA⊢
    clear eA
    have z1:=Ex (Cx (k0.heap hb id) 1)
    have z2:=Ex (Cx hA 0)
    have z3:=Ex (Cx hA 1)
    have lk:=fun d os=>HL.out _ (k0.trans (Ag w1 d os))
    refine wp_region_quiet_below Rx Rx ?_
    repeat(quiet_step(fail))
    refine wpQuiet_nil ?_
    intro _ hw'
    obtain⟨⟨dq,osq⟩,hw''⟩:=hw'
    subst hw''
    have k2:Aa No w1 (Sort.grow (redrawn w1 dq) osq):=Ag w1 dq osq
    clear z1 z2 z3 lk
    generalize Sort.grow (redrawn w1 dq) osq=w2 at k2⊢
    have k02:=k0.trans k2
    by_cases h1:v=1
    ·subst h1
     go_wp2_with fail
     exact HPOST.out _ k02
    ·by_cases h5:v=5
     ·subst h5
      go_wp2_with fail
      exact HPOST.out _ k02
     ·have b1:(v==1)=false:=by simp[h1]
      have b5:(v==5)=false:=by simp[h5]
      simp only[h1,h5,decide_false,Bool.or_false]at HPOST
      go_wp2_with fail
      exact HPOST.out _ k02
   ·have k0:Aa No w (w.alloc (.cells #[.int .i64 0,.int .i64 N] 24)):=(Aa.refl No w).alloc _
    have hA:=Nx w (.cells #[.int .i64 0,.int .i64 N] 24)
    go_enter Tryz.func25,Tryz.ntmps25
    go_upto_region 3 with(fail)
    clear d1 r0 r1 t0 t1 hz0 hz1
    generalize w.alloc (.cells #[.int .i64 0,.int .i64 N] 24)=w1 at k0 hA⊢
    obtain⟨A,eA⟩:∃A,A=w.heap.size:=⟨_,rfl⟩
    rw[←eA]at hA⊢
    clear eA
    have z1:=Ex (Cx (k0.heap hb id) 1)
    have z2:=Ex (Cx hA 0)
    have z3:=Ex (Cx hA 1)
    have lk:=fun d os=>HL.out _ (k0.trans (Ag w1 d os))
    refine wp_region_quiet_below Rx Rx ?_
    repeat(quiet_step(fail))
    refine wpQuiet_nil ?_
    intro _ hw'
    obtain⟨⟨dq,osq⟩,hw''⟩:=hw'
    subst hw''
    have k2:Aa No w1 (Sort.grow (redrawn w1 dq) osq):=Ag w1 dq osq
    clear z1 z2 z3 lk
    generalize Sort.grow (redrawn w1 dq) osq=w2 at k2⊢
    have k02:=k0.trans k2
    by_cases h1:v=1
    ·subst h1
     go_wp2_with fail
     exact HPOST.out _ k02
    ·by_cases h5:v=5
     ·subst h5
      go_wp2_with fail
      exact HPOST.out _ k02
     ·have b1:(v==1)=false:=by simp[h1]
      have b5:(v==5)=false:=by simp[h5]
      simp only[h1,h5,decide_false,Bool.or_false]at HPOST
      go_wp2_with fail
      exact HPOST.out _ k02
end
end Go.Proofs.YthfjefcljeamgaaGreatDoor
