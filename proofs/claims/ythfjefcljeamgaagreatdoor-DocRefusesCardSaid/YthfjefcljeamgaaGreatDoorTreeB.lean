/- joined: The tree of moves: what lies on the heap; Below, Place, each by its contract. A step of the tree undone and done again. -/
import Derived.Test.YthfjefcljeamgaaGreatDoorOpE
import Derived.Deep.LoopGhost
import Derived.StillTailTactics
namespace Go.Proofs.YthfjefcljeamgaaGreatDoor
set_option maxRecDepth 100000
set_option maxHeartbeats 4000000
section
open Go.RowKit
attribute [local go_sem ↓] Go.wp_at_zero Go.wp_at_succ
@[reducible] def GR(n:Int):Value:= .int .i64 n
def OT(F:Nat→Prop)(v:Value):Prop:=∀g,v.ownBlock=some g→F g
/-- the block b is a tree: its steps ss, the moves ids that were handed in, the places f, the changed blocks ch -/
def EH(F:Nat→Prop)(b:Nat)(ss:List Dc.CS)(ids:Off.Bid→Option Int)(f:Dc.AB)(ch:List Off.Bid)(w:World):Prop:=
 ∃vs bi bp vc,w.heap[b]? =some (.cells #[vs,.map (some bi),.map (some bp),vc] 194 (0,0))∧Aq 265 14 Av vs ss w∧A8 idV GR bi ids w∧A8 idV Bt bp f w∧
  Aq 24 2 Bf vc ch w∧F b∧F bi∧F bp∧OT F vs∧OT F vc∧bi≠bp
theorem EH.keeps{F S:Nat→Prop}{b:Nat}{ss:List Dc.CS}{ids:Off.Bid→Option Int}{f:Dc.AB}{ch:List Off.Bid}{w w':World}(h:EH F b ss ids f ch w)(k:Aa S w w')(hn:∀g,F g→¬S g):EH F b ss ids f ch w':=by
 obtain⟨vs,bi,bp,vc,h1,h2,h3,h4,h5,f1,f2,f3,f4,f5,f6⟩:=h
 exact⟨vs,bi,bp,vc,k.heap h1 (hn _ f1),h2.keeps k (fun g hg=>hn g (f4 g hg)),h3.keeps k (hn _ f2),h4.keeps k (hn _ f3),h5.keeps k (fun g hg=>hn g (f5 g hg)),f1,f2,f3,f4,f5,f6⟩
theorem EH.no{F:Nat→Prop}{b:Nat}{ss:List Dc.CS}{ids:Off.Bid→Option Int}{f:Dc.AB}{ch:List Off.Bid}{w w':World}(h:EH F b ss ids f ch w)(k:Aa No w w'):EH F b ss ids f ch w':=h.keeps k fun _ _ e=>e
theorem Ur{bp:Nat}{f:Dc.AB}{w:World}(h:A8 idV Bt bp f w)(R N:Int)(c:Bool):
  (Instr.lookup 191 (.map (some bp)) (.agg #[.int .i64 R,.int .i64 N]) c).run Tryz.prog w=
   .ok (if c then .tuple #[((f ⟨R,N⟩).map Bt).getD (Bt .z),.bool (f ⟨R,N⟩).isSome]else((f ⟨R,N⟩).map Bt).getD (Bt .z)) w:=
 h.look Eh Tryz.underlying191 Rx ⟨R,N⟩ c
@[reducible] def D6(p:Dc.Dt):Array Value:= #[.int .i64 p.parent.R,.int .i64 p.parent.N,.string ⟨p.key.toArray⟩]
def It(g:Nat)(p:Dc.Dt)(w:World):Prop:=w.heap[g]? =some (.cells (D6 p) 45 (0,0))
def pl(f:Dc.AB)(x:Off.Bid):Dc.Dt:=(f x).getD .z
theorem DN{bp:Nat}{f:Dc.AB}{w:World}(h:A8 idV Bt bp f w)(R N:Int):
  (Instr.lookup 191 (.map (some bp)) (.agg #[.int .i64 R,.int .i64 N]) true).run Tryz.prog w= .ok (.tuple #[Bt (pl f ⟨R,N⟩),.bool (f ⟨R,N⟩).isSome]) w:=by
 rw[Ur h R N true]
 unfold pl
 cases f ⟨R,N⟩<;>rfl
/-- what the walks over a tree's places lean on: in every world that has only grown -/
def WP(w1:World)(b bp:Nat)(vs:Value)(f:Dc.AB):Prop:=
 ∀W,Aa No w1 W→Aa No w1 W∧W.cell? ⟨b,0,none⟩=some vs∧W.cell? ⟨b,2,none⟩=some (.map (some bp))∧∀R N,(Instr.lookup 191 (.map (some bp)) (.agg #[.int .i64 R,.int .i64 N]) true).run Tryz.prog W= .ok (.tuple #[Bt (pl f ⟨R,N⟩),.bool (f ⟨R,N⟩).isSome]) W
theorem UV(b bi bp:Nat)(vs vc:Value)(f:Dc.AB)(rk:Off.Bid→Nat)(hr:Dc.Ce f rk)(R N R' N':Int)(w:World)
  (h1:w.heap[b]? =some (.cells #[vs,.map (some bi),.map (some bp),vc] 194 (0,0)))(h4:A8 idV Bt bp f w):
  Calls Tryz.prog 76 #[.pointer (some ⟨b,0,none⟩),.agg #[.int .i64 R,.int .i64 N],.agg #[.int .i64 R',.int .i64 N']] w (Bj (Dc.below f ⟨R,N⟩ ⟨R',N'⟩) w):=by
 have HR:=Hx hr
 clear hr
 have hres:=Hx (rfl:Dc.below f ⟨R,N⟩ ⟨R',N'⟩=Dc.below f ⟨R,N⟩ ⟨R',N'⟩)
 generalize hq:Dc.below f ⟨R,N⟩ ⟨R',N'⟩=q
 have HQ:=Hx hq
 clear hq hres
 go_enter Tryz.func76,Tryz.ntmps76
 go_upto_region 1 with(fail)
 have k0:Aa No w ((w.alloc (.cells #[.int .i64 R,.int .i64 N] 24)).alloc (.cells #[.int .i64 R',.int .i64 N'] 24)):=Kx
 have hA:=Ab (Nx w (.cells #[.int .i64 R,.int .i64 N] 24)) (.cells #[.int .i64 R',.int .i64 N'] 24)
 have hB:=Nx (w.alloc (.cells #[.int .i64 R,.int .i64 N] 24)) (.cells #[.int .i64 R',.int .i64 N'] 24)
 rw[World.size_alloc]at hB
 generalize (w.alloc (.cells #[.int .i64 R,.int .i64 N] 24)).alloc (.cells #[.int .i64 R',.int .i64 N'] 24)=w1 at k0 hA hB⊢
 have HF:Hid (WP w1 b bp vs f):=Hx fun W k=>
  ⟨k,Cx (k.heap (k0.heap h1 id) id) 0,Cx (k.heap (k0.heap h1 id) id) 2,fun R N=>DN (h4.keeps (k0.trans k) id) R N⟩
 have HA:=Hx hA
 have HB:=Hx hB
 obtain⟨A,eA⟩:∃A,A=w.heap.size:=⟨_,rfl⟩
 rw[←eA]at HA HB⊢
 clear h1 h4 eA hA hB
 go_cut[7,8] (fun s7 s8 wx=>∃g:Nat,s7= .pointer (some ⟨g,0,none⟩)∧s8= .bool (f ⟨R,N⟩).isSome∧It g (pl f ⟨R,N⟩) wx∧Aa No w1 wx)
 case first=>
  have HS:Hid (∀W,Aa No w1 W→Aa No w1 W∧W.cell? ⟨b,0,none⟩=some vs∧W.cell? ⟨b,2,none⟩=some (.map (some bp))∧W.cell? ⟨A,0,none⟩=some (.int .i64 R)∧W.cell? ⟨A,1,none⟩=some (.int .i64 N)∧
    (Instr.lookup 191 (.map (some bp)) (.agg #[.int .i64 R,.int .i64 N]) true).run Tryz.prog W= .ok (.tuple #[Bt (pl f ⟨R,N⟩),.bool (f ⟨R,N⟩).isSome]) W):=Hx fun W k=>
   ⟨k,(HF.out W k).2.1,(HF.out W k).2.2.1,Cx (k.heap HA.out id) 0,Cx (k.heap HA.out id) 1,(HF.out W k).2.2.2 R N⟩
  obtain⟨_,s1,s2,s3,s4,s5⟩:=HS.out w1 (Aa.refl _ _)
  generalize pl f ⟨R,N⟩=p at*
  generalize (f ⟨R,N⟩).isSome=ok at*
  go_region_held3(fun W=>Aa No w1 W∧W.cell? ⟨b,0,none⟩=some vs∧W.cell? ⟨b,2,none⟩=some (.map (some bp))∧W.cell? ⟨A,0,none⟩=some (.int .i64 R)∧W.cell? ⟨A,1,none⟩=some (.int .i64 N)∧
   (Instr.lookup 191 (.map (some bp)) (.agg #[.int .i64 R,.int .i64 N]) true).run Tryz.prog W= .ok (.tuple #[Bt p,.bool ok]) W) (exact HS.out _ Kx) (fail)
  all_goals
   go_wp2_with fail
   go_meet
   exact⟨w1.heap.size,rfl,rfl,by first|exact Nx w1 _|exact Nx w1.drew _,Kx⟩
 case rest=>
  obtain⟨g,rfl,rfl,hg,kc⟩:=hcut
  go_wp2_with fail
  go_loopg [7,8] (rk ⟨R,N⟩) (fun kx s7 s8 wr=>∃(g:Nat) (x:Off.Bid),s7= .pointer (some ⟨g,0,none⟩)∧s8= .bool (f x).isSome∧It g (pl f x) wr∧Aa No w1 wr∧Dc.below f x ⟨R',N'⟩=q∧rk x≤kx)
  case atStart=>exact⟨g,⟨R,N⟩,rfl,rfl,hg,kc,HQ.out,Ac _⟩
  case round=>
   obtain⟨g',x,rfl,rfl,hg',kr,hqx,hrx⟩:=hrel
   clear hg kc
   cases hx:f x with
   |none=>
    have hq':q=false:=by rw[←hqx];exact Dc.Nn hx
    subst hq'
    clear hqx HQ HF
    go_wp2_with fail
    go_ret
    exact⟨rfl,k0.trans kr⟩
   |some p=>
    have hpl:pl f x=p:=by unfold pl;rw[hx];rfl
    rw[hpl]at hg'
    have hstep:=Dc.TD (b:=⟨R',N'⟩) hx
    rw[hqx]at hstep
    have hrk:=HR.out x p hx
    clear hqx hpl hx
    have g0:=Cx hg' 0
    have g1:=Cx hg' 1
    have g2:=Cx hg' 2
    have b0:=Cx (kr.heap HB.out id) 0
    have b1:=Cx (kr.heap HB.out id) 1
    by_cases hpp:p.parent=⟨R',N'⟩
    ·have e1:p.parent.R=R':=by rw[hpp]
     have e2:p.parent.N=N':=by rw[hpp]
     have hq':q=true:=by rw[hstep];simp[hpp]
     subst hq'
     clear hstep HQ HF
     go_wp2_with fail
     go_ret
     exact⟨rfl,k0.trans kr⟩
    ·have hq':Dc.below f p.parent ⟨R',N'⟩=q:=by rw[hstep];simp[hpp]
     obtain⟨⟨pR,pN⟩,pkey⟩:=p
     have e1:¬(pR=R'∧pN=N'):=fun h=>hpp (by obtain⟨rfl,rfl⟩:=h;rfl)
     clear hstep hpp HQ
     have k1:Aa No w1 (wr.alloc (.cells (D6 ⟨⟨pR,pN⟩,pkey⟩) 45 (0,0))):=Aa.alloc kr _
     have h2:=Nx wr (.cells (D6 ⟨⟨pR,pN⟩,pkey⟩) 45 (0,0))
     have hle:w1.heap.size≤wr.heap.size:=kr.size
     go_wp2_with fail
     all_goals
      first|(have e0:pR=R':= ‹pR=R'›;subst e0)|skip
      clear hg' g0 g1 g2 b0 b1 kr
      generalize wr.alloc _=w2 at k1 h2⊢
      have kd:=k1.drew
      have h3:w2.drew.heap[wr.heap.size]? =some (.cells (D6 ⟨⟨pR,pN⟩,pkey⟩) 45 (0,0)):=h2
      generalize hw3:w2.drew=w3 at kd h3⊢
      have s1:=(HF.out w3 kd).2.2.1
      have s2:=Cx h3
      have s3:=Fx h3
      have s4:=(HF.out w3 kd).2.2.2 pR pN
      go_region
      have kf:Aa No w1 (((w3.setCell ⟨wr.heap.size,0,none⟩ (.int .i64 (pl f ⟨pR,pN⟩).parent.R)).setCell ⟨wr.heap.size,1,none⟩ (.int .i64 (pl f ⟨pR,pN⟩).parent.N)).setCell ⟨wr.heap.size,2,none⟩ (.string ⟨(pl f ⟨pR,pN⟩).key.toArray⟩)):=
       ((kd.setNew hle _).setNew hle _).setNew hle _
      have hf:=heap_set (heap_set (heap_set h3 0 (.int .i64 (pl f ⟨pR,pN⟩).parent.R)) 1 (.int .i64 (pl f ⟨pR,pN⟩).parent.N)) 2 (.string ⟨(pl f ⟨pR,pN⟩).key.toArray⟩)
      generalize ((w3.setCell ⟨wr.heap.size,0,none⟩ (.int .i64 (pl f ⟨pR,pN⟩).parent.R)).setCell ⟨wr.heap.size,1,none⟩ (.int .i64 (pl f ⟨pR,pN⟩).parent.N)).setCell ⟨wr.heap.size,2,none⟩ (.string ⟨(pl f ⟨pR,pN⟩).key.toArray⟩)=w4 at kf hf⊢
      go_wp2_with fail
      go_roundg (rk ⟨pR,pN⟩)
      case measure=>omega
      exact⟨wr.heap.size,⟨pR,pN⟩,rfl,rfl,hf,kf,hq',Ac _⟩
end
section
open Go.RowKit
attribute [local go_sem ↓] Go.wp_at_zero Go.wp_at_succ
def At2(a b:Nat):Nat→Prop:=fun k=>k=a∨k=b
def IQ(f:Dc.AB)(s:Dc.CS):Dc.AB:=if s.done then(if s.had then Db f s.m.block (some s.was)else Db f s.m.block none)else f
def VS(g bp o:Nat)(cur:Array Value)(f:Dc.AB)(w:World)(e:Ending)(w':World):Prop:=
 e= .returned (.tuple #[])∧w'.heap[g]? =some (.cells (cur.setIfInBounds (o+9) (.bool false)) 265 (0,0))∧A8 idV Bt bp f w'∧Aa (At2 g bp) w w'
/-- the cells of a step within its row -/
def Gk(cur:Array Value)(o:Nat)(s:Dc.CS):Prop:=∀q,q<14→cur[o+q]? =(Av s)[q]?
theorem U9(b g o bi bp:Nat)(vs vc:Value)(cur:Array Value)(s:Dc.CS)(f:Dc.AB)(w:World)
  (hb:w.heap[b]? =some (.cells #[vs,.map (some bi),.map (some bp),vc] 194 (0,0)))(hg:w.heap[g]? =some (.cells cur 265 (0,0)))
  (hc:Gk cur o s)(hf:A8 idV Bt bp f w)(hne:g≠bp):
  Calls Tryz.prog 170 #[.pointer (some ⟨b,0,none⟩),.pointer (some ⟨g,o,none⟩)] w (VS g bp o cur (IQ f s) w):=by
 have x2:=Cx hb 2
 have hcell:∀q,q<14→w.cell? ⟨g,o+q,none⟩=(Av s)[q]? :=fun q hq=>(Cx hg _).trans (hc q hq)
 have c4:w.cell? ⟨g,o+4,none⟩=some (.int .i64 s.m.block.R):=hcell 4 (by decide)
 have c5:w.cell? ⟨g,o+5,none⟩=some (.int .i64 s.m.block.N):=hcell 5 (by decide)
 have c9:w.cell? ⟨g,o+9,none⟩=some (.bool s.done):=hcell 9 (by decide)
 have c10:w.cell? ⟨g,o+10,none⟩=some (.int .i64 s.was.parent.R):=hcell 10 (by decide)
 have c11:w.cell? ⟨g,o+11,none⟩=some (.int .i64 s.was.parent.N):=hcell 11 (by decide)
 have c12:w.cell? ⟨g,o+12,none⟩=some (.string ⟨s.was.key.toArray⟩):=hcell 12 (by decide)
 have c13:w.cell? ⟨g,o+13,none⟩=some (.bool s.had):=hcell 13 (by decide)
 have u9:=Fx hg (o+9)
 clear hcell hc
 cases hd:s.done with
 |false=>
  have e:IQ f s=f:=by unfold IQ;rw[hd];rfl
  rw[e]
  rw[hd]at c9
  go_enter Tryz.func170,Tryz.ntmps170
  go_wp2
  go_end0
  exact⟨rfl,heap_set hg _ _,hf.setCell _ (Ne.symm hne),((Aa.refl _ w).setCell (fun _=> .inl rfl) _)⟩
 |true=>
  rw[hd]at c9
  cases hh:s.had with
  |true=>
   have e:IQ f s=Db f s.m.block (some s.was):=by unfold IQ;rw[hd,hh];rfl
   rw[e]
   rw[hh]at c13
   go_enter Tryz.func170,Tryz.ntmps170
   go_wp2
   go_still_tail 13,Rx
   change wpList _ _ _ _ _ w.drew
   have hfd:A8 idV Bt bp f w.drew:=hf.keeps (Aa.refl No w).drew id
   have hgd:w.drew.heap[g]? =some (.cells cur 265 (0,0)):=hg
   refine EJ rfl Eh Tryz.underlying191 hfd (.tmp 27) (.tmp 32) (.tmp 36) rfl rfl s.m.block rfl s.was rfl ?_
   intro w1 m1 k1 _
   have h1:=k1.heap hgd hne
   have y9:w1.cell? ⟨g,o+9,none⟩=some (.bool true):=(Cx h1 _).trans ((Cx hg _).symm.trans c9)
   have z9:=Fx h1 (o+9)
   clear x2 c4 c5 c9 c10 c11 c12 c13 u9
   go_wp2
   go_end0
   exact⟨rfl,heap_set h1 _ _,m1.setCell _ (Ne.symm hne),Aa.setCell ((Aa.refl _ w).drew.trans (k1.mono fun _ e _=> .inr e)) (fun _=> .inl rfl) _⟩
  |false=>
   have e:IQ f s=Db f s.m.block none:=by unfold IQ;rw[hd,hh];rfl
   rw[e]
   rw[hh]at c13
   go_enter Tryz.func170,Tryz.ntmps170
   go_wp2
   go_still_tail 9,Rx
   change wpList _ _ _ _ _ w.drew
   have hfd:A8 idV Bt bp f w.drew:=hf.keeps (Aa.refl No w).drew id
   have hgd:w.drew.heap[g]? =some (.cells cur 265 (0,0)):=hg
   refine N6 rfl Eh Tryz.underlying191 hfd (.tmp 7) (.tmp 12) rfl rfl s.m.block rfl ?_
   intro w1 m1 k1 _
   have h1:=k1.heap hgd hne
   have y9:w1.cell? ⟨g,o+9,none⟩=some (.bool true):=(Cx h1 _).trans ((Cx hg _).symm.trans c9)
   have z9:=Fx h1 (o+9)
   clear x2 c4 c5 c9 c10 c11 c12 c13 u9
   go_wp2
   go_end0
   exact⟨rfl,heap_set h1 _ _,m1.setCell _ (Ne.symm hne),Aa.setCell ((Aa.refl _ w).drew.trans (k1.mono fun _ e _=> .inr e)) (fun _=> .inl rfl) _⟩
noncomputable def GZ(f:Dc.AB)(s:Dc.CS):Dc.CS:=if Dc.Dl f s.m then{s with done:=true,was:=pl f s.m.block,had:=(f s.m.block).isSome}else s
def VU(g bp o:Nat)(cur:Array Value)(f:Dc.AB)(s:Dc.CS)(w:World)(e:Ending)(w':World):Prop:=
 e= .returned (.tuple #[])∧(∃cur',w'.heap[g]? =some (.cells cur' 265 (0,0))∧cur'.size=cur.size∧Gk cur' o s∧(∀j,(j<o∨o+14≤j)→cur'[j]? =cur[j]?))∧A8 idV Bt bp f w'∧Aa (At2 g bp) w w'
/-- the row holds another step in its place -/
def Et(g o:Nat)(cur:Array Value)(s:Dc.CS)(w w':World):Prop:=
 ∃cur',w'.heap[g]? =some (.cells cur' 265 (0,0))∧cur'.size=cur.size∧Gk cur' o s∧(∀j,(j<o∨o+14≤j)→cur'[j]? =cur[j]?)∧Aa (At1 g) w w'
theorem Gk.size{cur:Array Value}{o:Nat}{s:Dc.CS}(h:Gk cur o s):o+13<cur.size:=by
 have h1:cur[o+13]? =some (.bool s.had):=h 13 (by decide)
 exact(Array.getElem?_eq_some_iff.1 h1).1
theorem Gk.set{cur:Array Value}{o:Nat}{s s':Dc.CS}(h:Gk cur o s)(i:Nat)(hi:i<14)(v:Value)(hs:Av s'=(Av s).set i v):Gk (cur.setIfInBounds (o+i) v) o s':=by
 intro q hq
 have hz:=h.size
 rw[GA,hs,List.getElem?_set]
 by_cases e:i=q
 ·subst e
  rw[Ak rfl,Ak (by omega),Ak rfl,Ak (by show i<14;exact hi)]
 ·rw[Ae (by omega),Ae e]
  exact h q hq
theorem OZ{cur:Array Value}{o i:Nat}{v:Value}(hi:i<14)(j:Nat)(hj:j<o∨o+14≤j):(cur.setIfInBounds (o+i) v)[j]? =cur[j]? :=by
 rw[GA,Ae (by omega)]
theorem Et.set{g o:Nat}{cur:Array Value}{s s':Dc.CS}{w w':World}(h:Et g o cur s w w')(i:Nat)(hi:i<14)(v:Value)(hs:Av s'=(Av s).set i v):
  Et g o cur s' w (w'.setCell ⟨g,o+i,none⟩ v):=by
 obtain⟨c,h1,h2,h3,h4,h5⟩:=h
 exact⟨_,heap_set h1 _ _,by rw[Array.size_setIfInBounds,h2],h3.set i hi v hs,fun j hj=>(OZ hi j hj).trans (h4 j hj),h5.set1 _⟩
theorem Et.refl{g o:Nat}{cur:Array Value}{s:Dc.CS}{w:World}(h:w.heap[g]? =some (.cells cur 265 (0,0)))(hs:Gk cur o s):Et g o cur s w w:=
 ⟨cur,h,rfl,hs,fun _ _=>rfl,Aa.refl _ _⟩
theorem V2{g o:Nat}{cur:Array Value}{m:Dc.C2}{d h h':Bool}{a p:Dc.Dt}{w w':World}(h0:Et g o cur ⟨m,d,a,h⟩ w w'):
  Et g o cur ⟨m,d,p,h'⟩ w ((((w'.setCell ⟨g,o+10,none⟩ (.int .i64 p.parent.R)).setCell ⟨g,o+11,none⟩ (.int .i64 p.parent.N)).setCell ⟨g,o+12,none⟩ (.string ⟨p.key.toArray⟩)).setCell ⟨g,o+13,none⟩ (.bool h')):=
 Et.set (s:=⟨m,d,p,h⟩) (Et.set (s:=⟨m,d,⟨p.parent,a.key⟩,h⟩) (Et.set (s:=⟨m,d,⟨⟨p.parent.R,a.parent.N⟩,a.key⟩,h⟩) (h0.set 10 (by decide) _ rfl) 11 (by decide) _ rfl) 12 (by decide) _ rfl) 13 (by decide) _ rfl
theorem V1{g o:Nat}{cur:Array Value}{m:Dc.C2}{d h h':Bool}{a p:Dc.Dt}{w w':World}(h0:Et g o cur ⟨m,d,a,h⟩ w w'):
  Et g o cur ⟨m,d,p,h'⟩ w ((((w'.setCell ⟨g,o+13,none⟩ (.bool h')).setCell ⟨g,o+10,none⟩ (.int .i64 p.parent.R)).setCell ⟨g,o+11,none⟩ (.int .i64 p.parent.N)).setCell ⟨g,o+12,none⟩ (.string ⟨p.key.toArray⟩)):=
 Et.set (s:=⟨m,d,⟨p.parent,a.key⟩,h'⟩) (Et.set (s:=⟨m,d,⟨⟨p.parent.R,a.parent.N⟩,a.key⟩,h'⟩) (Et.set (s:=⟨m,d,a,h'⟩) (h0.set 13 (by decide) _ rfl) 10 (by decide) _ rfl) 11 (by decide) _ rfl) 12 (by decide) _ rfl
theorem Vn(b g o bi bp:Nat)(vs vc:Value)(cur:Array Value)(s:Dc.CS)(f:Dc.AB)(rk:Off.Bid→Nat)(hr:Dc.Ce f rk)(w:World)
  (hb:w.heap[b]? =some (.cells #[vs,.map (some bi),.map (some bp),vc] 194 (0,0)))(hg:w.heap[g]? =some (.cells cur 265 (0,0)))
  (hc:Gk cur o s)(hf:A8 idV Bt bp f w)(hne:g≠bp)(hbg:b≠g):
  Calls Tryz.prog 172 #[.pointer (some ⟨b,0,none⟩),.pointer (some ⟨g,o,none⟩)] w (VU g bp o cur (Dc.step f s.m) (GZ f s) w):=by
 have hcell:∀q,q<14→w.cell? ⟨g,o+q,none⟩=(Av s)[q]? :=fun q hq=>(Cx hg _).trans (hc q hq)
 have hB:=fun(W:World) (h1:W.heap[b]? =some (.cells #[vs,.map (some bi),.map (some bp),vc] 194 (0,0))) (h4:A8 idV Bt bp f W)=>
  UV b bi bp vs vc f rk hr s.m.parent.R s.m.parent.N s.m.block.R s.m.block.N W h1 h4
 have b4:∀d os,(Sort.grow (redrawn w d) os).cell? ⟨g,o+4,none⟩=some (.int .i64 s.m.block.R):=Ex (hcell 4 (by decide))
 have b5:∀d os,(Sort.grow (redrawn w d) os).cell? ⟨g,o+5,none⟩=some (.int .i64 s.m.block.N):=Ex (hcell 5 (by decide))
 have b6:∀d os,(Sort.grow (redrawn w d) os).cell? ⟨g,o+6,none⟩=some (.int .i64 s.m.parent.R):=Ex (hcell 6 (by decide))
 have b7:∀d os,(Sort.grow (redrawn w d) os).cell? ⟨g,o+7,none⟩=some (.int .i64 s.m.parent.N):=Ex (hcell 7 (by decide))
 have hcall:∀d os,Calls Tryz.prog 76 #[.pointer (some ⟨b,0,none⟩),.agg #[.int .i64 s.m.parent.R,.int .i64 s.m.parent.N],.agg #[.int .i64 s.m.block.R,.int .i64 s.m.block.N]] (Sort.grow (redrawn w d) os)
   fun e w''=>e= .returned (.bool (Dc.below f s.m.parent s.m.block))∧∃p:Regrown,w''=Sort.grow (redrawn w p.d) p.os:=fun d os=>
  BV (hB _ ((Ag (S:=No) w d os).heap hb id) (hf.keeps (Ag (S:=No) w d os) id))
 clear hB
 by_cases hpb:s.m.parent=s.m.block
 ·have ha:Dc.Dl f s.m=false:=by unfold Dc.Dl;simp[hpb]
  have e1:GZ f s=s:=by unfold GZ;rw[ha];rfl
  have e2:Dc.step f s.m=f:=by unfold Dc.step;rw[ha];rfl
  rw[e1,e2]
  have d1:s.m.parent.R=s.m.block.R:=by rw[hpb]
  have d2:s.m.parent.N=s.m.block.N:=by rw[hpb]
  have c4:w.cell? ⟨g,o+4,none⟩=some (.int .i64 s.m.block.R):=hcell 4 (by decide)
  have c5:w.cell? ⟨g,o+5,none⟩=some (.int .i64 s.m.block.N):=hcell 5 (by decide)
  have c6:w.cell? ⟨g,o+6,none⟩=some (.int .i64 s.m.block.R):=d1▸hcell 6 (by decide)
  have c7:w.cell? ⟨g,o+7,none⟩=some (.int .i64 s.m.block.N):=d2▸hcell 7 (by decide)
  clear hcell hcall b4 b5 b6 b7 ha e1 e2
  go_enter Tryz.func172,Tryz.ntmps172
  go_wp2
  go_quiet (fail)
  go_wp2
  go_end0
  exact⟨rfl,⟨cur,hg,rfl,hc,fun _ _=>rfl⟩,hf.keeps ((Aa.refl No w).drewN nq) id,Kx⟩
 ·have hcase:(s.m.parent.R=s.m.block.R∧¬s.m.parent.N=s.m.block.N)∨¬s.m.parent.R=s.m.block.R:=by
   by_cases h1:s.m.parent.R=s.m.block.R
   ·exact .inl ⟨h1,fun h2=>hpb (by cases hp:s.m.parent;cases hq:s.m.block;rw[hp,hq]at h1 h2;dsimp only at h1 h2;rw[h1,h2])⟩
   ·exact .inr h1
  cases hbl:Dc.below f s.m.parent s.m.block with
  |true=>
   have ha:Dc.Dl f s.m=false:=by unfold Dc.Dl;simp[hbl]
   have e1:GZ f s=s:=by unfold GZ;rw[ha];rfl
   have e2:Dc.step f s.m=f:=by unfold Dc.step;rw[ha];rfl
   rw[e1,e2]
   rw[hbl]at hcall
   clear hcell ha e1 e2
   rcases hcase with⟨hR,hN⟩|hR
   all_goals
    first|rw[hR]at b6 hcall|skip
    go_enter Tryz.func172,Tryz.ntmps172
    go_wp2
    refine wp_region_quiet_below Rx Rx ?_
    repeat(quiet_step(exact hcall _ _))
    refine wpQuiet_nil ?_
    intro _ hw'
    obtain⟨⟨dq,osq⟩,hw''⟩:=hw'
    subst hw''
    go_wp2
    go_end0
    exact⟨rfl,⟨cur,(Ag (S:=No) w dq osq).heap hg id,rfl,hc,fun _ _=>rfl⟩,hf.keeps (Ag (S:=No) w dq osq) id,Ag _ _ _⟩
  |false=>
   have ha:Dc.Dl f s.m=true:=by unfold Dc.Dl;simp[hbl,hpb]
   have e1:GZ f s={s with done:=true,was:=pl f s.m.block,had:=(f s.m.block).isSome}:=by unfold GZ;rw[Ak ha]
   have e2:Dc.step f s.m=Db f s.m.block (some ⟨s.m.parent,s.m.key⟩):=by unfold Dc.step;rw[Ak ha];rfl
   rw[e1,e2]
   rw[hbl]at hcall
   clear hcell ha e1 e2
   rcases hcase with⟨hR,hN⟩|hR
   all_goals
    have HR:=Hx hR
    first|rw[hR]at b6 hcall|skip
    go_enter Tryz.func172,Tryz.ntmps172
    go_wp2
    refine wp_region_quiet_below Rx Rx ?_
    repeat(quiet_step(exact hcall _ _))
    refine wpQuiet_nil ?_
    intro _ hw'
    obtain⟨⟨dq,osq⟩,hw''⟩:=hw'
    subst hw''
    go_wp2
    have k0:Aa No w (Sort.grow (redrawn w dq) osq).drew:=(Ag w dq osq).drew
    generalize Sort.grow (redrawn w dq) osq=wz at k0⊢
    generalize hw0:wz.drew=w0 at k0
    clear b4 b5 b6 b7 hcall
    have hb0:=k0.heap hb id
    have hg0:=k0.heap hg id
    have hf0:=hf.keeps k0 id
    have t0:Et g o cur ⟨s.m,s.done,s.was,s.had⟩ w0 w0:=Et.refl hg0 hc
    have x2:=Cx hb0 2
    have cc:∀q,q<14→w0.cell? ⟨g,o+q,none⟩=(Av s)[q]? :=fun q hq=>(Cx hg0 _).trans (hc q hq)
    have c4:w0.cell? ⟨g,o+4,none⟩=some (.int .i64 s.m.block.R):=cc 4 (by decide)
    have c5:w0.cell? ⟨g,o+5,none⟩=some (.int .i64 s.m.block.N):=cc 5 (by decide)
    have c10:w0.cell? ⟨g,o+10,none⟩=some (.int .i64 s.was.parent.R):=cc 10 (by decide)
    have c11:w0.cell? ⟨g,o+11,none⟩=some (.int .i64 s.was.parent.N):=cc 11 (by decide)
    have c12:w0.cell? ⟨g,o+12,none⟩=some (.string ⟨s.was.key.toArray⟩):=cc 12 (by decide)
    have c13:w0.cell? ⟨g,o+13,none⟩=some (.bool s.had):=cc 13 (by decide)
    have u:=Fx hg0
    have lk:=DN hf0 s.m.block.R s.m.block.N
    clear cc
    go_region
    all_goals
     first
     |have t1:=V2 (p:=pl f s.m.block) (h':=(f s.m.block).isSome) t0
      generalize (((w0.setCell ⟨g,o+10,none⟩ (.int .i64 (pl f s.m.block).parent.R)).setCell ⟨g,o+11,none⟩ (.int .i64 (pl f s.m.block).parent.N)).setCell ⟨g,o+12,none⟩ (.string ⟨(pl f s.m.block).key.toArray⟩)).setCell ⟨g,o+13,none⟩ (.bool (f s.m.block).isSome)=w1 at t1⊢
     |have t1:=V1 (p:=pl f s.m.block) (h':=(f s.m.block).isSome) t0
      generalize (((w0.setCell ⟨g,o+13,none⟩ (.bool (f s.m.block).isSome)).setCell ⟨g,o+10,none⟩ (.int .i64 (pl f s.m.block).parent.R)).setCell ⟨g,o+11,none⟩ (.int .i64 (pl f s.m.block).parent.N)).setCell ⟨g,o+12,none⟩ (.string ⟨(pl f s.m.block).key.toArray⟩)=w1 at t1⊢
     clear t0
    all_goals
     obtain⟨cur1,hg1,hz1,hc1,ho1,k1⟩:=t1
     have hb1:=k1.heap hb0 hbg
     have hf1:=hf0.keeps k1 (Ne.symm hne)
     have k2:Aa (At2 g bp) w w1:=(k0.any (S:=At2 g bp)).trans (k1.mono fun _ e _=> .inl e)
     clear x2 c4 c5 c10 c11 c12 c13 u lk hb0 hg0 hf0 k0 hw0 hR k1
     have x2:=Cx hb1 2
     have cc:∀q,q<14→w1.cell? ⟨g,o+q,none⟩=(Av ⟨s.m,s.done,pl f s.m.block,(f s.m.block).isSome⟩)[q]? :=fun q hq=>(Cx hg1 _).trans (hc1 q hq)
     have c4:w1.cell? ⟨g,o+4,none⟩=some (.int .i64 s.m.block.R):=cc 4 (by decide)
     have c5:w1.cell? ⟨g,o+5,none⟩=some (.int .i64 s.m.block.N):=cc 5 (by decide)
     have c6:w1.cell? ⟨g,o+6,none⟩=some (.int .i64 s.m.parent.R):=cc 6 (by decide)
     have c7:w1.cell? ⟨g,o+7,none⟩=some (.int .i64 s.m.parent.N):=cc 7 (by decide)
     have c8:w1.cell? ⟨g,o+8,none⟩=some (.string ⟨s.m.key.toArray⟩):=cc 8 (by decide)
     have c9:w1.cell? ⟨g,o+9,none⟩=some (.bool s.done):=cc 9 (by decide)
     clear cc
     go_wp2_with fail
     go_still_tail 20,Rx
     change wpList _ _ _ _ _ w1.drew
     refine EJ rfl Eh Tryz.underlying191 (hf1.keeps (Aa.refl No w1).drew id) (.tmp 51) (.tmp 56) (.tmp 67) rfl rfl s.m.block rfl ⟨s.m.parent,s.m.key⟩ rfl ?_
     intro w2 m2 k3 _
     have hg2:=k3.heap (show w1.drew.heap[g]? =_ from hg1) hne
     have y9:w2.cell? ⟨g,o+9,none⟩=some (.bool s.done):=(Cx hg2 _).trans ((Cx hg1 _).symm.trans c9)
     have z9:=Fx hg2 (o+9)
     have kf:Aa (At2 g bp) w w2:=k2.drew.trans (k3.mono fun _ e _=> .inr e)
     clear x2 c4 c5 c6 c7 c8 c9
     go_wp2
     go_end0
     exact⟨rfl,⟨_,heap_set hg2 _ _,by rw[Array.size_setIfInBounds,hz1],hc1.set 9 (by decide) _ rfl,fun j hj=>(OZ (by decide) j hj).trans (ho1 j hj)⟩,m2.setCell _ (Ne.symm hne),kf.setCell (fun _=> .inl rfl) _⟩
end
end Go.Proofs.YthfjefcljeamgaaGreatDoor
