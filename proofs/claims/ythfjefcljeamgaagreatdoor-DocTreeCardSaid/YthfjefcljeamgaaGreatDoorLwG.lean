/- joined: The plain model of the document: a row of an outline stands behind its parent; nothing stands below both the root and the trash. The plain model of the document: DocTree's law: an outline is a tree. The document: a block's place; whether a block lies in the trash. DocTree: the walk. -/
import Derived.Test.YthfjefcljeamgaaGreatDoorDcLaw
import Derived.Test.YthfjefcljeamgaaGreatDoorDoD
import Derived.Test.YthfjefcljeamgaaGreatDoorLwF
namespace Dc
open Off (Bid AV Bn)
/-- places of blocks -/
theorem aP{d:Doc}(h:DocOk d){a:Bid}{p:Dt}(hp:d.places a=some p):AV a=true∧Bn p.parent=true∧D4 p.key=true∧a≠p.parent:=by
 obtain⟨m,hm,rfl,h2,h3,h4⟩:=Lh hp
 have:=h.right m hm
 unfold C2.right at this
 simp only[AN]at this
 rw[←h2,←h3]
 exact⟨this.1.1.2,this.1.2,this.2,fun e=>h4 e.symm⟩
/-- a block's parent stands ahead of it -/
def bT(f:AB)(a:Bid)(l:List Bid):Prop:=∀u x v,l=u++x::v→∃p,f x=some p∧(p.parent=a∨p.parent∈u)
theorem aF{α:Type}:∀{l m u:List α} {x:α} {v:List α},l++m=u++x::v→(∃v',l=u++x::v'∧v=v'++m)∨(∃u',u=l++u'∧m=u'++x::v)
 |[],m,u,x,v,h=> .inr ⟨u,rfl,h⟩
 |y::l,m,[],x,v,h=>by
  simp only[au,aw,List.cons.injEq]at h
  obtain⟨rfl,rfl⟩:=h
  exact .inl ⟨l,rfl,rfl⟩
 |y::l,m,z::u,x,v,h=>by
  simp only[au,List.cons.injEq]at h
  obtain⟨rfl,h⟩:=h
  rcases aF h with⟨v',h1,h2⟩|⟨u',h1,h2⟩
  ·exact .inl ⟨v',by rw[h1];rfl,h2⟩
  ·exact .inr ⟨u',by rw[h1];rfl,h2⟩
theorem aW{f:AB}{L:CZ}(hk:CH f L):∀(n:Nat) (a:Bid),bT f a (Ds n L a)
 |0,_=>by
  intro u x v h
  unfold Ds at h
  cases u<;>cases h
 |n+1,a=>by
  have hone:∀c∈L a,bT f a (c.id::Ds n L c.id):=by
   intro c hc u x v h
   cases u with
   |nil=>
    simp only[aw,List.cons.injEq]at h
    obtain⟨rfl,_⟩:=h
    exact⟨_,(hk.mem a c).1 hc,.inl rfl⟩
   |cons y u=>
    simp only[au,List.cons.injEq]at h
    obtain⟨rfl,h⟩:=h
    obtain⟨p,h1,h2⟩:=aW hk n c.id u x v h
    refine⟨p,h1,.inr ?_⟩
    rcases h2 with h2|h2
    ·rw[h2];simp
    ·simp[h2]
  have hall:∀l:List C0,(∀c∈l,c∈L a)→bT f a (l.flatMap fun c=>c.id::Ds n L c.id):=by
   intro l
   induction l with
   |nil=>
    intro _ u x v h
    cases u<;>cases h
   |cons c l ih=>
    intro hl u x v h
    rw[BE]at h
    rcases aF h with⟨v',h1,_⟩|⟨u',h1,h2⟩
    ·exact hone c (hl c (by simp)) u x v' h1
    ·obtain⟨p,h3,h4⟩:=ih (fun d hd=>hl d (by simp[hd])) u' x v h2
     refine⟨p,h3,?_⟩
     rcases h4 with h4|h4
     ·exact .inl h4
     ·right;rw[h1];exact AC.2 (.inr h4)
  unfold Ds
  exact hall _ fun _ h=>h
theorem aO{d:Doc}(h:DocIn d){a:Bid}{p:Dt}(hp:d.places a=some p):d.there a=true:=by
 obtain⟨m,hm,rfl,_⟩:=Lh hp
 exact h.there m hm
theorem bO{d:Doc}(h:DocOk d):d.places .z=none:=by
 cases hp:d.places .z with
 |none=>rfl
 |some p=>
  have:=(aP h hp).1
  simp[AV,Bid.z]at this
theorem aX{d:Doc}(h:DocOk d):d.places .t=none:=by
 cases hp:d.places .t with
 |none=>rfl
 |some p=>
  have:=(aP h hp).1
  simp[AV,Bid.t]at this
/-- nothing stands below both the root and the trash -/
theorem bF{d:Doc}(h:DocOk d){a:Bid}(h1:Bel d.places a .z)(h2:Bel d.places a .t):False:=by
 rcases UW h1 h2 with e|e|e
 ·simp[Bid.z,Bid.t]at e
 ·obtain⟨p,hp,_⟩:=E9.1 e
  rw[bO h]at hp;cases hp
 ·obtain⟨p,hp,_⟩:=E9.1 e
  rw[aX h]at hp;cases hp
end Dc
namespace Dc
open Off (Bid AV Bn)
noncomputable def ax(d:Doc)(a:Bid):Bool:=decide (a= .t)||below d.places a .t
/-- what the rows of an outline say of depths -/
def aU(f:Bid→Option Int)(b:Ky):Bid→Option Int:=fun x=>if x=b.id then some b.depth else f x
def aJ(l:List Ky):Bid→Option Int:=l.foldl aU fun _=>none
theorem bI(l:List Ky)(b:Ky):aJ (l++[b])=aU (aJ l) b:=by
 unfold aJ;rw[Dy];rfl
theorem aS:∀(l:List Ky) (g:Bid→Option Int) {x:Bid},(∀b∈l,b.id≠x)→l.foldl aU g x=g x
 |[],_,_,_=>rfl
 |b::l,g,x,h=>by
  rw[Nv,aS l (aU g b) fun c hc=>h c (Ed _ hc)]
  unfold aU
  rw[Ae fun e=>h b az e.symm]
theorem bv:∀(l:List Ky) (g:Bid→Option Int) {b:Ky},(l.map (·.id)).Nodup→b∈l→l.foldl aU g b.id=some b.depth
 |[],_,b,_,h=>by cases h
 |c::l,g,b,hn,h=>by
  rw[Cd,IL]at hn
  rw[Nv]
  rcases A7.1 h with rfl|h
  ·rw[aS l (aU g b) fun c hc e=>hn.1 (A5.2 ⟨c,hc,e⟩)]
   unfold aU
   rw[Ak rfl]
  ·exact bv l _ hn.2 h
/-- a row of an outline, behind those of S -/
structure aV(d:Doc)(top:Bid)(S:List Ky)(b:Ky)(p:Dt):Prop where
 place:d.places b.id=some p
 once:aJ S b.id=none
 there:d.there b.id=true
 trash:ax d b.id=decide (top= .t)
 fold:Hl d.words b.id=b.fold
 deep:(p.parent=top∧b.depth=0)∨(p.parent≠top∧∃k:Int,aJ S p.parent=some k∧b.depth=k+1)
theorem bL{d:Doc}{rk:Bid→Nat}{L:CZ}(hr:Ce d.places rk)(hk:CH d.places L){n:Nat}{top:Bid}(hd:Deep d.places rk n top){S:List Ky}
  (hn:(S.map (·.id)).Nodup)(hS:∀b∈S,¬Bel d.places b.id top){i:Nat}(hi:i<(Vr d L n top).length):
  ∃p,d.places ((Vr d L n top)[i]'hi).id=some p∧aJ (S++(Vr d L n top).take i) ((Vr d L n top)[i]'hi).id=none∧Bel d.places ((Vr d L n top)[i]'hi).id top∧Hl d.words ((Vr d L n top)[i]'hi).id=((Vr d L n top)[i]'hi).fold∧
   ((p.parent=top∧((Vr d L n top)[i]'hi).depth=0)∨(p.parent≠top∧∃k:Int,aJ (S++(Vr d L n top).take i) p.parent=some k∧((Vr d L n top)[i]'hi).depth=k+1)):=by
 have hm:=Fh hk hr n top hd
 have hnd:=Ic hk hr n top hd
 have hah:=aW hk n top
 unfold Vr at hi⊢
 generalize Ds n L top=W at hm hnd hah hi⊢
 rw[AM]at hi
 simp only[List.getElem_map]
 obtain⟨x,hx⟩:∃x,x=W[i]:=⟨_,rfl⟩
 have hsp:W=W.take i++x::W.drop (i+1):=by rw[hx,List.getElem_cons_drop,A9]
 obtain⟨p,hp,hpar⟩:=hah _ _ _ hsp
 have hxW:x∈W:=hx▸AQ hi
 rw[←hx]
 obtain⟨mk,hmk⟩:∃mk:Bid→Ky,mk=fun a=>⟨a,(EQ d.places a top:Nat),Hl d.words a,Dp d.tx a⟩:=⟨_,rfl⟩
 have hid:∀a,(mk a).id=a:=fun a=>by rw[hmk]
 have hde:∀a,(mk a).depth=(EQ d.places a top:Nat):=fun a=>by rw[hmk]
 have hmap:∀l:List Bid,(l.map mk).map (·.id)=l:=fun l=>by
  rw[bu]
  have:((·.id)∘mk:Bid→Bid)=id:=funext hid
  rw[this,List.map_id]
 rw[←hmk,←List.map_take]
 have hnt:(W.take i).Nodup:=hnd.sublist (List.take_sublist _ _)
 have hxn:x∉W.take i:=fun h=>by
  rw[hsp]at hnd
  exact(Ff.1 hnd).2.2 x h x az rfl
 have hbel:∀a∈W.take i,Bel d.places a top:=fun a ha=>(hm a).1 (ap ha)
 have hall:((S++(W.take i).map mk).map (·.id)).Nodup:=by
  rw[Bo,hmap,Ff]
  refine⟨hn,hnt,fun a ha b hb e=>?_⟩
  subst e
  obtain⟨s,hs,rfl⟩:=A5.1 ha
  exact hS s hs (hbel _ hb)
 refine⟨p,hp,?_,(hm x).1 hxW,trivial,?_⟩
 ·unfold aJ
  rw[aS]
  intro b hb e
  rcases AC.1 hb with hb|hb
  ·exact hS b hb (e▸(hm x).1 hxW)
  ·obtain⟨a,ha,rfl⟩:=A5.1 hb
   rw[hid]at e
   exact hxn (e▸ha)
 ·by_cases ht:p.parent=top
  ·refine .inl ⟨ht,?_⟩
   show((EQ d.places x top:Nat):Int)=0
   rw[Tz hr hp,Ak ht]
   rfl
  ·refine .inr ⟨ht,(EQ d.places p.parent top:Nat),?_,?_⟩
   ·have hin:p.parent∈W.take i:=hpar.resolve_left ht
    have h1:=bv (S++(W.take i).map mk) (fun _=>none) (b:=mk p.parent) hall (AC.2 (.inr (A5.2 ⟨_,hin,rfl⟩)))
    rw[hid,hde]at h1
    exact h1
   ·show((EQ d.places x top:Nat):Int)=_
    rw[Tz hr hp,Ae ht]
    omega
theorem bU{d:Doc}{rk:Bid→Nat}{L:CZ}(hr:Ce d.places rk)(hk:CH d.places L){n:Nat}{top:Bid}(hd:Deep d.places rk n top):
  ((Vr d L n top).map (·.id)).Nodup∧∀b∈Vr d L n top,Bel d.places b.id top:=by
 have hm:=Fh hk hr n top hd
 have hnd:=Ic hk hr n top hd
 unfold Vr
 generalize Ds n L top=W at hm hnd⊢
 refine⟨?_,fun b hb=>?_⟩
 ·rw[bu]
  have:((fun b:Ky=>b.id)∘fun a:Bid=>(⟨a,(EQ d.places a top:Nat),Hl d.words a,Dp d.tx a⟩:Ky))=id:=rfl
  rw[this,List.map_id]
  exact hnd
 ·obtain⟨a,ha,rfl⟩:=A5.1 hb
  exact(hm a).1 ha
theorem bM{d:Doc}(h:BS d){L:CZ}(hk:CH d.places L){i:Nat}(hi:i<(Vs d .z).length):∃p,aV d .z ((Vs d .z).take i) ((Vs d .z)[i]'hi) p:=by
 unfold Vs at hi⊢
 obtain⟨rk,hr,hdeep⟩:=Rr (d:=d)
 have hk':CH d.places (Jh d.places):=by rw[MN hk];exact hk
 obtain⟨p,h1,h2,h3,h4,h5⟩:=bL hr hk' (hdeep .z) (S:=[]) aM (fun b hb=>by cases hb) hi
 rw[aw]at h2 h5
 refine⟨p,h1,h2,aO h.toDocIn h1,?_,h4,h5⟩
 unfold ax
 have hne:¬((Vr d (Jh d.places) (OK d.places) .z)[i]'hi).id= .t:=fun e=>by rw[e,aX h.toDocOk]at h1;cases h1
 have hb:below d.places ((Vr d (Jh d.places) (OK d.places) .z)[i]'hi).id .t=false:=by
  cases hb:below d.places ((Vr d (Jh d.places) (OK d.places) .z)[i]'hi).id .t with
  |false=>rfl
  |true=>exact(bF h.toDocOk h3 (Jj.1 hb)).elim
 rw[hb,Dn hne]
 rfl
theorem bG{d:Doc}(h:BS d){L:CZ}(hk:CH d.places L){i:Nat}(hi:i<(Vs d .t).length):∃p,aV d .t (Vs d .z++(Vs d .t).take i) ((Vs d .t)[i]'hi) p:=by
 unfold Vs at hi⊢
 obtain⟨rk,hr,hdeep⟩:=Rr (d:=d)
 have hk':CH d.places (Jh d.places):=by rw[MN hk];exact hk
 obtain⟨g1,g2⟩:=bU hr hk' (hdeep .z)
 obtain⟨p,h1,h2,h3,h4,h5⟩:=bL hr hk' (hdeep .t) g1 (fun b hb e=>bF h.toDocOk (g2 b hb) e) hi
 refine⟨p,h1,h2,aO h.toDocIn h1,?_,h4,h5⟩
 unfold ax
 rw[Jj.2 h3,Bool.or_true]
 rfl
theorem bz{d:Doc}(h:BS d){top:Bid}{i:Nat}(hi:i<(Vs d top).length):0≤((Vs d top)[i]'hi).depth∧((Vs d top)[i]'hi).depth≤d.ops.length:=by
 obtain⟨rk,hr,hdeep⟩:=Rr (d:=d)
 have hm:(Vs d top)[i]'hi∈Vs d top:=AQ hi
 generalize (Vs d top)[i]'hi=x at hm⊢
 unfold Vs Vr at hm
 obtain⟨a,ha,rfl⟩:=A5.1 hm
 have h1:EQ d.places a top≤(way d.places a).length:=(List.takeWhile_prefix _).length_le
 have h2:=VZ hr (dom:=d.ms.map (·.block)) (fun a ha=>FT ha) a
 rw[AM]at h2
 have h3:=h.len
 show(0:Int)≤(EQ d.places a top:Nat)∧((EQ d.places a top:Nat):Int)≤d.ops.length
 omega
end Dc
namespace Go.Proofs.YthfjefcljeamgaaGreatDoor
set_option maxRecDepth 100000
set_option maxHeartbeats 4000000
section
open Go.RowKit
attribute [local go_sem ↓] Go.wp_at_zero Go.wp_at_succ
theorem Zx{F:Nat→Prop}{b:Nat}{s:DSt}{w:World}(h:Eu F b s w)(a:Off.Bid):
  Calls Tryz.prog 24 #[.pointer (some ⟨b,0,none⟩),idV a] w (U1 (pl s.f a) (s.f a).isSome w):=by
 obtain⟨lab,vo,bk,bx,bt,bc,bw,h⟩:=h
 obtain⟨R,N⟩:=a
 have hb:=h.cells
 obtain⟨vs,bi,bp,vc,h1,_,_,h4,_⟩:=h.tree
 have HT:=Hx (fun W (k:Aa No w W)=>Ul bt bi bp vs vc s.f R N W (k.heap h1 id) (h4.keeps k id))
 generalize pl s.f ⟨R,N⟩=p at HT⊢
 generalize (s.f ⟨R,N⟩).isSome=ok at HT⊢
 clear h h1 h4
 go_enter Tryz.func24,Tryz.ntmps24
 go_upto_region 1 with(fail)
 have k0:Aa No w ((w.alloc (.cells #[.int .i64 R,.int .i64 N] 24)).alloc (.cells #[.int .i64 0,.int .i64 0,.string ⟨#[]⟩] 45)):=((Aa.refl No w).alloc _).alloc _
 have hA:=Ab (Nx w (.cells #[.int .i64 R,.int .i64 N] 24)) (.cells #[.int .i64 0,.int .i64 0,.string ⟨#[]⟩] 45)
 have hB:=Nx (w.alloc (.cells #[.int .i64 R,.int .i64 N] 24)) (.cells #[.int .i64 0,.int .i64 0,.string ⟨#[]⟩] 45)
 rw[World.size_alloc]at hB
 generalize (w.alloc (.cells #[.int .i64 R,.int .i64 N] 24)).alloc (.cells #[.int .i64 0,.int .i64 0,.string ⟨#[]⟩] 45)=w1 at k0 hA hB⊢
 obtain⟨A,eA⟩:∃A,A=w.heap.size:=⟨_,rfl⟩
 obtain⟨B,eB⟩:∃B,B=w.heap.size+1:=⟨_,rfl⟩
 have hBw:w.heap.size≤B:=by omega
 have hAB:A≠B:=by omega
 rw[←eA]at hA
 rw[←eB]at hB
 rw[←eB,←eA]
 clear eA eB
 have hb1:=k0.heap hb id
 have hbB:b≠B:=by have:=Ao hb;omega
 have kd:Aa No w1 w1.drew:=(Aa.refl No w1).drew
 have HSA:Hid (∀W:World,Aa (At1 B) w1 W→W.cell? ⟨b,3,none⟩=some (.pointer (some ⟨bt,0,none⟩))∧W.cell? ⟨A,0,none⟩=some (.int .i64 R)∧W.cell? ⟨A,1,none⟩=some (.int .i64 N)):=Hx fun W k=>
  ⟨Cx (k.heap hb1 hbB) 3,Cx (k.heap hA hAB) 0,Cx (k.heap hA hAB) 1⟩
 have HS0:=HSA.out _ kd.any
 have HT1:=Hx (HT.out _ (k0.trans kd))
 have HB:=Hx hB
 clear hA hB hb1
 go_region_held3(fun W=>W.cell? ⟨b,3,none⟩=some (.pointer (some ⟨bt,0,none⟩))∧W.cell? ⟨A,0,none⟩=some (.int .i64 R)∧W.cell? ⟨A,1,none⟩=some (.int .i64 N))
  (first|exact HS0|exact HS1|exact HS2)
  (first
   |(go_at_call 75;(with_reducible refine HT1.out.mono ?_);rintro e w2 ⟨rfl,k2⟩;have k12:=kd.trans k2;have hB2:=k12.heap HB.out id;have HS1:=HSA.out _ k12.any;have q0:=Cx hB2 0;have q1:=Cx hB2 1;have q2:=Cx hB2 2;have u:=Fx hB2;have HS2:=HSA.out _ (((k12.any.set1 (o:=0) (.int .i64 p.parent.R)).set1 (o:=1) (.int .i64 p.parent.N)).set1 (o:=2) (.string ⟨p.key.toArray⟩))))
 all_goals
  have hf:=heap_set (heap_set (heap_set hB2 0 (.int .i64 p.parent.R)) 1 (.int .i64 p.parent.N)) 2 (.string ⟨p.key.toArray⟩)
  have kf:Aa No w (((w2.setCell ⟨B,0,none⟩ (.int .i64 p.parent.R)).setCell ⟨B,1,none⟩ (.int .i64 p.parent.N)).setCell ⟨B,2,none⟩ (.string ⟨p.key.toArray⟩)):=(((k0.trans k12).setNew hBw _).setNew hBw _).setNew hBw _
  go_wp2_with fail
  generalize ((w2.setCell ⟨B,0,none⟩ (.int .i64 p.parent.R)).setCell ⟨B,1,none⟩ (.int .i64 p.parent.N)).setCell ⟨B,2,none⟩ (.string ⟨p.key.toArray⟩)=wf at hf kf⊢
  refine bodyPost_ret (EC Tryz.results24 rfl hf Tryz.underlying45 rfl Rx) rfl ⟨rfl,kf⟩
theorem ZA{F:Nat→Prop}{b:Nat}{s:DSt}{w:World}(h:Eu F b s w)(hE:Env w)(rk:Off.Bid→Nat)(hrk:Dc.Ce s.f rk)(a:Off.Bid):
  Calls Tryz.prog 26 #[.pointer (some ⟨b,0,none⟩),idV a] w (BM (decide (a= .t)||Dc.below s.f a .t) w):=by
 obtain⟨lab,vo,bk,bx,bt,bc,bw,h⟩:=h
 obtain⟨R,N⟩:=a
 have hb:=h.cells
 obtain⟨vs,bi,bp,vc,h1,_,_,h4,_⟩:=h.tree
 have HT:=Hx (fun W (k:Aa No w W)=>UV bt bi bp vs vc s.f rk hrk R N 1 0 W (k.heap h1 id) (h4.keeps k id))
 have ht:Dc.below s.f ⟨R,N⟩ .t=Dc.below s.f ⟨R,N⟩ ⟨1,0⟩:=rfl
 rw[ht]
 generalize Dc.below s.f ⟨R,N⟩ ⟨1,0⟩=q at HT⊢
 have HPOST:Hid (∀w',Aa No w w'→BM (decide ((⟨R,N⟩:Off.Bid)= .t)||q) w (.returned (.bool (decide ((⟨R,N⟩:Off.Bid)= .t)||q))) w'):=Hx fun w' k=>⟨rfl,k⟩
 generalize BM (decide ((⟨R,N⟩:Off.Bid)= .t)||q) w=post at HPOST⊢
 clear h h1 h4 ht
 have t0:=hE.trash0
 have t1:=hE.trash1
 clear hE
 have hd:(R=1∧N=0)∨(¬R=1)∨(R=1∧¬N=0):=by omega
 rcases hd with⟨rfl,rfl⟩|d|⟨rfl,d⟩
 ·have hq:decide ((⟨1,0⟩:Off.Bid)= .t)=true:=rfl
  rw[hq,Bool.true_or]at HPOST
  clear HT hq
  go_enter Tryz.func26,Tryz.ntmps26
  go_upto_region 1 with(fail)
  have k0:Aa No w (w.alloc (.cells #[.int .i64 1,.int .i64 0] 24)):=(Aa.refl No w).alloc _
  have hA:=Nx w (.cells #[.int .i64 1,.int .i64 0] 24)
  have z4:=Ex (k0.cellOf t0 id)
  have z5:=Ex (k0.cellOf t1 id)
  generalize w.alloc (.cells #[.int .i64 1,.int .i64 0] 24)=w1 at k0 hA z4 z5⊢
  obtain⟨A,eA⟩:∃A,A=w.heap.size:=⟨_,rfl⟩
  rw[←eA]at hA⊢
  clear eA t0 t1
  have z2:=Ex (Cx hA 0)
  have z3:=Ex (Cx hA 1)
  refine wp_region_quiet_below Rx Rx ?_
  repeat(quiet_step(fail))
  refine wpQuiet_nil ?_
  intro _ hw'
  obtain⟨⟨dq,osq⟩,hw''⟩:=hw'
  subst hw''
  have k2:Aa No w1 (Sort.grow (redrawn w1 dq) osq):=Ag w1 dq osq
  clear z2 z3 z4 z5
  generalize Sort.grow (redrawn w1 dq) osq=w2 at k2⊢
  go_wp2_with fail
  exact HPOST.out _ (k0.trans k2)
 ·have hq:decide ((⟨R,N⟩:Off.Bid)= .t)=false:=Dn fun e=>by simp only[Off.Bid.t,Off.Bid.mk.injEq]at e;exact d e.1
  rw[hq,Bool.false_or]at HPOST
  clear hq
  go_enter Tryz.func26,Tryz.ntmps26
  go_upto_region 1 with(fail)
  have k0:Aa No w (w.alloc (.cells #[.int .i64 R,.int .i64 N] 24)):=(Aa.refl No w).alloc _
  have hA:=Nx w (.cells #[.int .i64 R,.int .i64 N] 24)
  have z4:=Ex (k0.cellOf t0 id)
  have z5:=Ex (k0.cellOf t1 id)
  generalize w.alloc (.cells #[.int .i64 R,.int .i64 N] 24)=w1 at k0 hA z4 z5⊢
  obtain⟨A,eA⟩:∃A,A=w.heap.size:=⟨_,rfl⟩
  rw[←eA]at hA⊢
  clear eA t0 t1
  have z1:=Ex (Cx (k0.heap hb id) 3)
  have z2:=Ex (Cx hA 0)
  have z3:=Ex (Cx hA 1)
  have lk:=fun d os=>BV (HT.out _ (k0.trans (Ag w1 d os)))
  refine wp_region_quiet_below Rx Rx ?_
  repeat(quiet_step(exact lk _ _))
  refine wpQuiet_nil ?_
  intro _ hw'
  obtain⟨⟨dq,osq⟩,hw''⟩:=hw'
  subst hw''
  have k2:Aa No w1 (Sort.grow (redrawn w1 dq) osq):=Ag w1 dq osq
  clear z1 z2 z3 z4 z5 lk
  generalize Sort.grow (redrawn w1 dq) osq=w2 at k2⊢
  go_wp2_with fail
  exact HPOST.out _ (k0.trans k2)
 ·have hq:decide ((⟨1,N⟩:Off.Bid)= .t)=false:=Dn fun e=>by simp only[Off.Bid.t,Off.Bid.mk.injEq]at e;exact d e.2
  rw[hq,Bool.false_or]at HPOST
  clear hq
  go_enter Tryz.func26,Tryz.ntmps26
  go_upto_region 1 with(fail)
  have k0:Aa No w (w.alloc (.cells #[.int .i64 1,.int .i64 N] 24)):=(Aa.refl No w).alloc _
  have hA:=Nx w (.cells #[.int .i64 1,.int .i64 N] 24)
  have z4:=Ex (k0.cellOf t0 id)
  have z5:=Ex (k0.cellOf t1 id)
  generalize w.alloc (.cells #[.int .i64 1,.int .i64 N] 24)=w1 at k0 hA z4 z5⊢
  obtain⟨A,eA⟩:∃A,A=w.heap.size:=⟨_,rfl⟩
  rw[←eA]at hA⊢
  clear eA t0 t1
  have z1:=Ex (Cx (k0.heap hb id) 3)
  have z2:=Ex (Cx hA 0)
  have z3:=Ex (Cx hA 1)
  have lk:=fun d os=>BV (HT.out _ (k0.trans (Ag w1 d os)))
  refine wp_region_quiet_below Rx Rx ?_
  repeat(quiet_step(exact lk _ _))
  refine wpQuiet_nil ?_
  intro _ hw'
  obtain⟨⟨dq,osq⟩,hw''⟩:=hw'
  subst hw''
  have k2:Aa No w1 (Sort.grow (redrawn w1 dq) osq):=Ag w1 dq osq
  clear z1 z2 z3 z4 z5 lk
  generalize Sort.grow (redrawn w1 dq) osq=w2 at k2⊢
  go_wp2_with fail
  exact HPOST.out _ (k0.trans k2)
end
section
open Go.RowKit
attribute [local go_sem ↓] Go.wp_at_zero Go.wp_at_succ
attribute [local go_sem] run_makeMap
theorem EI.opsL{v:Value}{l:List Dc.Op}{w:World}(h:EI v l w):K7 v l w:=by
 obtain⟨ps,h1,h2,h3⟩:=h
 refine⟨ps,h1,h2,fun p hp=>?_⟩
 obtain⟨⟨_,ao,c,e,_⟩,_⟩:=h3 p hp
 have e':Value.slice p.2.a p.2.n p.2.c= .slice ao p.1.cuts.length c:=e
 injection e'
theorem bB{F:Nat→Prop}{b:Nat}{d:Dc.Doc}{w:World}(h:C6 F b d w)(a:Off.Bid):
  Calls Tryz.prog 24 #[.pointer (some ⟨b,0,none⟩),idV a] w (U1 (pl d.places a) (d.places a).isSome w):=by
 obtain⟨s,hC,hT,h1,h2,h3,h4,h5⟩:=h
 have hf:s.f=d.places:=by rw[hT.places,h4];rfl
 have:=Zx hC a
 rw[hf]at this
 exact this
theorem bf{F:Nat→Prop}{b:Nat}{d:Dc.Doc}{w:World}(h:C6 F b d w)(hE:Env w)(a:Off.Bid):
  Calls Tryz.prog 26 #[.pointer (some ⟨b,0,none⟩),idV a] w (BM (Dc.ax d a) w):=by
 obtain⟨s,hC,hT,h1,h2,h3,h4,h5⟩:=h
 have hf:s.f=d.places:=by rw[hT.places,h4];rfl
 obtain⟨rk,hr⟩:=Dc.Jv d.ms
 have:=ZA hC hE rk (hf▸hr) a
 rw[hf]at this
 exact this
theorem bj{F:Nat→Prop}{b:Nat}{d:Dc.Doc}{w:World}(h:C6 F b d w)(a:Off.Bid):
  Calls Tryz.prog 27 #[.pointer (some ⟨b,0,none⟩),idV a] w (BM (Dc.Hl d.words a) w):=by
 obtain⟨s,hC,hT,h1,h2,h3,h4,h5⟩:=h
 have:=NY hC a
 rw[h5]at this
 exact this
theorem bK{F:Nat→Prop}{b:Nat}{d:Dc.Doc}{w:World}(h:C6 F b d w):∃L,Dc.CH d.places L:=by
 obtain⟨s,hC,hT,h1,h2,h3,h4,h5⟩:=h
 have hf:s.f=d.places:=by rw[hT.places,h4];rfl
 exact⟨s.L,hf▸hT.kids⟩
theorem Aq.blockO{l:List Dc.Ky}{w:World}{g n cap:Nat}(h:Aq 49 5 E5 (.slice (some ⟨g,0,none⟩) n cap) l w){k:Nat}(hk:k<l.length):
  w.cell? ⟨g,k*5,none⟩=some (.int .i64 (l[k]'hk).id.R)∧w.cell? ⟨g,k*5+1,none⟩=some (.int .i64 (l[k]'hk).id.N)∧w.cell? ⟨g,k*5+2,none⟩=some (.int .i64 (l[k]'hk).depth)∧w.cell? ⟨g,k*5+3,none⟩=some (.bool (l[k]'hk).fold):=by
 have hc:=fun r (hr:r<5)=>h.cell (fun _=>rfl) hk hr
 exact⟨hc 0 (by decide),hc 1 (by decide),hc 2 (by decide),hc 3 (by decide)⟩
theorem bS(v:Value)(l:List Dc.Op)(w:World)(hE:Env w)(hv:EI v l w):
  Calls Tryz.prog 4 #[v] w (BM true w):=by
 have hpost:∀w',Aa (BN w.heap.size) w w'→BM true w (.returned (.bool true)) w':=fun w' k=>⟨rfl,k.mono fun g hg hl=>by unfold BN at hg;omega⟩
 obtain⟨base,hbase⟩:∃base,base=w.heap.size:=⟨_,rfl⟩
 rw[←hbase]at hpost
 have h4:4≤base:=hbase▸hE.size
 have HPOST:=Hx hpost
 generalize BM true w=post at HPOST⊢
 have HEV:Hid (∀W,Aa (BN base) w W→Env W):=Hx fun W k=>hE.keeps k fun g hg=>by unfold BN at hg;omega
 have HBS:Hid (∀W,Aa (BN base) w W→base≤W.heap.size):=Hx fun W k=>hbase▸k.size
 have HAG:Hid (∀W,Aa (BN base) w W→EI v l W):=Hx fun W k=>hv.keeps k fun g hg=>by unfold BN;omega
 have hOWL:∀(k:Nat) (hk:k<l.length) sa sc,BI 4 AD (.slice sa (l[k]'hk).cuts.length sc) (l[k]'hk).cuts w→(l[k]'hk).cuts≠ []→∀g,(Value.slice sa (l[k]'hk).cuts.length sc).ownBlock=some g→g<base:=fun k hk sa sc hli hne g hg=>by
  obtain⟨_,ao,c,e,_,_,h3⟩:=hli
  obtain⟨g',o',rfl,h5,_⟩:=h3 hne
  injection e with e1 e2 e3
  subst e1
  have:=Ap hg
  simp only at this
  omega
 obtain⟨ao,cp,rfl,hml⟩:=hv.form
 have hll:l.length≤9223372036854775807:=hml
 have HAL:=Hx (UY w hE)
 have HV:=Hx hv
 have H4:=Hx h4
 have HGR:=Hx (fun W (k:Aa No w W)=>UC _ _ W (HAG.out W k.any).opsL)
 clear hE hv hpost h4 hml
 cases hg:Hz l with
 |true=>
  rw[hg]at HGR
  go_enter Tryz.func4,Tryz.ntmps4
  go_wp2_with(first
   |(go_at_call 15;(with_reducible refine HAL.out.mono ?_);rintro e w2 ⟨rfl,k2⟩;have HG2:=Hx (HGR.out w2 k2))
   |(go_at_call 16;(with_reducible refine HG2.out.mono ?_);rintro e w3 ⟨rfl,k3⟩))
  exact HPOST.out _ (k2.trans k3).any
 |false=>
  rw[hg]at HGR
  have hgf:=Q8 hg
  have hl40:l.length≤40:=hgf.1
  have HSM:Hid (∀x∈l,x.text.length≤200∧x.cuts.length≤40):=Hx hgf.2
  clear hgf hg
  go_enter Tryz.func4,Tryz.ntmps4
  go_upto_region 6 with(first
   |(go_at_call 15;(with_reducible refine HAL.out.mono ?_);rintro e w2 ⟨rfl,k2⟩;have HG2:=Hx (HGR.out w2 k2))
   |(go_at_call 16;(with_reducible refine HG2.out.mono ?_);rintro e w3 ⟨rfl,k3⟩;have HNW:=Hx (MS w3))
   |(go_at_call 18;(with_reducible refine HNW.out.mono ?_);rintro e w4 ⟨b,rfl,hd4,k4⟩))
  have k03:=k2.trans k3
  obtain⟨B,hB⟩:∃B,B=w3.heap.size:=⟨_,rfl⟩
  rw[←hB]at hd4
  have hBw:base≤B:=by have:=HBS.out w3 k03.any;omega
  have k04:Aa (BN base) w w4:=k03.any.no k4
  have HLB:Hid (∀W,Aa (BN B) w4 W→Aa (BN base) w W):=Hx fun W k=>k04.step k fun g hg _=>by unfold BN at hg⊢;omega
  have HBZ:Hid (∀W,Aa (BN B) w4 W→B≤W.heap.size):=Hx fun W k=>by have:=k4.size;have:=k.size;omega
  have HDO:Hid (∀(k:Nat) (hk:k<l.length) sa sc W,Aa (BN B) w4 W→C6 (BN B) b (En (l.take k)) W→BI 4 AD (.slice sa (l[k]'hk).cuts.length sc) (l[k]'hk).cuts w→
    Calls Tryz.prog 19 #[.pointer (some ⟨b,0,none⟩),opV (l[k]'hk) (.slice sa (l[k]'hk).cuts.length sc)] W (K8 B b ((En (l.take k)).err (l[k]'hk)) (En (l.take (k+1))) W)):=Hx fun k hk sa sc W kk hd hli=>by
   rw[Tu hk]
   have hx:=HSM.out _ (AQ hk)
   have hlo:=hOWL k hk sa sc hli
   refine Ox (by have:=H4.out;omega) (HBZ.out W kk) hd (Ni _) ?_ (HEV.out W (HLB.out W kk)) _ _ (hli.keepsE (HLB.out W kk) fun hne g hg e=>by have:=hlo hne g hg;unfold BN at e;omega) (fun hne g hg=>by have:=hlo hne g hg;omega) (by omega) (by omega)
   have h1:=KX (l.take k)
   rw[Ad]at h1
   omega
  clear hOWL
  go_wp2_with fail
  go_loopg [4] l.length (fun kx s4 wr=>∃k:Nat,s4= .int .i64 k∧C6 (BN B) b (En (l.take k)) wr∧k≤l.length∧l.length-k≤kx∧Aa (BN B) w4 wr)
  case atStart=>exact⟨0,rfl,hd4,Ah _,Ac _,Aa.refl _ _⟩
  case round=>
   obtain⟨k,rfl,hdk,hk,hkx,kr⟩:=hrel
   by_cases hlt:k<l.length
   ·obtain⟨g,of,c,sa,sc,e1,hgl,hrg,hli⟩:=HV.out.at hlt
    injection e1 with e1 e2 e3
    subst e1 e3
    have kwr:=HLB.out wr kr
    have hrg':wr.rangeAt g (of+k*20) (As (l[k]'hlt) (.slice sa (l[k]'hlt).cuts.length sc)).toList:=fun j v hj=>kwr.cellOf (hrg j v hj) fun e=>by unfold BN at e;omega
    have HDK:=Hx (HDO.out k hlt sa sc wr kr hdk hli)
    obtain⟨y,hy⟩:∃y,y=l[k]'hlt:=⟨_,rfl⟩
    rw[←hy]at hrg' HDK
    have kI0:(0:Int)≤(k:Int):=by omega
    have kI1:(k:Int)<(l.length:Int):=by omega
    clear e2 hrg hli hy
    go_wp2_with(first
     |(refine wpList_load_mid rfl 29 _ rfl g (of+k*20) rfl (As y (.slice sa y.cuts.length sc)).toList _ hrg' Tryz.underlying29 rfl Rx ?_)
     |(go_at_call 19;(with_reducible refine HDK.out.mono ?_);rintro e w6 ⟨rfl,k6,hd6⟩))
    go_roundg (l.length-(k+1))
    case measure=>omega
    case rel=>exact⟨k+1,by go_num,hd6,hlt,Ac _,kr.trans k6⟩
   ·obtain rfl:k=l.length:=by omega
    rw[AH]at hdk
    obtain⟨w5,hw5⟩:∃y,y=wr:=⟨_,rfl⟩
    subst hw5
    have hfull:=Ni l
    have hops:(En l).ops.length≤40:=AG (KX l) hl40
    obtain⟨D,hD⟩:∃D,D=En l:=⟨_,rfl⟩
    rw[←hD]at hdk hfull hops
    obtain⟨L0,hkids⟩:=bK hdk
    have HKD:=Hx hkids
    clear hkids
    have hdF:C6 (fun g=>B≤g∧g<w5.heap.size) b D w5:=hdk.mono fun g hg hl=>⟨hg,hl⟩
    clear hdk hD hd4 HDO HV HAL HGR HSM hlt hk hkx
    go_upto_region 11 with(fail)
    have hm6:A8 idV GR w5.heap.size (fun _=>none) (w5.alloc (.map #[] 0)):=A8.new w5
    have k56:Aa No w5 (w5.alloc (.map #[] 0)):=(Aa.refl No w5).alloc _
    have hBM:=HBZ.out w5 kr
    obtain⟨M,hM⟩:∃M,M=w5.heap.size:=⟨_,rfl⟩
    rw[←hM]at hm6 hdF hBM⊢
    generalize w5.alloc (.map #[] 0)=w6 at hm6 k56⊢
    have hd6:=hdF.no k56
    have k46:=kr.no k56
    have HFL:=Hx hfull
    have HLM:Hid (∀W,Aa (At1 M) w6 W→Aa (BN base) w W):=Hx fun W k=>HLB.out W (k46.step k fun g hg _=>by unfold At1 at hg;unfold BN;omega)
    have HDW:Hid (∀W,Aa (At1 M) w6 W→C6 (fun g=>B≤g∧g<M) b D W):=Hx fun W k=>hd6.keeps k fun g hg e=>by have h1:B≤g∧g<M:=hg;unfold At1 at e;omega
    have HOUT:Hid (∀W,Aa (At1 M) w6 W→∀t,Calls Tryz.prog 20 #[.pointer (some ⟨b,0,none⟩),idV t] W (LV (Dc.Vs D t) W)):=Hx fun W k t=>SY (HDW.out W k) HFL.out (by omega) t
    have HPL:Hid (∀W,Aa (At1 M) w6 W→∀a p,D.places a=some p→Calls Tryz.prog 24 #[.pointer (some ⟨b,0,none⟩),idV a] W (U1 p true W)):=Hx fun W k a p hp=>by
     have hx:=bB (HDW.out W k) a
     unfold pl at hx
     rw[hp]at hx
     exact hx
    have HTH:Hid (∀W,Aa (At1 M) w6 W→∀a,D.there a=true→Calls Tryz.prog 25 #[.pointer (some ⟨b,0,none⟩),idV a] W (BM true W)):=Hx fun W k a ha=>ha▸Pq (HDW.out W k) (HEV.out W (HLM.out W k)) a
    have HTR:Hid (∀W,Aa (At1 M) w6 W→∀a q,Dc.ax D a=q→Calls Tryz.prog 26 #[.pointer (some ⟨b,0,none⟩),idV a] W (BM q W)):=Hx fun W k a q ha=>ha▸bf (HDW.out W k) (HEV.out W (HLM.out W k)) a
    have HFO:Hid (∀W,Aa (At1 M) w6 W→∀a q,Dc.Hl D.words a=q→Calls Tryz.prog 27 #[.pointer (some ⟨b,0,none⟩),idV a] W (BM q W)):=Hx fun W k a q ha=>ha▸bj (HDW.out W k) a
    obtain⟨O,hO0,hO1,hO2⟩:∃O:Nat→List Dc.Ky,O 0=[]∧O 1=Dc.Vs D .z∧O 2=Dc.Vs D .z++Dc.Vs D .t:=⟨fun n=>if n=0 then[]else if n=1 then Dc.Vs D .z else Dc.Vs D .z++Dc.Vs D .t,rfl,rfl,rfl⟩
    have HO0:=Hx hO0
    have HO1:=Hx hO1
    have HO2:=Hx hO2
    clear hO0 hO1 hO2 hd6 hdF hfull k46 hBM hM kr
    go_wp2_with fail
    go_loopg [6] 2 (fun kx s6 wr=>∃r:Nat,s6= .int .i64 r∧r≤2∧2-r≤kx∧A8 idV GR M (Dc.aJ (O r)) wr∧Aa (At1 M) w6 wr)
    case atStart=>exact⟨0,rfl,by decide,by decide,by rw[HO0.out];exact hm6,Aa.refl _ _⟩
    case round=>
     obtain⟨r,rfl,hr2,hrx,hm,kr6⟩:=hrel
     by_cases hlt:r<2
     ·have hE6:=HEV.out wr (HLM.out wr kr6)
      have hcase:r=0∨r=1:=by omega
      rcases hcase with rfl|rfl
      focus
       have r0:=hE6.root0
       have r1:=hE6.root1
       have hz0:0<wr.heap.size:=by have:=hE6.size;omega
       clear hE6
       have HQ:Hid (Dc.ax D=fun a=>Dc.ax D a):=Hx rfl
       have HTRW:Hid (∀(i:Nat) (hi:i<(Dc.Vs D .z).length),∃p,Dc.aV D .z (O 0++(Dc.Vs D .z).take i) ((Dc.Vs D .z)[i]'hi) p∧Dc.ax D ((Dc.Vs D .z)[i]'hi).id=false):=Hx fun i hi=>by
        obtain⟨p,hp⟩:=Dc.bM HFL.out HKD.out hi
        exact⟨p,by rw[HO0.out,aw];exact hp,hp.trash⟩
       have HDB:Hid (∀(i:Nat) (hi:i<(Dc.Vs D .z).length),0≤((Dc.Vs D .z)[i]'hi).depth∧((Dc.Vs D .z)[i]'hi).depth≤40):=Hx fun i hi=>by
        have hx:=Dc.bz HFL.out hi
        omega
       obtain⟨rn,hrn⟩:∃rn:Nat,rn=1:=⟨_,rfl⟩
       have HNX:Hid (O rn=O 0++Dc.Vs D .z):=Hx (by rw[hrn,HO1.out,HO0.out,aw])
       have HRN:=Hx hrn
       clear hrn
       have HTE:Hid (∀a:Off.Bid,a= .z→a.R=0∧a.N=0):=Hx fun a e=>e▸⟨rfl,rfl⟩
       have HTN:Hid (∀a:Off.Bid,a≠ .z→¬a.R=0∨(a.R=0∧¬a.N=0)):=Hx fun a e=>K1 e
       go_upto_region 17 with(fail)
       have k7:Aa No wr (wr.alloc (.cells #[.int .i64 0,.int .i64 0] 24)):=(Aa.refl No wr).alloc _
       have hT:=Nx wr (.cells #[.int .i64 0,.int .i64 0] 24)
       clear r0 r1 hz0
       generalize wr.alloc (.cells #[.int .i64 0,.int .i64 0] 24)=w7 at k7 hT⊢
       have kr7:=kr6.no k7
       have HO7:Hid (Calls Tryz.prog 20 #[.pointer (some ⟨b,0,none⟩),.agg #[.int .i64 0,.int .i64 0]] w7 (LV (Dc.Vs D .z) w7)):=Hx (HOUT.out w7 kr7 .z)
       generalize Dc.Vs D .z=L at HTRW HDB HNX HO7
       have hm7:=hm.keeps k7 id
       generalize O 0=S at HTRW HNX hm7
      rotate_left
      focus
       have r0:=hE6.root0
       have r1:=hE6.root1
       have hz0:0<wr.heap.size:=by have:=hE6.size;omega
       have t0:=hE6.trash0
       have t1:=hE6.trash1
       have hz1:1<wr.heap.size:=by have:=hE6.size;omega
       clear hE6
       have HQ:Hid (Dc.ax D=fun a=>Dc.ax D a):=Hx rfl
       have HTRW:Hid (∀(i:Nat) (hi:i<(Dc.Vs D .t).length),∃p,Dc.aV D .t (O 1++(Dc.Vs D .t).take i) ((Dc.Vs D .t)[i]'hi) p∧Dc.ax D ((Dc.Vs D .t)[i]'hi).id=true):=Hx fun i hi=>by
        obtain⟨p,hp⟩:=Dc.bG HFL.out HKD.out hi
        exact⟨p,by rw[HO1.out];exact hp,hp.trash⟩
       have HDB:Hid (∀(i:Nat) (hi:i<(Dc.Vs D .t).length),0≤((Dc.Vs D .t)[i]'hi).depth∧((Dc.Vs D .t)[i]'hi).depth≤40):=Hx fun i hi=>by
        have hx:=Dc.bz HFL.out hi
        omega
       obtain⟨rn,hrn⟩:∃rn:Nat,rn=2:=⟨_,rfl⟩
       have HNX:Hid (O rn=O 1++Dc.Vs D .t):=Hx (by rw[hrn,HO2.out,HO1.out])
       have HRN:=Hx hrn
       clear hrn
       have HTE:Hid (∀a:Off.Bid,a= .t→a.R=1∧a.N=0):=Hx fun a e=>e▸⟨rfl,rfl⟩
       have HTN:Hid (∀a:Off.Bid,a≠ .t→¬a.R=1∨(a.R=1∧¬a.N=0)):=Hx fun a e=>K1 e
       go_upto_region 17 with(fail)
       have k7:Aa No wr (wr.alloc (.cells #[.int .i64 1,.int .i64 0] 24)):=(Aa.refl No wr).alloc _
       have hT:=Nx wr (.cells #[.int .i64 1,.int .i64 0] 24)
       clear r0 r1 hz0 t0 t1 hz1
       generalize wr.alloc (.cells #[.int .i64 1,.int .i64 0] 24)=w7 at k7 hT⊢
       have kr7:=kr6.no k7
       have HO7:Hid (Calls Tryz.prog 20 #[.pointer (some ⟨b,0,none⟩),.agg #[.int .i64 1,.int .i64 0]] w7 (LV (Dc.Vs D .t) w7)):=Hx (HOUT.out w7 kr7 .t)
       generalize Dc.Vs D .t=L at HTRW HDB HNX HO7
       have hm7:=hm.keeps k7 id
       generalize O 1=S at HTRW HNX hm7
      rotate_left
      all_goals
       obtain⟨T,eT⟩:∃T,T=wr.heap.size:=⟨_,rfl⟩
       rw[←eT]at hT⊢
       have hMl:=hm.lt
       have hTM:¬At1 M T:=fun e=>by unfold At1 at e;omega
       have hz7:=k7.size
       have tt0:=Cx hT 0
       have tt1:=Cx hT 1
       clear eT
       go_upto_region 18 with(go_at_call 20;(with_reducible refine HO7.out.mono ?_);rintro e w8 ⟨vl,rfl,hrl,hol,k8⟩;(obtain⟨aL,cL,rfl⟩:∃aL cL,vl= .slice aL L.length cL:=by(rcases hrl.form with⟨rfl,rfl⟩|⟨g',cap,_,rfl,_⟩<;>exact⟨_,_,rfl⟩)))
       have hT8:=k8.heap hT id
       have kr8:Aa (At1 M) w6 w8:=kr7.no k8
       have hm8:=hm7.keeps k8 id
       have hLb:L.length≤9223372036854775807:=hrl.len_le
       have HRL:Hid (∀W,Aa (At1 M) w8 W→Aq 49 5 E5 (.slice aL L.length cL) L W):=Hx fun W k=>hrl.keeps k fun g hg e=>by unfold At1 at e;have:=hol g hg;omega
       have HTB:=Hx (fun W (k:Aa (At1 M) w8 W)=>k.heap hT8 hTM)
       clear tt0 tt1 hT8 hT HO7 hrl hol hm7 hz7 k7 k8
       go_wp2_with fail
       go_loopg [9] L.length (fun kx s9 wi=>∃i:Nat,s9= .int .i64 i∧i≤L.length∧L.length-i≤kx∧A8 idV GR M (Dc.aJ (S++L.take i)) wi∧Aa (At1 M) w8 wi)
       case atStart=>exact⟨0,rfl,Ah _,Ac _,by rw[List.take_zero,CJ];exact hm8,Aa.refl _ _⟩
       case round=>
        obtain⟨i,rfl,hi,hix,hmi,ki⟩:=hrel
        by_cases hlt2:i<L.length
        ·have hrow:=HRL.out wr ki
         obtain⟨g,cap,e1,hcap,_⟩:=hrow.at (by omega)
         injection e1 with e1 e2 e3
         subst e1 e3
         obtain⟨x0,x1,x2,x3⟩:=hrow.blockO hlt2
         obtain⟨⟨⟨pR,pN⟩,pk⟩,hrT,hq⟩:=HTRW.out i hlt2
         have hdb:=HDB.out i hlt2
         have hsn:Dc.aJ (S++L.take (i+1))=Db (Dc.aJ (S++L.take i)) (L[i]'hlt2).id (some (L[i]'hlt2).depth):=by
          rw[AW,Aj hlt2,←AI]
          exact Dc.bI _ _
         have hgM:¬At1 M g:=fun e=>BH hrow hmi (congrArg some e)
         obtain⟨⟨⟨yR,yN⟩,yd,yf,yt⟩,hy⟩:∃y,y=L[i]'hlt2:=⟨_,rfl⟩
         rw[←hy]at x0 x1 x2 x3 hrT hdb hsn hq
         obtain⟨q1,q2,q3,q4,q5,q6⟩:=hrT
         simp only at x0 x1 x2 x3 q1 q2 q3 q4 q5 q6 hdb hsn hq
         have HX:Hid (∀W,Aa (At1 M) wr W→W.cell? ⟨g,i*5,none⟩=some (.int .i64 yR)∧W.cell? ⟨g,i*5+1,none⟩=some (.int .i64 yN)∧W.cell? ⟨g,i*5+2,none⟩=some (.int .i64 yd)∧W.cell? ⟨g,i*5+3,none⟩=some (.bool yf)):=Hx fun W k=>⟨k.cellOf x0 hgM,k.cellOf x1 hgM,k.cellOf x2 hgM,k.cellOf x3 hgM⟩
         have kI0:(0:Int)≤(i:Int):=by omega
         have kI1:(i:Int)<(L.length:Int):=by omega
         have HSN:=Hx hsn
         have HQ6:=Hx q6
         have HP9:=Hx (HPL.out wr (kr8.trans ki) ⟨yR,yN⟩ ⟨⟨pR,pN⟩,pk⟩ q1)
         have HDBI:=Hx hdb
         clear hrow e2 hy hsn x2 x3 q6 hdb
         go_upto_region 22 with(go_at_call 24;(with_reducible refine HP9.out.mono ?_);rintro e w9 ⟨rfl,k9⟩)
         have kA:Aa No w9 (w9.alloc (.cells #[.int .i64 pR,.int .i64 pN,.string ⟨pk.toArray⟩] 45)):=(Aa.refl No w9).alloc _
         have hQ:=Nx w9 (.cells #[.int .i64 pR,.int .i64 pN,.string ⟨pk.toArray⟩] 45)
         clear x0 x1
         generalize w9.alloc (.cells #[.int .i64 pR,.int .i64 pN,.string ⟨pk.toArray⟩] 45)=w10 at kA hQ⊢
         obtain⟨Q,eQ⟩:∃Q,Q=w9.heap.size:=⟨_,rfl⟩
         rw[←eQ]at hQ⊢
         clear eQ
         have k10:Aa No wr w10:=k9.trans kA
         obtain⟨x0,x1,_,x3⟩:=HX.out w10 k10.any
         have hm10:=hmi.keeps k10 id
         have lk:=Ou hm10 yR yN true
         rw[q2]at lk
         simp only[if_true,Option.getD_none,Option.isSome_none]at lk
         have kw10:=(kr8.trans ki).no k10
         have lkT:=fun d os=>BV (HTH.out _ (kw10.no (Ag w10 d os)) ⟨yR,yN⟩ q3)
         have lkR:=fun d os=>BV (HTR.out _ (kw10.no (Ag w10 d os)) ⟨yR,yN⟩ _ hq)
         have lkF:=fun d os=>BV (HFO.out _ (kw10.no (Ag w10 d os)) ⟨yR,yN⟩ _ q5)
         clear q1 q2 q3 q4 q5 hq k9 kA
         go_upto_region 23 with(fail)
         have z0:=Ex x0
         have z1:=Ex x1
         have z3:=Ex x3
         clear x0 x1 x3 lk
         refine wp_region_quiet_below Rx Rx ?_
         repeat(quiet_step(first|(with_reducible exact lkT _ _)|(with_reducible exact lkR _ _)|(with_reducible exact lkF _ _)))
         refine wpQuiet_nil ?_
         intro _ hw'
         obtain⟨⟨dq,osq⟩,hw''⟩:=hw'
         subst hw''
         have k11:Aa No w10 (Sort.grow (redrawn w10 dq) osq):=Ag w10 dq osq
         clear z0 z1 z3 lkT lkR lkF
         generalize Sort.grow (redrawn w10 dq) osq=w11 at k11⊢
         have hQ11:=k11.heap hQ id
         have c0:=Cx hQ11 0
         have c1:=Cx hQ11 1
         have hm11:=hm10.keeps k11 id
         obtain⟨x0,x1,x2,_⟩:=HX.out w11 (k10.trans k11).any
         have hT11:=HTB.out w11 ((ki.no k10).no k11)
         have t0:=Cx hT11 0
         have t1:=Cx hT11 1
         have lk:=Ou hm11 pR pN true
         simp only[if_true]at lk
         have hq6:=HQ6.out
         generalize Dc.aJ (S++List.take i L) ⟨pR,pN⟩=sv at lk hq6
         clear hQ hm10 hQ11 hT11
         rcases hq6 with⟨e1,e2⟩|⟨e1,kk,e2,e3⟩
         ·obtain⟨f1,f2⟩:=HTE.out _ e1
          simp only at f1 f2
          generalize sv.getD 0=v5 at lk
          generalize sv.isSome=o5 at lk
          subst f1 f2 e2
          clear e1
          go_upto_region 31 with(fail)
          have HX13:=HX.out w11.drew (k10.trans k11).drew.any
          obtain⟨y0,y1,y2,_⟩:=HX13
          clear x0 x1 x2 t0 t1 c0 c1 lk
          go_still_tail 11,Rx
          change wpList _ _ _ _ _ w11.drew
          refine EJ rfl Eh Tryz.underlying43 (hm11.keeps (Aa.refl No w11).drew id) _ _ _ rfl rfl ⟨yR,yN⟩ rfl 0 rfl ?_
          intro w13 m13 k13 hz13
          clear hz13
          go_wp2_with fail
          go_roundg (L.length-(i+1))
          case measure=>omega
          case rel=>exact⟨i+1,by go_num,hlt2,Ac _,by rw[HSN.out];exact m13,(ki.no (k10.trans k11).drew).trans k13⟩
         ·have d:=HTN.out _ e1
          subst e2
          simp only[F5,Option.isSome_some]at lk
          subst e3
          have hw:IntKind.i64.wrap (kk+1)=kk+1:=by have hx:=HDBI.out;rw[IntKind.wrap_i64];omega
          rcases d with d|⟨d1,d⟩
          focus
           simp only at d
           clear e1
          rotate_left
          focus
           simp only at d d1
           clear e1
           subst d1
          all_goals
           go_upto_region 31 with(fail)
           have HX13:=HX.out w11.drew (k10.trans k11).drew.any
           obtain⟨y0,y1,y2,_⟩:=HX13
           clear x0 x1 x2 t0 t1 c0 c1 lk
           go_still_tail 11,Rx
           change wpList _ _ _ _ _ w11.drew
           refine EJ rfl Eh Tryz.underlying43 (hm11.keeps (Aa.refl No w11).drew id) _ _ _ rfl rfl ⟨yR,yN⟩ rfl (kk+1) rfl ?_
           intro w13 m13 k13 hz13
           clear hz13
           go_wp2_with fail
           go_roundg (L.length-(i+1))
           case measure=>omega
           case rel=>exact⟨i+1,by go_num,hlt2,Ac _,by rw[HSN.out];exact m13,(ki.no (k10.trans k11).drew).trans k13⟩
        ·obtain rfl:i=L.length:=by omega
         rw[AH,←HNX.out]at hmi
         go_wp2_with fail
         go_roundg (2-rn)
         case measure=>have hx:=HRN.out;omega
         case rel=>exact⟨rn,by rw[HRN.out];go_num,by rw[HRN.out];decide,Ac _,hmi,kr8.trans ki⟩
     ·obtain rfl:r=2:=by omega
      go_wp2_with fail
      exact HPOST.out _ (HLM.out _ kr6)
end
end Go.Proofs.YthfjefcljeamgaaGreatDoor
