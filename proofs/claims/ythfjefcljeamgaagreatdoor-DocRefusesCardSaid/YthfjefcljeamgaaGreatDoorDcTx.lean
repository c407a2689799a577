/- joined: The tree of a text's characters: what stays true when characters join it. A row of runs as the row of its characters: split, mend, put and cut. The texts and the whole document: what stays true behind every op. -/
import Derived.Test.YthfjefcljeamgaaGreatDoorDcTree
namespace Dc
open Off (Bid AV Bn)
def CP.put(n:CP)(s:Bool)(i:Nat)(c:Chr):CP:=if s then{n with r:=Ax n.r i c}else{n with l:=Ax n.l i c}
theorem CP.put_up(n:CP)(s:Bool)(i:Nat)(c:Chr):(n.put s i c).up=n.up:=by unfold put;cases s<;>rfl
theorem CP.put_side(n:CP)(s t:Bool)(i:Nat)(c:Chr):(n.put s i c).side t=if t=s then Ax (n.side s) i c else n.side t:=by
 unfold put side;cases s<;>cases t<;>simp
theorem CP.put_side_same(n:CP)(s:Bool)(i:Nat)(c:Chr):(n.put s i c).side s=Ax (n.side s) i c:=by rw[put_side,Ak rfl]
theorem CP.put_side_other(n:CP){s t:Bool}(h:t≠s)(i:Nat)(c:Chr):(n.put s i c).side t=n.side t:=by rw[put_side,Ae h]
theorem Ve{N:C5}{c:Chr}{s:Kv}{n:CP}(h:N s.up=some n):sit N c s=JQ (JQ N s.up (n.put s.side s.pos c)) c ⟨s.up,[],[]⟩:=by
 unfold sit CP.put;rw[h]
theorem G9{N:C5}{c:Chr}{s:Kv}{n:CP}(h:N s.up=some n)(x:Chr):
  sit N c s x=if x=c then some ⟨s.up,[],[]⟩else if x=s.up then some (n.put s.side s.pos c)else N x:=by
 rw[Ve h];unfold JQ;rfl
/-- the tree of characters is whole -/
structure BZ(N:C5)(rk:Chr→Nat)(B M:Nat):Prop where
 root:∃n,N .z=some n∧n.up= .z
 up:∀c n,N c=some n→∃m,N n.up=some m
 down:∀c n s x,N c=some n→x∈n.side s→x≠ .z∧∃m,N x=some m∧m.up=c
 rank:∀c n,N c=some n→c≠ .z→rk n.up<rk c
 bound:∀c,N c≠none→rk c≤B
 sorted:∀c n s,N c=some n→(n.side s).Pairwise fun a b=>BD a.op b.op<0
 small:∀c n s,N c=some n→(n.side s).length≤M
theorem BZ.new:BZ YT.new.nodes (fun _=>0) 0 0:=by
 have h:∀c n,YT.new.nodes c=some n→c= .z∧n=⟨.z,[],[]⟩:=by
  intro c n e
  unfold YT.new at e
  simp only at e
  split at e
  ·cases e;exact⟨by assumption,rfl⟩
  ·cases e
 refine⟨⟨⟨.z,[],[]⟩,by simp[YT.new],rfl⟩,?_,?_,?_,?_,?_,?_⟩
 ·intro c n e;obtain⟨rfl,rfl⟩:=h c n e;exact⟨_,e⟩
 ·intro c n s x e hx;obtain⟨rfl,rfl⟩:=h c n e;cases s<;>simp[CP.side]at hx
 ·intro c n e hc;obtain⟨rfl,rfl⟩:=h c n e;exact absurd rfl hc
 ·intro c _;exact Ac _
 ·intro c n s e;obtain⟨rfl,rfl⟩:=h c n e;cases s<;>simp[CP.side]
 ·intro c n s e;obtain⟨rfl,rfl⟩:=h c n e;cases s<;>simp[CP.side]
theorem H8(l:List Chr)(id:Bid):GM l id≤l.length:=Fj _ _
theorem I3{l:List Chr}(hs:l.Pairwise fun a b=>BD a.op b.op<0)(id:Bid)(j:Nat)(hj:j<l.length):decide (BD l[j].op id<0)=decide (j<GM l id):=
 IR (fun c:Chr=>decide (BD c.op id<0)) l (fun i k hi hk hik hh=>by
  rcases BR hik with rfl|hlt
  ·exact hh
  ·simp only[Au]at hh⊢
   exact Hh (C9.1 hs i k hi hk hlt) hh) j hj
def Oh(rk:Chr→Nat)(c:Chr)(k:Nat):Chr→Nat:=fun x=>if x=c then k else rk x
theorem Vf{N:C5}{rk:Chr→Nat}{B M:Nat}(h:BZ N rk B M){c:Chr}{s:Kv}{n:CP}(hc:N c=none)(hu:N s.up=some n)
  (hp:s.pos=GM (n.side s.side) c.op)(hne:∀x∈n.side s.side,x.op≠c.op):
  BZ (sit N c s) (Oh rk c (rk s.up+1)) (B+1) (M+1):=by
 have hcu:s.up≠c:=fun e=>by rw[e,hc]at hu;cases hu
 have hget:=fun x=>G9 (c:=c) hu x
 have hz:c≠ .z:=fun e=>by obtain⟨m,h1,_⟩:=h.root;rw[e,h1]at hc;cases hc
 -- each old node is still there, with the same parent
 have hold:∀x m,N x=some m→∃m',sit N c s x=some m'∧m'.up=m.up∧x≠c∧(x=s.up∧m'=n.put s.side s.pos c∧m=n∨x≠s.up∧m'=m):=by
  intro x m hx
  have hxc:x≠c:=fun e=>by rw[e,hc]at hx;cases hx
  rw[hget,Ae hxc]
  by_cases hxu:x=s.up
  ·subst hxu
   rw[hu]at hx;cases hx
   exact⟨_,Ak rfl,CP.put_up _ _ _ _,hxc,.inl ⟨rfl,rfl,rfl⟩⟩
  ·exact⟨m,by rw[Ae hxu];exact hx,rfl,hxc,.inr ⟨hxu,rfl⟩⟩
 have hinv:∀x m',sit N c s x=some m'→(x=c∧m'=⟨s.up,[],[]⟩)∨(x≠c∧∃m,N x=some m∧m'.up=m.up∧(x=s.up∧m'=n.put s.side s.pos c∧m=n∨x≠s.up∧m'=m)):=by
  intro x m' hx
  rw[hget]at hx
  by_cases hxc:x=c
  ·rw[Ak hxc]at hx;cases hx;exact .inl ⟨hxc,rfl⟩
  ·rw[Ae hxc]at hx
   by_cases hxu:x=s.up
   ·rw[Ak hxu]at hx;cases hx
    exact .inr ⟨hxc,n,by rw[hxu];exact hu,CP.put_up _ _ _ _,.inl ⟨hxu,rfl,rfl⟩⟩
   ·rw[Ae hxu]at hx
    exact .inr ⟨hxc,m',hx,rfl,.inr ⟨hxu,rfl⟩⟩
 have hrk:∀x,x≠c→Oh rk c (rk s.up+1) x=rk x:=fun x hx=>by unfold Oh;rw[Ae hx]
 have hrkc:Oh rk c (rk s.up+1) c=rk s.up+1:=by unfold Oh;rw[Ak rfl]
 refine⟨?_,?_,?_,?_,?_,?_,?_⟩
 ·obtain⟨m,h1,h2⟩:=h.root
  obtain⟨m',h3,h4,_⟩:=hold _ _ h1
  exact⟨m',h3,h4.trans h2⟩
 ·intro x m' hx
  rcases hinv x m' hx with⟨rfl,rfl⟩|⟨hxc,m,h1,h2,_⟩
  ·obtain⟨m',h3,_⟩:=hold _ _ hu
   exact⟨m',h3⟩
  ·obtain⟨q,hq⟩:=h.up _ _ h1
   obtain⟨q',h3,_⟩:=hold _ _ hq
   exact⟨q',by rw[h2];exact h3⟩
 ·intro x m' t y hx hy
  rcases hinv x m' hx with⟨rfl,rfl⟩|⟨hxc,m,h1,h2,h3⟩
  ·cases t<;>simp[CP.side]at hy
  ·have old:y∈m.side t→y≠ .z∧∃q,sit N c s y=some q∧q.up=x:=fun hy=>by
    obtain⟨h4,q,h5,h6⟩:=h.down _ _ t y h1 hy
    obtain⟨q',h7,h8,_⟩:=hold _ _ h5
    exact⟨h4,q',h7,h8.trans h6⟩
   rcases h3 with⟨rfl,rfl,rfl⟩|⟨_,rfl⟩
   ·by_cases ht:t=s.side
    ·subst ht
     rw[CP.put_side_same,FA]at hy
     rcases hy with rfl|hy
     ·exact⟨hz,⟨s.up,[],[]⟩,by rw[hget,Ak rfl],rfl⟩
     ·exact old hy
    ·rw[CP.put_side_other _ ht]at hy
     exact old hy
   ·exact old hy
 ·intro x m' hx hxz
  rcases hinv x m' hx with⟨rfl,rfl⟩|⟨hxc,m,h1,h2,_⟩
  ·rw[hrkc,hrk _ hcu];exact Nat.lt_succ_self _
  ·obtain⟨q,hq⟩:=h.up _ _ h1
   have hqc:m.up≠c:=fun e=>by rw[e,hc]at hq;cases hq
   rw[hrk _ hxc,h2,hrk _ hqc]
   exact h.rank _ _ h1 hxz
 ·intro x hx
  cases hs:sit N c s x with
  |none=>exact absurd hs hx
  |some m'=>
   rcases hinv x m' hs with⟨rfl,rfl⟩|⟨hxc,m,h1,_⟩
   ·rw[hrkc];have:=h.bound s.up (by rw[hu];simp);omega
   ·rw[hrk _ hxc];have:=h.bound x (by rw[h1];simp);omega
 ·intro x m' t hx
  rcases hinv x m' hx with⟨rfl,rfl⟩|⟨hxc,m,h1,h2,h3⟩
  ·cases t<;>simp[CP.side]
  ·have old:=h.sorted _ _ t h1
   rcases h3 with⟨rfl,rfl,rfl⟩|⟨_,rfl⟩
   ·by_cases ht:t=s.side
    ·subst ht
     rw[CP.put_side_same,hp]
     refine G8 (c:=fun a b:Chr=>BD a.op b.op) old c (H8 _ _) (I3 old _) ?_
     intro y hy hny
     have h1:¬BD y.op c.op=0:=fun e=>hne y hy (Ii.1 e)
     exact JW.2 (by omega)
    ·rw[CP.put_side_other _ ht];exact old
   ·exact old
 ·intro x m' t hx
  rcases hinv x m' hx with⟨rfl,rfl⟩|⟨hxc,m,h1,h2,h3⟩
  ·cases t<;>simp[CP.side]
  ·have old:=h.small _ _ t h1
   rcases h3 with⟨rfl,rfl,rfl⟩|⟨_,rfl⟩
   ·by_cases ht:t=s.side
    ·subst ht
     rw[CP.put_side_same,A3 (by rw[hp];exact H8 _ _)]
     omega
    ·rw[CP.put_side_other _ ht];omega
   ·omega
theorem BZ.mono{N:C5}{rk:Chr→Nat}{B M B' M':Nat}(h:BZ N rk B M)(hB:B≤B')(hM:M≤M'):BZ N rk B' M':=
 ⟨h.root,h.up,h.down,h.rank,fun c hc=>AG (h.bound c hc) hB,h.sorted,fun c n s hn=>AG (h.small c n s hn) hM⟩
/-- the characters behind the first of an op -/
theorem L6(id:Bid):∀(k i:Nat) (N:C5) (rk:Chr→Nat) (B M:Nat),BZ N rk B (M+1)→(∃n,N ⟨id,(i:Int)-1⟩=some n∧n.r=[])→(∀j:Nat,i≤j→N ⟨id,j⟩=none)→
  ∃rk',BZ (Ez id i k N) rk' (B+k) (M+1)
 |0,_,N,rk,B,M,h,_,_=>⟨rk,h⟩
 |k+1,i,N,rk,B,M,h,⟨n,hn,hr⟩,hf=>by
  unfold Ez
  have hc:=hf i (Ac _)
  have hp:(⟨⟨id,(i:Int)-1⟩,true,0⟩:Kv).pos=GM (n.side true) (⟨id,i⟩:Chr).op:=by
   simp[CP.side,hr,GM]
  have hget:=fun x=>G9 (c:=⟨id,i⟩) (s:=⟨⟨id,(i:Int)-1⟩,true,0⟩) hn x
  have h1:=Vf h (s:=⟨⟨id,(i:Int)-1⟩,true,0⟩) hc hn hp (by simp[CP.side,hr])
  have h2:BZ (sit N ⟨id,i⟩ ⟨⟨id,(i:Int)-1⟩,true,0⟩) (Oh rk ⟨id,i⟩ (rk ⟨id,(i:Int)-1⟩+1)) (B+1) (M+1):=by
   refine⟨h1.root,h1.up,h1.down,h1.rank,h1.bound,h1.sorted,?_⟩
   intro c m s hm
   rw[hget]at hm
   split at hm
   ·cases hm;cases s<;>simp[CP.side]
   ·split at hm
    ·cases hm
     by_cases hs:s=true
     ·subst hs
      rw[CP.put_side_same]
      simp[CP.side,hr,Ax]
     ·rw[CP.put_side_other _ hs];exact h.small _ _ _ hn
    ·exact h.small _ _ _ hm
  obtain⟨rk',h3⟩:=L6 id k (i+1) _ _ (B+1) M h2 ⟨⟨⟨id,(i:Int)-1⟩,[],[]⟩,by rw[hget,Ak (by simp<;>omega)],rfl⟩ (fun j hj=>by
   rw[hget,Ae (by simp<;>omega),Ae (by simp<;>omega)]
   exact hf j (by omega))
  exact⟨rk',h3.mono (by omega) (Ac _)⟩
/-- the seat of an op's first character -/
theorem LQ{N:C5}{o:Op}(hl:N o.left≠none)(hr:N o.right≠none):∃n,N (BG N o).up=some n:=by
 unfold BG
 simp only
 split
 ·exact BQ.1 hr
 ·exact BQ.1 hl
theorem Md{N:C5}{o:Op}{n:CP}(h:N (BG N o).up=some n):(BG N o).pos=GM (n.side (BG N o).side) o.id:=by
 have e:(BG N o).pos=GM (EU N (BG N o).up (BG N o).side) o.id:=rfl
 rw[e]
 unfold EU
 rw[h]
theorem NT{t:YT}{rk:Chr→Nat}{B M:Nat}(h:BZ t.nodes rk B M){o:Op}(hl:t.nodes o.left≠none)(hr:t.nodes o.right≠none)(hs:0<o.size)(hf:∀c:Chr,c.op=o.id→t.nodes c=none):
  ∃rk',BZ (Gv t o).nodes rk' (B+o.size) (M+1):=by
 obtain⟨n,hn⟩:=LQ hl hr
 have hc:t.nodes ⟨o.id,0⟩=none:=hf _ rfl
 have h1:=Vf h (c:=⟨o.id,0⟩) hc hn (Md hn) (fun x hx e=>by
  obtain⟨_,m,h2,_⟩:=h.down _ _ _ x hn hx
  rw[hf x e]at h2;cases h2)
 have hget:=fun x=>G9 (c:=⟨o.id,0⟩) hn x
 have hup:(BG t.nodes o).up≠⟨o.id,0⟩:=fun e=>by rw[e,hc]at hn;cases hn
 obtain⟨rk',h2⟩:=L6 o.id (o.size-1) 1 _ _ (B+1) M h1 ⟨⟨(BG t.nodes o).up,[],[]⟩,by rw[hget,Ak (by simp)],rfl⟩ (fun j hj=>by
  rw[hget,Ae (by simp<;>omega),Ae]
  ·exact hf _ rfl
  ·intro e
   rw[←e,hf _ rfl]at hn
   cases hn)
 exact⟨rk',h2.mono (by omega) (Ac _)⟩
/-- which characters are there behind an insertion -/
theorem Ju(id:Bid):∀(k i:Nat) (N:C5) (c:Chr),(∃n,N ⟨id,(i:Int)-1⟩=some n)→(Ez id i k N c≠none↔N c≠none∨(c.op=id∧(i:Int)≤c.i∧c.i<(i:Int)+k))
 |0,i,N,c,_=>by
  unfold Ez
  constructor
  ·exact .inl
  ·rintro(h|⟨_,h1,h2⟩)
   ·exact h
   ·simp at h2;omega
 |k+1,i,N,c,⟨n,hn⟩=>by
  unfold Ez
  have hget:=fun x=>G9 (c:=⟨id,i⟩) (s:=⟨⟨id,(i:Int)-1⟩,true,0⟩) hn x
  rw[Ju id k (i+1) _ c ⟨⟨⟨id,(i:Int)-1⟩,[],[]⟩,by rw[hget,Ak (by simp<;>omega)]⟩,hget]
  by_cases hc:c=⟨id,i⟩
  ·subst hc
   simp
   exact .inr (by omega)
  ·rw[Ae hc]
   by_cases hc2:c=⟨id,(i:Int)-1⟩
   ·subst hc2
    rw[Ak rfl]
    simp[hn]
   ·rw[Ae hc2]
    obtain⟨op,x⟩:=c
    simp only[Chr.mk.injEq,not_and]at hc hc2
    constructor
    ·rintro(h|⟨h1,h2,h3⟩)
     ·exact .inl h
     ·exact .inr ⟨h1,by push_cast at*;omega,by push_cast at*;omega⟩
    ·rintro(h|⟨h1,h2,h3⟩)
     ·exact .inl h
     ·have:=hc h1
      exact .inr ⟨h1,by push_cast at*;omega,by push_cast at*;omega⟩
theorem MZ{t:YT}{o:Op}(hl:t.nodes o.left≠none)(hr:t.nodes o.right≠none)(hs:0<o.size)(c:Chr):
  (Gv t o).nodes c≠none↔t.nodes c≠none∨(c.op=o.id∧0≤c.i∧c.i<o.size):=by
 obtain⟨n,hn⟩:=LQ hl hr
 have hget:=fun x=>G9 (c:=⟨o.id,0⟩) hn x
 show Ez o.id 1 (o.size-1) (sit t.nodes ⟨o.id,0⟩ (BG t.nodes o)) c≠none↔_
 rw[Ju o.id (o.size-1) 1 _ c ⟨⟨(BG t.nodes o).up,[],[]⟩,by rw[hget,Ak (by simp)]⟩,hget]
 by_cases hc:c=⟨o.id,0⟩
 ·subst hc
  simp
  omega
 ·rw[Ae hc]
  by_cases hc2:c=(BG t.nodes o).up
  ·rw[Ak hc2,hc2]
   simp[hn]
  ·rw[Ae hc2]
   obtain⟨op,x⟩:=c
   simp only[Chr.mk.injEq,not_and]at hc
   constructor
   ·rintro(h|⟨h1,h2,h3⟩)
    ·exact .inl h
    ·simp only at h1 h2 h3
     exact .inr ⟨h1,by simp only;omega,by simp only;omega⟩
   ·rintro(h|⟨h1,h2,h3⟩)
    ·exact .inl h
    ·have:=hc h1
     simp only at h2 h3
     exact .inr ⟨h1,by simp only;omega,by simp only;omega⟩
end Dc
namespace Dc
open Off (Bid AV Bn)
/-- a character of a row -/
structure RC where
 c:Chr
 gone:Bool
 mark:Bool
 b:UInt8
 deriving DecidableEq,Repr
def Cc(op:Bid)(gone mark:Bool):Nat→Bs→List RC
 |_,[]=>[]
 |k,b::t=>⟨⟨op,(k:Int)⟩,gone,mark,b⟩::Cc op gone mark (k+1) t
def BF(r:Run):List RC:=Cc r.op r.gone r.mark r.fr r.text
def Bz(l:Row):List RC:=l.flatMap BF
section
variable (op:Bid) (gone mark:Bool)
theorem CC:∀(k:Nat) (t:Bs),(Cc op gone mark k t).length=t.length
 |_,[]=>rfl
 |k,b::t=>by simp[Cc,CC (k+1) t]
theorem EP:∀(k:Nat) (a b:Bs),Cc op gone mark k (a++b)=Cc op gone mark k a++Cc op gone mark (k+a.length) b
 |_,[],_=>by simp[Cc]
 |k,x::a,b=>by
  have:=EP (k+1) a b
  simp only[au,Cc,this,BO]
  rw[show k+1+a.length=k+(a.length+1)by omega]
theorem Ea:∀(k:Nat) (t:Bs) (j:Nat) (h:j<t.length),(Cc op gone mark k t)[j]? =some ⟨⟨op,((k+j:Nat):Int)⟩,gone,mark,t[j]⟩
 |_,[],j,h=>absurd h (aK _)
 |k,x::t,0,_=>by simp[Cc]
 |k,x::t,j+1,h=>by
  have h':j<t.length:=by simpa using h
  have:=Ea (k+1) t j h'
  simp only[Cc,List.getElem?_cons_succ,this,List.getElem_cons_succ]
  rw[show k+1+j=k+(j+1)by omega]
theorem J8{k:Nat}{t:Bs}{x:RC}:x∈Cc op gone mark k t↔ ∃j,∃h:j<t.length,x=⟨⟨op,((k+j:Nat):Int)⟩,gone,mark,t[j]⟩:=by
 constructor
 ·intro hx
  obtain⟨j,hj⟩:=Fg hx
  have hlt:j<t.length:=by rw[←CC op gone mark k t];exact(AS.1 hj).1
  rw[Ea op gone mark k t j hlt]at hj
  exact⟨j,hlt,(Ap hj).symm⟩
 ·rintro⟨j,h,rfl⟩
  exact List.mem_of_getElem? (Ea op gone mark k t j h)
end
theorem CV(r:Run):(BF r).length=r.len:=CC _ _ _ _ _
theorem GL:Bz []=[]:=rfl
theorem BL(r:Run)(l:Row):Bz (r::l)=BF r++Bz l:=by simp[Bz]
theorem D9(l m:Row):Bz (l++m)=Bz l++Bz m:=by simp[Bz]
theorem Az:∀l:Row,(Bz l).length=CO l
 |[]=>rfl
 |r::l=>by rw[BL,Ai,CV,Az l];rfl
theorem G2(l m:Row):CO (l++m)=CO l+CO m:=by rw[←Az,D9,Ai,Az,Az]
theorem HJ{r:Run}{x:RC}:x∈BF r↔ ∃j,∃h:j<r.len,x=⟨⟨r.op,((r.fr+j:Nat):Int)⟩,r.gone,r.mark,r.text[j]⟩:=J8 _ _ _
theorem Ik{r:Run}{n:Nat}:BF (r.left n)=(BF r).take n:=by
 unfold BF Run.left
 simp only
 have h:=EP r.op r.gone r.mark r.fr (r.text.take n) (r.text.drop n)
 rw[A9]at h
 rw[h,List.take_append,CC]
 have h1:(Cc r.op r.gone r.mark r.fr (r.text.take n)).take n=Cc r.op r.gone r.mark r.fr (r.text.take n):=CB (by rw[CC];exact List.length_take_le _ _)
 rw[h1]
 by_cases hn:n≤r.text.length
 ·rw[Ad,B8 hn,Nat.sub_self];simp
 ·rw[Gl (by omega)];simp[Cc]
theorem I0{r:Run}{n:Nat}(hn:n≤r.len):BF (r.right n)=(BF r).drop n:=by
 unfold BF Run.right
 simp only
 have h:=EP r.op r.gone r.mark r.fr (r.text.take n) (r.text.drop n)
 rw[A9]at h
 have hl:(r.text.take n).length=n:=by rw[Ad];exact B8 hn
 have hz:(Cc r.op r.gone r.mark r.fr (r.text.take n)).drop n=[]:=Gl (by rw[CC,hl];exact Ac _)
 rw[h,List.drop_append,hz,CC,hl,Nat.sub_self]
 simp
theorem FC{r:Run}{n:Nat}(hn:n≤r.len):(r.left n).len=n:=by unfold Run.left Run.len;simp only[Ad];exact B8 hn
theorem E7(r:Run)(n:Nat):(r.right n).len=r.len-n:=by unfold Run.right Run.len;simp
/-- runs that are no shorter than one and no longer than an op's characters -/
def IK(r:Run):Prop:=1≤r.len∧r.fr+r.len≤64
def Cm(l:Row):Prop:=∀r∈l,IK r
theorem Cm.nil:Cm []:=fun _ h=>absurd h (by simp)
theorem Cm.append{l m:Row}(h:Cm l)(h':Cm m):Cm (l++m):=fun r hr=>(AC.1 hr).elim (h r) (h' r)
theorem Cm.cons{r:Run}{l:Row}(h:IK r)(h':Cm l):Cm (r::l):=fun x hx=>by
 rcases A7.1 hx with rfl|hx
 ·exact h
 ·exact h' x hx
theorem Cm.head{r:Run}{l:Row}(h:Cm (r::l)):IK r:=h r (by simp)
theorem Cm.tail{r:Run}{l:Row}(h:Cm (r::l)):Cm l:=fun x hx=>h x (by simp[hx])
theorem Cm.len_le:∀{l:Row},Cm l→l.length≤CO l
 |[],_=>Ah _
 |r::l,h=>by
  have h1:=Cm.len_le h.tail
  have h2:=h.head.1
  simp only[BO,CO]
  omega
theorem IK.left{r:Run}(h:IK r){n:Nat}(h1:1≤n)(h2:n≤r.len):IK (r.left n):=by
 refine⟨by rw[FC h2];exact h1,?_⟩
 rw[FC h2]
 have:=h.2
 show r.fr+n≤64
 omega
theorem IK.right{r:Run}(h:IK r){n:Nat}(h2:n<r.len):IK (r.right n):=by
 refine⟨by rw[E7];omega,?_⟩
 rw[E7]
 have:=h.2
 show r.fr+n+(r.len-n)≤64
 omega
theorem IT:∀(l:Row) (k:Nat),Bz (Bw l k).1=Bz l
 |[],_=>rfl
 |r::l,k=>by
  unfold Bw
  split
  ·rfl
  ·split
   ·rename_i h1 h2
    simp only
    rw[BL,BL,BL,Ik,I0 (by omega),←AI,A9]
   ·simp only
    rw[BL,BL,IT l]
theorem Oc:∀(l:Row) (k:Nat),(Bw l k).2≤(Bw l k).1.length
 |[],_=>Ah _
 |r::l,k=>by
  unfold Bw
  split
  ·exact Ah _
  ·split
   ·simp
   ·have:=Oc l (k-r.len)
    simp only[BO]
    omega
theorem KB:∀{l:Row} (_:Cm l) (k:Nat),Cm (Bw l k).1
 |[],_,_=>Cm.nil
 |r::l,h,k=>by
  unfold Bw
  split
  ·exact h
  ·split
   ·rename_i h1 h2
    exact .cons (h.head.left (by omega) (by omega)) (.cons (h.head.right h2) h.tail)
   ·exact .cons h.head (KB h.tail _)
/-- what stands ahead of the split -/
theorem IS:∀(l:Row) (k:Nat),k≤CO l→Bz ((Bw l k).1.take (Bw l k).2)=(Bz l).take k
 |[],k,h=>by simp[Bw,Bz]
 |r::l,k,h=>by
  simp only[CO]at h
  unfold Bw
  split
  ·rename_i h1;subst h1;simp[Bz]
  ·split
   ·rename_i h1 h2
    simp only[Ix,List.take_zero]
    rw[BL,GL,CJ,Ik,BL,List.take_append,CV,show k-r.len=0 by omega,List.take_zero,CJ]
   ·rename_i h1 h2
    simp only[Ix]
    rw[BL,IS l _ (by omega),BL,List.take_append,CV,CB (l:=BF r) (by rw[CV];omega)]
theorem Qq(l:Row)(k:Nat)(h:k≤CO l):Bz ((Bw l k).1.drop (Bw l k).2)=(Bz l).drop k:=by
 have h1:=IS l k h
 have h2:Bz ((Bw l k).1.take (Bw l k).2)++Bz ((Bw l k).1.drop (Bw l k).2)=Bz l:=by
  rw[←D9,A9,IT]
 rw[h1]at h2
 have h3:=A9 k (Bz l)
 exact List.append_cancel_left (h2.trans h3.symm)
theorem KU{r b:Run}:r.joins b=true↔r.op=b.op∧r.fr+r.len=b.fr∧r.gone=b.gone∧r.mark=false∧b.mark=false:=by
 unfold Run.joins
 simp only[AN,Au,JM,and_assoc]
theorem NK(out:Row)(r:Run):Bz (B6 out r)=Bz out++BF r:=by
 unfold B6
 cases h:out.getLast? with
 |none=>
  rw[List.getLast?_eq_none_iff.1 h]
  simp[Bz]
 |some q=>
  simp only
  obtain⟨hne,hq⟩:∃hne:out≠ [],out.getLast hne=q:=by
   cases out with
   |nil=>simp at h
   |cons a t=>exact⟨by simp,by rw[ar (by simp)]at h;exact Ap h⟩
  have ho:out=out.dropLast++[q]:=by rw[←hq];exact(aE hne).symm
  split
  ·rename_i hj
   obtain⟨h1,h2,h3,h4,h5⟩:=KU.1 hj
   have e:Bz out=Bz out.dropLast++BF q:=by conv=>lhs;rw[ho,D9,BL,GL,CJ]
   rw[D9,BL,GL,CJ,e,AI]
   congr 1
   unfold BF
   simp only
   rw[EP]
   have e2:q.fr+q.text.length=r.fr:=h2
   rw[h1,h3,h4,h5,e2]
  ·rw[D9,BL,GL,CJ]
theorem IG:∀(l:Row) (out:Row),Bz (l.foldl B6 out)=Bz out++Bz l
 |[],out=>by simp[Bz]
 |r::l,out=>by rw[Nv,IG l,NK,BL,AI]
theorem JF(l:Row):Bz (ID l)=Bz l:=by unfold ID;rw[IG];simp[Bz]
theorem QI{out:Row}{r:Run}(h:Cm out)(hr:IK r):Cm (B6 out r):=by
 unfold B6
 cases hq:out.getLast? with
 |none=>exact .cons hr .nil
 |some q=>
  simp only
  split
  ·rename_i hj
   obtain⟨h1,h2,h3,h4,h5⟩:=KU.1 hj
   refine .append (fun x hx=>h x (List.dropLast_subset _ hx)) (.cons ⟨?_,?_⟩ .nil)
   ·have:=hr.1
    unfold Run.len at*
    simp only[Ai]
    omega
   ·have h6:=hr.2
    unfold Run.len at*
    simp only[Ai]
    omega
  ·exact .append h (.cons hr .nil)
theorem JA:∀(l out:Row),Cm l→Cm out→Cm (l.foldl B6 out)
 |[],_,_,h=>h
 |_::l,_,h,h'=>JA l _ h.tail (QI h' h.head)
theorem QJ{l:Row}(h:Cm l):Cm (ID l):=JA l [] h .nil
theorem Uu(l:Row):CO (ID l)=CO l:=by rw[←Az,JF,Az]
theorem JS{x:Run}(h:Dz x=true):IK x:=by
 unfold Dz at h
 simp only[AN,Au]at h
 exact⟨h.1.1.1.1.2,h.1.2⟩
theorem V9{l:Row}(h:Cm l)(k:Int)(x:Run):Cm (Jq l k x):=by
 unfold Jq
 split
 ·exact h
 ·rename_i hz
  have hx:Dz x=true:=by
   unfold Hg at hz
   cases hr:Dz x with
   |true=>rfl
   |false=>rw[Ak hr]at hz;simp at hz
  have hs:=KB h k.toNat
  refine QJ ?_
  unfold Ax
  exact .append (fun r hr=>hs r (ap hr)) (.cons (JS hx) (fun r hr=>hs r (BC hr)))
/-- characters put at a place -/
theorem Oi{l:Row}{k:Int}{x:Run}(h:Hg l k x=0):Bz (Jq l k x)=(Bz l).take k.toNat++BF x++(Bz l).drop k.toNat:=by
 have hk:0≤k∧k≤CO l:=by
  unfold Hg at h
  split at h
  ·cases h
  ·split at h
   ·cases h
   ·omega
 unfold Jq
 rw[Ae (by simp[h])]
 simp only
 rw[JF]
 unfold Ax
 rw[D9,BL,IS l _ (by omega),Qq l _ (by omega),AI]
theorem Vy(l:Row)(k:Int)(x:Run):CO (Jq l k x)≤CO l+x.len:=by
 by_cases h:Hg l k x=0
 ·rw[←Az,Oi h]
  simp only[Ai,Ad,Am,CV,Az]
  omega
 ·unfold Jq
  rw[Ak h]
  omega
/-! characters that are gone -/
def EK(c:Cut)(x:Chr):Bool:=decide (x.op=c.op)&&decide (c.fr≤x.i)&&decide (x.i<c.to)
def Hj(c:Cut)(x:RC):RC:=if EK c x.c then{x with gone:=true}else x
theorem WX(c:Cut)(x:RC):(Hj c x).c=x.c:=by unfold Hj;split<;>rfl
theorem Hw{c:Cut}:∀{l:List RC},(∀x∈l,Hj c x=x)→l.map (Hj c)=l
 |[],_=>rfl
 |x::l,h=>by
  rw[Cd,h x (by simp),Hw fun y hy=>h y (by simp[hy])]
theorem To(r:Run)(c:Cut)(h:∀j,j<r.len→EK c ⟨r.op,((r.fr+j:Nat):Int)⟩=true):BF {r with gone:=true}=(BF r).map (Hj c):=by
 apply List.ext_getElem?
 intro j
 rw[Ei]
 unfold BF
 simp only
 by_cases hj:j<r.text.length
 ·rw[Ea _ _ _ _ _ _ hj,Ea _ _ _ _ _ _ hj]
  simp only[Option.map_some]
  congr 1
  unfold Hj
  simp only
  rw[Ak (h j hj)]
 ·rw[DY (by rw[CC];omega),DY (by rw[CC];omega)]
  rfl
theorem IZ{c:Cut}{x:RC}(h:EK c x.c=false):Hj c x=x:=by unfold Hj;rw[h];rfl
theorem UE{c:Cut}{x:RC}(h:x.gone=true):Hj c x=x:=by
 unfold Hj
 split
 ·cases x;simp_all
 ·rfl
theorem Rt(r:Run)(c:Cut):Bz (DR r c).1=(BF r).map (Hj c):=by
 unfold DR
 simp only
 split
 ·rename_i h
  rw[BL,GL,CJ]
  refine(Hw fun x hx=>?_).symm
  obtain⟨j,hj,rfl⟩:=HJ.1 hx
  rcases h with h|h|h
  ·exact IZ (by unfold EK;simp[h])
  ·exact UE h
  ·refine IZ ?_
   unfold EK
   rw[Ej]
   intro e
   simp only[AN,Au]at e
   obtain⟨⟨e1,e2⟩,e3⟩:=e
   push_cast at e2 e3
   omega
 ·rename_i h
  simp only[not_or]at h
  obtain⟨h1,h2,h3⟩:=h
  have hop:r.op=c.op:=Classical.not_not.1 h1
  obtain⟨i,hi⟩:∃i:Nat,(max c.fr r.fr-r.fr).toNat=i:=⟨_,rfl⟩
  obtain⟨j,hj⟩:∃j:Nat,(min c.to (r.fr+r.len)-r.fr).toNat=j:=⟨_,rfl⟩
  rw[hi,hj]
  have hil:(i:Int)=max c.fr r.fr-r.fr:=by omega
  have hjl:(j:Int)=min c.to (r.fr+r.len)-r.fr:=by omega
  have hij:i<j:=by omega
  have hjr:j≤r.len:=by omega
  -- the three parts
  have hA:Bz (if(r.fr:Int)<max c.fr r.fr then[r.left i]else[])=(BF r).take i:=by
   split
   ·rw[BL,GL,CJ,Ik]
   ·have:i=0:=by omega
    rw[this];simp[Bz]
  have hC:Bz (if min c.to (r.fr+r.len)<(r.fr:Int)+r.len then[r.right j]else[])=(BF r).drop j:=by
   split
   ·rw[BL,GL,CJ,I0 hjr]
   ·have:j=r.len:=by omega
    rw[this,Gl (by rw[CV];exact Ac _)];rfl
  have hlj:((r.left j).right i).len=j-i:=by rw[E7,FC hjr]
  have hB:BF {(r.left j).right i with gone:=true}=((BF r).drop i |>.take (j-i)).map (Hj c):=by
   rw[To ((r.left j).right i) c]
   ·rw[I0 (by rw[FC hjr];omega),Ik,List.take_drop]
    rw[show i+(j-i)=j by omega]
   ·intro k hk
    rw[hlj]at hk
    have e1:((r.left j).right i).fr=r.fr+i:=rfl
    have e2:((r.left j).right i).op=r.op:=rfl
    unfold EK
    rw[e1,e2]
    simp only[AN,Au]
    refine⟨⟨hop,?_⟩,?_⟩
    ·push_cast;omega
    ·push_cast;omega
  rw[D9,BL,hA,hB,hC]
  have hsplit:BF r=(BF r).take i++((BF r).drop i |>.take (j-i))++(BF r).drop j:=by
   have e1:=A9 i (BF r)
   have e2:=A9 (j-i) ((BF r).drop i)
   rw[List.drop_drop,show i+(j-i)=j by omega]at e2
   rw[AI,e2,e1]
  conv=>rhs;rw[hsplit]
  rw[Bo,Bo,AI]
  have hget:∀q x,(BF r)[q]? =some x→x.c=⟨r.op,((r.fr+q:Nat):Int)⟩∧q<r.len:=by
   intro q x hq
   have hlt:q<r.text.length:=by
    have:=(AS.1 hq).1
    rwa [CV]at this
   unfold BF at hq
   rw[Ea _ _ _ _ _ _ hlt]at hq
   cases hq
   exact⟨rfl,hlt⟩
  congr 1
  ·refine(Hw fun x hx=>IZ ?_).symm
   obtain⟨q,hq⟩:=Fg hx
   rw[AO]at hq
   split at hq
   ·obtain⟨hc,_⟩:=hget q x hq
    unfold EK
    rw[hc,Ej]
    intro e
    simp only[AN,Au]at e
    obtain⟨⟨_,e2⟩,e3⟩:=e
    push_cast at e2 e3
    omega
   ·cases hq
  ·congr 1
   refine(Hw fun x hx=>IZ ?_).symm
   obtain⟨q,hq⟩:=Fg hx
   rw[B5]at hq
   obtain⟨hc,hql⟩:=hget (j+q) x hq
   unfold EK
   rw[hc,Ej]
   intro e
   simp only[AN,Au]at e
   obtain⟨⟨_,e2⟩,e3⟩:=e
   push_cast at e2 e3
   omega
theorem OL{r:Run}(h:IK r)(c:Cut):Cm (DR r c).1:=by
 unfold DR
 simp only
 split
 ·exact .cons h .nil
 ·rename_i hh
  simp only[not_or]at hh
  obtain⟨h1,h2,h3⟩:=hh
  obtain⟨i,hi⟩:∃i:Nat,(max c.fr r.fr-r.fr).toNat=i:=⟨_,rfl⟩
  obtain⟨j,hj⟩:∃j:Nat,(min c.to (r.fr+r.len)-r.fr).toNat=j:=⟨_,rfl⟩
  rw[hi,hj]
  have hil:(i:Int)=max c.fr r.fr-r.fr:=by omega
  have hjl:(j:Int)=min c.to (r.fr+r.len)-r.fr:=by omega
  have hij:i<j:=by omega
  have hjr:j≤r.len:=by omega
  have hL:=h.left (n:=j) (by omega) hjr
  have hM:=hL.right (n:=i) (by rw[FC hjr];exact hij)
  refine .append ?_ (.cons hM ?_)
  ·split
   ·exact .cons (h.left (by omega) (by omega)) .nil
   ·exact .nil
  ·split
   ·exact .cons (h.right (by omega)) .nil
   ·exact .nil
theorem FV(c:Cut):∀l:Row,Bz (l.flatMap fun r=>(DR r c).1)=(Bz l).map (Hj c)
 |[]=>rfl
 |r::l=>by rw[BE,D9,Rt,FV c l,BL,Bo]
theorem KY(l:Row)(c:Cut):Bz (NZ l c)=(Bz l).map (Hj c):=by unfold NZ;rw[JF,FV]
theorem Wv{l:Row}(h:Cm l)(c:Cut):Cm (NZ l c):=by
 unfold NZ
 refine QJ fun r hr=>?_
 obtain⟨q,hq,hr⟩:=Ba.1 hr
 exact OL (h q hq) c r hr
theorem Vz(l:Row)(c:Cut):CO (NZ l c)=CO l:=by rw[←Az,KY,AM,Az]
theorem QT(l:Row)(c:Cut):CO (l.flatMap fun r=>(DR r c).1)=CO l:=by rw[←Az,FV,AM,Az]
end Dc
namespace Dc
open Off (Bid AV Bn DF)
theorem Eg{o:Op}(h:o.ok=true):Bm o.t o.id.R=true∧AV o.id=true∧o.parts=true∧o.own=o:=by
 unfold Op.ok at h
 simp only[AN,Au]at h
 exact⟨h.1.1.1,h.1.1.2,h.1.2,h.2⟩
theorem O7{o:Op}(h:o.ok=true):o.size≤64:=by
 have hp:=(Eg h).2.2.1
 unfold Op.size
 split
 ·rename_i hk
  unfold Op.parts at hp
  rw[hk]at hp
  simp[Vo]at hp
  omega
 ·split<;>omega
theorem QH{o:Op}(h:o.ok=true):o.id≠ .z:=by
 have h1:=DF.1 (Eg h).2.1
 intro e
 rw[e]at h1
 simp[Bid.z]at h1
/-- the texts are whole behind n ops -/
structure DT(x:TX)(n:Nat):Prop where
 nodes:∀seg t,x.texts seg=some t→∃rk,BZ t.nodes rk (64*n) n
 row:∀seg t,x.texts seg=some t→Cm t.row∧CO t.row≤64*n
 made:∀i s,x.made i=some s→(∃t,x.texts s.seg=some t)∧0≤s.size∧s.size≤64
 chars:∀seg t c,x.texts seg=some t→(t.nodes c≠none↔c= .z∨∃s,x.made c.op=some s∧s.seg=seg∧0≤c.i∧c.i<s.size)
theorem DT.new:DT .new 0:=by
 refine⟨?_,?_,?_,?_⟩
 ·intro _ _ h;simp[TX.new]at h
 ·intro _ _ h;simp[TX.new]at h
 ·intro _ _ h;simp[TX.new]at h
 ·intro _ _ _ h;simp[TX.new]at h
theorem DT.mono{x:TX}{n m:Nat}(h:DT x n)(hm:n≤m):DT x m:=
 ⟨fun s t e=>(h.nodes s t e).imp fun rk hk=>hk.mono (by omega) hm,fun s t e=>⟨(h.row s t e).1,by have:=(h.row s t e).2;omega⟩,h.made,h.chars⟩
theorem Oq(c:Chr):YT.new.nodes c≠none↔c= .z:=by
 unfold YT.new
 simp only
 split<;>simp_all
theorem DT.open'{x:TX}{n:Nat}(h:DT x n){seg:Bid}(he:DG x seg=0):DT (Gn x seg) (n+1):=by
 have hno:x.texts seg=none:=by
  unfold DG at he
  split at he
  ·cases he
  ·split at he
   ·cases he
   ·rename_i hh
    simp only[not_or]at hh
    cases hs:x.texts seg with
    |none=>rfl
    |some t=>rw[hs]at hh;simp at hh
 have hget:∀s t,(Gn x seg).texts s=some t→(s=seg∧t= .new)∨(s≠seg∧x.texts s=some t):=by
  intro s t e
  unfold Gn EF at e
  simp only at e
  split at e
  ·cases e;exact .inl ⟨by assumption,rfl⟩
  ·exact .inr ⟨by assumption,e⟩
 refine⟨?_,?_,?_,?_⟩
 ·intro s t e
  rcases hget s t e with⟨rfl,rfl⟩|⟨_,e⟩
  ·exact⟨_,BZ.new.mono (Ah _) (Ah _)⟩
  ·exact(h.nodes s t e).imp fun rk hk=>hk.mono (by omega) (by omega)
 ·intro s t e
  rcases hget s t e with⟨rfl,rfl⟩|⟨_,e⟩
  ·exact⟨Cm.nil,Ah _⟩
  ·exact⟨(h.row s t e).1,by have:=(h.row s t e).2;omega⟩
 ·intro i s e
  obtain⟨⟨t,ht⟩,h2⟩:=h.made i s e
  refine⟨?_,h2⟩
  unfold Gn EF
  simp only
  split
  ·exact⟨_,rfl⟩
  ·exact⟨t,ht⟩
 ·intro s t c e
  rcases hget s t e with⟨rfl,rfl⟩|⟨_,e⟩
  ·rw[Oq]
   constructor
   ·exact .inl
   ·rintro(h1|⟨q,h1,h2,_⟩)
    ·exact h1
    ·obtain⟨⟨t,ht⟩,_⟩:=h.made _ q h1
     rw[h2,hno]at ht;cases ht
  ·exact h.chars s t c e
/-- what an insertion leans on -/
theorem M1{x:TX}{n:Nat}(h:DT x n){o:Op}(he:FG x o=0)(hok:o.ok=true):
  x.texts o.id=none∧x.made o.id=none∧∃t,x.texts o.seg=some t∧PD t o=0∧t.nodes o.left≠none∧t.nodes o.right≠none∧0<o.size∧∀c:Chr,c.op=o.id→t.nodes c=none:=by
 unfold FG at he
 split at he
 ·cases he
 ·rename_i hh
  simp only[not_or,Bool.not_eq_true,Option.isSome_eq_false_iff,Option.isNone_iff_eq_none]at hh
  refine⟨hh.1,hh.2,?_⟩
  cases hs:x.texts o.seg with
  |none=>rw[hs]at he;cases he
  |some t=>
   rw[hs]at he
   simp only at he
   refine⟨t,rfl,he,?_⟩
   unfold PD at he
   split at he
   ·cases he
   ·rename_i h1
    split at he
    ·cases he
    ·split at he
     ·cases he
     ·rename_i h3
      simp only[not_or,Bool.not_eq_true,Option.isNone_eq_false_iff]at h3
      simp only[not_or]at h1
      refine⟨fun e=>by rw[e]at h3;simp at h3,fun e=>by rw[e]at h3;simp at h3,by omega,fun c hc=>?_⟩
      cases hcn:t.nodes c with
      |none=>rfl
      |some m=>
       exfalso
       rcases(h.chars _ t c hs).1 (by rw[hcn];simp)with e|⟨s,h4,_⟩
       ·rw[e]at hc
        exact QH hok hc.symm
       ·rw[hc,hh.2]at h4;cases h4
theorem DT.ins{x:TX}{n:Nat}(h:DT x n){o:Op}(he:FG x o=0)(hok:o.ok=true):DT (LI x o) (n+1):=by
 obtain⟨hi,hm,t,ht,he2,hl,hr,hs,hf⟩:=M1 h he hok
 have hsz:=O7 hok
 have e0:LI x o=⟨EF x.texts o.seg (Gv t o),Mc x.made o.id ⟨o.seg,o.size,decide (o.kind=5)⟩⟩:=by unfold LI;rw[ht]
 rw[e0]
 have hget:∀s u,EF x.texts o.seg (Gv t o) s=some u→(s=o.seg∧u=Gv t o)∨(s≠o.seg∧x.texts s=some u):=by
  intro s u e
  unfold EF at e
  split at e
  ·cases e;exact .inl ⟨by assumption,rfl⟩
  ·exact .inr ⟨by assumption,e⟩
 refine⟨?_,?_,?_,?_⟩
 ·intro s u e
  rcases hget s u e with⟨rfl,rfl⟩|⟨_,e⟩
  ·obtain⟨rk,hk⟩:=h.nodes _ t ht
   obtain⟨rk',hk'⟩:=NT hk hl hr hs hf
   exact⟨rk',hk'.mono (by omega) (by omega)⟩
  ·exact(h.nodes s u e).imp fun rk hk=>hk.mono (by omega) (by omega)
 ·intro s u e
  rcases hget s u e with⟨rfl,rfl⟩|⟨_,e⟩
  ·obtain⟨h1,h2⟩:=h.row _ t ht
   refine⟨V9 h1 _ _,?_⟩
   have h3:=Vy t.row (C4 t (BG t.nodes o)) (B0 o)
   have h4:(B0 o).len≤64:=by
    unfold B0
    split
    ·simp[Run.len]
    ·rename_i hk5
     have:o.kind=3:=by
      unfold Op.size at hs
      split at hs
      ·assumption
      ·exact absurd hs (GB 0)
     unfold Op.size at hsz
     rw[Ak this]at hsz
     simpa[Run.len]using hsz
   show CO (Jq t.row (C4 t (BG t.nodes o)) (B0 o))≤64*(n+1)
   omega
  ·exact⟨(h.row s u e).1,by have:=(h.row s u e).2;omega⟩
 ·intro i s e
  simp only[Mc]at e
  have hseg:∃t',EF x.texts o.seg (Gv t o) o.seg=some t':=⟨_,by unfold EF;rw[Ak rfl]⟩
  split at e
  ·cases e
   exact⟨hseg,by simp,by simp only;omega⟩
  ·obtain⟨⟨t',ht'⟩,h2⟩:=h.made i s e
   refine⟨?_,h2⟩
   unfold EF
   simp only
   split
   ·exact⟨_,rfl⟩
   ·exact⟨t',ht'⟩
 ·intro s u c e
  simp only[Mc]
  rcases hget s u e with⟨rfl,rfl⟩|⟨hne,e⟩
  ·rw[MZ hl hr hs,h.chars _ t c ht]
   by_cases hc:c.op=o.id
   ·rw[Ak hc,hc,hm]
    simp
   ·rw[Ae hc]
    simp[hc]
  ·rw[h.chars s u c e]
   by_cases hc:c.op=o.id
   ·rw[Ak hc,hc,hm]
    simp
    intro e2
    exact absurd e2.symm hne
   ·rw[Ae hc]
theorem DT.del1{x:TX}{n:Nat}(h:DT x n)(c:Cut):DT (del1 x c) n:=by
 unfold Dc.del1
 cases hm:x.made c.op with
 |none=>exact h
 |some s=>
  simp only
  cases ht:x.texts s.seg with
  |none=>exact h
  |some t=>
   simp only
   have hget:∀q u,EF x.texts s.seg (PR t c) q=some u→(q=s.seg∧u=PR t c)∨(q≠s.seg∧x.texts q=some u):=by
    intro q u e
    unfold EF at e
    split at e
    ·cases e;exact .inl ⟨by assumption,rfl⟩
    ·exact .inr ⟨by assumption,e⟩
   refine⟨?_,?_,?_,?_⟩
   ·intro q u e
    rcases hget q u e with⟨rfl,rfl⟩|⟨_,e⟩
    ·exact h.nodes _ t ht
    ·exact h.nodes q u e
   ·intro q u e
    rcases hget q u e with⟨rfl,rfl⟩|⟨_,e⟩
    ·exact⟨Wv (h.row _ t ht).1 c,by show CO (NZ t.row c)≤_;rw[Vz];exact(h.row _ t ht).2⟩
    ·exact h.row q u e
   ·intro i r e
    obtain⟨⟨t',ht'⟩,h2⟩:=h.made i r e
    refine⟨?_,h2⟩
    unfold EF
    simp only
    split
    ·exact⟨_,rfl⟩
    ·exact⟨t',ht'⟩
   ·intro q u d e
    rcases hget q u e with⟨rfl,rfl⟩|⟨_,e⟩
    ·exact h.chars _ t d ht
    ·exact h.chars q u d e
theorem DT.delX{n:Nat}:∀{l:List Cut} {x:TX},DT x n→DT (delX x l) n
 |[],_,h=>h
 |c::l,_,h=>DT.delX (l:=l) (h.del1 c)
theorem DT.write{x:TX}{n:Nat}(h:DT x n){o:Op}(hok:o.ok=true)(he:D2 x o=0):DT (Gh x o) (n+1):=by
 unfold D2 at he
 unfold Gh
 split
 ·rename_i hk
  rw[Ak hk]at he
  exact h.open' he
 ·rename_i hk
  rw[Ae hk]at he
  split
  ·rename_i hk2
   rw[Ak hk2]at he
   unfold E4 at he
   unfold doX
   rw[Ae (by simp[hok])]at he
   split
   ·rename_i hs
    rw[Ak hs]at he
    exact h.ins he hok
   ·exact(h.mono (Hq _)).delX
  ·exact h.mono (Hq _)
/-! the document -/
structure DocOk(d:Doc):Prop where
 tx:DT d.tx d.ops.length
 sorted:d.ms.Pairwise fun a b=>Bi a b<0
 right:∀m∈d.ms,m.right=true
 ids:∀m∈d.ms,d.kinds m.id≠none
 len:d.ms.length≤d.ops.length
 ops:∀o∈d.ops,o.ok=true
 kinds:∀i,d.kinds i≠none↔ ∃o∈d.ops,o.id=i
theorem DocOk.new:DocOk .new:=by
 refine⟨DT.new,List.Pairwise.nil,?_,?_,Ah _,?_,?_⟩<;>simp[Doc.new]
theorem HU{d:Doc}{o:Op}(h:d.err o=0):o.ok=true∧d.kinds o.id=none∧d.known o=true∧D2 d.tx o=0:=by
 unfold Doc.err at h
 split at h
 ·cases h
 ·rename_i h1
  split at h
  ·cases h
  ·rename_i h2
   split at h
   ·cases h
   ·rename_i h3
    refine⟨by simpa using h1,?_,by simpa using h3,h⟩
    unfold Doc.has at h2
    cases hk:d.kinds o.id with
    |none=>rfl
    |some _=>rw[hk]at h2;simp at h2
theorem MJ{o:Op}{b:Bid}(hok:o.ok=true)(hp:KI o=true)(hb:AV b=true):(CN o b).right=true:=by
 unfold C2.right CN
 unfold KI at hp
 simp only[AN]at hp⊢
 obtain⟨h1,h2,_⟩:=Eg hok
 exact⟨⟨⟨⟨h1,h2⟩,hb⟩,hp.1⟩,hp.2⟩
theorem KR(ms:List C2)(m:C2):Pi ms m≤ms.length:=Fj _ _
theorem Ph{ms:List C2}(hs:ms.Pairwise fun a b=>Bi a b<0)(m:C2)(j:Nat)(hj:j<ms.length):decide (Bi ms[j] m<0)=decide (j<Pi ms m):=
 IR (fun x:C2=>decide (Bi x m<0)) ms (fun i k hi hk hik hh=>by
  rcases BR hik with rfl|hlt
  ·exact hh
  ·simp only[Au]at hh⊢
   exact IA (C9.1 hs i k hi hk hlt) hh) j hj
theorem I6{ms:List C2}(hs:ms.Pairwise fun a b=>Bi a b<0){m:C2}(hn:∀x∈ms,x.id≠m.id):(DI ms m).Pairwise fun a b=>Bi a b<0:=by
 unfold DI
 refine G8 (c:=Bi) hs m (KR _ _) (Ph hs m) fun y hy hny=>?_
 have h1:¬Bi y m=0:=fun e=>hn y hy (ME.1 e).2.2
 exact MF.2 (by omega)
theorem IW{ms:List C2}{m x:C2}:x∈DI ms m↔x=m∨x∈ms:=FA
theorem MR(ms:List C2)(m:C2):(DI ms m).length=ms.length+1:=A3 (KR _ _)
/-- the move that an op makes -/
def Op.mv(o:Op):Option C2:=if o.kind=1∨o.kind=5 then some (CN o o.id)else if o.kind=2 then some (CN o o.block)else none
theorem Kr(d:Doc)(o:Op):(d.apply o).ms=match o.mv with|some m=>DI d.ms m|none=>d.ms:=by
 unfold Doc.apply Op.mv
 simp only
 split
 ·rfl
 ·split<;>rfl
theorem WN{o:Op}{m:C2}(h:o.mv=some m):m.id=o.id:=by
 unfold Op.mv at h
 split at h
 ·cases h;rfl
 ·split at h
  ·cases h;rfl
  ·cases h
theorem JZ{o:Op}{m:C2}(hok:o.ok=true)(h:o.mv=some m):m.right=true:=by
 obtain⟨_,h2,h3,_⟩:=Eg hok
 unfold Op.parts at h3
 unfold Op.mv at h
 split at h
 ·rename_i hk
  cases h
  refine MJ hok ?_ h2
  rcases hk with hk|hk
  ·rw[hk]at h3;simpa using h3
  ·rw[hk]at h3;simp at h3;exact h3.2
 ·split at h
  ·rename_i hk
   cases h
   rw[hk]at h3
   simp at h3
   exact MJ hok h3.2 h3.1
  ·cases h
theorem DocOk.apply{d:Doc}(h:DocOk d){o:Op}(he:d.err o=0):DocOk (d.apply o):=by
 obtain⟨hok,hk,_,hw⟩:=HU he
 have hkn:∀i,(d.apply o).kinds i≠none↔i=o.id∨d.kinds i≠none:=by
  intro i
  unfold Doc.apply Sj
  simp only
  by_cases hi:i=o.id
  ·rw[Ak hi];simp[hi]
  ·rw[Ae hi];simp[hi]
 have hms:=Kr d o
 have hnew:∀m,o.mv=some m→∀x∈d.ms,x.id≠m.id:=fun m hm x hx e=>by
  have:=h.ids x hx
  rw[e,WN hm,hk]at this
  exact this rfl
 refine⟨?_,?_,?_,?_,?_,?_,?_⟩
 ·have:=h.tx.write hok hw
  show DT (Gh d.tx o) (d.ops++[o]).length
  simpa using this
 ·rw[hms]
  cases hm:o.mv with
  |none=>exact h.sorted
  |some m=>exact I6 h.sorted (hnew m hm)
 ·rw[hms]
  cases hm:o.mv with
  |none=>exact h.right
  |some m=>
   intro x hx
   rcases IW.1 hx with rfl|hx
   ·exact JZ hok hm
   ·exact h.right x hx
 ·rw[hms]
  intro x hx
  rw[hkn]
  cases hm:o.mv with
  |none=>rw[hm]at hx;exact .inr (h.ids x hx)
  |some m=>
   rw[hm]at hx
   rcases IW.1 hx with rfl|hx
   ·exact .inl (WN hm)
   ·exact .inr (h.ids x hx)
 ·rw[hms]
  have:(d.apply o).ops.length=d.ops.length+1:=by unfold Doc.apply;simp
  rw[this]
  have hl:=h.len
  cases hm:o.mv with
  |none=>simp only;omega
  |some m=>simp only;rw[MR];omega
 ·intro x hx
  have hx':x∈d.ops++[o]:=hx
  rcases AC.1 hx' with hx|hx
  ·exact h.ops x hx
  ·rw[AU.1 hx];exact hok
 ·intro i
  rw[hkn,h.kinds]
  show _↔ ∃x∈d.ops++[o],x.id=i
  constructor
  ·rintro(rfl|⟨x,hx,rfl⟩)
   ·exact⟨o,by simp,rfl⟩
   ·exact⟨x,by simp[hx],rfl⟩
  ·rintro⟨x,hx,rfl⟩
   rcases AC.1 hx with hx|hx
   ·exact .inr ⟨x,hx,rfl⟩
   ·rw[AU.1 hx];exact .inl rfl
theorem DocOk.act{d:Doc}(h:DocOk d)(o:Op):DocOk (d.act o):=by
 unfold Doc.act
 split
 ·exact h.apply (by assumption)
 ·exact h
end Dc
