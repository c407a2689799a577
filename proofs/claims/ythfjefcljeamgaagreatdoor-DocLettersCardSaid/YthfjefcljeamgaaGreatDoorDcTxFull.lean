/- joined: What is below a block, in order: each block once. Outlines: each block behind its parent, one deeper than that. The characters of a text's row are those of its tree; what each shows; which are gone. What the characters of all texts show, and which are gone, by the ops that were done. -/
import Derived.Test.YthfjefcljeamgaaGreatDoorDcTx
namespace Dc
open Off (Bid AV Bn)
/-- a is b, or stands below it -/
def RR(f:AB)(a b:Bid):Prop:=a=b∨Bel f a b
theorem FY{f:AB}{rk:Bid→Nat}(h:Ce f rk){a:Bid}:¬Bel f a a:=fun e=>GB _ (VN h e)
theorem UW{f:AB}{x y z:Bid}(h:Bel f x y)(h':Bel f x z):y=z∨Bel f y z∨Bel f z y:=by
 induction h with
 |one hx=>
  obtain⟨p,hp,h2⟩:=E9.1 h'
  rw[hx]at hp;cases hp
  rcases h2 with h2|h2
  ·exact .inl h2
  ·exact .inr (.inl h2)
 |more hx hb ih=>
  obtain⟨p,hp,h2⟩:=E9.1 h'
  rw[hx]at hp;cases hp
  rcases h2 with h2|h2
  ·subst h2;exact .inr (.inr hb)
  ·exact ih h2
theorem TE{f:AB}{x y z:Bid}(h:RR f x y)(h':RR f x z):y=z∨Bel f y z∨Bel f z y:=by
 rcases h with rfl|h
 ·rcases h' with rfl|h'
  ·exact .inl rfl
  ·exact .inr (.inl h')
 ·rcases h' with rfl|h'
  ·exact .inr (.inr h)
  ·exact UW h h'
theorem I4{f:AB}{x b:Bid}{p:Dt}(h:f x=some p):Bel f x b↔RR f p.parent b:=by
 rw[E9]
 constructor
 ·rintro⟨q,hq,h2⟩
  rw[h]at hq;cases hq
  exact h2
 ·intro h2;exact⟨p,h,h2⟩
/-- two children of one block have nothing below in common -/
theorem PZ{f:AB}{rk:Bid→Nat}(hr:Ce f rk){x c d:Bid}{p q:Dt}(hc:f c=some p)(hd:f d=some q)(he:p.parent=q.parent)(h1:RR f x c)(h2:RR f x d):c=d:=by
 rcases TE h1 h2 with h|h|h
 ·exact h
 ·exfalso
  have h3:=(I4 hc).1 h
  have h4:Bel f d q.parent:= .one hd
  rcases h3 with h3|h3
  ·rw[←h3,he]at h4;exact FY hr h4
  ·rw[he]at h3;exact FY hr (K2 h3 h4)
 ·exfalso
  have h3:=(I4 hd).1 h
  have h4:Bel f c p.parent:= .one hc
  rcases h3 with h3|h3
  ·rw[←h3,←he]at h4;exact FY hr h4
  ·rw[←he]at h3;exact FY hr (K2 h3 h4)
def Ds:Nat→CZ→Bid→List Bid
 |0,_,_=>[]
 |n+1,L,a=>(L a).flatMap fun c=>c.id::Ds n L c.id
/-- n rounds are enough below a -/
def Deep(f:AB)(rk:Bid→Nat)(n:Nat)(a:Bid):Prop:=∀x,f x≠none→rk x≤rk a+n
theorem Deep.none{f:AB}{L:CZ}{rk:Bid→Nat}(hk:CH f L)(hr:Ce f rk){a:Bid}(h:Deep f rk 0 a):L a=[]:=by
 cases hl:L a with
 |nil=>rfl
 |cons c t=>
  have hc:f c.id=some ⟨a,c.key⟩:=(hk.mem a c).1 (by rw[hl];simp)
  have h1:=hr _ _ hc
  have h2:=h c.id (by rw[hc];simp)
  simp only at h1
  omega
theorem Deep.child{f:AB}{L:CZ}{rk:Bid→Nat}(hk:CH f L)(hr:Ce f rk){n:Nat}{a:Bid}(h:Deep f rk (n+1) a){c:C0}(hc:c∈L a):Deep f rk n c.id:=by
 intro x hx
 have h1:=hr _ _ ((hk.mem a c).1 hc)
 have h2:=h x hx
 simp only at h1
 omega
theorem Fh{f:AB}{L:CZ}{rk:Bid→Nat}(hk:CH f L)(hr:Ce f rk):∀(n:Nat) (a:Bid),Deep f rk n a→∀x,x∈Ds n L a↔Bel f x a
 |0,a,hd,x=>by
  have hl:=hd.none hk hr
  unfold Ds
  constructor
  ·intro h;simp at h
  ·intro h
   exfalso
   -- some block just below a
   have:∀{x b:Bid},Bel f x b→∃c p,f c=some p∧p.parent=b:=by
    intro x b h
    induction h with
    |one h=>exact⟨_,_,h,rfl⟩
    |more _ _ ih=>exact ih
   obtain⟨c,p,h1,h2⟩:=this h
   have h3:(⟨p.key,c⟩:C0)∈L a:=(hk.mem a ⟨p.key,c⟩).2 (by rw[h1,←h2])
   rw[hl]at h3;cases h3
 |n+1,a,hd,x=>by
  unfold Ds
  simp only[Ba,A7]
  constructor
  ·rintro⟨c,hc,rfl|h⟩
   ·have:=(hk.mem a c).1 hc
    exact .one this
   ·have h1:=(Fh hk hr n c.id (hd.child hk hr hc) x).1 h
    have h2:Bel f c.id a:= .one ((hk.mem a c).1 hc)
    exact K2 h1 h2
  ·intro h
   have:∀{x b:Bid},Bel f x b→∃c p,f c=some p∧p.parent=b∧RR f x c:=by
    intro x b h
    induction h with
    |one h=>exact⟨_,_,h,rfl,.inl rfl⟩
    |more h _ ih=>
     obtain⟨c,p,h1,h2,h3⟩:=ih
     exact⟨c,p,h1,h2,.inr ((I4 h).2 h3)⟩
   obtain⟨c,p,h1,h2,h3⟩:=this h
   have hc:(⟨p.key,c⟩:C0)∈L a:=(hk.mem a ⟨p.key,c⟩).2 (by rw[h1,←h2])
   refine⟨_,hc,?_⟩
   rcases h3 with h3|h3
   ·exact .inl h3
   ·exact .inr ((Fh hk hr n c (hd.child hk hr hc) x).2 h3)
theorem Jx{α β:Type}{g:α→List β}:∀{l:List α},(∀a∈l,(g a).Nodup)→(l.Pairwise fun a b=>∀x,x∈g a→x∉g b)→(l.flatMap g).Nodup
 |[],_,_=>by simp
 |a::l,h1,h2=>by
  rw[BE,Ff]
  obtain⟨h3,h4⟩:=List.pairwise_cons.1 h2
  refine⟨h1 a (by simp),Jx (fun b hb=>h1 b (by simp[hb])) h4,fun x hx y hy e=>?_⟩
  subst e
  obtain⟨b,hb,hxb⟩:=Ba.1 hy
  exact h3 b hb x hx hxb
theorem Ic{f:AB}{L:CZ}{rk:Bid→Nat}(hk:CH f L)(hr:Ce f rk):∀(n:Nat) (a:Bid),Deep f rk n a→(Ds n L a).Nodup
 |0,_,_=>by unfold Ds;exact aM
 |n+1,a,hd=>by
  unfold Ds
  refine Jx (fun c hc=>?_) ?_
  ·rw[IL]
   refine⟨fun h=>FY hr ((Fh hk hr n c.id (hd.child hk hr hc) _).1 h),Ic hk hr n c.id (hd.child hk hr hc)⟩
  ·have hs:=hk.sorted a
   refine List.Pairwise.imp_of_mem ?_ hs
   intro c d hc hdd hlt x hx hy
   have hcx:RR f x c.id:=by
    rcases A7.1 hx with h|h
    ·exact .inl h
    ·exact .inr ((Fh hk hr n c.id (hd.child hk hr hc) x).1 h)
   have hdx:RR f x d.id:=by
    rcases A7.1 hy with h|h
    ·exact .inl h
    ·exact .inr ((Fh hk hr n d.id (hd.child hk hr hdd) x).1 h)
   have h1:=(hk.mem a c).1 hc
   have h2:=(hk.mem a d).1 hdd
   have e:=PZ hr h1 h2 rfl hcx hdx
   rw[e,h2]at h1
   have e2:d.key=c.key:=by simpa using h1
   have:c=d:=by cases c;cases d;simp_all
   rw[this,Ef]at hlt
   exact absurd hlt (by decide)
theorem Rq{f:AB}{rk:Bid→Nat}{dom:List Bid}(hd:∀a,f a≠none→a∈dom):∃B,∀n,B≤n→∀a,Deep f rk n a:=by
 have:∀l:List Bid,∃B,∀x∈l,rk x≤B:=by
  intro l
  induction l with
  |nil=>exact⟨0,by simp⟩
  |cons x l ih=>
   obtain⟨B,hB⟩:=ih
   refine⟨max (rk x) B,fun y hy=>?_⟩
   rcases A7.1 hy with rfl|hy
   ·exact Nat.le_max_left _ _
   ·exact AG (hB y hy) (Nat.le_max_right _ _)
 obtain⟨B,hB⟩:=this dom
 exact⟨B,fun n hn a x hx=>by have:=hB x (hd x hx);omega⟩
end Dc
namespace Dc
open Off (Bid AV Bn)
noncomputable def EQ(f:AB)(a top:Bid):Nat:=((way f a).takeWhile fun b=>decide (b≠top)).length
theorem Tz{f:AB}{rk:Bid→Nat}(hr:Ce f rk){a top:Bid}{p:Dt}(h:f a=some p):EQ f a top=if p.parent=top then 0 else EQ f p.parent top+1:=by
 unfold EQ
 rw[Qg hr h,List.takeWhile_cons]
 by_cases hp:p.parent=top
 ·simp[hp]
 ·simp[hp]
def I7.z:I7:=⟨false,0,0,.z⟩
def Hl(g:FM)(a:Bid):Bool:=((g a).getD .z).on
noncomputable def Vr(d:Doc)(L:CZ)(n:Nat)(top:Bid):List Ky:=(Ds n L top).map fun a=>⟨a,(EQ d.places a top:Nat),Hl d.words a,Dp d.tx a⟩
/-- in a document each block that is moved is there -/
structure DocIn(d:Doc):Prop where
 there:∀m∈d.ms,d.there m.block=true
 kind:∀i k,d.kinds i=some k→∃o∈d.ops,o.id=i∧o.kind=k
theorem JD{d:Doc}{o:Op}(hn:d.kinds o.id=none){b:Bid}(h:d.there b=true):(d.apply o).there b=true:=by
 unfold Doc.there at*
 unfold Doc.apply Sj
 simp only[Gz,Au]at*
 by_cases hb:b=o.id
 ·subst hb
  rw[hn]at h
  simp at h
  rcases h with h|h
  ·exact .inl (.inl (.inl h))
  ·exact .inl (.inl (.inr h))
 ·rw[Ae hb];exact h
theorem DocIn.new:DocIn .new:=⟨by simp[Doc.new],by simp[Doc.new]⟩
theorem DocIn.apply{d:Doc}(h:DocIn d){o:Op}(he:d.err o=0):DocIn (d.apply o):=by
 obtain⟨hok,hk,hkn,_⟩:=HU he
 refine⟨?_,?_⟩
 ·rw[Kr]
  intro x hx
  cases hm:o.mv with
  |none=>rw[hm]at hx;exact JD hk (h.there x hx)
  |some m=>
   rw[hm]at hx
   rcases IW.1 hx with rfl|hx
   ·unfold Op.mv at hm
    split at hm
    ·rename_i h15
     cases hm
     unfold Doc.there Doc.apply Sj CN
     rcases h15 with h15|h15<;>simp[h15]
    ·split at hm
     ·rename_i h2
      cases hm
      refine JD hk ?_
      unfold Doc.known at hkn
      rw[h2]at hkn
      simp at hkn
      exact hkn.1
     ·cases hm
   ·exact JD hk (h.there x hx)
 ·intro i k hi
  have hi':Sj d.kinds o.id o.kind i=some k:=hi
  unfold Sj at hi'
  show∃x∈d.ops++[o],_
  split at hi'
  ·rename_i hio
   cases hi'
   exact⟨o,by simp,hio.symm,rfl⟩
  ·obtain⟨x,hx,h1⟩:=h.kind i k hi'
   exact⟨x,by simp[hx],h1⟩
theorem DocIn.act{d:Doc}(h:DocIn d)(o:Op):DocIn (d.act o):=by
 unfold Doc.act
 split
 ·exact h.apply (by assumption)
 ·exact h
end Dc
namespace Dc
open Off (Bid AV Bn DF)
/-! the outermost character on a side -/
theorem Nc{N:C5}{rk:Chr→Nat}{B M:Nat}(h:BZ N rk B M){s:Bool}{c x:Chr}(he:Ly N s c=some x):x≠ .z∧N x≠none∧rk c<rk x:=by
 unfold Ly at he
 cases hc:N c with
 |none=>rw[hc]at he;cases he
 |some n=>
  rw[hc]at he
  simp only at he
  have hx:x∈n.side s:=by
   unfold CP.side
   cases s with
   |true=>simp only[if_true]at he⊢;exact List.mem_of_getLast? he
   |false=>simp at he⊢;exact List.mem_of_mem_head? (by rw[he];rfl)
  obtain⟨h1,m,h2,h3⟩:=h.down _ _ _ _ hc hx
  exact⟨h1,by rw[h2];simp,by have:=h.rank _ _ h2 h1;rw[h3]at this;exact this⟩
theorem Lx{N:C5}{rk:Chr→Nat}{B M:Nat}(h:BZ N rk B M)(s:Bool):∀(n:Nat) (c:Chr),N c≠none→B≤rk c+n→∃e,Hm N s c e∧N e≠none∧(e=c∨e≠ .z)
 |n,c,hc,hn=>by
  cases he:Ly N s c with
  |none=>exact⟨c,.stop he,hc,.inl rfl⟩
  |some x=>
   obtain⟨h1,h2,h3⟩:=Nc h he
   have h4:=h.bound x h2
   cases n with
   |zero=>omega
   |succ n=>
    obtain⟨e,h5,h6,h7⟩:=Lx h s n x h2 (by omega)
    refine⟨e,.go he h5,h6,.inr ?_⟩
    rcases h7 with rfl|h7
    ·exact h1
    ·exact h7
theorem Rl{N:C5}{s:Bool}{c e e':Chr}(h:Hm N s c e)(h':Hm N s c e'):e=e':=by
 induction h with
 |stop h1=>
  cases h' with
  |stop _=>rfl
  |go h2 _=>rw[h1]at h2;cases h2
 |go h1 _ ih=>
  cases h' with
  |stop h2=>rw[h1]at h2;cases h2
  |go h2 h3=>rw[h1]at h2;cases h2;exact ih h3
theorem PM{N:C5}{s:Bool}{c e:Chr}(h:Hm N s c e):FW N s c=e:=by
 unfold FW
 have hx:∃e,Hm N s c e:=⟨e,h⟩
 rw[GP hx]
 exact Rl (Classical.choose_spec hx) h
theorem PL{N:C5}{rk:Chr→Nat}{B M:Nat}(h:BZ N rk B M)(s:Bool){c:Chr}(hc:N c≠none):Hm N s c (FW N s c)∧N (FW N s c)≠none∧(c≠ .z→FW N s c≠ .z):=by
 obtain⟨e,h1,h2,h3⟩:=Lx h s B c hc (by omega)
 rw[PM h1]
 refine⟨h1,h2,fun hz=>?_⟩
 rcases h3 with rfl|h3
 ·exact hz
 ·exact h3
/-! where a character stands -/
theorem Wn(r:Run)(k:Nat)(h:k<r.len):((BF r)[k]?).map (·.c)=some ⟨r.op,((r.fr+k:Nat):Int)⟩:=by
 unfold BF
 rw[Ea _ _ _ _ _ _ h];rfl
theorem PK{r:Run}{c:Chr}:r.has c=true↔c∈(BF r).map (·.c):=by
 unfold Run.has
 simp only[AN,Au]
 constructor
 ·rintro⟨⟨h1,h2⟩,h3⟩
  refine A5.2 ?_
  have hk:(c.i-r.fr).toNat<r.len:=by omega
  refine⟨⟨⟨r.op,((r.fr+(c.i-r.fr).toNat:Nat):Int)⟩,r.gone,r.mark,r.text[(c.i-r.fr).toNat]'hk⟩,HJ.2 ⟨_,hk,rfl⟩,?_⟩
  obtain⟨op,i⟩:=c
  simp only at*
  rw[h1]
  congr 1
  push_cast
  omega
 ·intro h
  obtain⟨x,hx,rfl⟩:=A5.1 h
  obtain⟨j,hj,rfl⟩:=HJ.1 hx
  exact⟨⟨rfl,by push_cast;omega⟩,by push_cast;omega⟩
theorem Na:∀{l:Row} {c:Chr} {k:Nat},FH l c=some k→((Bz l)[k]?).map (·.c)=some c
 |[],_,_,h=>by cases h
 |r::l,c,k,h=>by
  unfold FH at h
  rw[BL]
  split at h
  ·rename_i hh
   cases h
   have h2:=hh
   unfold Run.has at h2
   simp only[AN,Au]at h2
   obtain⟨⟨h3,h4⟩,h5⟩:=h2
   have hk:(c.i-r.fr).toNat<r.len:=by omega
   rw[av (by rw[CV];exact hk),Wn _ _ hk]
   obtain⟨op,i⟩:=c
   simp only at*
   rw[h3]
   congr 2
   push_cast
   omega
  ·cases hf:FH l c with
   |none=>rw[hf]at h;cases h
   |some j=>
    rw[hf]at h
    simp only[Option.map_some,AZ]at h
    subst h
    rw[List.getElem?_append_right (by rw[CV];omega),CV,Nat.add_sub_cancel]
    exact Na hf
theorem JH:∀{l:Row} {c:Chr},FH l c=none↔c∉(Bz l).map (·.c)
 |[],c=>by simp[FH,Bz]
 |r::l,c=>by
  unfold FH
  rw[BL,Bo,AC]
  cases hh:r.has c with
  |true=>
   simp only[if_true]
   constructor
   ·intro h;cases h
   ·intro h;exact absurd (.inl (PK.1 hh)) h
  |false=>
   simp only[Gm,if_false,Option.map_eq_none_iff]
   rw[JH]
   have:c∉(BF r).map (·.c):=fun e=>by rw[PK.2 e]at hh;cases hh
   constructor
   ·rintro h (e|e)
    ·exact this e
    ·exact h e
   ·intro h e;exact h (.inr e)
theorem Qf{l:Row}{c:Chr}(h:c∈(Bz l).map (·.c)):Dw l c<CO l∧((Bz l)[Dw l c]?).map (·.c)=some c:=by
 unfold Dw
 cases hf:FH l c with
 |none=>exact absurd h (JH.1 hf)
 |some k=>
  have h1:=Na hf
  refine⟨?_,h1⟩
  simp only[F5]
  rw[←Az]
  cases h2:(Bz l)[k]? with
  |none=>rw[h2]at h1;cases h1
  |some x=>exact(AS.1 h2).1
/-! an insertion finds its place -/
theorem Uz{o:Op}(hs:0<o.size):(o.kind=5∧BF (B0 o)=[⟨⟨o.id,0⟩,false,true,0⟩])∨(o.kind=3∧BF (B0 o)=Cc o.id false false 0 o.text):=by
 unfold Op.size at hs
 unfold B0
 split at hs
 ·rename_i hk
  right
  rw[Ae (by rw[hk];decide)]
  exact⟨hk,rfl⟩
 ·split at hs
  ·rename_i hk
   left
   rw[Ak hk]
   exact⟨hk,rfl⟩
  ·omega
theorem MX{o:Op}(hs:0<o.size):(B0 o).len=o.size:=by
 unfold Op.size at*
 unfold B0
 split at hs
 ·rename_i hk
  rw[Ae (by rw[hk];decide),Ak hk];rfl
 ·split at hs
  ·rename_i hk3 hk
   rw[Ak hk,Ae hk3,Ak hk];rfl
  ·omega
theorem LU(o:Op):(B0 o).op=o.id∧(B0 o).fr=0:=by unfold B0;split<;>exact⟨rfl,rfl⟩
theorem S4{o:Op}(hok:o.ok=true)(hs:0<o.size):Dz (B0 o)=true:=by
 have h1:=MX hs
 have h2:=LU o
 have h3:=O7 hok
 have h4:=(Eg hok).2.1
 have h5:(B0 o).mark=true→(B0 o).len=1:=by
  unfold B0
  split
  ·intro _;rfl
  ·intro h;cases h
 unfold Dz
 rw[h2.1,h2.2,h1,h4]
 simp only[AN,Au,Gz,JM,DW]
 refine⟨⟨⟨⟨by omega,h3⟩,by omega⟩,by omega⟩,?_⟩
 cases hm:(B0 o).mark with
 |false=>exact .inl rfl
 |true=>exact .inr (by rw[←h1];exact h5 hm)
/-- the row holds the tree's characters, each once -/
structure Dm(t:YT):Prop where
 nodup:((Bz t.row).map (·.c)).Nodup
 mem:∀c,c∈(Bz t.row).map (·.c)↔t.nodes c≠none∧c≠ .z
theorem MC{t:YT}{rk:Chr→Nat}{B M:Nat}(h:BZ t.nodes rk B M)(hf:Dm t){o:Op}(hl:t.nodes o.left≠none)(hr:t.nodes o.right≠none):
  0≤C4 t (BG t.nodes o)∧C4 t (BG t.nodes o)≤CO t.row:=by
 obtain⟨n,hn⟩:=LQ hl hr
 have hp:=Md hn
 have hwh:∀c,t.nodes c≠none→c≠ .z→Dw t.row c<CO t.row:=fun c h1 h2=>(Qf ((hf.mem c).2 ⟨h1,h2⟩)).1
 unfold C4
 split
 ·rename_i hpos
  have hle:=H8 (n.side (BG t.nodes o).side) o.id
  have hso:EU t.nodes (BG t.nodes o).up (BG t.nodes o).side=n.side (BG t.nodes o).side:=by unfold EU;rw[hn]
  rw[hso]
  have hlt:(BG t.nodes o).pos-1<(n.side (BG t.nodes o).side).length:=by omega
  have hmem:(n.side (BG t.nodes o).side).getD ((BG t.nodes o).pos-1) .z∈n.side (BG t.nodes o).side:=by
   rw[aH,Aj hlt]
   exact AQ hlt
  generalize (n.side (BG t.nodes o).side).getD ((BG t.nodes o).pos-1) .z=x at hmem
  obtain⟨h1,m,h2,_⟩:=h.down _ _ _ _ hn hmem
  have he:=PL h true (c:=x) (by rw[h2];simp)
  have:=hwh _ he.2.1 (he.2.2 h1)
  omega
 ·split
  ·rename_i hs
   have hup:(BG t.nodes o).up≠ .z:=by
    unfold BG at hs⊢
    simp only[Bool.not_eq_false']at hs⊢
    rw[Ak hs]
    simp only[AN,Au]at hs
    exact hs.1
   have he:=PL h false (c:=(BG t.nodes o).up) (by rw[hn];simp)
   have:=hwh _ he.2.1 (he.2.2 hup)
   omega
  ·split
   ·omega
   ·rename_i hup
    have:=hwh (BG t.nodes o).up (by rw[hn];simp) hup
    omega
theorem MD{l:Row}{x:Run}(h:∀r∈Bz l,r.c.op≠x.op)(hok:Cm l):overlaps l x=false:=by
 unfold overlaps
 rw[Ej]
 intro e
 obtain⟨r,hr,e⟩:=List.any_eq_true.1 e
 simp only[AN,Au]at e
 have h1:=(hok r hr).1
 have h2:(⟨⟨r.op,((r.fr+0:Nat):Int)⟩,r.gone,r.mark,r.text[0]'h1⟩:RC)∈Bz l:=Ba.2 ⟨r,hr,HJ.2 ⟨0,h1,rfl⟩⟩
 exact h _ h2 e.1.1
theorem QA{t:YT}{rk:Chr→Nat}{B M:Nat}(h:BZ t.nodes rk B M)(hf:Dm t)(hrow:Cm t.row){o:Op}(hok:o.ok=true)(hl:t.nodes o.left≠none)(hr:t.nodes o.right≠none)(hs:0<o.size)
  (hn:∀c:Chr,c.op=o.id→t.nodes c=none):Hg t.row (C4 t (BG t.nodes o)) (B0 o)=0:=by
 have hp:=MC h hf hl hr
 unfold Hg
 rw[Ae (by rw[S4 hok hs];simp),Ae (by omega)]
 rw[Ae]
 rw[MD _ hrow]
 ·simp
 ·intro r hr e
  rw[(LU o).1]at e
  have:=((hf.mem r.c).1 (A5.2 ⟨r,hr,rfl⟩)).1
  exact this (hn _ e)
theorem Lu(op:Bid)(g m:Bool):∀(k:Nat) (t:Bs),((Cc op g m k t).map (·.c))=(List.range' k t.length).map fun i:Nat=>(⟨op,(i:Int)⟩:Chr)
 |_,[]=>rfl
 |k,b::t=>by
  simp only[Cc,Cd,BO,List.range'_succ]
  rw[Lu op g m (k+1) t]
theorem Rh(r:Run):(BF r).map (·.c)=(List.range' r.fr r.len).map fun i:Nat=>(⟨r.op,(i:Int)⟩:Chr):=Lu _ _ _ _ _
theorem Rf(r:Run):((BF r).map (·.c)).Nodup:=by
 rw[Rh]
 refine List.Pairwise.map _ (fun a b hab e=>hab ?_) List.nodup_range'
 simp only[Chr.mk.injEq,DW]at e
 omega
theorem OA{t:YT}{rk:Chr→Nat}{B M:Nat}(h:BZ t.nodes rk B M)(hf:Dm t)(hrow:Cm t.row){o:Op}(hok:o.ok=true)(hl:t.nodes o.left≠none)(hr:t.nodes o.right≠none)(hs:0<o.size)
  (hn:∀c:Chr,c.op=o.id→t.nodes c=none):Dm (Gv t o)∧∃k,k≤(Bz t.row).length∧Bz (Gv t o).row=(Bz t.row).take k++BF (B0 o)++(Bz t.row).drop k:=by
 have hpe:=QA h hf hrow hok hl hr hs hn
 have hfl:=Oi hpe
 have hp:=MC h hf hl hr
 obtain⟨k,hk⟩:∃k,k=(C4 t (BG t.nodes o)).toNat:=⟨_,rfl⟩
 rw[←hk]at hfl
 have hrowe:(Gv t o).row=Jq t.row (C4 t (BG t.nodes o)) (B0 o):=rfl
 have hmemx:∀c,c∈(Bz (Gv t o).row).map (·.c)↔c∈(Bz t.row).map (·.c)∨c∈(BF (B0 o)).map (·.c):=by
  intro c
  rw[hrowe,hfl]
  have:c∈(Bz t.row).map (·.c)↔c∈((Bz t.row).take k).map (·.c)∨c∈((Bz t.row).drop k).map (·.c):=by
   conv=>lhs;rw[←A9 k (Bz t.row),Bo,AC]
  rw[this,Bo,Bo,AC,AC]
  constructor
  ·rintro((h|h)|h)
   ·exact .inl (.inl h)
   ·exact .inr h
   ·exact .inl (.inr h)
  ·rintro((h|h)|h)
   ·exact .inl (.inl h)
   ·exact .inr h
   ·exact .inl (.inr h)
 have hit:∀c,c∈(BF (B0 o)).map (·.c)↔c.op=o.id∧0≤c.i∧c.i<(o.size:Int):=by
  intro c
  rw[←PK]
  unfold Run.has
  rw[(LU o).1,(LU o).2,MX hs]
  simp only[AN,Au]
  constructor
  ·rintro⟨⟨h1,h2⟩,h3⟩;exact⟨h1.symm,by omega,by omega⟩
  ·rintro⟨h1,h2,h3⟩;exact⟨⟨h1.symm,by omega⟩,by omega⟩
 refine⟨⟨?_,?_⟩,k,by rw[Az];omega,by rw[hrowe,hfl]⟩
 ·have hsplit:(Bz t.row).map (·.c)=((Bz t.row).take k).map (·.c)++((Bz t.row).drop k).map (·.c):=by rw[←Bo,A9]
  have hnd:=hf.nodup
  rw[hsplit]at hnd
  have hdis:∀c,c∈(Bz t.row).map (·.c)→c∈(BF (B0 o)).map (·.c)→False:=by
   intro c h1 h2
   exact((hf.mem c).1 h1).1 (hn c ((hit c).1 h2).1)
  rw[hrowe,hfl,Bo,Bo]
  obtain⟨n1,n2,n3⟩:=Ff.1 hnd
  refine Ff.2 ⟨Ff.2 ⟨n1,Rf _,?_⟩,n2,?_⟩
  ·intro a ha b hb e
   subst e
   exact hdis a (by rw[hsplit];exact AC.2 (.inl ha)) hb
  ·intro a ha b hb e
   subst e
   rcases AC.1 ha with ha|ha
   ·exact n3 a ha a hb rfl
   ·exact hdis a (by rw[hsplit];exact AC.2 (.inr hb)) ha
 ·intro c
  rw[hmemx,hf.mem,hit,MZ hl hr hs]
  constructor
  ·rintro(⟨h1,h2⟩|⟨h1,h2,h3⟩)
   ·exact⟨.inl h1,h2⟩
   ·refine⟨.inr ⟨h1,h2,h3⟩,fun e=>?_⟩
    rw[e]at h1
    exact QH hok h1.symm
  ·rintro⟨h1|h1,h2⟩
   ·exact .inl ⟨h1,h2⟩
   ·exact .inr h1
theorem Dm.new:Dm .new:=by
 refine⟨by simp[YT.new,Bz],fun c=>?_⟩
 rw[Oq]
 simp[YT.new,Bz]
theorem Dm.cut{t:YT}(h:Dm t)(c:Cut):Dm (PR t c):=by
 have e:((Bz (PR t c).row).map (·.c))=(Bz t.row).map (·.c):=by
  show((Bz (NZ t.row c)).map (·.c))=_
  rw[KY,bu]
  refine List.map_congr_left fun x _=>WX c x
 exact⟨by rw[e];exact h.nodup,fun x=>by rw[e];exact h.mem x⟩
end Dc
namespace Dc
open Off (Bid AV Bn DF)
def FD(ops:List Op)(c:Chr):Prop:=∃o∈ops,∃k∈o.cuts,EK k c=true
/-- what a character shows by its op -/
def RJ(ops:List Op)(seg:Bid)(r:RC):Prop:=
 ∃o∈ops,o.id=r.c.op∧o.seg=seg∧((o.kind=5∧r.mark=true∧r.c.i=0)∨(o.kind=3∧r.mark=false∧∃k:Nat,r.c.i=k∧o.text[k]? =some r.b))
structure GO(x:TX)(ops:List Op):Prop where
 row:∀seg t,x.texts seg=some t→Dm t
 shows:∀seg t r,x.texts seg=some t→r∈Bz t.row→RJ ops seg r
 gone:∀seg t r,x.texts seg=some t→r∈Bz t.row→(r.gone=true↔FD ops r.c)
 cuts:∀o∈ops,∀c∈o.cuts,x.made c.op≠none
 made:∀i s,x.made i=some s↔ ∃o∈ops,o.id=i∧0<o.size∧s=⟨o.seg,o.size,decide (o.kind=5)⟩
 texts:∀seg,x.texts seg≠none↔ ∃o∈ops,o.kind=1∧o.id=seg
theorem GO.new:GO .new []:=by
 refine⟨?_,?_,?_,?_,?_,?_⟩<;>simp[TX.new]
theorem Jd{o:Op}(h3:o.kind≠3)(h5:o.kind≠5):o.size=0:=by unfold Op.size;rw[Ae h3,Ae h5]
theorem IU{o:Op}(hok:o.ok=true)(hk:o.kind≠4):o.cuts=[]:=by
 have h:=(Eg hok).2.2.2
 have e:o.own.cuts=[]:=by
  unfold Op.own
  rw[Ae (c:=o.kind=4) hk]
  repeat' (first|rfl|split)
 rw[←h];exact e
theorem Wh{o:Op}(hok:o.ok=true):o.kind=1∨o.kind=2∨o.kind=3∨o.kind=4∨o.kind=5∨o.kind=6:=by
 have h:=(Eg hok).2.2.1
 unfold Op.parts at h
 split at h
 ·simp[*]
 ·split at h
  ·simp[*]
  ·split at h
   ·simp[*]
   ·split at h
    ·simp[*]
    ·split at h
     ·simp[*]
     ·split at h
      ·simp[*]
      ·cases h
theorem GG{ops:List Op}{o:Op}{seg:Bid}{r:RC}(h:RJ ops seg r):RJ (ops++[o]) seg r:=by
 obtain⟨p,hp,h⟩:=h
 exact⟨p,by simp[hp],h⟩
theorem Ji{ops:List Op}{o:Op}{c:Chr}:FD (ops++[o]) c↔FD ops c∨∃k∈o.cuts,EK k c=true:=by
 unfold FD
 constructor
 ·rintro⟨p,hp,h⟩
  rcases AC.1 hp with hp|hp
  ·exact .inl ⟨p,hp,h⟩
  ·rw[AU.1 hp]at h;exact .inr h
 ·rintro(⟨p,hp,h⟩|h)
  ·exact⟨p,by simp[hp],h⟩
  ·exact⟨o,by simp,h⟩
/-- an op without characters or cuts, that opens no text -/
theorem GO.plain{x:TX}{ops:List Op}(h:GO x ops){o:Op}(hs:o.size=0)(hc:o.cuts=[])(hk:o.kind≠1):GO x (ops++[o]):=by
 refine⟨h.row,fun s t r ht hr=>GG (h.shows s t r ht hr),fun s t r ht hr=>?_,?_,fun i s=>?_,fun seg=>?_⟩
 ·rw[h.gone s t r ht hr,Ji,hc];simp
 ·intro p hp c hcp
  rcases AC.1 hp with hp|hp
  ·exact h.cuts p hp c hcp
  ·rw[AU.1 hp,hc]at hcp;cases hcp
 ·rw[h.made]
  constructor
  ·rintro⟨p,hp,h2⟩;exact⟨p,by simp[hp],h2⟩
  ·rintro⟨p,hp,h1,h2,h3⟩
   rcases AC.1 hp with hp|hp
   ·exact⟨p,hp,h1,h2,h3⟩
   ·rw[AU.1 hp,hs]at h2;omega
 ·rw[h.texts]
  constructor
  ·rintro⟨p,hp,h2⟩;exact⟨p,by simp[hp],h2⟩
  ·rintro⟨p,hp,h1,h2⟩
   rcases AC.1 hp with hp|hp
   ·exact⟨p,hp,h1,h2⟩
   ·rw[AU.1 hp]at h1;exact absurd h1 hk
theorem GO.open'{x:TX}{ops:List Op}(h:GO x ops){o:Op}(hk:o.kind=1)(hok:o.ok=true):GO (Gn x o.id) (ops++[o]):=by
 have hs:o.size=0:=Jd (by rw[hk];decide) (by rw[hk];decide)
 have hc:o.cuts=[]:=IU hok (by rw[hk];decide)
 have hget:∀s t,(Gn x o.id).texts s=some t→(s=o.id∧t= .new)∨(s≠o.id∧x.texts s=some t):=by
  intro s t e
  unfold Gn EF at e
  simp only at e
  split at e
  ·cases e;exact .inl ⟨by assumption,rfl⟩
  ·exact .inr ⟨by assumption,e⟩
 refine⟨fun s t ht=>?_,fun s t r ht hr=>?_,fun s t r ht hr=>?_,?_,fun i s=>?_,fun seg=>?_⟩
 ·rcases hget s t ht with⟨rfl,rfl⟩|⟨_,ht⟩
  ·exact Dm.new
  ·exact h.row s t ht
 ·rcases hget s t ht with⟨rfl,rfl⟩|⟨_,ht⟩
  ·cases hr
  ·exact GG (h.shows s t r ht hr)
 ·rcases hget s t ht with⟨rfl,rfl⟩|⟨_,ht⟩
  ·cases hr
  ·rw[h.gone s t r ht hr,Ji,hc];simp
 ·intro p hp c hcp
  rcases AC.1 hp with hp|hp
  ·exact h.cuts p hp c hcp
  ·rw[AU.1 hp,hc]at hcp;cases hcp
 ·show x.made i=some s↔_
  rw[h.made]
  constructor
  ·rintro⟨p,hp,h2⟩;exact⟨p,by simp[hp],h2⟩
  ·rintro⟨p,hp,h1,h2,h3⟩
   rcases AC.1 hp with hp|hp
   ·exact⟨p,hp,h1,h2,h3⟩
   ·rw[AU.1 hp,hs]at h2;omega
 ·have e:(Gn x o.id).texts seg≠none↔seg=o.id∨x.texts seg≠none:=by
   unfold Gn EF
   simp only
   by_cases hq:seg=o.id
   ·rw[Ak hq];simp[hq]
   ·rw[Ae hq];simp[hq]
  rw[e,h.texts]
  constructor
  ·rintro(rfl|⟨p,hp,h2⟩)
   ·exact⟨o,by simp,hk,rfl⟩
   ·exact⟨p,by simp[hp],h2⟩
  ·rintro⟨p,hp,h1,h2⟩
   rcases AC.1 hp with hp|hp
   ·exact .inr ⟨p,hp,h1,h2⟩
   ·rw[AU.1 hp]at h2;exact .inl h2.symm
theorem GO.ins{x:TX}{ops:List Op}{n:Nat}(h:GO x ops)(hx:DT x n){o:Op}(he:FG x o=0)(hok:o.ok=true)(hk:o.kind≠1)(hk4:o.kind≠4):GO (LI x o) (ops++[o]):=by
 obtain⟨hi,hm,t,ht,he2,hl,hr,hs,hf⟩:=M1 hx he hok
 obtain⟨rk,hnd⟩:=hx.nodes _ t ht
 have hrow:=(hx.row _ t ht).1
 have hc:o.cuts=[]:=IU hok hk4
 have e0:LI x o=⟨EF x.texts o.seg (Gv t o),Mc x.made o.id ⟨o.seg,o.size,decide (o.kind=5)⟩⟩:=by unfold LI;rw[ht]
 obtain⟨hfull,k,hkl,hflat⟩:=OA hnd (h.row _ t ht) hrow hok hl hr hs hf
 rw[e0]
 have hget:∀s u,EF x.texts o.seg (Gv t o) s=some u→(s=o.seg∧u=Gv t o)∨(s≠o.seg∧x.texts s=some u):=by
  intro s u e
  unfold EF at e
  split at e
  ·cases e;exact .inl ⟨by assumption,rfl⟩
  ·exact .inr ⟨by assumption,e⟩
 have hmem:∀r,r∈Bz (Gv t o).row→r∈Bz t.row∨r∈BF (B0 o):=by
  intro r hr
  rw[hflat]at hr
  rcases AC.1 hr with hr|hr
  ·rcases AC.1 hr with hr|hr
   ·exact .inl (ap hr)
   ·exact .inr hr
  ·exact .inl (BC hr)
 have hitem:∀r,r∈BF (B0 o)→r.c.op=o.id∧r.gone=false∧((o.kind=5∧r.mark=true∧r.c.i=0)∨(o.kind=3∧r.mark=false∧∃k:Nat,r.c.i=k∧o.text[k]? =some r.b)):=by
  intro r hr
  rcases Uz hs with⟨hk5,hfl⟩|⟨hk3,hfl⟩
  ·rw[hfl]at hr
   rw[AU.1 hr]
   exact⟨rfl,rfl,.inl ⟨hk5,rfl,rfl⟩⟩
  ·rw[hfl]at hr
   obtain⟨j,hj,rfl⟩:=(J8 _ _ _).1 hr
   exact⟨rfl,rfl,.inr ⟨hk3,rfl,j,by simp,by simp[Aj hj]⟩⟩
 have hng:∀c:Chr,c.op=o.id→¬FD ops c:=by
  rintro c hco ⟨p,hp,q,hq,hin⟩
  have h1:=h.cuts p hp q hq
  unfold EK at hin
  simp only[AN,Au]at hin
  rw[←hin.1.1,hco,hm]at h1
  exact h1 rfl
 refine⟨fun s u hu=>?_,fun s u r hu hr=>?_,fun s u r hu hr=>?_,?_,fun i s=>?_,fun seg=>?_⟩
 ·rcases hget s u hu with⟨rfl,rfl⟩|⟨_,hu⟩
  ·exact hfull
  ·exact h.row s u hu
 ·rcases hget s u hu with⟨rfl,rfl⟩|⟨_,hu⟩
  ·rcases hmem r hr with hr|hr
   ·exact GG (h.shows _ t r ht hr)
   ·obtain⟨h1,_,h2⟩:=hitem r hr
    exact⟨o,by simp,h1.symm,rfl,h2⟩
  ·exact GG (h.shows s u r hu hr)
 ·rw[Ji,hc]
  simp only[List.not_mem_nil,false_and,exists_false,or_false]
  rcases hget s u hu with⟨rfl,rfl⟩|⟨_,hu⟩
  ·rcases hmem r hr with hr|hr
   ·exact h.gone _ t r ht hr
   ·obtain⟨h1,h2,_⟩:=hitem r hr
    rw[h2]
    simp[hng _ h1]
  ·exact h.gone s u r hu hr
 ·intro p hp c hcp
  have e:Mc x.made o.id ⟨o.seg,o.size,decide (o.kind=5)⟩ c.op≠none↔c.op=o.id∨x.made c.op≠none:=by
   unfold Mc
   by_cases hq:c.op=o.id
   ·rw[Ak hq];simp[hq]
   ·rw[Ae hq];simp[hq]
  rcases AC.1 hp with hp|hp
  ·exact e.2 (.inr (h.cuts p hp c hcp))
  ·rw[AU.1 hp,hc]at hcp;cases hcp
 ·show Mc x.made o.id ⟨o.seg,o.size,decide (o.kind=5)⟩ i=some s↔_
  unfold Mc
  by_cases hq:i=o.id
  ·rw[Ak hq]
   constructor
   ·intro e
    exact⟨o,by simp,hq.symm,hs,(Ap e).symm⟩
   ·rintro⟨p,hp,h1,h2,h3⟩
    rcases AC.1 hp with hp|hp
    ·exfalso
     have:=(h.made i s).2 ⟨p,hp,h1,h2,h3⟩
     rw[hq,hm]at this;cases this
    ·rw[AU.1 hp]at h3;rw[h3]
  ·rw[Ae hq,h.made]
   constructor
   ·rintro⟨p,hp,h2⟩;exact⟨p,by simp[hp],h2⟩
   ·rintro⟨p,hp,h1,h2,h3⟩
    rcases AC.1 hp with hp|hp
    ·exact⟨p,hp,h1,h2,h3⟩
    ·rw[AU.1 hp]at h1;exact absurd h1.symm hq
 ·have e:EF x.texts o.seg (Gv t o) seg≠none↔x.texts seg≠none:=by
   unfold EF
   by_cases hq:seg=o.seg
   ·rw[Ak hq,hq,ht];simp
   ·rw[Ae hq]
  show EF x.texts o.seg (Gv t o) seg≠none↔_
  rw[e,h.texts]
  constructor
  ·rintro⟨p,hp,h2⟩;exact⟨p,by simp[hp],h2⟩
  ·rintro⟨p,hp,h1,h2⟩
   rcases AC.1 hp with hp|hp
   ·exact⟨p,hp,h1,h2⟩
   ·rw[AU.1 hp]at h1;exact absurd h1 hk
/-! characters that are cut: in all texts alike -/
theorem TS(c:Cut)(r:RC):(Hj c r).c=r.c∧(Hj c r).mark=r.mark∧(Hj c r).b=r.b∧((Hj c r).gone=true↔r.gone=true∨EK c r.c=true):=by
 unfold Hj
 split
 ·simp[*]
 ·simp[*]
/-- the cuts of an op, one behind the other -/
theorem OJ{ops:List Op}{n:Nat}:∀(l:List Cut) (x:TX) (done:List Cut),DT x n→(∀c∈l,x.made c.op≠none)→
  (∀seg t,x.texts seg=some t→Dm t)→(∀seg t r,x.texts seg=some t→r∈Bz t.row→RJ ops seg r)→(∀seg t r,x.texts seg=some t→r∈Bz t.row→(r.gone=true↔FD ops r.c∨∃k∈done,EK k r.c=true))→
  (∀i s,x.made i=some s↔ ∃o∈ops,o.id=i∧0<o.size∧s=⟨o.seg,o.size,decide (o.kind=5)⟩)→
  (∀seg t,(delX x l).texts seg=some t→Dm t)∧(∀seg t r,(delX x l).texts seg=some t→r∈Bz t.row→RJ ops seg r)∧
  (∀seg t r,(delX x l).texts seg=some t→r∈Bz t.row→(r.gone=true↔FD ops r.c∨∃k∈done++l,EK k r.c=true))∧(∀seg,(delX x l).texts seg≠none↔x.texts seg≠none)∧(delX x l).made=x.made
 |[],x,done,_,_,h1,h2,h3,_=>⟨h1,h2,by simpa[delX]using h3,fun _=>Iff.rfl,rfl⟩
 |c::l,x,done,hx,hc,h1,h2,h3,h4=>by
  have hm:=hc c (by simp)
  obtain⟨s,hs⟩:=BQ.1 hm
  obtain⟨⟨t,ht⟩,_⟩:=hx.made _ _ hs
  -- as one step of a document that has no cut of its own
  have hstep:(∀seg u,(Dc.del1 x c).texts seg=some u→∃v,x.texts seg=some v∧Bz u.row=(Bz v.row).map (Hj c)∧Dm u)∧(∀seg,(Dc.del1 x c).texts seg≠none↔x.texts seg≠none)∧(Dc.del1 x c).made=x.made:=by
   have e:Dc.del1 x c=⟨EF x.texts s.seg (PR t c),x.made⟩:=by unfold Dc.del1;rw[hs];simp only;rw[ht]
   rw[e]
   refine⟨fun seg u hu=>?_,fun seg=>?_,rfl⟩
   ·simp only[EF]at hu
    split at hu
    ·rename_i hq
     cases hu
     exact⟨t,by rw[hq];exact ht,KY _ _,(h1 _ t ht).cut c⟩
    ·rename_i hq
     refine⟨u,hu,(Hw fun r hr=>IZ ?_).symm,h1 _ u hu⟩
     obtain⟨p,hp,h5,h6,h7⟩:=h2 seg u r hu hr
     unfold EK
     rw[Ej]
     intro e
     simp only[AN,Au]at e
     have hsz:0<p.size:=by
      unfold Op.size
      rcases h7 with⟨h7,_⟩|⟨h7,_,k,_,hk⟩
      ·rw[Ae (by rw[h7];decide),Ak h7];decide
      ·rw[Ak h7]
       have:=(AS.1 hk).1
       omega
     have h8:=(h4 c.op ⟨p.seg,p.size,decide (p.kind=5)⟩).2 ⟨p,hp,h5.trans e.1.1,hsz,rfl⟩
     rw[hs]at h8
     cases h8
     exact hq h6.symm
   ·simp only[EF]
    by_cases hq:seg=s.seg
    ·rw[Ak hq,hq,ht];simp
    ·rw[Ae hq]
  obtain⟨s1,s2,s3⟩:=hstep
  have hsh:∀seg u r,(Dc.del1 x c).texts seg=some u→r∈Bz u.row→∃v r',x.texts seg=some v∧r'∈Bz v.row∧r=Hj c r':=by
   intro seg u r hu hr
   obtain⟨v,hv,hf,_⟩:=s1 seg u hu
   rw[hf]at hr
   obtain⟨r',hr',rfl⟩:=A5.1 hr
   exact⟨v,r',hv,hr',rfl⟩
  obtain⟨r1,r2,r3,r4,r5⟩:=OJ (ops:=ops) (n:=n) l (Dc.del1 x c) (done++[c]) (hx.del1 c) (fun d hd=>by rw[s3];exact hc d (by simp[hd])) (fun seg u hu=>(s1 seg u hu).choose_spec.2.2)
   (fun seg u r hu hr=>by
    obtain⟨v,r',hv,hr',rfl⟩:=hsh seg u r hu hr
    obtain⟨p,hp,q⟩:=h2 seg v r' hv hr'
    obtain⟨e1,e2,e3,_⟩:=TS c r'
    exact⟨p,hp,by rw[e1,e2,e3];exact q⟩)
   (fun seg u r hu hr=>by
    obtain⟨v,r',hv,hr',rfl⟩:=hsh seg u r hu hr
    obtain⟨e1,e2,e3,e4⟩:=TS c r'
    rw[e4,e1,h3 seg v r' hv hr']
    simp only[AC,AU]
    constructor
    ·rintro((h|⟨k,hk,h⟩)|h)
     ·exact .inl h
     ·exact .inr ⟨k,.inl hk,h⟩
     ·exact .inr ⟨c,.inr rfl,h⟩
    ·rintro(h|⟨k,hk|rfl,h⟩)
     ·exact .inl (.inl h)
     ·exact .inl (.inr ⟨k,hk,h⟩)
     ·exact .inr h)
   (fun i q=>by rw[s3];exact h4 i q)
  refine⟨r1,r2,fun seg t r ht hr=>?_,fun seg=>(r4 seg).trans (s2 seg),r5.trans s3⟩
  have h9:(r.gone=true↔FD ops r.c∨∃k∈done++[c]++l,EK k r.c=true):=r3 seg t r ht hr
  rw[h9,AI,aQ]
theorem G4:∀{l:List Cut} {x:TX},FK x l=0→∀c∈l,x.made c.op≠none
 |[],_,_,_,hc=>by cases hc
 |d::l,x,h,c,hc=>by
  unfold FK at h
  cases hm:x.made d.op with
  |none=>rw[hm]at h;cases h
  |some s=>
   rw[hm]at h
   simp only at h
   split at h
   ·cases h
   ·rcases A7.1 hc with rfl|hc
    ·rw[hm];simp
    ·exact G4 h c hc
theorem GO.del{x:TX}{ops:List Op}{n:Nat}(h:GO x ops)(hx:DT x n){o:Op}(he:FK x o.cuts=0)(hk:o.kind=4):GO (delX x o.cuts) (ops++[o]):=by
 have hs:o.size=0:=Jd (by rw[hk];decide) (by rw[hk];decide)
 obtain⟨r1,r2,r3,r4,r5⟩:=OJ (ops:=ops) (n:=n) o.cuts x [] hx (G4 he) h.row h.shows (fun seg t r ht hr=>by rw[h.gone seg t r ht hr];simp) h.made
 refine⟨r1,fun s t r ht hr=>GG (r2 s t r ht hr),fun s t r ht hr=>?_,?_,fun i s=>?_,fun seg=>?_⟩
 ·rw[Ji]
  simpa using r3 s t r ht hr
 ·intro p hp c hcp
  rw[r5]
  rcases AC.1 hp with hp|hp
  ·exact h.cuts p hp c hcp
  ·rw[AU.1 hp]at hcp;exact G4 he c hcp
 ·rw[r5,h.made]
  constructor
  ·rintro⟨p,hp,h2⟩;exact⟨p,by simp[hp],h2⟩
  ·rintro⟨p,hp,h1,h2,h3⟩
   rcases AC.1 hp with hp|hp
   ·exact⟨p,hp,h1,h2,h3⟩
   ·rw[AU.1 hp,hs]at h2;omega
 ·rw[r4,h.texts]
  constructor
  ·rintro⟨p,hp,h2⟩;exact⟨p,by simp[hp],h2⟩
  ·rintro⟨p,hp,h1,h2⟩
   rcases AC.1 hp with hp|hp
   ·exact⟨p,hp,h1,h2⟩
   ·rw[AU.1 hp,hk]at h1;exact absurd h1 (by decide)
theorem GO.write{x:TX}{ops:List Op}{n:Nat}(h:GO x ops)(hx:DT x n){o:Op}(hok:o.ok=true)(he:D2 x o=0):GO (Gh x o) (ops++[o]):=by
 unfold D2 at he
 unfold Gh
 split
 ·rename_i hk
  exact h.open' hk hok
 ·rename_i hk
  rw[Ae hk]at he
  split
  ·rename_i hk2
   rw[Ak hk2]at he
   unfold E4 at he
   unfold doX
   rw[Ae (by simp[hok])]at he
   split
   ·rename_i hs
    rw[Ak hs]at he
    refine h.ins hx he hok hk fun e=>?_
    rw[Jd (by rw[e];decide) (by rw[e];decide)]at hs
    omega
   ·rename_i hs
    rw[Ae hs]at he
    by_cases hk4:o.kind=4
    ·rw[Ak hk4]at he
     exact h.del hx he hk4
    ·rw[Ae hk4]at he;cases he
  ·rename_i hk2
   have hc:o.cuts=[]:=IU hok fun e=>hk2 (.inr (.inr e))
   refine h.plain (Jd (fun e=>hk2 (.inl e)) (fun e=>hk2 (.inr (.inl e)))) hc hk
structure BS(d:Doc):Prop extends DocOk d,DocIn d where
 full:GO d.tx d.ops
theorem BS.new:BS .new:=⟨DocOk.new,DocIn.new,GO.new⟩
theorem BS.act{d:Doc}(h:BS d)(o:Op):BS (d.act o):=by
 refine⟨h.toDocOk.act o,h.toDocIn.act o,?_⟩
 unfold Doc.act
 split
 ·rename_i he
  obtain⟨hok,_,_,hw⟩:=HU he
  exact h.full.write h.tx hok hw
 ·exact h.full
end Dc
