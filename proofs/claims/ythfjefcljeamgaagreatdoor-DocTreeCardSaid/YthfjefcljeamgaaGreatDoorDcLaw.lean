/- joined: The letters of blocks: each character that is not gone stands in just one block's text. How long the way above a block is. The plain model of the document: outlines by the document alone; a block with a text. -/
import Derived.Test.YthfjefcljeamgaaGreatDoorDcTxFull
namespace Dc
open Off (Bid AV Bn DF)
def RC.opens(r:RC):Bool:=r.mark&& !r.gone
def RC.shows(r:RC):Bool:= !r.mark&& !r.gone
/-- each character with the block in whose stretch it stands -/
def Ep:Bid→List RC→List (RC×Bid)
 |_,[]=>[]
 |w,r::l=>let v:=if r.opens then r.c.op else w;(r,v)::Ep v l
theorem Jf:∀(w:Bid) (l:List RC),(Ep w l).map (·.1)=l
 |_,[]=>rfl
 |w,r::l=>by simp only[Ep,Cd,Jf]
theorem On:∀(l:List RC) (m:List RC) (w v:Bid),(∀r∈l,(if r.opens then r.c.op else w)=v)→l≠ []→(∀r∈l,(if r.opens then r.c.op else v)=v)→Ep w (l++m)=l.map (fun r=>(r,v))++Ep v m
 |[],_,_,_,_,h,_=>absurd rfl h
 |[r],m,w,v,h1,_,_=>by
  have e:=h1 r (by simp)
  simp only[au,aw,Ep,Cd,N5]
  rw[e]
 |r::q::l,m,w,v,h1,_,h3=>by
  have e:=h1 r (by simp)
  have ih:=On (q::l) m v v (fun x hx=>h3 x (Ed _ hx)) (by simp) (fun x hx=>h3 x (Ed _ hx))
  show(r,if r.opens then r.c.op else w)::Ep (if r.opens then r.c.op else w) ((q::l)++m)=(r,v)::((q::l).map (fun r=>(r,v))++Ep v m)
  rw[e,ih]
theorem G3{r:Run}{x:RC}(h:x∈BF r):x.opens=r.opens∧x.c.op=r.op∧x.shows=r.shows:=by
 obtain⟨j,hj,rfl⟩:=HJ.1 h
 exact⟨rfl,rfl,rfl⟩
theorem Lj:∀{row:Row} (w:Bid),Cm row→(Em w row).flatMap (fun p=>(BF p.run).map fun x=>(x,p.owner))=Ep w (Bz row)
 |[],_,_=>rfl
 |r::l,w,h=>by
  simp only[Em,BE]
  rw[BL,Lj _ h.tail]
  obtain⟨v,hv⟩:∃v,v=if r.opens then r.op else w:=⟨_,rfl⟩
  rw[←hv]
  have hne:BF r≠ []:=by
   intro e
   have h1:=CV r
   rw[e]at h1
   have h2:=h.head.1
   simp only[List.length_nil]at h1
   omega
  rw[On (BF r) (Bz l) w v]
  ·intro x hx
   obtain⟨h1,h2,_⟩:=G3 hx
   rw[h1,h2,hv]
  ·exact hne
  ·intro x hx
   obtain⟨h1,h2,_⟩:=G3 hx
   rw[h1,h2,hv]
   split<;>rfl
/-- the letters of a block -/
def Lp(b:Bid)(l:List (RC×Bid)):List RC:=(l.filter fun p=>decide (p.2=b)&&p.1.shows).map (·.1)
def Ek(x:TX)(b:Bid):List RC:=
 match Gs x b with
 |none=>[]
 |some seg=>match x.texts seg with
  |none=>[]
  |some t=>Lp b (Ep seg (Bz t.row))
theorem I1{α β:Type}(g:α→List β)(p:β→Bool):∀l:List α,(l.flatMap g).filter p=l.flatMap fun a=>(g a).filter p
 |[]=>rfl
 |a::l=>by rw[BE,List.filter_append,I1 g p l,BE]
theorem Lo{row:Row}(h:Cm row)(w b:Bid){γ:Type}(g:RC→γ):
  (Lp b (Ep w (Bz row))).map g=(DD b (Em w row)).flatMap fun p=>if p.run.shows then(BF p.run).map g else[]:=by
 unfold Lp
 rw[←Lj w h,I1]
 have:∀l:List DK,(List.map g (List.map (·.1) (l.flatMap fun a=>((BF a.run).map fun x=>(x,a.owner)).filter fun p=>decide (p.2=b)&&p.1.shows)))=(DD b l).flatMap fun p=>if p.run.shows then(BF p.run).map g else[]:=by
  intro l
  induction l with
  |nil=>rfl
  |cons p l ih=>
   rw[BE,Bo,Bo,ih]
   unfold DD
   rw[List.filter_cons]
   have hall:((BF p.run).map fun x=>(x,p.owner)).filter (fun q=>decide (q.2=b)&&q.1.shows)=if(decide (p.owner=b)&&p.run.shows)=true then(BF p.run).map fun x=>(x,p.owner)else[]:=by
    split
    ·rename_i hh
     refine List.filter_eq_self.2 fun q hq=>?_
     obtain⟨x,hx,rfl⟩:=A5.1 hq
     simp only[(G3 hx).2.2]
     exact hh
    ·rename_i hh
     refine List.filter_eq_nil_iff.2 fun q hq=>?_
     obtain⟨x,hx,rfl⟩:=A5.1 hq
     simp only[(G3 hx).2.2]
     exact hh
   rw[hall]
   have hso:p.run.shows=true→p.run.opens=false:=by
    unfold Run.shows Run.opens
    cases p.run.mark<;>simp
   by_cases h1:p.owner=b
   ·cases h2:p.run.shows with
    |true=>
     have h3:=hso h2
     simp[h1,h3,h2]
    |false=>
     cases h3:p.run.opens<;>simp[h1,h2]
   ·simp[h1]
 exact this _
theorem Ui(r:Run):r.text=(BF r).map (·.b):=by
 unfold BF
 have:∀(k:Nat) (t:Bs),t=(Cc r.op r.gone r.mark k t).map (·.b):=by
  intro k t
  induction t generalizing k with
  |nil=>rfl
  |cons b t ih=>simp only[Cc,Cd];rw[←ih]
 exact this _ _
theorem M7{α β:Type}{l:List α}{p:α→Bool}{g g':α→List β}(h:∀a,g a=g' a):(l.flatMap fun a=>if p a then g a else[])=l.flatMap fun a=>if p a then g' a else[]:=by
 congr 1
 funext a
 rw[h a]
theorem LP{x:TX}{n:Nat}(hx:DT x n)(b:Bid):Dp x b=(Ek x b).map (·.b):=by
 unfold Dp Dv Ek
 cases hs:Gs x b with
 |none=>rfl
 |some seg=>
  simp only
  unfold EW
  cases ht:x.texts seg with
  |none=>rfl
  |some t=>
   simp only
   rw[Lo (hx.row _ t ht).1 seg b]
   exact M7 (p:=fun a:DK=>a.run.shows) fun a=>Ui a.run
end Dc
namespace Dc
open Off (Bid AV Bn)
theorem Ud{f:AB}{rk:Bid→Nat}(hr:Ce f rk){a:Bid}{l:List Bid}(h:I8 f a l):∃m:List Bid,m.length=l.length∧m.Nodup∧(∀x∈m,f x≠none∧rk x≤rk a):=by
 induction h with
 |nil _=>exact⟨[],rfl,aM,by simp⟩
 | @cons a p l hp _ ih=>
  obtain⟨m,h1,h2,h3⟩:=ih
  have hlt:=hr a p hp
  refine⟨a::m,by simp[h1],IL.2 ⟨fun e=>by have:=(h3 a e).2;omega,h2⟩,fun x hx=>?_⟩
  rcases A7.1 hx with rfl|hx
  ·exact⟨by rw[hp];simp,Ac _⟩
  ·exact⟨(h3 x hx).1,by have:=(h3 x hx).2;omega⟩
theorem VZ{f:AB}{rk:Bid→Nat}(hr:Ce f rk){dom:List Bid}(hd:∀a,f a≠none→a∈dom)(a:Bid):(way f a).length≤dom.length:=by
 obtain⟨m,h1,h2,h3⟩:=Ud hr (U5 hr a)
 rw[←h1]
 exact EO h2 fun x hx=>hd x (h3 x hx).1
theorem Qj{f:AB}{L:CZ}{rk:Bid→Nat}(hk:CH f L)(hr:Ce f rk){dom:List Bid}(hd:∀a,f a≠none→a∈dom){n:Nat}{a:Bid}(h:Deep f rk n a):(Ds n L a).length≤dom.length:=by
 refine EO (Ic hk hr n a h) fun x hx=>hd x ?_
 obtain⟨p,hp,_⟩:=E9.1 ((Fh hk hr n a h x).1 hx)
 rw[hp];simp
end Dc
namespace Dc
open Off (Bid AV Bn DF)
noncomputable def Jh(f:AB):CZ:=open Classical in if h:∃L,CH f L then Classical.choose h else fun _=>[]
theorem MN{f:AB}{L:CZ}(h:CH f L):Jh f=L:=by
 unfold Jh
 have hex:∃L,CH f L:=⟨L,h⟩
 rw[GP hex]
 exact QW (Classical.choose_spec hex) h
noncomputable def OK(f:AB):Nat:=open Classical in if h:∃B,∃rk,Ce f rk∧∀a,Deep f rk B a then Classical.choose h else 0
theorem Rr{d:Doc}:∃rk,Ce d.places rk∧∀a,Deep d.places rk (OK d.places) a:=by
 unfold OK
 have hex:∃B,∃rk,Ce d.places rk∧∀a,Deep d.places rk B a:=by
  obtain⟨rk,hr⟩:=Jv d.ms
  obtain⟨B,hB⟩:=Rq (f:=d.places) (rk:=rk) (dom:=d.ms.map (·.block)) fun a ha=>FT ha
  exact⟨B,rk,hr,fun a=>hB B (Ac _) a⟩
 rw[GP hex]
 exact Classical.choose_spec hex
noncomputable def Vs(d:Doc)(top:Bid):List Ky:=Vr d (Jh d.places) (OK d.places) top
theorem QP{x:TX}{n:Nat}(hx:DT x n)(b:Bid):(Ek x b).length≤64*n:=by
 unfold Ek
 cases h:Gs x b with
 |none=>simp
 |some seg=>
  simp only
  cases ht:x.texts seg with
  |none=>simp
  |some t=>
   simp only
   unfold Lp
   rw[AM]
   refine AG (List.length_filter_le _ _) ?_
   have h1:(Ep seg (Bz t.row)).length=(Bz t.row).length:=by
    have:=congrArg List.length (Jf seg (Bz t.row))
    rwa [AM]at this
   rw[h1,Az]
   exact(hx.row seg t ht).2
theorem L2{x:TX}{n:Nat}(hx:DT x n)(b:Bid):(Dp x b).length≤64*n:=by
 rw[LP hx,AM];exact QP hx b
theorem O0{x:TX}{n:Nat}(hx:DT x n):∀seg t,x.texts seg=some t→t.row.length≤64*n:=fun seg t ht=>AG (hx.row seg t ht).1.len_le (hx.row seg t ht).2
/-! a block with a text -/
def Gj:Op:=⟨1,⟨0,1⟩,1,.z,.z,[97],.z,.z,.z,[],[],false⟩
def Ir:Op:=⟨3,⟨0,2⟩,2,.z,.z,[],⟨0,1⟩,.z,.z,[97,98],[],false⟩
def Qa:Op:=⟨1,⟨0,3⟩,3,.z,⟨0,9⟩,[97],.z,.z,.z,[],[],false⟩
noncomputable def I5:Doc:=Doc.new.act Gj
noncomputable def B2:Doc:=I5.act Ir
noncomputable def VO:Doc:=B2.act Qa
theorem TZ:Doc.new.err Gj=0:=by decide
theorem Jl:I5=Doc.new.apply Gj:=by unfold I5 Doc.act;rw[Ak TZ]
theorem TY:I5.err Ir=0:=by rw[Jl];rfl
theorem Fb:B2=(Doc.new.apply Gj).apply Ir:=by unfold B2 Doc.act;rw[Ak TY,Jl]
theorem TW:B2.err Qa=13:=by rw[Fb];rfl
theorem UZ:VO=B2:=by unfold VO Doc.act;rw[Ae (by rw[TW];decide)]
theorem TG:B2.has ⟨0,2⟩=true:=by rw[Fb];rfl
theorem TF:B2.has ⟨0,3⟩=false:=by rw[Fb];rfl
theorem RH:B2.there .t=true:=by rw[Fb];rfl
theorem Jk:B2.ops.length=2:=by rw[Fb];rfl
theorem Iq:B2.places=EG Cj ⟨0,1⟩ (some ⟨.z,[97]⟩):=by
 rw[Fb]
 show Hf [CN Gj Gj.id]=_
 show step Cj (CN Gj Gj.id)=_
 unfold step
 have h:Dl Cj (CN Gj Gj.id)=true:=by
  unfold Dl
  rw[Nn rfl]
  rfl
 rw[Ak h]
 rfl
theorem Oz:CH Cj (fun _=>[]):=⟨fun _=>List.Pairwise.nil,fun p c=>by simp[Cj]⟩
theorem UX:Vs B2 .z=[⟨⟨0,1⟩,0,false,[97,98]⟩]:=by
 obtain⟨rk,hr,hdeep⟩:=Rr (d:=B2)
 have hfull:BS B2:=(BS.new.act Gj).act Ir
 have hk0:=VP (b:=(⟨0,1⟩:Bid)) (p:=⟨.z,[97]⟩) Oz rfl
 rw[←Iq]at hk0
 have hL:=MN hk0
 have hk:=hk0
 rw[←hL]at hk
 have hbel:∀x,Bel B2.places x .z↔x=⟨0,1⟩:=fun x=>by
  rw[E9,Iq]
  constructor
  ·rintro⟨p,hp,_⟩
   unfold EG at hp
   split at hp
   ·assumption
   ·cases hp
  ·rintro rfl
   exact⟨⟨.z,[97]⟩,rfl,.inl rfl⟩
 have hw:Ds (OK B2.places) (Jh B2.places) .z=[⟨0,1⟩]:=by
  have h1:=Fh hk hr _ .z (hdeep .z)
  have h2:=Ic hk hr _ .z (hdeep .z)
  generalize Ds (OK B2.places) (Jh B2.places) .z=l at h1 h2
  have hm:∀x,x∈l↔x=⟨0,1⟩:=fun x=>(h1 x).trans (hbel x)
  match l,hm,h2 with
  |[],hm,_=>exact absurd ((hm ⟨0,1⟩).2 rfl) (by simp)
  |[a],hm,_=>rw[(hm a).1 (by simp)]
  |a::b::l,hm,h2=>
   have ha:=(hm a).1 (by simp)
   have hb:=(hm b).1 (by simp)
   rw[ha,hb]at h2
   simp at h2
 have hp:B2.places ⟨0,1⟩=some ⟨.z,[97]⟩:=by rw[Iq];rfl
 have hdep:EQ B2.places ⟨0,1⟩ .z=0:=by rw[Tz hr hp,Ak rfl]
 have hfold:Hl B2.words ⟨0,1⟩=false:=by rw[Fb];rfl
 have htext:Dp B2.tx ⟨0,1⟩=[97,98]:=by
  rw[LP hfull.tx]
  have ht:B2.tx.texts ⟨0,1⟩=some (Gv YT.new Ir):=by rw[Fb];rfl
  have hnew:I5.tx.texts ⟨0,1⟩=some YT.new:=by rw[Jl];rfl
  have hfl:Bz (Gv YT.new Ir).row=BF (B0 Ir):=by
   obtain⟨_,k,_,h3⟩:=OA (t:=YT.new) BZ.new Dm.new Cm.nil (o:=Ir) (by decide) (by decide) (by decide) (by decide) (fun c hc=>by
    unfold YT.new
    simp only
    rw[Ae]
    intro e
    rw[e]at hc
    exact absurd hc (by decide))
   rw[h3]
   simp[YT.new,Bz]
  have hseg:Gs B2.tx ⟨0,1⟩=some ⟨0,1⟩:=by unfold Gs;rw[ht];rfl
  unfold Ek
  rw[hseg]
  simp only
  rw[ht]
  simp only
  rw[hfl]
  decide
 unfold Vs Vr
 rw[hw]
 simp only[Cd,N5]
 rw[hdep,hfold,htext]
 rfl
end Dc
