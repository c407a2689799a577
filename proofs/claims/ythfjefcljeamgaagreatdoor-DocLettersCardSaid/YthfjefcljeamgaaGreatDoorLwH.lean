/- joined: The plain model of the document: each character stands in one text. The plain model of the document: DocLetters' law: each character whose op was done, and that no cut names, stands in just one block's text; no other one does. The texts of blocks: the letters of a block. DocLetters: the walk. -/
import Derived.Test.YthfjefcljeamgaaGreatDoorDcLaw
import Derived.Test.YthfjefcljeamgaaGreatDoorTxH
import Derived.Test.YthfjefcljeamgaaGreatDoorLwF
namespace Dc
open Off (Bid AV Bn)
theorem Vp{o:Op}(hok:o.ok=true)(hk:o.kind≠3):o.text=[]:=by
 have h:=(Eg hok).2.2.2
 have e:o.own.text=[]:=by
  unfold Op.own
  rw[Ae (c:=o.kind=3) hk]
  repeat' (first|rfl|split)
 rw[←h];exact e
def FX(r:Run):List Chr:=(List.range r.len).map fun k=>⟨r.op,((r.fr+k:Nat):Int)⟩
def Bl(x:TX)(b:Bid):List Chr:=(Dv x b).flatMap fun p=>if p.run.shows then FX p.run else[]
theorem KN{w:Bid}{l:List RC}{p:RC×Bid}(h:p∈Ep w l):p.1∈l:=by
 have:p.1∈(Ep w l).map (·.1):=A5.2 ⟨p,h,rfl⟩
 rwa [Jf]at this
theorem JV:∀{w:Bid} {l:List RC} {r:RC},r∈l→∃v,(r,v)∈Ep w l
 |w,[],r,h=>by cases h
 |w,q::l,r,h=>by
  rcases A7.1 h with rfl|h
  ·exact⟨_,A7.2 (.inl rfl)⟩
  ·obtain⟨v,hv⟩:=JV (w:=if q.opens then q.c.op else w) h
   exact⟨v,A7.2 (.inr hv)⟩
/-- an owner is the text's own block, or one whose mark is there -/
theorem Ll:∀{w:Bid} {l:List RC} {p:RC×Bid},p∈Ep w l→p.2=w∨∃r∈l,r.opens=true∧r.c.op=p.2
 |w,[],p,h=>by cases h
 |w,q::l,p,h=>by
  simp only[Ep]at h
  rcases A7.1 h with rfl|h
  ·cases hq:q.opens with
   |true=>simp only[if_true];exact .inr ⟨q,by simp,hq,rfl⟩
   |false=>simp
  ·rcases Ll h with h1|⟨r,hr,h2⟩
   ·cases hq:q.opens with
    |true=>rw[hq]at h1;simp only[if_true]at h1;exact .inr ⟨q,by simp,hq,h1.symm⟩
    |false=>rw[hq]at h1;simp at h1;exact .inl h1
   ·exact .inr ⟨r,by simp[hr],h2⟩
theorem UR(r:Run):FX r=(BF r).map (·.c):=by
 rw[Rh]
 unfold FX
 rw[List.range'_eq_map_range,bu]
 rfl
theorem E3{x:TX}{n:Nat}(hx:DT x n)(b:Bid):Bl x b=(Ek x b).map (·.c):=by
 unfold Bl Dv Ek
 cases hs:Gs x b with
 |none=>rfl
 |some seg=>
  simp only
  unfold EW
  cases ht:x.texts seg with
  |none=>rfl
  |some t=>
   simp only
   rw[Lo (hx.row _ t ht).1 seg b]
   exact M7 (p:=fun a:DK=>a.run.shows) fun a=>UR a.run
/-- a letter of a block: its op, what it shows; it is not gone -/
theorem MM{x:TX}{ops:List Op}(hf:GO x ops){b:Bid}{r:RC}(h:r∈Ek x b):
  ∃seg t,Gs x b=some seg∧x.texts seg=some t∧r∈Bz t.row∧(r,b)∈Ep seg (Bz t.row)∧r.gone=false∧¬FD ops r.c∧∃o∈ops,o.id=r.c.op∧o.seg=seg∧o.kind=3∧∃k:Nat,r.c.i=k∧o.text[k]? =some r.b:=by
 unfold Ek at h
 cases hs:Gs x b with
 |none=>rw[hs]at h;cases h
 |some seg=>
  rw[hs]at h
  simp only at h
  cases ht:x.texts seg with
  |none=>rw[ht]at h;cases h
  |some t=>
   rw[ht]at h
   simp only at h
   unfold Lp at h
   obtain⟨⟨r',v⟩,hp0,rfl⟩:=A5.1 h
   obtain⟨hp,hq⟩:=List.mem_filter.1 hp0
   clear hp0 h
   simp only[AN,Au]at hq
   obtain⟨rfl,hsh⟩:=hq
   have hr:=KN hp
   unfold RC.shows at hsh
   simp only[AN,JM]at hsh
   refine⟨seg,t,rfl,ht,hr,hp,hsh.2,fun e=>?_,?_⟩
   ·have:=(hf.gone _ t _ ht hr).2 e
    rw[hsh.2]at this;cases this
   ·obtain⟨o,ho,h1,h2,h3|h3⟩:=hf.shows _ t _ ht hr
    ·have:=h3.2.1
     simp only at this hsh
     rw[hsh.1]at this;cases this
    ·exact⟨o,ho,h1,h2,h3.1,h3.2.2⟩
theorem G0:∀{w:Bid} {l:List RC} {r:RC} {v v':Bid},((l.map (·.c)).Nodup)→(r,v)∈Ep w l→(r,v')∈Ep w l→v=v'
 |w,[],r,v,v',_,h,_=>by cases h
 |w,q::l,r,v,v',hn,h,h'=>by
  rw[Cd,IL]at hn
  simp only[Ep]at h h'
  rcases A7.1 h with h|h
  ·rcases A7.1 h' with h'|h'
   ·cases h;cases h';rfl
   ·cases h
    exact absurd (A5.2 ⟨_,KN h',rfl⟩) hn.1
  ·rcases A7.1 h' with h'|h'
   ·cases h'
    exact absurd (A5.2 ⟨_,KN h,rfl⟩) hn.1
   ·exact G0 hn.2 h h'
/-- one character is a letter of one block alone -/
theorem Us{x:TX}{ops:List Op}(hf:GO x ops)(huniq:∀o∈ops,∀p∈ops,o.id=p.id→o=p){b b':Bid}{r r':RC}(h:r∈Ek x b)(h':r'∈Ek x b')(he:r.c=r'.c):b=b'∧r=r':=by
 obtain⟨seg,t,h1,h2,h3,h4,_,_,o,ho,h5,h6,_⟩:=MM hf h
 obtain⟨seg',t',h1',h2',h3',h4',_,_,o',ho',h5',h6',_⟩:=MM hf h'
 have e1:o=o':=huniq o ho o' ho' (by rw[h5,h5',he])
 subst e1
 have e2:seg=seg':=h6.symm.trans h6'
 subst e2
 rw[h2]at h2'
 cases h2'
 have hnd:=(hf.row _ t h2).nodup
 have e3:r=r':=by
  obtain⟨i,hi⟩:=Fg h3
  obtain⟨j,hj⟩:=Fg h3'
  have hi':((Bz t.row).map (·.c))[i]? =some r.c:=by rw[Ei,hi];rfl
  have hj':((Bz t.row).map (·.c))[j]? =some r.c:=by rw[Ei,hj,he];rfl
  have hil:=(AS.1 hi').1
  have e:=(List.getElem?_inj hil hnd).1 (hi'.trans hj'.symm)
  subst e
  rw[hi]at hj
  exact Ap hj
 subst e3
 exact⟨G0 hnd h4 h4',rfl⟩
theorem QQ{b:Bid}{w:Bid}{l:List RC}(h:(l.map (·.c)).Nodup):((Lp b (Ep w l)).map (·.c)).Nodup:=by
 unfold Lp
 have h1:(((Ep w l).map (·.1)).map (·.c)).Nodup:=by rw[Jf];exact h
 rw[bu]at h1⊢
 exact h1.sublist ((List.filter_sublist).map _)
theorem SV{x:TX}{ops:List Op}(hf:GO x ops)(b:Bid):((Ek x b).map (·.c)).Nodup:=by
 unfold Ek
 split
 ·exact aM
 ·split
  ·exact aM
  ·rename_i t ht
   exact QQ (hf.row _ t ht).nodup
/-- a character that is not gone is a letter of some block -/
theorem Vw{x:TX}{ops:List Op}{n:Nat}(hf:GO x ops)(hx:DT x n)(hok:∀o∈ops,o.ok=true)(huniq:∀o∈ops,∀p∈ops,o.id=p.id→o=p){o:Op}(ho:o∈ops)(hk:o.kind=3){k:Nat}(hlt:k<o.text.length)(hng:¬FD ops ⟨o.id,(k:Int)⟩):
  ∃b r,(∃p∈ops,(p.kind=1∨p.kind=5)∧p.id=b)∧r∈Ek x b∧r.c=⟨o.id,(k:Int)⟩:=by
 have hsz:o.size=o.text.length:=by unfold Op.size;rw[Ak hk]
 have hm:=(hf.made o.id ⟨o.seg,o.size,decide (o.kind=5)⟩).2 ⟨o,ho,rfl,by omega,rfl⟩
 obtain⟨⟨t,ht⟩,_⟩:=hx.made _ _ hm
 simp only at ht
 have hn:=(hx.chars o.seg t ⟨o.id,(k:Int)⟩ ht).2 (.inr ⟨_,hm,rfl,by simp,by simp;omega⟩)
 have hz:(⟨o.id,(k:Int)⟩:Chr)≠ .z:=fun e=>QH (hok o ho) (congrArg Chr.op e)
 obtain⟨r,hr,hrc⟩:=A5.1 (((hf.row _ t ht).mem ⟨o.id,(k:Int)⟩).2 ⟨hn,hz⟩)
 have hg:r.gone=false:=by
  rw[Ej]
  intro e
  exact hng (hrc▸(hf.gone _ t r ht hr).1 e)
 have hmk:r.mark=false:=by
  obtain⟨p,hp,h1,h2,h3|h3⟩:=hf.shows _ t r ht hr
  ·have:p=o:=huniq p hp o ho (by rw[h1,hrc])
   rw[this,hk]at h3
   exact absurd h3.1 (by decide)
  ·exact h3.2.1
 obtain⟨v,hv⟩:=JV (w:=o.seg) hr
 have hseg:Gs x o.seg=some o.seg:=by unfold Gs;rw[Ak (by rw[ht];rfl)]
 have hlive:∀b,Gs x b=some o.seg→v=b→r∈Ek x b:=by
  intro b hb hvb
  unfold Ek
  rw[hb]
  simp only
  rw[ht]
  simp only
  unfold Lp
  refine A5.2 ⟨(r,v),List.mem_filter.2 ⟨hv,?_⟩,rfl⟩
  simp[hvb,RC.shows,hg,hmk]
 rcases Ll hv with h1|⟨q,hq,h1,h2⟩
 ·simp only at h1
  refine⟨o.seg,r,?_,hlive _ hseg h1,hrc⟩
  obtain⟨p,hp,h3,h4⟩:=(hf.texts o.seg).1 (by rw[ht];simp)
  exact⟨p,hp,.inl h3,h4⟩
 ·simp only at h2
  unfold RC.opens at h1
  simp only[AN,JM]at h1
  obtain⟨p,hp,h3,h4,h5|h5⟩:=hf.shows _ t q ht hq
  ·have hpm:=(hf.made p.id ⟨p.seg,p.size,decide (p.kind=5)⟩).2 ⟨p,hp,rfl,by unfold Op.size;rw[Ae (by rw[h5.1];decide),Ak h5.1];decide,rfl⟩
   have hpv:p.id=v:=h3.trans h2
   refine⟨v,r,⟨p,hp,.inr h5.1,hpv⟩,hlive _ ?_ rfl,hrc⟩
   have hno:(x.texts v).isSome=false:=by
    rw[Ej]
    intro e
    obtain⟨p',hp',h6,h7⟩:=(hf.texts v).1 (fun e2=>by rw[e2]at e;cases e)
    have:p'=p:=huniq p' hp' p hp (h7.trans hpv.symm)
    rw[this,h5.1]at h6
    exact absurd h6 (by decide)
   unfold Gs
   rw[Ae (by rw[hno];simp),←hpv,hpm]
   simp[h5.1,h4]
  ·rw[h1.1]at h5;cases h5.2.1
end Dc
namespace Dc
open Off (Bid AV Bn)
/-- the characters of an op's text, as far as n -/
def Hu(f:Chr→Option UInt8)(o:Op)(n:Nat):Chr→Option UInt8:=fun c=>if c.op=o.id∧0≤c.i∧c.i<(n:Int)then o.text[c.i.toNat]? else f c
theorem RV(f:Chr→Option UInt8)(o:Op):Hu f o 0=f:=funext fun c=>by unfold Hu;rw[Ae (by omega)]
theorem RX(f:Chr→Option UInt8){o:Op}{n:Nat}(hn:n<o.text.length):Hu f o (n+1)=fun c=>if c=⟨o.id,(n:Int)⟩then some (o.text[n]'hn)else Hu f o n c:=funext fun c=>by
 obtain⟨q,i⟩:=c
 unfold Hu
 simp only[Chr.mk.injEq]
 by_cases h:q=o.id∧i=(n:Int)
 ·rw[Ak h,Ak ⟨h.1,by omega⟩,h.2]
  simp[Aj hn]
 ·rw[Ae h]
  by_cases h2:q=o.id∧0≤i∧i<(n:Int)
  ·rw[Ak h2,Ak ⟨h2.1,by omega⟩]
  ·rw[Ae h2,Ae fun e=>h2 ⟨e.1,e.2.1,by have:=e.2.2;by_cases e3:i=(n:Int);exact absurd ⟨e.1,e3⟩ h;omega⟩]
def LZ(f:Chr→Option UInt8)(o:Op):Chr→Option UInt8:=Hu f o o.text.length
def IP(l:List Op):Chr→Option UInt8:=l.foldl LZ fun _=>none
theorem RY(l:List Op)(o:Op):IP (l++[o])=LZ (IP l) o:=by unfold IP;rw[Dy];rfl
/-- the characters that a cut names, n of them -/
def Lr(f:Chr→Option Int)(c:Cut)(n:Nat):Chr→Option Int:=fun x=>if x.op=c.op∧c.fr≤x.i∧x.i<c.fr+(n:Int)then some 1 else f x
theorem Tc(f:Chr→Option Int)(c:Cut):Lr f c 0=f:=funext fun x=>by unfold Lr;rw[Ae (by omega)]
theorem Td(f:Chr→Option Int)(c:Cut)(n:Nat):Lr f c (n+1)=fun x=>if x=⟨c.op,c.fr+(n:Int)⟩then some 1 else Lr f c n x:=funext fun x=>by
 obtain⟨q,i⟩:=x
 unfold Lr
 simp only[Chr.mk.injEq]
 by_cases h:q=c.op∧i=c.fr+(n:Int)
 ·rw[Ak h,Ak ⟨h.1,by omega⟩]
 ·rw[Ae h]
  by_cases h2:q=c.op∧c.fr≤i∧i<c.fr+(n:Int)
  ·rw[Ak h2,Ak ⟨h2.1,by omega⟩]
  ·rw[Ae h2,Ae fun e=>h2 ⟨e.1,e.2.1,by have:=e.2.2;by_cases e3:i=c.fr+(n:Int);exact absurd ⟨e.1,e3⟩ h;omega⟩]
def Ls(f:Chr→Option Int)(c:Cut):Chr→Option Int:=Lr f c (c.to-c.fr).toNat
def GK(f:Chr→Option Int)(l:List Cut):Chr→Option Int:=l.foldl Ls f
theorem Tf{f:Chr→Option Int}{l:List Cut}{k:Nat}(hk:k<l.length):GK f (l.take (k+1))=Ls (GK f (l.take k)) (l[k]'hk):=by
 unfold GK
 rw[AW,Aj hk,Dy]
 rfl
def J7(l:List Op):Chr→Option Int:=l.foldl (fun f o=>GK f o.cuts) fun _=>none
theorem Tj(l:List Op)(o:Op):J7 (l++[o])=GK (J7 l) o.cuts:=by unfold J7;rw[Dy];rfl
def ER(l:List Op):List Bid:=(l.filter fun o=>decide (o.kind=1)||decide (o.kind=5)).map (·.id)
theorem PY(l:List Op)(o:Op):ER (l++[o])=ER l++(if o.kind=1∨o.kind=5 then[o.id]else[]):=by
 unfold ER
 rw[List.filter_append,Bo]
 by_cases h1:o.kind=1
 ·simp[h1]
 ·by_cases h5:o.kind=5
  ·simp[h5]
  ·simp[h1,h5]
theorem LF(l:List Op):(ER l).length≤l.length:=by unfold ER;rw[AM];exact List.length_filter_le _ _
/-! what the maps say -/
theorem Qi{f:Chr→Option UInt8}{o:Op}{n:Nat}{c:Chr}(h:c.op≠o.id):Hu f o n c=f c:=by unfold Hu;rw[Ae fun e=>h e.1]
theorem N8:∀(l:List Op) (f:Chr→Option UInt8) {c:Chr},(∀o∈l,o.id≠c.op)→l.foldl LZ f c=f c
 |[],_,_,_=>rfl
 |o::l,f,c,h=>by
  rw[Nv,N8 l _ fun p hp=>h p (Ed _ hp)]
  exact Qi fun e=>h o az e.symm
theorem Qh:∀(l:List Op) (f:Chr→Option UInt8) {o:Op} {k:Nat},(l.map (·.id)).Nodup→o∈l→(hk:k<o.text.length)→l.foldl LZ f ⟨o.id,(k:Int)⟩=some (o.text[k]'hk)
 |[],_,_,_,_,h,_=>by cases h
 |p::l,f,o,k,hn,h,hk=>by
  rw[Cd,IL]at hn
  rw[Nv]
  rcases A7.1 h with rfl|h
  ·rw[N8 l _ fun q hq e=>hn.1 (A5.2 ⟨q,hq,e⟩)]
   unfold LZ Hu
   rw[Ak ⟨rfl,by simp only;omega,by simp only;omega⟩]
   simp[Aj hk]
  ·exact Qh l _ hn.2 h hk
theorem N7:∀(l:List Op) (f:Chr→Option UInt8) {c:Chr},l.foldl LZ f c≠none→f c≠none∨∃o∈l,∃k:Nat,k<o.text.length∧c=⟨o.id,(k:Int)⟩
 |[],_,_,h=> .inl h
 |o::l,f,c,h=>by
  rw[Nv]at h
  rcases N7 l _ h with h|⟨p,hp,h⟩
  ·unfold LZ Hu at h
   split at h
   ·rename_i hc
    refine .inr ⟨o,az,c.i.toNat,by omega,?_⟩
    obtain⟨q,i⟩:=c
    simp only at hc⊢
    rw[hc.1,Int.toNat_of_nonneg hc.2.1]
   ·exact .inl h
  ·exact .inr ⟨p,Ed _ hp,h⟩
theorem OC:∀(l:List Cut) (f:Chr→Option Int) (x:Chr),((∃k∈l,EK k x=true)→GK f l x=some 1)∧((¬ ∃k∈l,EK k x=true)→GK f l x=f x)
 |[],f,x=>⟨fun⟨k,hk,_⟩=>(by cases hk),fun _=>rfl⟩
 |c::l,f,x=>by
  obtain⟨h1,h2⟩:=OC l (Ls f c) x
  have hc:Ls f c x=if EK c x then some 1 else f x:=by
   unfold Ls Lr EK
   simp only[AN,Au]
   by_cases h:x.op=c.op∧c.fr≤x.i∧x.i<c.to
   ·rw[Ak ⟨h.1,h.2.1,by omega⟩,Ak ⟨⟨h.1,h.2.1⟩,h.2.2⟩]
   ·rw[Ae fun e=>h ⟨e.1,e.2.1,by omega⟩,Ae fun e=>h ⟨e.1.1,e.1.2,e.2⟩]
  refine⟨fun⟨k,hk,hx⟩=>?_,fun hno=>?_⟩
  ·show GK (Ls f c) l x=some 1
   by_cases hl:∃k∈l,EK k x=true
   ·exact h1 hl
   ·rw[h2 hl,hc]
    rcases A7.1 hk with rfl|hk
    ·rw[Ak hx]
    ·exact absurd ⟨k,hk,hx⟩ hl
  ·show GK (Ls f c) l x=f x
   rw[h2 fun⟨k,hk,hx⟩=>hno ⟨k,Ed _ hk,hx⟩,hc,Ae fun e=>hno ⟨c,az,e⟩]
theorem M5:∀(l:List Op) (f:Chr→Option Int) (x:Chr),(FD l x→l.foldl (fun f o=>GK f o.cuts) f x=some 1)∧(¬FD l x→l.foldl (fun f o=>GK f o.cuts) f x=f x)
 |[],f,x=>⟨fun⟨k,hk,_⟩=>(by cases hk),fun _=>rfl⟩
 |o::l,f,x=>by
  obtain⟨h1,h2⟩:=M5 l (GK f o.cuts) x
  obtain⟨h3,h4⟩:=OC o.cuts f x
  rw[Nv]
  refine⟨fun⟨p,hp,hx⟩=>?_,fun hno=>?_⟩
  ·by_cases hl:FD l x
   ·exact h1 hl
   ·rw[h2 hl]
    rcases A7.1 hp with rfl|hp
    ·exact h3 hx
    ·exact absurd ⟨p,hp,hx⟩ hl
  ·rw[h2 fun⟨p,hp,hx⟩=>hno ⟨p,Ed _ hp,hx⟩,h4 fun hx=>hno ⟨o,az,hx⟩]
/-! letters that were met -/
def IE(f:Chr→Option Int)(G:List Chr):Chr→Option Int:=fun c=>if c∈G then some 1 else f c
theorem UD(f:Chr→Option Int):IE f []=f:=funext fun c=>by unfold IE;rw[Ae (by simp)]
theorem Ti(f:Chr→Option Int)(G:List Chr)(x:Chr):IE f (G++[x])=fun c=>if c=x then some 1 else IE f G c:=funext fun c=>by
 unfold IE
 by_cases h:c=x
 ·rw[Ak h,Ak (by simp[h])]
 ·rw[Ae h]
  by_cases h2:c∈G
  ·rw[Ak h2,Ak (by simp[h2])]
  ·rw[Ae h2,Ae (by simp[h,h2])]
def Cb(x:TX)(l:List Bid):List Chr:=l.flatMap (Bl x)
theorem Jz{x:TX}{l:List Bid}{i:Nat}(hi:i<l.length):Cb x (l.take (i+1))=Cb x (l.take i)++Bl x (l[i]'hi):=by
 unfold Cb
 rw[AW,Aj hi,BU]
 simp
theorem J2{x:TX}{n:Nat}(h:∀b,(Bl x b).length≤n):∀l:List Bid,(Cb x l).length≤l.length*n
 |[]=>Ah _
 |b::l=>by
  have h1:=J2 h l
  have h2:=h b
  unfold Cb at h1⊢
  rw[BE,Ai,BO,N4]
  omega
theorem IY{d:Doc}(h:BS d)(b:Bid):(Dp d.tx b).length=(Bl d.tx b).length:=by
 rw[E3 h.tx,LP h.tx,AM,AM]
theorem M4{l:List Op}(hn:(l.map (·.id)).Nodup):∀o∈l,∀p∈l,o.id=p.id→o=p:=fun o ho p hp e=>by
 obtain⟨i,hi⟩:=Fg ho
 obtain⟨j,hj⟩:=Fg hp
 have h1:(l.map (·.id))[i]? =some o.id:=by rw[Ei,hi];rfl
 have h2:(l.map (·.id))[j]? =some o.id:=by rw[Ei,hj,e];rfl
 have h3:=(List.getElem?_inj (AS.1 h1).1 hn).1 (h1.trans h2.symm)
 subst h3
 rw[hi]at hj
 exact Ap hj
theorem PX{l:List Op}(hn:(l.map (·.id)).Nodup):(ER l).Nodup:=hn.sublist ((List.filter_sublist).map _)
/-- a letter of a block: it is wanted, it shows what its op tells, it is not gone -/
theorem Ov{d:Doc}(h:BS d)(hn:(d.ops.map (·.id)).Nodup){b:Bid}{k:Nat}(hk:k<(Bl d.tx b).length)(ht:k<(Dp d.tx b).length):
  IP d.ops ((Bl d.tx b)[k]'hk)=some ((Dp d.tx b)[k]'ht)∧J7 d.ops ((Bl d.tx b)[k]'hk)=none:=by
 have hu:=M4 hn
 have hk':k<(Ek d.tx b).length:=by have h1:=congrArg List.length (E3 h.tx b);rw[AM]at h1;omega
 obtain⟨r,hr⟩:∃r,r=(Ek d.tx b)[k]'hk':=⟨_,rfl⟩
 have h1:(Bl d.tx b)[k]'hk=r.c:=by
  have e:=E3 h.tx b
  have:(Bl d.tx b)[k]? =some r.c:=by rw[e,Ei,Aj hk',←hr];rfl
  rw[Aj hk]at this
  exact Ap this
 have h2:(Dp d.tx b)[k]'ht=r.b:=by
  have e:=LP h.tx b
  have:(Dp d.tx b)[k]? =some r.b:=by rw[e,Ei,Aj hk',←hr];rfl
  rw[Aj ht]at this
  exact Ap this
 obtain⟨_,_,_,_,_,_,_,hng,o,ho,h5,_,_,j,h6,h7⟩:=MM h.full (hr▸AQ hk')
 rw[h1,h2]
 obtain⟨hj,h8⟩:=AS.1 h7
 have hc:r.c=⟨o.id,(j:Int)⟩:=by
  obtain⟨⟨q,i⟩,_,_,_⟩:=r
  simp only at h5 h6⊢
  rw[h5,h6]
 refine⟨?_,?_⟩
 ·rw[hc,←h8];exact Qh d.ops _ hn ho hj
 ·exact(M5 d.ops _ _).2 hng
theorem NN{d:Doc}(h:BS d)(b:Bid):(Bl d.tx b).Nodup:=by rw[E3 h.tx];exact SV h.full b
/-- no letter stands in two blocks -/
theorem QS{d:Doc}(h:BS d)(hn:(d.ops.map (·.id)).Nodup){b b':Bid}{c:Chr}(h1:c∈Bl d.tx b)(h2:c∈Bl d.tx b'):b=b':=by
 rw[E3 h.tx]at h1 h2
 obtain⟨r,hr,rfl⟩:=A5.1 h1
 obtain⟨r',hr',e⟩:=A5.1 h2
 exact(Us h.full (M4 hn) hr hr' e.symm).1
theorem GI{d:Doc}(h:BS d)(hn:(d.ops.map (·.id)).Nodup):∀{l:List Bid},l.Nodup→(Cb d.tx l).Nodup
 |[],_=>aM
 |b::l,hl=>by
  rw[IL]at hl
  unfold Cb
  rw[BE,Ff]
  refine⟨NN h b,GI h hn hl.2,fun c hc c' hc' e=>?_⟩
  subst e
  obtain⟨b',hb',h2⟩:=Ba.1 hc'
  exact hl.1 (QS h hn hc h2▸hb')
/-- none of the letters met so far is the next one -/
theorem SX{d:Doc}(h:BS d)(hn:(d.ops.map (·.id)).Nodup){l:List Bid}(hl:l.Nodup){i k:Nat}(hi:i<l.length)(hk:k<(Bl d.tx (l[i]'hi)).length):
  (Bl d.tx (l[i]'hi))[k]'hk∉Cb d.tx (l.take i)++(Bl d.tx (l[i]'hi)).take k:=by
 have h1:=GI h hn (hl.sublist (List.take_sublist (i+1) l))
 rw[Jz hi,Ff]at h1
 obtain⟨_,h2,h3⟩:=h1
 intro e
 rcases AC.1 e with e|e
 ·exact h3 _ e _ (AQ hk) rfl
 ·obtain⟨j,hj,e⟩:=CM e
  rw[List.getElem_take]at e
  rw[Ad]at hj
  have e2:(Bl d.tx (l[i]'hi))[j]? =(Bl d.tx (l[i]'hi))[k]? :=by rw[Aj (by omega),Aj hk,e]
  have:=(List.getElem?_inj (by omega) h2).1 e2
  omega
theorem Pn{d:Doc}(h:BS d)(hn:(d.ops.map (·.id)).Nodup){l:List Bid}{c:Chr}(hc:c∈Cb d.tx l):IP d.ops c≠none:=by
 obtain⟨b,hb,h2⟩:=Ba.1 hc
 obtain⟨k,hk,rfl⟩:=CM h2
 rw[(Ov h hn hk (by rw[IY h];exact hk)).1]
 simp
/-- each character that is wanted is gone, or was met -/
theorem U7{d:Doc}(h:BS d)(hn:(d.ops.map (·.id)).Nodup){c:Chr}(hc:IP d.ops c≠none):IE (J7 d.ops) (Cb d.tx (ER d.ops)) c=some 1:=by
 rcases N7 d.ops _ hc with e|⟨o,ho,k,hk,rfl⟩
 ·exact absurd rfl e
 ·unfold IE
  split
  ·rfl
  ·rename_i hm
   by_cases hg:FD d.ops ⟨o.id,(k:Int)⟩
   ·exact(M5 d.ops _ _).1 hg
   ·have hk3:o.kind=3:=by
     rcases Decidable.em (o.kind=3)with e|e
     ·exact e
     ·rw[Vp (h.ops o ho) e]at hk;cases hk
    obtain⟨b,r,⟨p,hp,h1,h2⟩,h3,h4⟩:=Vw h.full h.tx h.ops (M4 hn) ho hk3 hk hg
    refine absurd (Ba.2 ⟨b,?_,?_⟩) hm
    ·unfold ER
     exact A5.2 ⟨p,List.mem_filter.2 ⟨hp,by rcases h1 with h1|h1<;>simp[h1]⟩,h2⟩
    ·rw[E3 h.tx]
     exact A5.2 ⟨r,h3,h4⟩
theorem RI{d:Doc}{o:Op}(h:d.err o≠0):d.act o=d:=by unfold Doc.act;rw[Ae h]
theorem WA{d:Doc}(h:BS d)(hn:(d.ops.map (·.id)).Nodup)(o:Op):((d.act o).ops.map (·.id)).Nodup:=by
 by_cases he:d.err o=0
 ·unfold Doc.act
  rw[Ak he]
  obtain⟨_,hk,_,_⟩:=HU he
  show((d.ops++[o]).map (·.id)).Nodup
  rw[Bo,Ff]
  refine⟨hn,by simp,fun a ha b hb e=>?_⟩
  subst e
  obtain⟨p,hp,e2⟩:=A5.1 ha
  simp only[Cd,N5,AU]at hb
  exact(h.kinds o.id).2 ⟨p,hp,e2.trans hb⟩ hk
 ·rw[RI he];exact hn
theorem VR{d:Doc}{o:Op}(he:d.err o=0):(d.act o).ops=d.ops++[o]:=by unfold Doc.act;rw[Ak he];rfl
theorem WV{o:Op}(h:o.ok=true){c:Cut}(hc:c∈o.cuts):0≤c.fr∧c.fr≤c.to∧c.to≤64:=by
 by_cases h4:o.kind=4
 ·have hp:=(Eg h).2.2.1
  unfold Op.parts at hp
  rw[Ae (by omega),Ae (by omega),Ae (by omega),Ak h4]at hp
  unfold TN at hp
  simp only[AN,B9]at hp
  have:=hp.2 c hc
  unfold CL at this
  simp only[AN,Au]at this
  omega
 ·rw[IU h h4]at hc;cases hc
end Dc
namespace Go.Proofs.YthfjefcljeamgaaGreatDoor
set_option maxRecDepth 100000
set_option maxHeartbeats 4000000
section
open Go.RowKit
attribute [local go_sem ↓] Go.wp_at_zero Go.wp_at_succ
theorem Xa:I9 65 26 3 AE:=GY PI Tryz.underlying65 (by decide) rfl (by decide) (fun _=>rfl) (fun _=>rfl)
theorem VJ(p:Dc.DK)(i:Int)(w:World)(hi:IntKind.i64.wrap ((p.run.fr:Int)+i)=(p.run.fr:Int)+i):
  Calls Tryz.prog 81 #[SJ p,.int .i64 i] w fun e w'=>e= .returned (CE ⟨p.run.op,(p.run.fr:Int)+i⟩)∧Aa No w w':=by
 obtain⟨⟨⟨oR,oN⟩,fr,gone,mark,txt⟩,⟨wR,wN⟩⟩:=p
 simp only at hi
 go_enter Tryz.func81,Tryz.ntmps81
 go_upto_region 1 with(fail)
 have k0:Aa No w ((w.alloc (.cells #[.int .i64 oR,.int .i64 oN,.int .i64 fr,.int .i64 (Dc.Run.len ⟨⟨oR,oN⟩,fr,gone,mark,txt⟩),.int .i64 0,.int .i64 0,.int .i64 0,.int .i64 0,.int .i64 0,.int .i64 0,.bool gone,.bool mark,.string ⟨txt.toArray⟩,.int .i64 wR,.int .i64 wN] 129)).alloc (.cells #[.int .i64 0,.int .i64 0,.int .i64 0] 26)):=((Aa.refl No w).alloc _).alloc _
 have hP:=Ab (Nx w (.cells #[.int .i64 oR,.int .i64 oN,.int .i64 fr,.int .i64 (Dc.Run.len ⟨⟨oR,oN⟩,fr,gone,mark,txt⟩),.int .i64 0,.int .i64 0,.int .i64 0,.int .i64 0,.int .i64 0,.int .i64 0,.bool gone,.bool mark,.string ⟨txt.toArray⟩,.int .i64 wR,.int .i64 wN] 129)) (.cells #[.int .i64 0,.int .i64 0,.int .i64 0] 26)
 have hS:=Nx (w.alloc (.cells #[.int .i64 oR,.int .i64 oN,.int .i64 fr,.int .i64 (Dc.Run.len ⟨⟨oR,oN⟩,fr,gone,mark,txt⟩),.int .i64 0,.int .i64 0,.int .i64 0,.int .i64 0,.int .i64 0,.int .i64 0,.bool gone,.bool mark,.string ⟨txt.toArray⟩,.int .i64 wR,.int .i64 wN] 129)) (.cells #[.int .i64 0,.int .i64 0,.int .i64 0] 26)
 rw[World.size_alloc]at hS
 generalize (w.alloc (.cells #[.int .i64 oR,.int .i64 oN,.int .i64 fr,.int .i64 (Dc.Run.len ⟨⟨oR,oN⟩,fr,gone,mark,txt⟩),.int .i64 0,.int .i64 0,.int .i64 0,.int .i64 0,.int .i64 0,.int .i64 0,.bool gone,.bool mark,.string ⟨txt.toArray⟩,.int .i64 wR,.int .i64 wN] 129)).alloc (.cells #[.int .i64 0,.int .i64 0,.int .i64 0] 26)=w1 at k0 hP hS⊢
 have p0:=Cx hP 0
 have p1:=Cx hP 1
 have p2:=Cx hP 2
 have q0:=Cx hS 0
 have q1:=Cx hS 1
 have q2:=Cx hS 2
 have u:=Fx hS
 have hf:=heap_set (heap_set (heap_set hS 0 (.int .i64 oR)) 1 (.int .i64 oN)) 2 (.int .i64 ((fr:Int)+i))
 have kf:Aa No w (((w1.setCell ⟨w.heap.size+1,0,none⟩ (.int .i64 oR)).setCell ⟨w.heap.size+1,1,none⟩ (.int .i64 oN)).setCell ⟨w.heap.size+1,2,none⟩ (.int .i64 ((fr:Int)+i))):=((k0.setNew (Hq _) _).setNew (Hq _) _).setNew (Hq _) _
 go_wp2_with fail
 generalize ((w1.setCell ⟨w.heap.size+1,0,none⟩ (.int .i64 oR)).setCell ⟨w.heap.size+1,1,none⟩ (.int .i64 oN)).setCell ⟨w.heap.size+1,2,none⟩ (.int .i64 ((fr:Int)+i))=wf at hf kf⊢
 refine bodyPost_ret (CX rfl rfl hf Tryz.underlying26 rfl Rx) rfl ⟨rfl,kf⟩
def J3(l:List Dc.DK):List Dc.Chr:=l.flatMap fun p=>if p.run.shows then Dc.FX p.run else[]
theorem Ut{l:List Dc.DK}{k:Nat}(hk:k<l.length):J3 (l.take (k+1))=J3 (l.take k)++(if(l[k]'hk).run.shows then Dc.FX (l[k]'hk).run else[]):=by
 unfold J3
 rw[AW,Aj hk,BU]
 simp
theorem Vx(l:List Dc.DK)(k:Nat):(J3 (l.take k)).length≤(J3 l).length:=by
 conv=>rhs;rw[←A9 k l]
 unfold J3
 rw[BU,Ai]
 omega
theorem UQ{r:Dc.Run}{j:Nat}(hj:j<r.len):(Dc.FX r).take (j+1)=(Dc.FX r).take j++[⟨r.op,(r.fr:Int)+(j:Int)⟩]:=by
 have h:(Dc.FX r)[j]? =some ⟨r.op,(r.fr:Int)+(j:Int)⟩:=by
  unfold Dc.FX
  rw[Ei,List.getElem?_range hj]
  rfl
 rw[AW,h]
 rfl
theorem Ry(r:Dc.Run):(Dc.FX r).length=r.len:=by unfold Dc.FX;simp
theorem Oj{w:Off.Bid}:∀{l:Dc.Row} {v:Off.Bid} {p:Dc.DK},p∈Dc.Em v l→p.run∈l
 |[],_,p,h=>by cases h
 |r::l,v,p,h=>by
  unfold Dc.Em at h
  rcases A7.1 h with rfl|h
  ·exact az
  ·exact Ed _ (Oj (w:=w) h)
theorem Ql{x:Dc.TX}{n:Nat}(hx:Dc.DT x n){a:Off.Bid}{p:Dc.DK}(h:p∈Dc.Dv x a):p.run.fr+p.run.len≤64:=by
 unfold Dc.Dv at h
 split at h
 ·cases h
 ·rename_i seg _
  have h1:=(List.mem_filter.1 h).1
  unfold Dc.EW at h1
  split at h1
  ·cases h1
  ·rename_i t ht
   exact((hx.row seg t ht).1 _ (Oj (w:=a) h1)).2
def LW(l:List Dc.Chr)(w:World)(e:Ending)(w':World):Prop:=
 ∃v,e= .returned v∧Aq 26 3 AE v l w'∧(∀x,v.ownBlock=some x→w.heap.size≤x)∧Aa No w w'
theorem NA{F:Nat→Prop}{b:Nat}{x:Dc.TX}{w:World}(h:Bg F b x w){n:Nat}(hx:Dc.DT x n)(hn:n≤15000)(a:Off.Bid):
  Calls Tryz.prog 32 #[.pointer (some ⟨b,0,none⟩),idV a] w (LW (Dc.Bl x a) w):=by
 have hrow0:∀seg t,x.texts seg=some t→t.row.length≤1000000:=fun seg t ht=>by have:=Dc.O0 hx seg t ht;omega
 have HS:=Hx (fun W (k:Aa No w W)=>Jr (h.no k) hrow0 a)
 have hll:=Lc hrow0 a
 have hrun:=fun p (hp:p∈Dc.Dv x a)=>Ql hx hp
 have htx:Dc.Bl x a=J3 (Dc.Dv x a):=rfl
 have hlen:(Dc.Bl x a).length≤1000000:=by
  rw[Dc.E3 hx,AM]
  have:=Dc.QP hx a
  omega
 obtain⟨R,N⟩:=a
 unfold Gf at HS
 generalize Dc.Bl x ⟨R,N⟩=T at htx hlen⊢
 generalize Dc.D3 x ⟨R,N⟩=ok at HS
 generalize Dc.Dv x ⟨R,N⟩=L at HS htx hll hrun
 have HLN:=Hx (fun k=>htx▸Vx L k:∀k,(J3 (L.take k)).length≤T.length)
 have HRUN:=Hx hrun
 have HPO:Hid (∀v w',Aq 26 3 AE v (J3 (L.take L.length)) w'→(∀x,v.ownBlock=some x→w.heap.size≤x)→Aa No w w'→LW T w (.returned v) w'):=Hx fun v w' h1 h2 k=>⟨v,rfl,by rw[AH,←htx]at h1;exact h1,h2,k⟩
 generalize LW T w=post at HPO⊢
 clear h hx htx hrow0 hrun
 go_enter Tryz.func32,Tryz.ntmps32
 go_upto_region 2 with(fail)
 have k0:Aa No w (w.alloc (.cells #[.int .i64 R,.int .i64 N] 24)):=(Aa.refl No w).alloc _
 have hA:=Nx w (.cells #[.int .i64 R,.int .i64 N] 24)
 generalize w.alloc (.cells #[.int .i64 R,.int .i64 N] 24)=w1 at k0 hA⊢
 obtain⟨A,eA⟩:∃A,A=w.heap.size:=⟨_,rfl⟩
 rw[←eA]at hA⊢
 clear eA
 have x0:=Cx hA 0
 have x1:=Cx hA 1
 have HS1:=Hx (HS.out _ k0)
 go_wp2_with(go_at_call 78;refine HS1.out.mono ?_;rintro e w2 ⟨v,rfl,hrow2,hown2,k2⟩;have HR2:=Hx hrow2;obtain⟨ao,cp,rfl⟩:∃ao cp,v= .slice ao L.length cp:=by(rcases hrow2.form with⟨rfl,rfl⟩|⟨g',cap,_,rfl,_⟩<;>exact⟨_,_,rfl⟩))
 clear hrow2 x0 x1
 have kw2:=k0.trans k2
 go_loopg [5,19] L.length (fun kx s5 s19 wr=>∃k:Nat,s19= .int .i64 k∧Aq 26 3 AE s5 (J3 (L.take k)) wr∧(∀x,s5.ownBlock=some x→w2.heap.size≤x)∧k≤L.length∧L.length-k≤kx∧Aa No w2 wr)
 case atStart=>exact⟨0,rfl,by simpa[J3]using Aq.nil,(fun x hx=>by cases hx),Ah _,Ac _,Aa.refl _ _⟩
 case round=>
  obtain⟨k,rfl,hout,hown,hk,hkx,kr⟩:=hrel
  by_cases hlt:k<L.length
  ·have hrow:=HR2.out.no kr
   obtain⟨g,cap,e1,hcap,_⟩:=hrow.at (by omega)
   injection e1 with e1 e2 e3
   subst e1 e3
   obtain⟨x0,x1,x2,x3,x4,x5,x6,x7,x8,x9,x10,x11,x12,x13,x14⟩:=hrow.pieceO hlt
   have htk:=Ut hlt
   have hfr:=HRUN.out _ (AQ hlt)
   obtain⟨⟨y,⟨yR,yN⟩⟩,hy⟩:∃y,y=L[k]'hlt:=⟨_,rfl⟩
   rw[←hy]at x0 x1 x2 x3 x10 x11 x12 x13 x14 htk hfr
   simp only at x0 x1 x2 x3 x10 x11 x12 x13 x14 htk hfr
   obtain⟨bo,hbo⟩:∃bo,bo=y.shows:=⟨_,rfl⟩
   have HOPN:Hid (∀W,Calls Tryz.prog 79 #[.agg #[.int .i64 y.op.R,.int .i64 y.op.N,.int .i64 y.fr,.int .i64 y.len,.int .i64 0,.int .i64 0,.int .i64 0,.int .i64 0,.int .i64 0,.int .i64 0,.bool y.gone,.bool y.mark,.string ⟨y.text.toArray⟩,.int .i64 yR,.int .i64 yN]] W fun e w'=>e= .returned (.bool bo)∧Aa No W w'):=Hx (hbo▸fun W=>L9 ⟨y,⟨yR,yN⟩⟩ W)
   have HCHR:Hid (∀(j:Nat) W,j<y.len→Calls Tryz.prog 81 #[.agg #[.int .i64 y.op.R,.int .i64 y.op.N,.int .i64 y.fr,.int .i64 y.len,.int .i64 0,.int .i64 0,.int .i64 0,.int .i64 0,.int .i64 0,.int .i64 0,.bool y.gone,.bool y.mark,.string ⟨y.text.toArray⟩,.int .i64 yR,.int .i64 yN],.int .i64 j] W fun e w'=>e= .returned (CE ⟨y.op,(y.fr:Int)+(j:Int)⟩)∧Aa No W w'):=Hx fun j W hj=>VJ ⟨y,⟨yR,yN⟩⟩ j W (by rw[IntKind.wrap_i64];simp only;omega)
   rw[←hbo]at htk
   have kI0:(0:Int)≤(k:Int):=by omega
   have kI1:(k:Int)<(L.length:Int):=by omega
   have hT1n:=HLN.out (k+1)
   obtain⟨T0,hT0⟩:∃T0,T0=J3 (L.take k):=⟨_,rfl⟩
   rw[←hT0]at htk hout
   have HTK:=Hx htk
   clear hrow e2 hy hbo hT0 htk
   go_upto_region 6 with(fail)
   have k6:Aa No wr (wr.alloc (.cells #[.int .i64 y.op.R,.int .i64 y.op.N,.int .i64 y.fr,.int .i64 y.len,.int .i64 0,.int .i64 0,.int .i64 0,.int .i64 0,.int .i64 0,.int .i64 0,.bool y.gone,.bool y.mark,.string ⟨y.text.toArray⟩,.int .i64 yR,.int .i64 yN] 129)):=(Aa.refl No wr).alloc _
   have hPc:=Nx wr (.cells #[.int .i64 y.op.R,.int .i64 y.op.N,.int .i64 y.fr,.int .i64 y.len,.int .i64 0,.int .i64 0,.int .i64 0,.int .i64 0,.int .i64 0,.int .i64 0,.bool y.gone,.bool y.mark,.string ⟨y.text.toArray⟩,.int .i64 yR,.int .i64 yN] 129)
   clear x0 x1 x2 x3 x4 x5 x6 x7 x8 x9 x10 x11 x12 x13 x14
   generalize wr.alloc (.cells #[.int .i64 y.op.R,.int .i64 y.op.N,.int .i64 y.fr,.int .i64 y.len,.int .i64 0,.int .i64 0,.int .i64 0,.int .i64 0,.int .i64 0,.int .i64 0,.bool y.gone,.bool y.mark,.string ⟨y.text.toArray⟩,.int .i64 yR,.int .i64 yN] 129)=w6 at k6 hPc⊢
   obtain⟨P,eP⟩:∃P,P=wr.heap.size:=⟨_,rfl⟩
   rw[←eP]at hPc⊢
   clear eP
   focus
    have p0:=Cx hPc 0
    have p1:=Cx hPc 1
    have p2:=Cx hPc 2
    have p3:=Cx hPc 3
    have p4:=Cx hPc 4
    have p5:=Cx hPc 5
    have p6:=Cx hPc 6
    have p7:=Cx hPc 7
    have p8:=Cx hPc 8
    have p9:=Cx hPc 9
    have p10:=Cx hPc 10
    have p11:=Cx hPc 11
    have p12:=Cx hPc 12
    have p13:=Cx hPc 13
    have p14:=Cx hPc 14
    cases bo
    ·have hl1:J3 (L.take (k+1))=T0:=by rw[HTK.out];simp
     have HL1:=Hx hl1
     clear hl1
     go_wp2_with(go_at_call 79;refine(HOPN.out _).mono ?_;rintro e w7 ⟨rfl,k7⟩)
     go_roundg (L.length-(k+1))
     case measure=>omega
     case rel=>exact⟨k+1,by go_num,by rw[HL1.out];exact hout.no (k6.trans k7),hown,hlt,Ac _,kr.trans (k6.trans k7)⟩
    ·have hl1:J3 (L.take (k+1))=T0++Dc.FX y:=by rw[HTK.out];simp
     have hl2:T0.length+y.len≤1000000:=by
      rw[hl1,Ai,Ry]at hT1n
      omega
     have HL1:=Hx hl1
     clear hl1 hT1n
     go_upto_region 7 with(go_at_call 79;refine(HOPN.out _).mono ?_;rintro e w7 ⟨rfl,k7⟩)
     have hP7:=k7.heap hPc id
     have k67:=k6.trans k7
     have kr7:=kr.trans k67
     have hout7:=hout.no k67
     have q3:=Cx hP7 3
     clear p0 p1 p2 p3 p4 p5 p6 p7 p8 p9 p10 p11 p12 p13 p14 hPc hout k6 k7 kr k67 HOPN HTK
     go_wp2_with fail
     go_loopg [5,29] y.len (fun kx s5 s29 wi=>∃j:Nat,s29= .int .i64 j∧Aq 26 3 AE s5 (T0++(Dc.FX y).take j) wi∧(∀x,s5.ownBlock=some x→w2.heap.size≤x)∧j≤y.len∧y.len-j≤kx∧Aa No w2 wi∧wi.heap[P]? =some (.cells #[.int .i64 y.op.R,.int .i64 y.op.N,.int .i64 y.fr,.int .i64 y.len,.int .i64 0,.int .i64 0,.int .i64 0,.int .i64 0,.int .i64 0,.int .i64 0,.bool y.gone,.bool y.mark,.string ⟨y.text.toArray⟩,.int .i64 yR,.int .i64 yN] 129 (0,0)))
     case atStart=>exact⟨0,rfl,by simpa using hout7,hown,Ah _,Ac _,kr7,hP7⟩
     case round=>
      obtain⟨j,rfl,hout,hown,hj,hjx,kj,hPj⟩:=hrel
      by_cases hjl:j<y.len
      ·obtain⟨vao,vn,vc,rfl⟩:=hout.slice
       have kJ0:(0:Int)≤(j:Int):=by omega
       have kJ1:(j:Int)<(y.len:Int):=by omega
       have HC:=Hx (fun W=>HCHR.out j W hjl)
       have HCT:=Hx (UQ hjl)
       have HAP:=Hx (fun W (k:Aa No wr W) ty=>Xa.append (hout.no (k.alloc (.cells #[.int .i64 y.op.R,.int .i64 y.op.N,.int .i64 ((y.fr:Int)+(j:Int))] 26))) ⟨W.heap.size,0,none⟩ 1 1 [⟨y.op,(y.fr:Int)+(j:Int)⟩] rfl (Ey (y:=(⟨y.op,(y.fr:Int)+(j:Int)⟩:Dc.Chr)) (Nx W (.cells #[.int .i64 y.op.R,.int .i64 y.op.N,.int .i64 ((y.fr:Int)+(j:Int))] 26))) (by rw[Ai,Ad];omega) ty)
       have hPo:=Bh hout hPj (by decide)
       have p0:=Cx hPj 0
       have p1:=Cx hPj 1
       have p2:=Cx hPj 2
       have p3:=Cx hPj 3
       have p4:=Cx hPj 4
       have p5:=Cx hPj 5
       have p6:=Cx hPj 6
       have p7:=Cx hPj 7
       have p8:=Cx hPj 8
       have p9:=Cx hPj 9
       have p10:=Cx hPj 10
       have p11:=Cx hPj 11
       have p12:=Cx hPj 12
       have p13:=Cx hPj 13
       have p14:=Cx hPj 14
       go_wp2_with(first
        |(go_at_call 81;(with_reducible refine(HC.out _).mono ?_);rintro e w8 ⟨rfl,k8⟩)
        |(at_builtin;obtain⟨v',w9,hr9,ho9,k9,hov9⟩:=HAP.out _ k8 _;refine wpList_append_run rfl _ _ 65 65 rfl _ _ rfl rfl hr9 ?_))
       have k89:=(k8.alloc (.cells #[.int .i64 y.op.R,.int .i64 y.op.N,.int .i64 ((y.fr:Int)+(j:Int))] 26)).any.trans k9
       go_roundg (y.len-(j+1))
       case measure=>omega
       case rel=>
        refine⟨j+1,by go_num,by rw[HCT.out,←AI];exact ho9,fun x hx=>?_,hjl,Ac _,kj.step k89 fun g hg hl=>by have:=hown g hg;omega,k89.heap hPj fun e=>hPo e⟩
        rcases hov9 with e7|e7
        ·exact hown x (e7▸hx)
        ·rw[e7]at hx
         have e9:=Ap hx
         have h8:=k8.size
         have hj8:=kj.size
         rw[World.size_alloc]at e9
         omega
      ·obtain rfl:j=y.len:=by omega
       rw[CB (by rw[Ry];exact Ac _)]at hout
       go_wp2_with fail
       go_roundg (L.length-(k+1))
       case measure=>omega
       case rel=>exact⟨k+1,by go_num,by rw[HL1.out];exact hout,hown,hlt,Ac _,kj⟩
  ·obtain rfl:k=L.length:=by omega
   have HQ:=Hx (HPO.out _ wr hout (fun x hx=>by have:=hown x hx;have:=kw2.size;omega) (kw2.trans kr))
   go_wp2_with fail
   exact HQ.out
end
section
open Go.RowKit
attribute [local go_sem ↓] Go.wp_at_zero Go.wp_at_succ
attribute [local go_sem] run_makeMap
theorem EI.opsL6{v:Value}{l:List Dc.Op}{w:World}(h:EI v l w):K7 v l w:=by
 obtain⟨ps,h1,h2,h3⟩:=h
 refine⟨ps,h1,h2,fun p hp=>?_⟩
 obtain⟨⟨_,ao,c,e,_⟩,_⟩:=h3 p hp
 have e':Value.slice p.2.a p.2.n p.2.c= .slice ao p.1.cuts.length c:=e
 injection e'
/-! maps of characters -/
@[reducible] def LD(b:UInt8):Value:= .int .u8 b.toNat
theorem Vu{bm:Nat}{f:Dc.Chr→Option UInt8}{w:World}(h:A8 CE LD bm f w)(R N i:Int):
  (Instr.lookup 60 (.map (some bm)) (.agg #[.int .i64 R,.int .i64 N,.int .i64 i]) true).run Tryz.prog w= .ok (.tuple #[.int .u8 ((f ⟨⟨R,N⟩,i⟩).getD 0).toNat,.bool (f ⟨⟨R,N⟩,i⟩).isSome]) w:=by
 rw[h.look (z:=LD 0) Eb Tryz.underlying60 Rx ⟨⟨R,N⟩,i⟩ true]
 cases f ⟨⟨R,N⟩,i⟩<;>rfl
theorem QO{bm:Nat}{f:Dc.Chr→Option Int}{w:World}(h:A8 CE GR bm f w)(R N i:Int):
  (Instr.lookup 61 (.map (some bm)) (.agg #[.int .i64 R,.int .i64 N,.int .i64 i]) false).run Tryz.prog w= .ok (.int .i64 ((f ⟨⟨R,N⟩,i⟩).getD 0)) w:=by
 rw[h.look (z:=GR 0) Eb Tryz.underlying61 Rx ⟨⟨R,N⟩,i⟩ false]
 cases f ⟨⟨R,N⟩,i⟩<;>rfl
/-- how long a map is -/
theorem A8.len{α β:Type}[DecidableEq α]{P:Program}{k:TypeId}{d:TypeDesc}{kv:α→Value}{ev:β→Value}{f:α→Option β}{b:Nat}{w:World}(K:FP P k d kv)(h:A8 kv ev b f w){t e:TypeId}(ht:P.underlying t=some (.map k e)):
  ∃n:Nat,(∀ty,(Builtin.len_ #[t] ty #[.map (some b)]).run P w= .ok (.int .i64 n) w)∧∀G:List α,G.Nodup→(∀c∈G,f c≠none)→G.length≤n:=by
 obtain⟨es,clock,hb,F⟩:=h
 refine⟨es.size,fun ty=>by simp[Builtin.len_,run_underlying ht,MapKept.run_getObj_map hb,goInt,Result.andThen],fun G hn hG=>?_⟩
 haveI:DecidableEq Value:=fun a b=>Classical.propDecidable (a=b)
 have h1:(G.map kv).Nodup:=List.pairwise_map.2 (List.Pairwise.imp (fun hab e=>hab (K.inj e)) hn)
 have h2:=MI h1 (m:=es.toList.map (·.key)) fun v hv=>by
  obtain⟨c,hc,rfl⟩:=A5.1 hv
  obtain⟨u,hu⟩:=BQ.1 (hG c hc)
  obtain⟨e,he,h3,_⟩:=F.full c u hu
  exact A5.2 ⟨e,he,h3⟩
 simpa using h2
theorem OV{P:Program}{w:World}{ops:Array Oper}{rest:List Oper}{o:Oper}{a:Act}{Q:Exit→Act→World→Prop}(hg:o.guard=none)(m:Operand)(t:TypeId)(hop:o.op=Op.call {callee:=Callee.builtin Builtin.len,args:= #[m],argTypes:= #[t]}){b n:Nat}(hm:a.eval m= .map (some b))
  (hl:∀ty,(Builtin.len_ #[t] ty #[.map (some b)]).run P w= .ok (.int .i64 n) w)(hK:wpList P ops Q rest (a.put o.dst (.int .i64 n)) w):wpList P ops Q (o::rest) a w:=by
 refine wpList_plain hg fun K' hK'=>?_
 unfold Oper.wp
 simp[execOp,hop,resolve,invoke,builtin,hm,hl o.type,Result.andThen]
 exact hK' _ _ hK
/-! the document's texts -/
def Jm(x:Dc.TX)(w:World)(e:Ending)(w':World):Prop:=∃F bx,e= .returned (.pointer (some ⟨bx,0,none⟩))∧Bg F bx x w'∧Aa No w w'
theorem Pv{F:Nat→Prop}{b:Nat}{d:Dc.Doc}{w:World}(h:C6 F b d w):
  Calls Tryz.prog 28 #[.pointer (some ⟨b,0,none⟩)] w (Jm d.tx w):=by
 obtain⟨s,⟨lab,vo,bk,bx,bt,bc,bw,h⟩,hT,h1,h2,h3,h4,h5⟩:=h
 have hb:=h.cells
 have HT:Hid (∀W,Aa No w W→Jm d.tx w (.returned (.pointer (some ⟨bx,0,none⟩))) W):=Hx fun W k=>⟨_,bx,rfl,h3▸h.tx.keeps k fun _ _ e=>e,k⟩
 generalize Jm d.tx w=post at HT⊢
 have z:=Cx hb 2
 clear h hT h1 h2 h3 h4 h5
 go_enter Tryz.func28,Tryz.ntmps28
 go_wp2_with fail
 exact HT.out _ (Aa.refl _ _)
theorem Re:∀(l:List Dc.Op) (d:Dc.Doc),Dc.BS d→(d.ops.map (·.id)).Nodup→((l.foldl Dc.Doc.act d).ops.map (·.id)).Nodup
 |[],_,_,hn=>hn
 |o::l,d,h,hn=>Re l (d.act o) (h.act o) (Dc.WA h hn o)
theorem UH(l:List Dc.Op):((En l).ops.map (·.id)).Nodup:=Re l _ Dc.BS.new aM
/-- what lies on the heap while the ops are done -/
structure GU(B b W G:Nat)(D:Dc.Doc)(bl:List Off.Bid)(fw:Dc.Chr→Option UInt8)(fg:Dc.Chr→Option Int)(v:Value)(F:Nat→Prop)(w:World):Prop where
 row:Aq 24 2 Bf v bl w
 own:∀x,v.ownBlock=some x→B≤x∧¬F x
 want:A8 CE LD W fw w
 gone:A8 CE GR G fg w
 doc:C6 F b D w
 foot:∀g,F g→B≤g∧g<w.heap.size
 nW:¬F W
 nG:¬F G
 ne:W≠G
 lowB:B≤W
section
variable {B b W G:Nat} {D D':Dc.Doc} {bl:List Off.Bid} {fw:Dc.Chr→Option UInt8} {fg:Dc.Chr→Option Int} {v:Value} {F:Nat→Prop} {w w':World}
theorem GU.no(h:GU B b W G D bl fw fg v F w)(k:Aa No w w'):GU B b W G D bl fw fg v F w':=
 ⟨h.row.no k,h.own,h.want.keeps k id,h.gone.keeps k id,h.doc.no k,fun g hg=>⟨(h.foot g hg).1,AK (h.foot g hg).2 k.size⟩,h.nW,h.nG,h.ne,h.lowB⟩
theorem GU.setW(h:GU B b W G D bl fw fg v F w)(k:Aa (At1 W) w w'){fw':Dc.Chr→Option UInt8}(hm:A8 CE LD W fw' w'):GU B b W G D bl fw' fg v F w':=
 ⟨h.row.keeps k fun _ hg e=>BH h.row h.want (hg.trans (congrArg some e)),h.own,hm,h.gone.keeps k fun e=>h.ne e.symm,h.doc.keeps k fun _ hg e=>h.nW (e▸hg),fun g hg=>⟨(h.foot g hg).1,AK (h.foot g hg).2 k.size⟩,h.nW,h.nG,h.ne,h.lowB⟩
theorem GU.setG(h:GU B b W G D bl fw fg v F w)(k:Aa (At1 G) w w'){fg':Dc.Chr→Option Int}(hm:A8 CE GR G fg' w'):GU B b W G D bl fw fg' v F w':=
 ⟨h.row.keeps k fun _ hg e=>BH h.row h.gone (hg.trans (congrArg some e)),h.own,h.want.keeps k h.ne,hm,h.doc.keeps k fun _ hg e=>h.nG (e▸hg),fun g hg=>⟨(h.foot g hg).1,AK (h.foot g hg).2 k.size⟩,h.nW,h.nG,h.ne,h.lowB⟩
theorem GU.done(h:GU B b W G D bl fw fg v F w)(k:Aa F w w')(hd:C6 (Bv F w) b D' w'):GU B b W G D' bl fw fg v (fun g=>Bv F w g∧g<w'.heap.size) w':=
 ⟨h.row.keeps k fun _ hg e=>(h.own _ hg).2 e,fun x hx=>⟨(h.own x hx).1,fun e=>(h.own x hx).2 (e.1.lt (h.row.own_lt hx))⟩,h.want.keeps k h.nW,h.gone.keeps k h.nG,hd.mono fun _ hg hl=>⟨hg,hl⟩,
  fun g hg=>⟨hg.1.elim (fun e=>(h.foot g e).1) fun e=>AG (Nat.le_of_lt (Nat.lt_of_le_of_lt (h.lowB) h.want.lt)) e,hg.2⟩,fun e=>h.nW (e.1.lt h.want.lt),fun e=>h.nG (e.1.lt h.gone.lt),h.ne,h.lowB⟩
theorem GU.push(h:GU B b W G D bl fw fg v F w)(hB:B≤w.heap.size){v':Value}{bl':List Off.Bid}(k:Aa (Gp v) w w')(hr:Aq 24 2 Bf v' bl' w')(ho:∀x,v'.ownBlock=some x→v.ownBlock=some x∨w.heap.size≤x):GU B b W G D bl' fw fg v' F w':=
 ⟨hr,fun x hx=>(ho x hx).elim (h.own x) fun e=>⟨AG hB e,fun hf=>by have:=(h.foot x hf).2;omega⟩,h.want.keeps k fun e=>BH h.row h.want e,h.gone.keeps k fun e=>BH h.row h.gone e,h.doc.keeps k fun _ hg e=>(h.own _ e).2 hg,
  fun g hg=>⟨(h.foot g hg).1,AK (h.foot g hg).2 k.size⟩,h.nW,h.nG,h.ne,h.lowB⟩
end
theorem QR(v:Value)(l:List Dc.Op)(w:World)(hE:Env w)(hv:EI v l w):
  Calls Tryz.prog 6 #[v] w (BM true w):=by
 have hpost:∀w',Aa (BN w.heap.size) w w'→BM true w (.returned (.bool true)) w':=fun w' k=>⟨rfl,k.mono fun g hg hl=>by unfold BN at hg;omega⟩
 obtain⟨base,hbase⟩:∃base,base=w.heap.size:=⟨_,rfl⟩
 rw[←hbase]at hpost
 have h4:4≤base:=hbase▸hE.size
 have HPOST:=Hx hpost
 generalize BM true w=post at HPOST⊢
 have HEV:Hid (∀W,Aa (BN base) w W→Env W):=Hx fun W k=>hE.keeps k fun g hg=>by unfold BN at hg;omega
 have HBS:Hid (∀W,Aa (BN base) w W→base≤W.heap.size):=Hx fun W k=>hbase▸k.size
 have HAG:Hid (∀W,Aa (BN base) w W→EI v l W):=Hx fun W k=>hv.keeps k fun g hg=>by unfold BN;omega
 have hOWL:∀(k:Nat) (hk:k<l.length) sa sc,BI 4 AD (.slice sa (l[k]'hk).cuts.length sc) (l[k]'hk).cuts w→(l[k]'hk).cuts≠ []→∀g,(Value.slice sa (l[k]'hk).cuts.length sc).ownBlock=some g→g<base:=fun k hk sa sc hli hne g hg=>by
  obtain⟨_,ao,c,e,_,_,h3⟩:=hli
  obtain⟨g',o',rfl,h5,_⟩:=h3 hne
  injection e with e1 e2 e3
  subst e1
  have:=Ap hg
  simp only at this
  omega
 obtain⟨ao,cp,rfl,hml⟩:=hv.form
 have hll:l.length≤9223372036854775807:=hml
 have HAL:=Hx (UY w hE)
 have HV:=Hx hv
 have H4:=Hx h4
 have HGR:=Hx (fun W (k:Aa No w W)=>UC _ _ W (HAG.out W k.any).opsL6)
 clear hE hv hpost h4 hml
 cases hg:Hz l with
 |true=>
  rw[hg]at HGR
  go_enter Tryz.func6,Tryz.ntmps6
  go_wp2_with(first
   |(go_at_call 15;(with_reducible refine HAL.out.mono ?_);rintro e w2 ⟨rfl,k2⟩;have HG2:=Hx (HGR.out w2 k2))
   |(go_at_call 16;(with_reducible refine HG2.out.mono ?_);rintro e w3 ⟨rfl,k3⟩))
  exact HPOST.out _ (k2.trans k3).any
 |false=>
  rw[hg]at HGR
  have hgf:=Q8 hg
  have hl40:l.length≤40:=hgf.1
  have HSM:Hid (∀x∈l,x.text.length≤200∧x.cuts.length≤40):=Hx hgf.2
  clear hgf hg
  go_enter Tryz.func6,Tryz.ntmps6
  go_upto_region 6 with(first
   |(go_at_call 15;(with_reducible refine HAL.out.mono ?_);rintro e w2 ⟨rfl,k2⟩;have HG2:=Hx (HGR.out w2 k2))
   |(go_at_call 16;(with_reducible refine HG2.out.mono ?_);rintro e w3 ⟨rfl,k3⟩;have HNW:=Hx (MS w3))
   |(go_at_call 18;(with_reducible refine HNW.out.mono ?_);rintro e w4 ⟨b,rfl,hd4,k4⟩))
  have k03:=k2.trans k3
  obtain⟨B,hB⟩:∃B,B=w3.heap.size:=⟨_,rfl⟩
  rw[←hB]at hd4
  have hBw:base≤B:=by have:=HBS.out w3 k03.any;omega
  have k04:Aa (BN base) w w4:=k03.any.no k4
  have HLB:Hid (∀W,Aa (BN B) w4 W→Aa (BN base) w W):=Hx fun W k=>k04.step k fun g hg _=>by unfold BN at hg⊢;omega
  have HBZ:Hid (∀W,Aa (BN B) w4 W→B≤W.heap.size):=Hx fun W k=>by have:=k4.size;have:=k.size;omega
  have HDO:Hid (∀(k:Nat) (hk:k<l.length) sa sc F W,(∀g,F g→B≤g∧g<W.heap.size)→Aa (BN B) w4 W→C6 F b (En (l.take k)) W→BI 4 AD (.slice sa (l[k]'hk).cuts.length sc) (l[k]'hk).cuts w→
    Calls Tryz.prog 19 #[.pointer (some ⟨b,0,none⟩),opV (l[k]'hk) (.slice sa (l[k]'hk).cuts.length sc)] W (JJ F b ((En (l.take k)).err (l[k]'hk)) ((En (l.take k)).act (l[k]'hk)) W)):=Hx fun k hk sa sc F W hF kk hd hli=>by
   have hx:=HSM.out _ (AQ hk)
   have hlo:=hOWL k hk sa sc hli
   have hBB:=HBZ.out W kk
   refine MV (fun g hg=>by have:=hF g hg;have:=H4.out;omega) hd (Ni _) ?_ (HEV.out W (HLB.out W kk)) _ _ (hli.keepsE (HLB.out W kk) fun hne g hg e=>by have:=hlo hne g hg;unfold BN at e;omega) (fun hne g hg=>by have h1:=hlo hne g hg;exact⟨fun e=>by have:=hF g e;omega,by omega⟩) (by omega) (by omega)
   have h1:=KX (l.take k)
   rw[Ad]at h1
   omega
  clear hOWL
  go_upto_region 9 with(fail)
  have mw:A8 CE LD w4.heap.size (fun _=>none) (((w4.alloc (.map #[] 0)).alloc (.map #[] 0)).alloc (.cells #[] 24)):=((A8.new w4).alloc _).alloc _
  have mg:A8 CE GR (w4.heap.size+1) (fun _=>none) (((w4.alloc (.map #[] 0)).alloc (.map #[] 0)).alloc (.cells #[] 24)):=by
   have h:=(A8.new (kv:=CE) (ev:=GR) (w4.alloc (.map #[] 0))).alloc (.cells #[] 24)
   rw[World.size_alloc]at h
   exact h
  have hr:=Nx ((w4.alloc (.map #[] 0)).alloc (.map #[] 0)) (.cells #[] 24)
  rw[World.size_alloc,World.size_alloc]at hr
  have k7:Aa No w4 (((w4.alloc (.map #[] 0)).alloc (.map #[] 0)).alloc (.cells #[] 24)):=(((Aa.refl No w4).alloc _).alloc _).alloc _
  have hs7:(((w4.alloc (.map #[] 0)).alloc (.map #[] 0)).alloc (.cells #[] 24)).heap.size=w4.heap.size+3:=by rw[World.size_alloc,World.size_alloc,World.size_alloc]
  have hB4:=HBZ.out w4 (Aa.refl _ _)
  have st7:GU B b w4.heap.size (w4.heap.size+1) Dc.Doc.new [] (fun _=>none) (fun _=>none) (.slice (some ⟨w4.heap.size+1+1,0,none⟩) 0 0) (fun g=>B≤g∧g<w4.heap.size) (((w4.alloc (.map #[] 0)).alloc (.map #[] 0)).alloc (.cells #[] 24)):=
   ⟨⟨rfl,.inr ⟨_,0,#[],rfl,Ah _,hr,Ac _,Ah _,rfl,rfl⟩⟩,fun x hx=>by have:=Ap hx;simp only at this;exact⟨by omega,fun e=>by omega⟩,mw,mg,(hd4.mono fun g hg hl=>⟨hg,hl⟩).no k7,fun g hg=>⟨hg.1,by omega⟩,fun e=>by omega,fun e=>by omega,by omega,hB4⟩
  clear mw mg hr hs7 hd4
  generalize ((w4.alloc (.map #[] 0)).alloc (.map #[] 0)).alloc (.cells #[] 24)=w7 at k7 st7⊢
  obtain⟨W,hW⟩:∃W,W=w4.heap.size:=⟨_,rfl⟩
  obtain⟨G,hG⟩:∃G,G=W+1:=⟨_,rfl⟩
  have hBG:B≤G:=by omega
  rw[←hW,←hG]at st7
  rw[←hW,←hG]
  have k47:Aa (BN B) w4 w7:=k7.any
  clear hW hG k7
  go_wp2_with fail
  go_loopg [6,7] l.length (fun kx s6 s7 wr=>∃(k:Nat) (F:Nat→Prop),s7= .int .i64 k∧GU B b W G (En (l.take k)) (Dc.ER (En (l.take k)).ops) (Dc.IP (En (l.take k)).ops) (Dc.J7 (En (l.take k)).ops) s6 F wr∧k≤l.length∧l.length-k≤kx∧Aa (BN B) w4 wr)
  case atStart=>exact⟨0,_,rfl,st7,Ah _,Ac _,k47⟩
  case round=>
   obtain⟨k,F,rfl,st,hk,hkx,kr⟩:=hrel
   by_cases hlt:k<l.length
   ·obtain⟨g,of,c,sa,sc,e1,hgl,hrg,hli⟩:=HV.out.at hlt
    injection e1 with e1 e2 e3
    subst e1 e3
    have kwr:=HLB.out wr kr
    have hrg':wr.rangeAt g (of+k*20) (As (l[k]'hlt) (.slice sa (l[k]'hlt).cuts.length sc)).toList:=fun j v hj=>kwr.cellOf (hrg j v hj) fun e=>by unfold BN at e;omega
    have htk:=Tu hlt
    have HDK:=Hx (fun W kk hF hd=>HDO.out k hlt sa sc F W hF kk hd hli)
    have hokc:(En (l.take k)).err (l[k]'hlt)=0→∀c∈(l[k]'hlt).cuts,0≤c.fr∧c.fr≤c.to∧c.to≤64:=fun e c hc=>Dc.WV (Dc.HU e).1 hc
    have hsm:=HSM.out _ (AQ hlt)
    have hopk:(En (l.take k)).ops.length≤40:=by
     have h1:=KX (l.take k)
     rw[Ad]at h1
     omega
    obtain⟨y,hy⟩:∃y,y=l[k]'hlt:=⟨_,rfl⟩
    obtain⟨D,hD⟩:∃D,D=En (l.take k):=⟨_,rfl⟩
    obtain⟨D1,hD1⟩:∃D1,D1=En (l.take (k+1)):=⟨_,rfl⟩
    rw[←hy]at hrg' HDK hokc htk hli hsm
    obtain⟨hsm,hsc⟩:=hsm
    rw[←hD]at HDK hokc htk st hopk
    rw[←hD1]at htk
    have HD1:=Hx hD1
    have HTK:=Hx htk
    have HOKC:=Hx hokc
    have HLI:Hid (∀W,Aa (BN B) w4 W→BI 4 AD (.slice sa y.cuts.length sc) y.cuts W):=Hx fun W kk=>hli.keepsE (HLB.out W kk) fun hne g hg e=>by
     obtain⟨_,ao,c,e1,_,_,h3⟩:=hli
     obtain⟨g',o',rfl,h5,_⟩:=h3 hne
     injection e1 with e1 e2 e3
     subst e1
     have:=Ap hg
     unfold BN at e
     simp only at this
     omega
    have kI0:(0:Int)≤(k:Int):=by omega
    have kI1:(k:Int)<(l.length:Int):=by omega
    clear e2 hrg hli hy hD hD1 htk hokc
    go_upto_region 13 with(first
     |(refine wpList_load_mid rfl 29 _ rfl g (of+k*20) rfl (As y (.slice sa y.cuts.length sc)).toList _ hrg' Tryz.underlying29 rfl Rx ?_)
     |(refine Bd rfl 29 _ _ rfl wr.heap.size _ _ 29 rfl rfl (Nx wr (.cells Be 29)) (by rfl) Rx (by rfl) ?_;intro w6 hO k6 hz6))
    have hO6:w6.heap[wr.heap.size]? =some (.cells (As y (.slice sa y.cuts.length sc)) 29 (0,0)):=hO
    have k06:Aa No wr w6:=((Aa.refl No wr).alloc (.cells Be 29)).step k6 fun g hg hl=>by unfold At1 at hg;omega
    obtain⟨O,eO⟩:∃O,O=wr.heap.size:=⟨_,rfl⟩
    have hFO:¬F O:=fun e=>by have:=(st.foot O e).2;omega
    have hBO:B≤O:=by have:=HBZ.out wr kr;omega
    rw[←eO]at hO6⊢
    have st6:=st.no k06
    have kr6:=kr.no k06
    have HD6:=Hx (HDK.out w6 kr6 st6.foot st6.doc)
    clear hO k6 hz6 eO hrg' st k06 kr HDK
    by_cases he:D.err y=0
    rotate_left
    ·have hne:(D.err y==0)=false:=by simp[he]
     have hs1:=Dc.RI he
     have HS1:=Hx hs1
     clear he hs1
     go_wp2_with(first
      |(refine An rfl 29 _ rfl O _ 29 _ rfl hO6 Tryz.underlying29 rfl Rx ?_)
      |(go_at_call 19;(with_reducible refine HD6.out.mono ?_);rintro e w8 ⟨rfl,k8,hd8⟩))
     rw[HS1.out]at hd8
     go_roundg (l.length-(k+1))
     case measure=>omega
     case rel=>exact⟨k+1,_,by go_num,by rw[←HD1.out,HTK.out,HS1.out];exact st6.done k8 hd8,hlt,Ac _,kr6.step k8 fun g hg _=>(st6.foot g hg).1⟩
    ·have hop:=Dc.VR he
     rw[←HTK.out]at hop
     have hoc:=HOKC.out he
     rw[he,←HTK.out]at HD6
     have HOP:=Hx hop
     have HOC:=Hx hoc
     clear he hop hoc HOKC
     go_upto_region 14 with(first
      |(refine An rfl 29 _ rfl O _ 29 _ rfl hO6 Tryz.underlying29 rfl Rx ?_)
      |(go_at_call 19;(with_reducible refine HD6.out.mono ?_);rintro e w8 ⟨rfl,k8,hd8⟩))
     have st8:=st6.done k8 hd8
     have kr8:Aa (BN B) w4 w8:=kr6.step k8 fun g hg _=>(st6.foot g hg).1
     have hO8:=k8.heap hO6 hFO
     have hsnw:=Dc.RY D.ops y
     have hsng:=Dc.Tj D.ops y
     have hsnb:=Dc.PY D.ops y
     have hbl:=AG (Dc.LF D.ops) hopk
     rw[←HOP.out]at hsnw hsng hsnb
     have HNW:=Hx hsnw
     have HNG:=Hx hsng
     have HNB:=Hx hsnb
     generalize Dc.IP D.ops=fw at st8 HNW
     generalize Dc.J7 D.ops=fg at st8 HNG
     generalize Dc.ER D.ops=bl at st8 HNB hbl
     obtain⟨F8,hF8⟩:∃F8:Nat→Prop,F8=fun g=>Bv F w6 g∧g<w8.heap.size:=⟨_,rfl⟩
     rw[←hF8]at st8
     clear hsnw hsng hsnb hF8 st6 kr6 k8 hd8 hO6 hFO HD6
     go_wp2_with fail
     go_loopg [9] y.text.length (fun kx s9 wi=>∃n:Nat,s9= .int .i64 n∧GU B b W G D1 bl (Dc.Hu fw y n) fg u6 F8 wi∧n≤y.text.length∧y.text.length-n≤kx∧Aa (At1 W) w8 wi)
     case atStart=>exact⟨0,rfl,by rw[Dc.RV];exact st8,Ah _,Ac _,Aa.refl _ _⟩
     case round=>
      obtain⟨n,rfl,sn,hn,hnx,kn⟩:=hrel
      have hOW:O≠W:=Ne.symm (AA st8.want hO8)
      have hOn:=kn.heap hO8 hOW
      have p1:=Cx hOn 1
      have p2:=Cx hOn 2
      have p17:=Cx hOn 17
      by_cases hnl:n<y.text.length
      ·have nI0:(0:Int)≤(n:Int):=by omega
       have nI1:(n:Int)<(y.text.length:Int):=by omega
       go_upto_region 17 with(fail)
       go_still_tail 9,Rx
       change wpList _ _ _ _ _ wr.drew
       refine EJ rfl Eb Tryz.underlying60 (sn.want.keeps (Aa.refl No wr).drew id) _ _ _ rfl rfl ⟨y.id,(n:Int)⟩ rfl (y.text[n]'hnl) rfl ?_
       intro w9 m9 k9 hz9
       clear hz9
       go_wp2_with fail
       go_roundg (y.text.length-(n+1))
       case measure=>omega
       case rel=>exact⟨n+1,by go_num,(sn.no (Aa.refl No wr).drew).setW k9 (by rw[Dc.RX fw hnl];exact m9),hnl,Ac _,(kn.no (Aa.refl No wr).drew).trans k9⟩
      ·obtain rfl:n=y.text.length:=by omega
       have hnw:Dc.IP D1.ops=Dc.Hu fw y y.text.length:=HNW.out
       obtain⟨w9,hw9⟩:∃x,x=wr:=⟨_,rfl⟩
       subst hw9
       have kr9:Aa (BN B) w4 w9:=kr8.step kn fun g hg _=>by unfold At1 at hg;rw[hg];exact st8.lowB
       generalize Dc.Hu fw y y.text.length=fw1 at hnw sn
       have HNW1:=Hx hnw
       clear hnw HNW st8 kr8 kn hnl hn hnx p1 p2 hO8
       have p18:=Cx hOn 18
       go_upto_region 18 with(fail)
       clear p17
       go_wp2_with fail
       clear p18
       go_loopg [10] y.cuts.length (fun kx s10 wi=>∃c:Nat,s10= .int .i64 c∧GU B b W G D1 bl fw1 (Dc.GK fg (y.cuts.take c)) u6 F8 wi∧c≤y.cuts.length∧y.cuts.length-c≤kx∧Aa (At1 G) w9 wi)
       case atStart=>exact⟨0,rfl,sn,Ah _,Ac _,Aa.refl _ _⟩
       case round=>
        obtain⟨c,rfl,sc',hc,hcx,kc⟩:=hrel
        have hOG:O≠G:=Ne.symm (AA sn.gone hOn)
        have hOc:=kc.heap hOn hOG
        have p18:=Cx hOc 18
        by_cases hcl:c<y.cuts.length
        ·have krc:Aa (BN B) w4 wr:=kr9.step kc fun g hg _=>by unfold At1 at hg;rw[hg];exact hBG
         have HCE:Hid (∀W',Aa (BN B) w4 W'→∃g o,sa=some ⟨g,o,none⟩∧∀r,r<4→W'.cell? ⟨g,o+c*4+r,none⟩=(AD (y.cuts[c]'hcl))[r]?):=Hx fun W' kk=>by
          obtain⟨_,ao',c',e1,_,_,h3⟩:=HLI.out W' kk
          obtain⟨g',o',e2,_,h5⟩:=h3 (by intro e;rw[e]at hcl;simp at hcl)
          injection e1 with e1 _ _
          exact⟨g',o',e1.trans e2,fun r hr=>h5 c hcl r hr⟩
         obtain⟨g,of,hsa,hX⟩:=HCE.out wr krc
         clear hX
         subst hsa
         have HCX:Hid (∀W',Aa (BN B) w4 W'→W'.cell? ⟨g,of+c*4,none⟩=some (.int .i64 (y.cuts[c]'hcl).op.R)∧W'.cell? ⟨g,of+c*4+1,none⟩=some (.int .i64 (y.cuts[c]'hcl).op.N)∧W'.cell? ⟨g,of+c*4+2,none⟩=some (.int .i64 (y.cuts[c]'hcl).fr)∧W'.cell? ⟨g,of+c*4+3,none⟩=some (.int .i64 (y.cuts[c]'hcl).to)):=Hx fun W' kk=>by
          obtain⟨g',o',e1,h⟩:=HCE.out W' kk
          injection e1 with e1
          injection e1 with e1 e2
          subst e1 e2
          exact⟨h 0 (by decide),h 1 (by decide),h 2 (by decide),h 3 (by decide)⟩
         have hoc:=HOC.out _ (AQ hcl)
         have HGT:=Hx (Dc.Tf (f:=fg) hcl)
         obtain⟨⟨⟨qR,qN⟩,qf,qt⟩,hq⟩:∃q,q=y.cuts[c]'hcl:=⟨_,rfl⟩
         rw[←hq]at HCX hoc HGT
         simp only at HCX hoc
         obtain⟨x0,x1,x2,x3⟩:=HCX.out wr krc
         have cI0:(0:Int)≤(c:Int):=by omega
         have cI1:(c:Int)<(y.cuts.length:Int):=by omega
         clear hq HCE
         go_upto_region 21 with(fail)
         obtain⟨w10,hw10⟩:∃x,x=wr:=⟨_,rfl⟩
         subst hw10
         generalize Dc.GK fg (y.cuts.take c)=fc at sc' HGT
         obtain⟨M,hM⟩:∃M:Nat,M=(qt-qf).toNat:=⟨_,rfl⟩
         have HM:=Hx hM
         clear hM
         go_wp2_with fail
         go_loopg [11] M (fun kx s11 wj=>∃m:Nat,s11= .int .i64 (qf+(m:Int))∧GU B b W G D1 bl fw1 (Dc.Lr fc ⟨⟨qR,qN⟩,qf,qt⟩ m) u6 F8 wj∧m≤M∧M-m≤kx∧Aa (At1 G) w10 wj)
         case atStart=>exact⟨0,by simp,by rw[Dc.Tc];exact sc',Ah _,Ac _,Aa.refl _ _⟩
         case round=>
          obtain⟨m,rfl,sm,hm,hmx,km⟩:=hrel
          obtain⟨x0,x1,x2,x3⟩:=HCX.out wr (krc.step km fun g hg _=>by unfold At1 at hg;rw[hg];exact hBG)
          have p18:=Cx (km.heap hOc hOG) 18
          have hMM:=HM.out
          by_cases hml:m<M
          ·have e1:qf+(m:Int)<qt:=by omega
           have hw:IntKind.i64.wrap (qf+(m:Int)+1)=qf+(m:Int)+1:=by rw[IntKind.wrap_i64];omega
           clear hMM
           go_upto_region 24 with(fail)
           go_wp2_with(refine EJ rfl Eb Tryz.underlying61 sm.gone _ _ _ rfl rfl ⟨⟨qR,qN⟩,qf+(m:Int)⟩ rfl 1 rfl ?_;intro w13 m13 k13 hz13;clear hz13)
           go_roundg (M-(m+1))
           case measure=>omega
           case rel=>exact⟨m+1,by rw[show qf+((m+1:Nat):Int)=qf+(m:Int)+1 by omega],sm.setG k13 (by rw[Dc.Td];exact m13),hml,Ac _,km.trans k13⟩
          ·obtain rfl:m=M:=by omega
           have e1:¬qf+(m:Int)<qt:=by omega
           have hgt:=HGT.out
           unfold Dc.Ls at hgt
           rw[←hMM]at hgt
           have HGT2:=Hx hgt
           clear hMM hgt
           go_wp2_with fail
           go_roundg (y.cuts.length-(c+1))
           case measure=>omega
           case rel=>exact⟨c+1,by go_num,by rw[HGT2.out];exact sm,hcl,Ac _,kc.trans km⟩
        ·obtain rfl:c=y.cuts.length:=by omega
         rw[AH]at sc'
         have krc:Aa (BN B) w4 wr:=kr9.step kc fun g hg _=>by unfold At1 at hg;rw[hg];exact hBG
         go_upto_region 25 with(fail)
         have p0:=Cx hOc 0
         have p1:=Cx hOc 1
         have p2:=Cx hOc 2
         obtain⟨va,vn,vc,rfl⟩:=sc'.row.slice
         have HNX:Hid (GU B b W G (En (l.take (k+1))) (Dc.ER (En (l.take (k+1))).ops) (Dc.IP (En (l.take (k+1))).ops) (Dc.J7 (En (l.take (k+1))).ops)=GU B b W G D1 (bl++if y.kind=1∨y.kind=5 then[y.id]else[]) fw1 (Dc.GK fg y.cuts)):=Hx (by rw[←HD1.out,HNB.out,HNW1.out,HNG.out])
         have hkind:(y.kind=1∨(¬y.kind=1∧y.kind=5))∨(¬y.kind=1∧¬y.kind=5):=by omega
         rcases hkind with hkind|⟨h1,h5⟩
         ·have hnx:=HNX.out
          rw[Ak (by omega)]at hnx
          have HNY:=Hx hnx
          have ka:Aa No wr (wr.alloc (.cells #[.int .i64 y.id.R,.int .i64 y.id.N] 24)):=(Aa.refl No wr).alloc _
          obtain⟨v',w11,hr11,ho11,k11,hov11⟩:=WO.append (sc'.row.no ka) ⟨wr.heap.size,0,none⟩ 1 1 [y.id] rfl (Ey (y:=y.id) (Nx wr (.cells #[.int .i64 y.id.R,.int .i64 y.id.N] 24))) (by omega) 62
          have hBw:=HBZ.out wr krc
          have sx:=(sc'.no ka).push (by have:=ka.size;omega) k11 ho11 fun x hx=>hov11.imp (fun e=>by rw[←e];exact hx) fun e=>by rw[e]at hx;have:=Ap hx;omega
          have kx:Aa (BN B) w4 w11:=(krc.no ka).step k11 fun g hg _=>by
           have:=sc'.own g hg
           exact this.1
          clear hnx
          rcases hkind with h1|⟨h1,h5⟩
          ·have b1:(y.kind==1)=true:=by simp[h1]
           go_wp2_with(at_builtin;refine wpList_append_run rfl _ _ 62 62 rfl _ _ rfl rfl hr11 ?_)
           go_roundg (l.length-(k+1))
           case measure=>omega
           case rel=>exact⟨k+1,F8,by go_num,by rw[HNY.out];exact sx,hlt,Ac _,kx⟩
          ·have b1:(y.kind==1)=false:=by simp[h1]
           have b5:(y.kind==5)=true:=by simp[h5]
           go_wp2_with(at_builtin;refine wpList_append_run rfl _ _ 62 62 rfl _ _ rfl rfl hr11 ?_)
           go_roundg (l.length-(k+1))
           case measure=>omega
           case rel=>exact⟨k+1,F8,by go_num,by rw[HNY.out];exact sx,hlt,Ac _,kx⟩
         ·have hnx:=HNX.out
          rw[Ae (by omega),CJ]at hnx
          have HNY:=Hx hnx
          have b1:(y.kind==1)=false:=by simp[h1]
          have b5:(y.kind==5)=false:=by simp[h5]
          clear hnx
          go_wp2_with fail
          go_roundg (l.length-(k+1))
          case measure=>omega
          case rel=>exact⟨k+1,F8,by go_num,by rw[HNY.out];exact sc',hlt,Ac _,krc⟩
   ·obtain rfl:k=l.length:=by omega
    rw[AH]at st
    obtain⟨w5,hw5⟩:∃y,y=wr:=⟨_,rfl⟩
    subst hw5
    have hfull:=Ni l
    have hids:=UH l
    have hops:(En l).ops.length≤40:=AG (KX l) hl40
    generalize En l=D at st hfull hids hops
    have HFL:=Hx hfull
    have HID:=Hx hids
    have HOP:=Hx hops
    obtain⟨bs,hbs⟩:∃bs,bs=Dc.ER D.ops:=⟨_,rfl⟩
    obtain⟨gF,hgF⟩:∃gF,gF=Dc.J7 D.ops:=⟨_,rfl⟩
    obtain⟨fW,hfW⟩:∃fW,fW=Dc.IP D.ops:=⟨_,rfl⟩
    have hbl:bs.length≤40:=by rw[hbs];exact AG (Dc.LF _) hops
    have hbn:bs.Nodup:=by rw[hbs];exact Dc.PX hids
    have HLA:Hid (∀(b:Off.Bid) (m:Nat) (h1:m<(Dc.Bl D.tx b).length) (h2:m<(Dc.Dp D.tx b).length),fW ((Dc.Bl D.tx b)[m]'h1)=some ((Dc.Dp D.tx b)[m]'h2)∧gF ((Dc.Bl D.tx b)[m]'h1)=none):=Hx fun b m h1 h2=>by rw[hfW,hgF];exact Dc.Ov hfull hids h1 h2
    have HMET:Hid (∀c,fW c≠none→Dc.IE gF (Dc.Cb D.tx bs) c=some 1):=Hx fun c hc=>by rw[hgF,hbs];rw[hfW]at hc;exact Dc.U7 hfull hids hc
    have HWANT:Hid (∀c∈Dc.Cb D.tx bs,fW c≠none):=Hx fun c hc=>by rw[hfW];exact Dc.Pn hfull hids hc
    have HNEW:Hid (∀(i m:Nat) (hi:i<bs.length) (hm:m<(Dc.Bl D.tx (bs[i]'hi)).length),(Dc.Bl D.tx (bs[i]'hi))[m]'hm∉Dc.Cb D.tx (bs.take i)++(Dc.Bl D.tx (bs[i]'hi)).take m):=Hx fun i m hi hm=>Dc.SX hfull hids hbn hi hm
    have HALL:Hid ((Dc.Cb D.tx bs).Nodup):=Hx (Dc.GI hfull hids hbn)
    have HLEN:Hid (∀b,(Dc.Dp D.tx b).length=(Dc.Bl D.tx b).length):=Hx fun b=>Dc.IY hfull b
    have HSZ:Hid (∀b,(Dc.Bl D.tx b).length≤3000):=Hx fun b=>by
     have h1:=Dc.L2 hfull.tx b
     have h2:=Dc.IY hfull b
     omega
    rw[←hbs,←hgF,←hfW]at st
    obtain⟨va,vc,rfl⟩:∃va vc,u6= .slice va bs.length vc:=by
     rcases st.row.form with⟨h1,h2⟩|⟨g',cap,_,h1,_⟩
     ·exact⟨none,0,by rw[h1,h2];rfl⟩
     ·exact⟨_,_,h1⟩
    have kr5:=kr
    have HKB:Hid (∀W',Aa (At1 G) w5 W'→Aa (BN base) w W'):=Hx fun W' k=>HLB.out W' (kr5.step k fun g hg _=>by unfold At1 at hg;rw[hg];exact hBG)
    have HRB:Hid (∀W',Aa (At1 G) w5 W'→Aq 24 2 Bf (.slice va bs.length vc) bs W'):=Hx fun W' k=>st.row.keeps k fun _ hg e=>BH st.row st.gone (hg.trans (congrArg some e))
    have HWN:Hid (∀W',Aa (At1 G) w5 W'→A8 CE LD W fW W'):=Hx fun W' k=>st.want.keeps k st.ne
    have HTX:Hid (∀W',Aa (At1 G) w5 W'→Calls Tryz.prog 28 #[.pointer (some ⟨b,0,none⟩)] W' (Jm D.tx W')):=Hx fun W' k=>Pv (st.doc.keeps k fun _ hg e=>st.nG (e▸hg))
    have HLE:Hid (∀F' bx W' q,Bg F' bx D.tx W'→Calls Tryz.prog 32 #[.pointer (some ⟨bx,0,none⟩),idV q] W' (LW (Dc.Bl D.tx q) W')):=Hx fun F' bx W' q h=>NA h HFL.out.tx (by have:=HOP.out;omega) q
    have HTE:Hid (∀F' bx W' q,Bg F' bx D.tx W'→Calls Tryz.prog 29 #[.pointer (some ⟨bx,0,none⟩),idV q] W' (Kt (Dc.Dp D.tx q) (Dc.D3 D.tx q) W')):=Hx fun F' bx W' q h=>L1 h (fun seg t ht=>by have:=Dc.O0 HFL.out.tx seg t ht;have:=HOP.out;omega) q (by have:=Dc.L2 HFL.out.tx q;have:=HOP.out;omega)
    have HCB:Hid (∀n,(Dc.Cb D.tx (bs.take n)).length≤120000):=Hx fun n=>by
     have h1:=Dc.J2 HSZ.out (bs.take n)
     rw[Ad]at h1
     have h2:min n bs.length*3000≤40*3000:=Ho _ (by omega)
     omega
    have hg5:=st.gone
    clear hfull hids hops hbs hgF hfW hbn st kr kr5 hlt hk hkx HDO HSM HV HAG HAL HGR HG2 HNW st7
    go_wp2_with fail
    go_loopg [12,13] bs.length (fun kx s12 s13 wi=>∃i:Nat,s13= .int .i64 i∧s12= .int .i64 ((Dc.Cb D.tx (bs.take i)).length:Nat)∧A8 CE GR G (Dc.IE gF (Dc.Cb D.tx (bs.take i))) wi∧i≤bs.length∧bs.length-i≤kx∧Aa (At1 G) w5 wi)
    case atStart=>exact⟨0,rfl,rfl,by rw[List.take_zero];exact(Dc.UD gF).symm▸hg5,Ah _,Ac _,Aa.refl _ _⟩
    case round=>
     obtain⟨i,rfl,rfl,hgi,hi,hix,ki⟩:=hrel
     by_cases hil:i<bs.length
     ·have hrow:=HRB.out wr ki
      obtain⟨g,cap,e1,hcap,_⟩:=hrow.at (by omega)
      injection e1 with e1 e2 e3
      subst e1 e3
      obtain⟨x0,x1⟩:=hrow.idO hil
      have htk:=Dc.Jz (x:=D.tx) hil
      have hnew:=fun m hm=>HNEW.out i m hil hm
      obtain⟨⟨qR,qN⟩,hq⟩:∃q,q=bs[i]'hil:=⟨_,rfl⟩
      have HSB:Hid (∀W',Aa (At1 G) w5 W'→W'.cell? ⟨g,i*2,none⟩=some (.int .i64 qR)∧W'.cell? ⟨g,i*2+1,none⟩=some (.int .i64 qN)):=Hx fun W' k=>by
       have h:=(HRB.out W' k).idO hil
       rw[←hq]at h
       exact h
      rw[←hq]at x0 x1 htk hnew
      simp only at x0 x1
      have kI0:(0:Int)≤(i:Int):=by omega
      have kI1:(i:Int)<(bs.length:Int):=by omega
      have hla:=HLA.out ⟨qR,qN⟩
      have hle:=HLEN.out ⟨qR,qN⟩
      have hsz:=HSZ.out ⟨qR,qN⟩
      have HLE1:=Hx (fun F' bx W' h=>HLE.out F' bx W' ⟨qR,qN⟩ h)
      have HTE1:=Hx (fun F' bx W' h=>HTE.out F' bx W' ⟨qR,qN⟩ h)
      generalize Dc.Bl D.tx ⟨qR,qN⟩=ls at htk hnew hla hle hsz HLE1
      generalize Dc.Dp D.tx ⟨qR,qN⟩=tt at hla hle HTE1
      generalize Dc.D3 D.tx ⟨qR,qN⟩=ok at HTE1
      have HTK:=Hx htk
      have HNW2:=Hx hnew
      have HLA2:=Hx hla
      have kd:Aa No wr wr.drew:=(Aa.refl No wr).drew
      have HS0:=HSB.out _ (ki.no kd)
      have HT0:=Hx (HTX.out _ (ki.no kd))
      clear e2 hrow hq htk hnew hla
      go_upto_region 31 with(fail)
      go_cut[14] (fun s14 wx=>∃aL cL,s14= .slice aL ls.length cL∧Aq 26 3 AE (.slice aL ls.length cL) ls wx∧(∀x,(Value.slice aL ls.length cL).ownBlock=some x→wr.heap.size≤x)∧Aa No wr wx)
      case first=>
       clear x0 x1
       go_region_held3(fun W'=>W'.cell? ⟨g,i*2,none⟩=some (.int .i64 qR)∧W'.cell? ⟨g,i*2+1,none⟩=some (.int .i64 qN)) (first|exact HS0|exact HS1|exact HS2)
        (first
         |(go_at_call 28;(with_reducible refine HT0.out.mono ?_);rintro e w6 ⟨F6,bx,rfl,ht6,k6⟩;have HS1:=HSB.out _ (ki.no (kd.trans k6));have HL6:=Hx (HLE1.out _ _ _ ht6))
         |(go_at_call 32;(with_reducible refine HL6.out.mono ?_);rintro e w7 ⟨vl,rfl,hrl,hol,k7⟩;have k67:=(kd.trans k6).trans k7;have HS2:=HSB.out _ (ki.no k67)))
       all_goals
        go_wp2_with fail
        go_meet
        have hz6:=k6.size
        have hzd:=kd.size
        rcases hrl.form with⟨rfl,rfl⟩|⟨g',cap',_,rfl,_⟩
        ·exact⟨none,0,rfl,hrl,fun x hx=>(by cases hx),k67⟩
        ·exact⟨_,_,rfl,hrl,fun x hx=>by have:=hol x hx;omega,k67⟩
      case rest=>
       obtain⟨aL,cL,rfl,hrl,hol,kc⟩:=hcut
       obtain⟨w9,hw9⟩:∃x,x=wc:=⟨_,rfl⟩
       subst hw9
       have ki9:=ki.no kc
       have kd9:Aa No w9 w9.drew:=(Aa.refl No w9).drew
       obtain⟨x0,x1⟩:=HSB.out _ ki9
       have HS0:=HSB.out _ (ki9.no kd9)
       have HT1:=Hx (HTX.out _ (ki9.no kd9))
       go_upto_region 32 with(fail)
       go_cut[15] (fun s15 wx=>s15= .string ⟨tt.toArray⟩∧Aa No w9 wx)
       case first=>
        clear x0 x1
        go_region_held3(fun W'=>W'.cell? ⟨g,i*2,none⟩=some (.int .i64 qR)∧W'.cell? ⟨g,i*2+1,none⟩=some (.int .i64 qN)) (first|exact HS0|exact HS1|exact HS2)
         (first
          |(go_at_call 28;(with_reducible refine HT1.out.mono ?_);rintro e w6 ⟨F6,bx,rfl,ht6,k6⟩;have HS1:=HSB.out _ (ki9.no (kd9.trans k6));have HL6:=Hx (HTE1.out _ _ _ ht6))
          |(go_at_call 29;(with_reducible refine HL6.out.mono ?_);rintro e w7 ⟨rfl,k7⟩;have k67:=(kd9.trans k6).trans k7;have HS2:=HSB.out _ (ki9.no k67)))
        all_goals
         go_wp2_with fail
         go_meet
         exact⟨rfl,k67⟩
       case rest=>
        obtain⟨rfl,kc2⟩:=hcut
        obtain⟨w10,hw10⟩:∃x,x=wc:=⟨_,rfl⟩
        subst hw10
        have hGl:=hgi.lt
        have hrl10:=hrl.no kc2
        have hg10:=hgi.keeps (kc.trans kc2) id
        have ki10:=ki9.no kc2
        have HRL:Hid (∀W',Aa (At1 G) w10 W'→Aq 26 3 AE (.slice aL ls.length cL) ls W'):=Hx fun W' k=>hrl10.keeps k fun x hx e=>by have:=hol x hx;unfold At1 at e;omega
        have hcb:=HCB.out i
        generalize Dc.Cb D.tx (bs.take i)=L0 at HTK HNW2 hg10 hcb⊢
        clear hrl hol hrl10 hgi HT1 HS0 x0 x1 kc kc2 ki9 kd9
        go_upto_region 35 with(fail)
        have HLE3:=Hx hle
        clear hle
        go_wp2_with fail
        go_loopg [12,17] ls.length (fun kx s12 s17 wj=>∃m:Nat,s17= .int .i64 m∧s12= .int .i64 ((L0.length:Int)+(m:Int))∧A8 CE GR G (Dc.IE gF (L0++ls.take m)) wj∧m≤ls.length∧ls.length-m≤kx∧Aa (At1 G) w10 wj)
        case atStart=>exact⟨0,rfl,by simp,by rw[List.take_zero,CJ];exact hg10,Ah _,Ac _,Aa.refl _ _⟩
        case round=>
         obtain⟨m,rfl,rfl,hgm,hm,hmx,km⟩:=hrel
         by_cases hml:m<ls.length
         ·have hrow:=HRL.out wr km
          obtain⟨g2,cap2,e1,_,_⟩:=hrow.at (by omega)
          injection e1 with e1 e2 e3
          subst e1 e3
          obtain⟨y0,y1,y2⟩:=hrow.chrO hml
          have hmt:m<tt.length:=by rw[HLE3.out];exact hml
          obtain⟨hlw,hlg⟩:=HLA2.out m hml hmt
          have hnm:=HNW2.out m hml
          have htk2:ls.take (m+1)=ls.take m++[ls[m]'hml]:=by rw[AW,Aj hml];rfl
          obtain⟨⟨⟨cR,cN⟩,ci⟩,hc⟩:∃c,c=ls[m]'hml:=⟨_,rfl⟩
          rw[←hc]at y0 y1 y2 hlw hlg hnm htk2
          simp only at y0 y1 y2
          have hgo:Dc.IE gF (L0++ls.take m) ⟨⟨cR,cN⟩,ci⟩=none:=by unfold Dc.IE;rw[Ae hnm];exact hlg
          have lw:=Vu (HWN.out wr (ki10.trans km)) cR cN ci
          rw[hlw]at lw
          simp only[F5,Option.isSome_some]at lw
          have lg:=QO hgm cR cN ci
          rw[hgo]at lg
          simp only[Option.getD_none]at lg
          have HT2:=Hx htk2
          have mI0:(0:Int)≤(m:Int):=by omega
          have mI1:(m:Int)<(ls.length:Int):=by omega
          have mT:(m:Int)<(tt.length:Int):=by omega
          have hbx:(((tt[m]'hmt).toNat:Int) != (((ByteArray.mk tt.toArray)[m]'(show m<(ByteArray.mk tt.toArray).size from hmt)).toNat:Int))=false:=by rw[bne_eq_false_iff_eq];rfl
          have hw:IntKind.i64.wrap ((L0.length:Int)+(m:Int)+1)=(L0.length:Int)+(m:Int)+1:=by rw[IntKind.wrap_i64];omega
          clear e2 hrow hc hlw hlg hnm htk2 hgo
          go_upto_region 41 with(fail)
          go_wp2_with(refine EJ rfl Eb Tryz.underlying61 hgm _ _ _ rfl rfl ⟨⟨cR,cN⟩,ci⟩ rfl 1 rfl ?_;intro w13 m13 k13 hz13;clear hz13)
          go_roundg (ls.length-(m+1))
          case measure=>omega
          case rel=>exact⟨m+1,by go_num,by rw[show(L0.length:Int)+((m+1:Nat):Int)=(L0.length:Int)+(m:Int)+1 by omega],by rw[HT2.out,←AI,Dc.Ti];exact m13,hml,Ac _,km.trans k13⟩
         ·obtain rfl:m=ls.length:=by omega
          rw[AH,←HTK.out]at hgm
          go_wp2_with fail
          go_roundg (bs.length-(i+1))
          case measure=>omega
          case rel=>exact⟨i+1,by go_num,by rw[HTK.out,Ai];simp,hgm,hil,Ac _,ki10.trans km⟩
     ·obtain rfl:i=bs.length:=by omega
      rw[AH]at hgi
      have hcn:(Dc.Cb D.tx (bs.take bs.length)).length=(Dc.Cb D.tx bs).length:=by rw[AH]
      rw[hcn]
      have hWi:=HWN.out wr ki
      have HMAP:Hid (∀W',A8 CE LD W fW W'→∃n:Nat,(∀ty,(Builtin.len_ #[60] ty #[.map (some W)]).run Tryz.prog W'= .ok (.int .i64 n) W')∧(Dc.Cb D.tx bs).length≤n):=Hx fun W' h=>by
       obtain⟨n,h1,h2⟩:=h.len Eb Tryz.underlying60
       exact⟨n,h1,h2 _ HALL.out HWANT.out⟩
      clear hcn
      generalize (Dc.Cb D.tx bs).length=N0 at HMAP⊢
      have hGl:=hgi.lt
      have hWG:W≠wr.heap.size:=fun e=>by have:=hWi.lt;omega
      go_wp2_with(at_range;refine JC rfl Eb Tryz.underlying60 hWi _ rfl rfl ?_;intro w11 cnt0 hr0 k0 hs0 hcnt)
      go_frame
      clear hcnt hs0
      have hg11:=hgi.keeps k0 id
      have ki11:=ki.no k0
      generalize hrr:wr.heap.size=r2 at hr0 hGl hWG⊢
      clear hrr
      have hnr:¬At1 r2 G:=fun e=>by unfold At1 at e;omega
      have hbr:base≤r2:=by omega
      go_loopg [20] cnt0 (fun kx _ wj=>∃(left:Dc.Chr→Bool) (cnt:Nat),DU CE LD W r2 fW left cnt wj∧cnt≤kx∧Aa (At1 r2) w11 wj)
      case atStart=>exact⟨_,cnt0,hr0,Ac _,Aa.refl _ _⟩
      case round=>
       obtain⟨left,cnt,hrg,hck,kz⟩:=hrel
       clear hr0 k0 hWi hgi
       go_wp2_with(at_next;refine Kz rfl Eb hrg _ rfl rfl ?_ ?_)
       ·intro _ _
        obtain⟨n,hl,hn⟩:=HMAP.out wr hrg.map
        have hnn:(N0:Int)≤(n:Int):=by omega
        have HQ:=Hx (HPOST.out wr ((HKB.out _ ki11).step kz fun g hg _=>by unfold At1 at hg;unfold BN;omega))
        go_wp2_with(at_len;refine OV rfl _ _ rfl rfl hl ?_)
        exact HQ.out
       ·intro x pv w1 cnt1 hlx hfx hr1 hlt1 hk1 hs1 hen
        obtain⟨⟨xR,xN⟩,xi⟩:=x
        have hm:=HMET.out ⟨⟨xR,xN⟩,xi⟩ (by rw[hfx];simp)
        have hg1:=hg11.keeps (kz.trans hk1) hnr
        have HC1:=Hx hlt1
        have kz1:=kz.trans hk1
        clear hrg hk1 kz hlx hfx hlt1
        go_upto_region 46 with(fail)
        have ka:Aa No w1 (w1.alloc (.cells #[.int .i64 xR,.int .i64 xN,.int .i64 xi] 26)):=(Aa.refl No w1).alloc _
        have hX:=Nx w1 (.cells #[.int .i64 xR,.int .i64 xN,.int .i64 xi] 26)
        have hr2:=hr1.keeps ka id id
        have hg2:=hg1.keeps ka id
        rw[hs1]at hX
        generalize w1.alloc (.cells #[.int .i64 xR,.int .i64 xN,.int .i64 xi] 26)=w2' at ka hX hr2 hg2⊢
        clear hr1 hen hg1 hs1
        have y0:=Cx hX 0
        have y1:=Cx hX 1
        have y2:=Cx hX 2
        have lg:=QO hg2 xR xN xi
        rw[hm]at lg
        simp only[F5]at lg
        clear hm
        go_wp2_with fail
        go_roundg cnt1
        case measure=>have hx:=HC1.out;omega
        case rel=>exact⟨_,cnt1,hr2,Ac _,kz1.no ka⟩
end
end Go.Proofs.YthfjefcljeamgaaGreatDoor
