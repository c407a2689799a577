/- joined: A text's row is its tree of characters gone through in order. A row that is mended is told by its characters. A text's tree is told by its ops, in whatever order they were done. The document is told by its ops, in whatever order they were done. Ops handed in again and again, in whatever order, until all are done. -/
import Derived.Test.YthfjefcljeamgaaGreatDoorDcTxFull
namespace Dc
open Off (Bid AV Bn DF)
def XQ:Nat→C5→Chr→List Chr
 |0,_,_=>[]
 |n+1,N,c=>match N c with
  |none=>[]
  |some x=>x.l.flatMap (XQ n N)++c::x.r.flatMap (XQ n N)
theorem XT{N:C5}{c:Chr}{x:CP}(h:N c=some x)(n:Nat):XQ (n+1) N c=x.l.flatMap (XQ n N)++c::x.r.flatMap (XQ n N):=by
 rw[XQ,h]
theorem Zu{N:C5}{c:Chr}(h:N c=none)(n:Nat):XQ n N c=[]:=by
 cases n with
 |zero=>rfl
 |succ n=>rw[XQ,h]
def X3(n:Nat)(N:C5):List Chr:=match N .z with
 |none=>[]
 |some x=>x.r.flatMap (XQ n N)
theorem XW{α β:Type}{f g:α→List β}:∀{l:List α},(∀a∈l,f a=g a)→l.flatMap f=l.flatMap g
 |[],_=>rfl
 |a::l,h=>by
  rw[BE,BE,h a (by simp),XW fun b hb=>h b (by simp[hb])]
section
variable {N:C5} {rk:Chr→Nat} {B M:Nat}
theorem XR(h:BZ N rk B M){c x:Chr}{n:CP}(hn:N c=some n)(hx:x∈n.l∨x∈n.r):x≠ .z∧N x≠none∧rk c<rk x:=by
 have key:∀s,x∈n.side s→x≠ .z∧N x≠none∧rk c<rk x:=fun s hs=>by
  obtain⟨h1,m,h2,h3⟩:=h.down c n s x hn hs
  exact⟨h1,by rw[h2];simp,by rw[←h3];exact h.rank x m h2 h1⟩
 rcases hx with hx|hx
 ·exact key false hx
 ·exact key true hx
theorem Yx(h:BZ N rk B M):∀(n m:Nat) (c:Chr),N c≠none→B+1≤rk c+n→B+1≤rk c+m→XQ n N c=XQ m N c
 |0,m,c,hc,h1,_=>by have:=h.bound c hc;omega
 |n+1,0,c,hc,_,h2=>by have:=h.bound c hc;omega
 |n+1,m+1,c,hc,h1,h2=>by
  obtain⟨x,hx⟩:=BQ.1 hc
  rw[XT hx,XT hx]
  rw[XW (l:=x.l) (g:=XQ m N) fun y hy=>?_,XW (l:=x.r) (g:=XQ m N) fun y hy=>?_]
  ·obtain⟨_,h4,h5⟩:=XR h hx (.inr hy)
   exact Yx h n m y h4 (by omega) (by omega)
  ·obtain⟨_,h4,h5⟩:=XR h hx (.inl hy)
   exact Yx h n m y h4 (by omega) (by omega)
theorem Yi(h:BZ N rk B M):∀(n:Nat) (c y:Chr),N c≠none→y∈XQ n N c→rk c≤rk y∧N y≠none
 |0,_,_,_,hy=>by cases hy
 |n+1,c,y,hc,hy=>by
  obtain⟨x,hx⟩:=BQ.1 hc
  rw[XT hx,AC,A7]at hy
  have key:∀L:List Chr,(∀q∈L,q∈x.l∨q∈x.r)→y∈L.flatMap (XQ n N)→rk c≤rk y∧N y≠none:=fun L hL hm=>by
   obtain⟨q,hq,hm⟩:=Ba.1 hm
   obtain⟨_,h4,h5⟩:=XR h hx (hL q hq)
   obtain⟨h6,h7⟩:=Yi h n q y h4 hm
   exact⟨by omega,h7⟩
  rcases hy with hy|rfl|hy
  ·exact key x.l (fun _=> .inl) hy
  ·exact⟨Ac _,hc⟩
  ·exact key x.r (fun _=> .inr) hy
theorem X9{α β:Type}{f:α→List β}{l:List α}{a:α}{e:β}(h:l.getLast? =some a)(h2:(f a).getLast? =some e):(l.flatMap f).getLast? =some e:=by
 obtain⟨k,rfl⟩:∃k,l=k++[a]:=by
  have hne:l≠ []:=fun e=>by rw[e]at h;cases h
  refine⟨l.dropLast,?_⟩
  have h3:=aE hne
  rw[ar hne]at h
  cases h
  exact h3.symm
 rw[BU,List.getLast?_append]
 simp[h2]
theorem YK{α β:Type}{f:α→List β}{l:List α}{a:α}{e:β}(h:l.head? =some a)(h2:(f a).head? =some e):(l.flatMap f).head? =some e:=by
 cases l with
 |nil=>cases h
 |cons b l=>
  cases h
  rw[BE,List.head?_append,h2];rfl
theorem X8(h:BZ N rk B M)(s:Bool):∀(n:Nat) (c e:Chr),N c≠none→B+1≤rk c+n→Hm N s c e→(if s then(XQ n N c).getLast? else(XQ n N c).head?)=some e
 |0,c,_,hc,h1,_=>by have:=h.bound c hc;omega
 |n+1,c,e,hc,h1,he=>by
  obtain⟨x,hx⟩:=BQ.1 hc
  have e1:Ly N s c=if s then x.r.getLast? else x.l.head? :=by unfold Ly;rw[hx]
  rw[XT hx]
  cases he with
  |stop hs=>
   rw[e1]at hs
   cases s
   ·have:x.l=[]:=by simpa using hs
    rw[this];rfl
   ·have:x.r=[]:=by simpa using hs
    rw[this];simp
  |go hs hg=>
   rename_i y
   rw[e1]at hs
   cases s
   ·have hs':x.l.head? =some y:=by simpa using hs
    have hm:y∈x.l:=List.mem_of_head? hs'
    obtain⟨_,h4,h5⟩:=XR h hx (.inl hm)
    have ih:=X8 h false n y e h4 (by omega) hg
    have h6:=YK (f:=XQ n N) hs' (by simpa using ih)
    simp[List.head?_append,h6]
   ·have hs':x.r.getLast? =some y:=by simpa using hs
    have hm:y∈x.r:=List.mem_of_getLast? hs'
    obtain⟨_,h4,h5⟩:=XR h hx (.inr hm)
    have ih:=X8 h true n y e h4 (by omega) hg
    have h6:=X9 (f:=XQ n N) hs' (by simpa using ih)
    have hne:x.r.flatMap (XQ n N)≠ []:=fun e=>by rw[e]at h6;cases h6
    simp only[if_true,List.getLast?_append,List.getLast?_cons,h6]
    simp
theorem Yw(h:BZ N rk B M){n:Nat}{c:Chr}(hc:N c≠none)(hn:B+1≤rk c+n):(XQ n N c).getLast? =some (FW N true c):=by
 have:=X8 h true n c _ hc hn (PL h true hc).1
 simpa using this
theorem YZ(h:BZ N rk B M){n:Nat}{c:Chr}(hc:N c≠none)(hn:B+1≤rk c+n):(XQ n N c).head? =some (FW N false c):=by
 have:=X8 h false n c _ hc hn (PL h false hc).1
 simpa using this
/-- what a seat says about where a new character stands -/
def XX(N:C5)(u:CP)(s:Kv)(X Y:List Chr):Prop:=
 if 0<s.pos then∃y,(u.side s.side)[s.pos-1]? =some y∧X.getLast? =some (FW N true y)
 else if s.side=false then Y.head? =some (FW N false s.up)
 else if s.up= .z then X=[]else X.getLast? =some s.up
theorem XX.pre{u:CP}{s:Kv}{X Y:List Chr}(h:XX N u s X Y)(hz:s.up≠ .z)(P Q:List Chr):XX N u s (P++X) (Y++Q):=by
 have key:∀e:Chr,X.getLast? =some e→(P++X).getLast? =some e:=fun e h=>by
  rw[List.getLast?_append,h];rfl
 unfold XX at*
 split
 ·rename_i hp
  rw[Ak hp]at h
  obtain⟨y,h1,h2⟩:=h
  exact⟨y,h1,key _ h2⟩
 ·rename_i hp
  rw[Ae hp]at h
  split
  ·rename_i hs
   rw[Ak hs]at h
   rw[List.head?_append,h];rfl
  ·rename_i hs
   rw[Ae hs,Ae hz]at h
   exact key _ h
variable {c:Chr} {s:Kv} {u:CP}
theorem X5(hc:N c=none)(hu:N s.up=some u):∀(n:Nat) (a:Chr),N a≠none→(BZ N rk B M)→s.up∉XQ n N a→XQ n (sit N c s) a=XQ n N a
 |0,_,_,_,_=>rfl
 |n+1,a,ha,h,hn=>by
  obtain⟨x,hx⟩:=BQ.1 ha
  rw[XT hx,AC,A7]at hn
  have h1:a≠c:=fun e=>by rw[e,hc]at hx;cases hx
  have h2:a≠s.up:=fun e=>hn (.inr (.inl e.symm))
  have hx':sit N c s a=some x:=by rw[G9 hu,Ae h1,Ae h2,hx]
  rw[XT hx,XT hx']
  rw[XW (l:=x.l) (g:=XQ n N) fun y hy=>?_,XW (l:=x.r) (g:=XQ n N) fun y hy=>?_]
  ·exact X5 hc hu n y (XR h hx (.inr hy)).2.1 h fun e=>hn (.inr (.inr (Ba.2 ⟨y,hy,e⟩)))
  ·exact X5 hc hu n y (XR h hx (.inl hy)).2.1 h fun e=>hn (.inl (Ba.2 ⟨y,hy,e⟩))
theorem Yd{α:Type}{l:List α}{p:Nat}(h0:0<p)(hp:p≤l.length):(l.take p).getLast? =l[p-1]? :=by
 rw[List.getLast?_eq_getElem?,Ad,B8 hp,AO,Ak (by omega)]
/-- the new character among its neighbours at one side of its parent -/
theorem Yh(h:BZ N rk B M)(hc:N c=none)(hu:N s.up=some u)(n:Nat)(hn:B+1≤rk s.up+n){L:List Chr}(hL:∀x∈L,x∈u.l∨x∈u.r)(p:Nat):
  (Ax L p c).flatMap (XQ n (sit N c s))=(L.take p).flatMap (XQ n N)++c::(L.drop p).flatMap (XQ n N):=by
 have hout:∀x∈L,XQ n (sit N c s) x=XQ n N x:=fun x hx=>by
  obtain⟨_,h2,h3⟩:=XR h hu (hL x hx)
  exact X5 hc hu n x h2 h fun e=>by have:=(Yi h n x _ h2 e).1;omega
 have hb:=h.bound s.up (by rw[hu];simp)
 obtain⟨k,rfl⟩:∃k,n=k+1:=⟨n-1,by omega⟩
 have hcs:XQ (k+1) (sit N c s) c=[c]:=by
  rw[XT (x:=⟨s.up,[],[]⟩) (by rw[G9 hu,Ak rfl])];rfl
 unfold Ax
 rw[BU,BE,hcs,XW fun x hx=>hout x (ap hx),XW fun x hx=>hout x (BC hx)]
 rfl
theorem Zo(h:BZ N rk B M)(hc:N c=none)(hu:N s.up=some u)(hp:s.pos≤(u.side s.side).length)(n:Nat)(hn:B+2≤rk s.up+n):
  ∃X Y,XQ n N s.up=X++Y∧XQ n (sit N c s) s.up=X++c::Y∧(s.up≠ .z→XX N u s X Y):=by
 have hb:=h.bound s.up (by rw[hu];simp)
 have huc:s.up≠c:=fun e=>by rw[e,hc]at hu;cases hu
 obtain⟨k,rfl⟩:∃k,n=k+1:=⟨n-1,by omega⟩
 have hu':sit N c s s.up=some (u.put s.side s.pos c):=by rw[G9 hu,Ae huc,Ak rfl]
 have hout:∀L:List Chr,(∀x∈L,x∈u.l∨x∈u.r)→L.flatMap (XQ k (sit N c s))=L.flatMap (XQ k N):=fun L hL=>XW fun x hx=>by
  obtain⟨_,h2,h3⟩:=XR h hu (hL x hx)
  exact X5 hc hu k x h2 h fun e=>by have:=(Yi h k x _ h2 e).1;omega
 have hlast:∀(L:List Chr),(∀x∈L,x∈u.l∨x∈u.r)→0<s.pos→s.pos≤L.length→∃y,L[s.pos-1]? =some y∧((L.take s.pos).flatMap (XQ k N)).getLast? =some (FW N true y):=fun L hL h0 h1=>by
  have hlt:s.pos-1<L.length:=by omega
  refine⟨L[s.pos-1],Aj hlt,?_⟩
  obtain⟨_,h2,h3⟩:=XR h hu (hL _ (AQ hlt))
  exact X9 ((Yd h0 h1).trans (Aj hlt)) (Yw h h2 (by omega))
 rw[XT hu,XT hu']
 cases hsd:s.side with
 |false=>
  rw[hsd]at hp
  have hp':s.pos≤u.l.length:=hp
  have e1:(u.put false s.pos c).l=Ax u.l s.pos c:=rfl
  have e2:(u.put false s.pos c).r=u.r:=rfl
  rw[e1,e2,Yh h hc hu k (by omega) (fun x hx=> .inl hx),hout u.r fun x hx=> .inr hx]
  refine⟨(u.l.take s.pos).flatMap (XQ k N),(u.l.drop s.pos).flatMap (XQ k N)++s.up::u.r.flatMap (XQ k N),?_,by simp,fun hz=>?_⟩
  ·rw[←AI,←BU,A9]
  ·unfold XX
   split
   ·rename_i h0
    obtain⟨y,h1,h2⟩:=hlast u.l (fun x hx=> .inl hx) h0 hp'
    exact⟨y,by rw[hsd];exact h1,h2⟩
   ·rename_i h0
    have h00:s.pos=0:=by omega
    have h1:=YZ h (n:=k+1) (c:=s.up) (by rw[hu];simp) (by omega)
    rw[XT hu]at h1
    rw[h00,JL]
    exact h1
 |true=>
  rw[hsd]at hp
  have hp':s.pos≤u.r.length:=hp
  have e1:(u.put true s.pos c).r=Ax u.r s.pos c:=rfl
  have e2:(u.put true s.pos c).l=u.l:=rfl
  rw[e1,e2,Yh h hc hu k (by omega) (fun x hx=> .inr hx),hout u.l fun x hx=> .inl hx]
  refine⟨u.l.flatMap (XQ k N)++s.up::(u.r.take s.pos).flatMap (XQ k N),(u.r.drop s.pos).flatMap (XQ k N),?_,by simp,fun hz=>?_⟩
  ·rw[AI,au,←BU,A9]
  ·unfold XX
   split
   ·rename_i h0
    obtain⟨y,h1,h2⟩:=hlast u.r (fun x hx=> .inr hx) h0 hp'
    refine⟨y,by rw[hsd];exact h1,?_⟩
    rw[List.getLast?_append,List.getLast?_cons,h2];rfl
   ·rename_i h0
    have h00:s.pos=0:=by omega
    rw[h00];simp[hsd]
/-- the child below which something stands -/
theorem Yy{α β:Type}[DecidableEq β]{f:α→List β}{l:List α}{x:β}(h:x∈l.flatMap f):∃l1 y l2,l=l1++y::l2∧x∈f y:=by
 obtain⟨y,hy,hx⟩:=Ba.1 h
 obtain⟨l1,l2,rfl⟩:=List.append_of_mem hy
 exact⟨l1,y,l2,rfl,hx⟩
theorem YS(h:BZ N rk B M)(hc:N c=none)(hu:N s.up=some u)(hp:s.pos≤(u.side s.side).length)(huz:s.up≠ .z):∀(n:Nat) (a:Chr),N a≠none→B+2≤rk a+n→(XQ n N a).Nodup→s.up∈XQ n N a→
  ∃X Y,XQ n N a=X++Y∧XQ n (sit N c s) a=X++c::Y∧XX N u s X Y
 |0,a,_,_,_,hm=>by cases hm
 |n+1,a,ha,hn,hnd,hm=>by
  by_cases hau:a=s.up
  ·obtain⟨X,Y,h1,h2,h3⟩:=Zo h hc hu hp (n+1) (hau▸hn)
   exact⟨X,Y,by rw[hau];exact h1,by rw[hau];exact h2,h3 huz⟩
  ·obtain⟨x,hx⟩:=BQ.1 ha
   have h1:a≠c:=fun e=>by rw[e,hc]at hx;cases hx
   have hx':sit N c s a=some x:=by rw[G9 hu,Ae h1,Ae hau,hx]
   rw[XT hx]at hnd hm⊢
   rw[XT hx']
   have hout:∀L:List Chr,(∀y∈L,y∈x.l∨y∈x.r)→s.up∉L.flatMap (XQ n N)→L.flatMap (XQ n (sit N c s))=L.flatMap (XQ n N):=fun L hL hno=>XW fun y hy=>
    X5 hc hu n y (XR h hx (hL y hy)).2.1 h fun e=>hno (Ba.2 ⟨y,hy,e⟩)
   have hside:∀L:List Chr,(∀y∈L,y∈x.l∨y∈x.r)→(L.flatMap (XQ n N)).Nodup→s.up∈L.flatMap (XQ n N)→
     ∃X Y,L.flatMap (XQ n N)=X++Y∧L.flatMap (XQ n (sit N c s))=X++c::Y∧XX N u s X Y:=fun L hL hnd hm=>by
    obtain⟨l1,y,l2,rfl,hy⟩:=Yy hm
    rw[BU,BE]at hnd⊢
    have hd1:=Ff.1 hnd
    have hd2:=Ff.1 hd1.2.1
    obtain⟨_,hy2,hy3⟩:=XR h hx (hL y (by simp))
    obtain⟨X,Y,e1,e2,e3⟩:=YS h hc hu hp huz n y hy2 (by omega) hd2.1 hy
    have o1:=hout l1 (fun q hq=>hL q (by simp[hq])) fun e=>hd1.2.2 _ e _ (ai _ hy) rfl
    have o2:=hout l2 (fun q hq=>hL q (by simp[hq])) fun e=>hd2.2.2 _ hy _ e rfl
    refine⟨l1.flatMap (XQ n N)++X,Y++l2.flatMap (XQ n N),by rw[e1];simp,?_,e3.pre huz _ _⟩
    rw[BU,BE,o1,o2,e2];simp
   have hd1:=Ff.1 hnd
   rw[AC,A7]at hm
   rcases hm with hm|hm|hm
   ·obtain⟨X,Y,e1,e2,e3⟩:=hside x.l (fun _=> .inl) hd1.1 hm
    have o2:=hout x.r (fun _=> .inr) fun e=>hd1.2.2 _ hm _ (Ed _ e) rfl
    refine⟨X,Y++a::x.r.flatMap (XQ n N),by rw[e1];simp,by rw[e2,o2];simp,?_⟩
    have:=e3.pre huz [] (a::x.r.flatMap (XQ n N))
    simpa using this
   ·exact absurd hm.symm hau
   ·obtain⟨X,Y,e1,e2,e3⟩:=hside x.r (fun _=> .inr) (IL.1 hd1.2.1).2 hm
    have o2:=hout x.l (fun _=> .inl) fun e=>hd1.2.2 _ e _ (Ed _ hm) rfl
    refine⟨x.l.flatMap (XQ n N)++a::X,Y,by rw[e1];simp,by rw[e2,o2];simp,?_⟩
    have:=e3.pre huz (x.l.flatMap (XQ n N)++[a]) []
    simpa using this
/-- the whole row, behind a new character -/
theorem YE(h:BZ N rk B M)(hc:N c=none)(hu:N s.up=some u)(hz:c≠ .z)(hp:s.pos≤(u.side s.side).length)(hs:s.up= .z→s.side=true)(n:Nat)(hn:B+2≤n)(hnd:(X3 n N).Nodup)(hm:s.up≠ .z→s.up∈X3 n N):
  ∃X Y,X3 n N=X++Y∧X3 n (sit N c s)=X++c::Y∧XX N u s X Y:=by
 obtain⟨z,hzz,_⟩:=h.root
 have hr:X3 n N=z.r.flatMap (XQ n N):=by unfold X3;rw[hzz]
 rw[hr]at hnd hm⊢
 by_cases huz:s.up= .z
 ·have huz':u=z:=by rw[huz,hzz]at hu;cases hu;rfl
  have hsd:=hs huz
  rw[huz',hsd]at hp
  have hp':s.pos≤z.r.length:=hp
  have hz':sit N c s .z=some (u.put s.side s.pos c):=by rw[G9 hu,Ae (Ne.symm hz),Ak huz.symm]
  have hr':X3 n (sit N c s)=(Ax z.r s.pos c).flatMap (XQ n (sit N c s)):=by
   unfold X3
   rw[hz',hsd,huz'];rfl
  rw[hr',Yh h hc hu n (by omega) (fun x hx=> .inr (by rw[huz'];exact hx))]
  refine⟨(z.r.take s.pos).flatMap (XQ n N),(z.r.drop s.pos).flatMap (XQ n N),by rw[←BU,A9],rfl,?_⟩
  unfold XX
  split
  ·rename_i h0
   have hlt:s.pos-1<z.r.length:=by omega
   refine⟨z.r[s.pos-1],by rw[hsd,huz'];exact Aj hlt,?_⟩
   obtain⟨_,h2,h3⟩:=XR h hzz (.inr (AQ hlt))
   exact X9 ((Yd h0 hp').trans (Aj hlt)) (Yw h h2 (by omega))
  ·rename_i h0
   have h00:s.pos=0:=by omega
   simp[hsd,h00]
 ·have hm:=hm huz
  have hz':sit N c s .z=some z:=by rw[G9 hu,Ae (Ne.symm hz),Ae (Ne.symm huz),hzz]
  have hr':X3 n (sit N c s)=z.r.flatMap (XQ n (sit N c s)):=by unfold X3;rw[hz']
  rw[hr']
  obtain⟨l1,y,l2,e0,hy⟩:=Yy hm
  have hL:∀q∈z.r,q∈z.l∨q∈z.r:=fun q hq=> .inr hq
  rw[e0]at hL
  rw[e0,BU,BE]at hnd⊢
  have hd1:=Ff.1 hnd
  have hd2:=Ff.1 hd1.2.1
  have hyr:y∈z.r:=by rw[e0];simp
  obtain⟨_,hy2,hy3⟩:=XR h hzz (.inr hyr)
  obtain⟨X,Y,e1,e2,e3⟩:=YS h hc hu hp huz n y hy2 (by omega) hd2.1 hy
  have hout:∀L:List Chr,(∀q∈L,q∈z.r)→s.up∉L.flatMap (XQ n N)→L.flatMap (XQ n (sit N c s))=L.flatMap (XQ n N):=fun L hL hno=>XW fun q hq=>
   X5 hc hu n q (XR h hzz (.inr (hL q hq))).2.1 h fun e=>hno (Ba.2 ⟨q,hq,e⟩)
  have o1:=hout l1 (fun q hq=>by rw[e0];simp[hq]) fun e=>hd1.2.2 _ e _ (ai _ hy) rfl
  have o2:=hout l2 (fun q hq=>by rw[e0];simp[hq]) fun e=>hd2.2.2 _ hy _ e rfl
  refine⟨l1.flatMap (XQ n N)++X,Y++l2.flatMap (XQ n N),by rw[e1];simp,?_,e3.pre huz _ _⟩
  rw[BU,BE,o1,o2,e2];simp
end
/-- the row's characters are the tree's, in order -/
def Ye(t:YT):Prop:=∃rk B M,BZ t.nodes rk B M∧∀n,B+2≤n→(Bz t.row).map (·.c)=X3 n t.nodes
theorem Ye.new:Ye .new:=⟨fun _=>0,0,0,BZ.new,fun n _=>by unfold X3 YT.new;simp[Bz]⟩
theorem Ye.cut{t:YT}(h:Ye t)(c:Cut):Ye (PR t c):=by
 obtain⟨rk,B,M,h1,h2⟩:=h
 refine⟨rk,B,M,h1,fun n hn=>?_⟩
 show((Bz (NZ t.row c)).map (·.c))=X3 n t.nodes
 rw[←h2 n hn]
 rw[KY,bu]
 exact List.map_congr_left fun x _=>WX c x
theorem YP{α:Type}{X Y X' Y':List α}{e:α}(hn:(X++Y).Nodup)(h:X++Y=X'++Y')(h1:X.getLast? =some e)(h2:X'.getLast? =some e):X=X':=by
 obtain⟨p,rfl⟩:∃p,X=p++[e]:=by
  have hne:X≠ []:=fun e=>by rw[e]at h1;cases h1
  have h3:=aE hne
  rw[ar hne]at h1
  cases h1
  exact⟨_,h3.symm⟩
 obtain⟨q,rfl⟩:∃q,X'=q++[e]:=by
  have hne:X'≠ []:=fun e=>by rw[e]at h2;cases h2
  have h3:=aE hne
  rw[ar hne]at h2
  cases h2
  exact⟨_,h3.symm⟩
 have hlen:p.length=q.length:=by
  have g1:(p++[e]++Y)[p.length]? =some e:=by simp
  have g2:(q++[e]++Y')[q.length]? =some e:=by simp
  rw[←h]at g2
  have i1:=(AS.1 g1).1
  have i2:=(AS.1 g2).1
  have i3:=(AS.1 g1).2
  have i4:=(AS.1 g2).2
  exact(List.getElem_inj hn).1 (i3.trans i4.symm)
 rw[AI,AI]at h
 have:=(List.append_inj h hlen).1
 rw[this]
/-- the characters of an op behind its first one -/
theorem Yt(id:Bid):∀(k i:Nat) (N:C5) (rk:Chr→Nat) (B M:Nat) (X Y:List Chr),BZ N rk B (M+1)→(∃n,N ⟨id,(i:Int)-1⟩=some n∧n.r=[])→(∀j:Nat,i≤j→N ⟨id,j⟩=none)→(⟨id,(i:Int)-1⟩:Chr)≠ .z→(∀j:Nat,i≤j→(⟨id,(j:Int)⟩:Chr)≠ .z)→
  X.getLast? =some ⟨id,(i:Int)-1⟩→(X++Y).Nodup→(∀n,B+2≤n→X3 n N=X++Y)→((∀c,c∈X++Y→N c≠none))→
  ∃rk',BZ (Ez id i k N) rk' (B+k) (M+1)∧∀n,B+k+2≤n→X3 n (Ez id i k N)=X++(List.range' i k).map (fun j:Nat=>(⟨id,(j:Int)⟩:Chr))++Y
 |0,i,N,rk,B,M,X,Y,h,_,_,_,_,_,_,hr,_=>⟨rk,h,fun n hn=>by rw[Ez,hr n (by omega)];simp⟩
 |k+1,i,N,rk,B,M,X,Y,h,⟨u,hu,hur⟩,hf,hz1,hz2,hl,hnd,hr,hin=>by
  rw[Ez]
  have hc:=hf i (Ac _)
  have hp:(⟨⟨id,(i:Int)-1⟩,true,0⟩:Kv).pos=GM (u.side true) (⟨id,(i:Int)⟩:Chr).op:=by
   show 0=GM u.r id
   rw[hur];rfl
  have h1:=Vf h (c:=⟨id,(i:Int)⟩) (s:=⟨⟨id,(i:Int)-1⟩,true,0⟩) hc hu hp (fun x hx=>by
   have:x∈u.r:=hx
   rw[hur]at this;cases this)
  have h2:BZ (sit N ⟨id,(i:Int)⟩ ⟨⟨id,(i:Int)-1⟩,true,0⟩) (Oh rk ⟨id,(i:Int)⟩ (rk ⟨id,(i:Int)-1⟩+1)) (B+1) (M+1):=by
   refine⟨h1.root,h1.up,h1.down,h1.rank,h1.bound,h1.sorted,fun c n s hn=>?_⟩
   rw[G9 hu]at hn
   split at hn
   ·cases hn;cases s<;>exact Ah _
   ·split at hn
    ·cases hn
     rename_i e1 e2
     cases s
     ·exact h.small _ u false hu
     ·show(Ax u.r 0 _).length≤M+1
      rw[hur];simp[Ax]
    ·exact h.small c n s hn
  have hsit:∀n,B+2≤n→X3 n (sit N ⟨id,(i:Int)⟩ ⟨⟨id,(i:Int)-1⟩,true,0⟩)=X++[(⟨id,(i:Int)⟩:Chr)]++Y:=fun n hn=>by
   obtain⟨X',Y',e1,e2,e3⟩:=YE h hc hu (s:=⟨⟨id,(i:Int)-1⟩,true,0⟩) (hz2 i (Ac _)) (Ah _) (fun _=>rfl) n hn (by rw[hr n hn];exact hnd) (fun _=>by
    rw[hr n hn];exact ai _ (List.mem_of_getLast? hl))
   unfold XX at e3
   rw[Ae (by simp),Ae (by simp),Ae hz1]at e3
   rw[hr n hn]at e1
   have hX:=YP hnd e1 hl e3
   subst hX
   have hY:=List.append_cancel_left e1
   subst hY
   rw[e2];simp
  have hN:∀x,sit N ⟨id,(i:Int)⟩ ⟨⟨id,(i:Int)-1⟩,true,0⟩ x=if x=⟨id,(i:Int)⟩then some ⟨⟨id,(i:Int)-1⟩,[],[]⟩else if x=⟨id,(i:Int)-1⟩then some (u.put true 0 ⟨id,(i:Int)⟩)else N x:=fun x=>G9 (s:=⟨⟨id,(i:Int)-1⟩,true,0⟩) hu x
  obtain⟨rk',h3,h4⟩:=Yt id k (i+1) _ _ (B+1) M (X++[(⟨id,(i:Int)⟩:Chr)]) Y h2 ⟨⟨⟨id,(i:Int)-1⟩,[],[]⟩,by rw[hN,Ak (by simp)],rfl⟩ (fun j hj=>by
   rw[hN,Ae (by simp;omega),Ae (by simp;omega)]
   exact hf j (by omega)) (by
   have:=hz2 i (Ac _)
   have e:((i+1:Nat):Int)-1=(i:Int):=by omega
   rw[e];exact this) (fun j hj=>hz2 j (by omega)) (by
   have e:((i+1:Nat):Int)-1=(i:Int):=by omega
   rw[e];simp) (by
   have hnot:(⟨id,(i:Int)⟩:Chr)∉X++Y:=fun e=>hin _ e hc
   rw[AI]
   rw[AC]at hnot
   have hd:=Ff.1 hnd
   refine Ff.2 ⟨hd.1,IL.2 ⟨fun e=>hnot (.inr e),hd.2.1⟩,fun a ha b hb e=>?_⟩
   subst e
   rcases A7.1 hb with hb|hb
   ·exact hnot (.inl (hb▸ha))
   ·exact hd.2.2 a ha a hb rfl) (fun n hn=>hsit n (by omega)) (fun c hcm=>by
   rw[hN]
   split
   ·simp
   ·rename_i hne
    split
    ·simp
    ·refine hin c ?_
     simp only[AC,A7,List.not_mem_nil,or_false]at hcm⊢
     rcases hcm with(hcm|hcm)|hcm
     ·exact .inl hcm
     ·exact absurd hcm hne
     ·exact .inr hcm)
  refine⟨rk',by rw[show B+(k+1)=B+1+k by omega];exact h3,fun n hn=>?_⟩
  rw[h4 n (by omega)]
  rw[List.range'_succ]
  simp
theorem YL{t:YT}(hf:Dm t){A C:List Chr}{e:Chr}(h:(Bz t.row).map (·.c)=A++e::C):Dw t.row e=A.length:=by
 have hm:e∈(Bz t.row).map (·.c):=by rw[h];simp
 obtain⟨h1,h2⟩:=Qf hm
 have h3:((Bz t.row).map (·.c))[Dw t.row e]? =some e:=by rw[Ei];exact h2
 have h4:((Bz t.row).map (·.c))[A.length]? =some e:=by rw[h];simp
 obtain⟨i1,i2⟩:=AS.1 h3
 obtain⟨i3,i4⟩:=AS.1 h4
 exact(List.getElem_inj hf.nodup).1 (i2.trans i4.symm)
theorem Yg{α:Type}{X:List α}{e:α}(h:X.getLast? =some e):∃p,X=p++[e]:=by
 have hne:X≠ []:=fun e=>by rw[e]at h;cases h
 have h3:=aE hne
 rw[ar hne]at h
 cases h
 exact⟨_,h3.symm⟩
theorem Ye.ins{t:YT}(h:Ye t)(hf:Dm t)(hrow:Cm t.row){o:Op}(hok:o.ok=true)(hl:t.nodes o.left≠none)(hr:t.nodes o.right≠none)(hs:0<o.size)
  (hn:∀c:Chr,c.op=o.id→t.nodes c=none):Ye (Gv t o):=by
 obtain⟨rk,B,M,h,hin⟩:=h
 have hpe:=QA h hf hrow hok hl hr hs hn
 have hfl:=Oi hpe
 obtain⟨u,hu⟩:=LQ hl hr
 have hc:t.nodes ⟨o.id,0⟩=none:=hn _ rfl
 have hpos:=Md hu
 have hple:(BG t.nodes o).pos≤(u.side (BG t.nodes o).side).length:=by rw[hpos];exact H8 _ _
 have hzc:∀c:Chr,c.op=o.id→c≠ .z:=fun c hc e=>by
  obtain⟨z,hz,_⟩:=h.root
  have:=hn c hc
  rw[e,hz]at this;cases this
 have hside:(BG t.nodes o).up= .z→(BG t.nodes o).side=true:=by
  unfold BG
  simp only
  intro e
  cases hlf:(decide (o.right≠ .z)&&IJ t.nodes o.left o.right)with
  |false=>rfl
  |true=>
   rw[hlf,Ak rfl]at e
   simp only[AN,Au]at hlf
   exact absurd e hlf.1
 have hso:EU t.nodes (BG t.nodes o).up (BG t.nodes o).side=u.side (BG t.nodes o).side:=by unfold EU;rw[hu]
 have hsplit:∃X Y,(Bz t.row).map (·.c)=X++Y∧(C4 t (BG t.nodes o)).toNat=X.length∧∀n,B+2≤n→X3 n (sit t.nodes ⟨o.id,0⟩ (BG t.nodes o))=X++⟨o.id,0⟩::Y:=by
  have key:∀n,B+2≤n→∃X Y,(Bz t.row).map (·.c)=X++Y∧(C4 t (BG t.nodes o)).toNat=X.length∧X3 n (sit t.nodes ⟨o.id,0⟩ (BG t.nodes o))=X++⟨o.id,0⟩::Y:=fun n hnn=>by
   obtain⟨X,Y,e1,e2,e3⟩:=YE h hc hu (hzc _ rfl) hple hside n hnn (by rw[←hin n hnn];exact hf.nodup) (fun hz=>by
    rw[←hin n hnn];exact(hf.mem _).2 ⟨by rw[hu];simp,hz⟩)
   rw[←hin n hnn]at e1
   refine⟨X,Y,e1,?_,e2⟩
   have klast:∀e:Chr,X.getLast? =some e→Dw t.row e+1=X.length:=fun e he=>by
    obtain⟨p,rfl⟩:=Yg he
    rw[AI]at e1
    rw[YL hf e1];simp
   unfold XX at e3
   unfold C4
   rw[hso]
   split
   ·rename_i h0
    rw[Ak h0]at e3
    obtain⟨y,h1,h2⟩:=e3
    rw[aH,h1]
    have:=klast _ h2
    simp only[F5]
    omega
   ·rename_i h0
    rw[Ae h0]at e3
    split
    ·rename_i h1
     rw[Ak h1]at e3
     cases Y with
     |nil=>cases e3
     |cons b Y=>
      cases e3
      rw[YL hf e1];omega
    ·rename_i h1
     rw[Ae h1]at e3
     split
     ·rename_i h2
      rw[Ak h2]at e3
      rw[e3];rfl
     ·rename_i h2
      rw[Ae h2]at e3
      have:=klast _ e3
      omega
  obtain⟨X,Y,a1,a2,a3⟩:=key (B+2) (Ac _)
  refine⟨X,Y,a1,a2,fun n hnn=>?_⟩
  obtain⟨X',Y',b1,b2,b3⟩:=key n hnn
  have hx:X=X':=(List.append_inj (a1.symm.trans b1) (a2.symm.trans b2)).1
  have hy:Y=Y':=(List.append_inj (a1.symm.trans b1) (a2.symm.trans b2)).2
  rw[hx,hy];exact b3
 obtain⟨X,Y,e1,e2,e3⟩:=hsplit
 have hget:=fun x=>G9 (c:=⟨o.id,0⟩) hu x
 have hup:(BG t.nodes o).up≠⟨o.id,0⟩:=fun e=>by rw[e,hc]at hu;cases hu
 have h1:=Vf h (c:=⟨o.id,0⟩) hc hu hpos (fun x hx e=>by
  obtain⟨_,m,h2,_⟩:=h.down _ _ _ x hu hx
  rw[hn x e]at h2;cases h2)
 have hnotin:∀c:Chr,c.op=o.id→c∉X++Y:=fun c hco hm=>by
  rw[←e1]at hm
  exact((hf.mem c).1 hm).1 (hn c hco)
 have hnd:(X++[(⟨o.id,0⟩:Chr)]++Y).Nodup:=by
  have h0:=hf.nodup
  rw[e1]at h0
  have hnot:=hnotin ⟨o.id,0⟩ rfl
  rw[AI]
  rw[AC]at hnot
  have hd:=Ff.1 h0
  refine Ff.2 ⟨hd.1,IL.2 ⟨fun e=>hnot (.inr e),hd.2.1⟩,fun a ha b hb e=>?_⟩
  subst e
  rcases A7.1 hb with hb|hb
  ·exact hnot (.inl (hb▸ha))
  ·exact hd.2.2 a ha a hb rfl
 obtain⟨rk',h2,h3⟩:=Yt o.id (o.size-1) 1 _ _ (B+1) M (X++[(⟨o.id,0⟩:Chr)]) Y h1 ⟨⟨(BG t.nodes o).up,[],[]⟩,by rw[hget,Ak (by simp)],rfl⟩ (fun j hj=>by
  rw[hget,Ae (by simp<;>omega),Ae]
  ·exact hn _ rfl
  ·intro e
   rw[←e,hn _ rfl]at hu
   cases hu) (hzc _ rfl) (fun j _=>hzc _ rfl) (by simp) hnd (fun n hnn=>by rw[e3 n (by omega)];simp) (fun c hcm=>by
  rw[hget]
  split
  ·simp
  ·rename_i hne
   split
   ·simp
   ·have:c∈X++Y:=by
     simp only[AC,A7,List.not_mem_nil,or_false]at hcm⊢
     rcases hcm with(hcm|hcm)|hcm
     ·exact .inl hcm
     ·exact absurd hcm hne
     ·exact .inr hcm
    rw[←e1]at this
    exact((hf.mem c).1 this).1)
 refine⟨rk',B+1+(o.size-1),M+1,h2,fun n hnn=>?_⟩
 have hrowe:(Gv t o).row=Jq t.row (C4 t (BG t.nodes o)) (B0 o):=rfl
 have hnode:(Gv t o).nodes=Ez o.id 1 (o.size-1) (sit t.nodes ⟨o.id,0⟩ (BG t.nodes o)):=rfl
 rw[hrowe,hnode,h3 n hnn,hfl,e2]
 have ht:((Bz t.row).take X.length).map (·.c)=X:=by rw[List.map_take,e1];simp
 have hd:((Bz t.row).drop X.length).map (·.c)=Y:=by rw[List.map_drop,e1];simp
 have hi:(BF (B0 o)).map (·.c)=(⟨o.id,0⟩:Chr)::(List.range' 1 (o.size-1)).map fun j:Nat=>(⟨o.id,(j:Int)⟩:Chr):=by
  rw[Rh,(LU o).1,(LU o).2,MX hs]
  obtain⟨k,hk⟩:∃k,o.size=k+1:=⟨o.size-1,by omega⟩
  rw[hk,List.range'_succ]
  simp
 rw[Bo,Bo,ht,hd,hi]
 simp
end Dc
namespace Dc
open Off (Bid AV Bn DF)
/-- no run joins the one behind it; a mark stands alone -/
structure XV(l:Row):Prop where
 pos:∀r∈l,0<r.len∧(r.mark=true→r.len=1)
 apart:∀(i:Nat) (h:i+1<l.length),(l[i]'(by omega)).joins (l[i+1]'h)=false
theorem XV.nil:XV []:=⟨fun r hr=>(by cases hr),fun i h=>absurd h (aK _)⟩
theorem XV.tail{r:Run}{l:Row}(h:XV (r::l)):XV l:=
 ⟨fun q hq=>h.pos q (Ed _ hq),fun i hi=>h.apart (i+1) (by simpa using hi)⟩
theorem XV.snoc{X:Row}{r:Run}(h:XV X)(hr:0<r.len∧(r.mark=true→r.len=1))(hj:∀q,X.getLast? =some q→q.joins r=false):XV (X++[r]):=by
 refine⟨fun q hq=>?_,fun i hi=>?_⟩
 ·rcases AC.1 hq with hq|hq
  ·exact h.pos q hq
  ·rw[AU]at hq;rw[hq];exact hr
 ·simp only[Ai,List.length_singleton]at hi
  by_cases e:i+1<X.length
  ·rw[al (by omega),al e]
   exact h.apart i e
  ·have hlt:i<X.length:=by omega
   rw[al hlt,List.getElem_append_right (by omega)]
   have e2:X.getLast? =some (X[i]'hlt):=by
    rw[List.getLast?_eq_getElem?,show X.length-1=i by omega,Aj hlt]
   simpa using hj _ e2
theorem XV.init{X:Row}{r:Run}(h:XV (X++[r])):XV X∧∀q,X.getLast? =some q→q.joins r=false:=by
 refine⟨⟨fun q hq=>h.pos q (ai _ hq),fun i hi=>?_⟩,fun q hq=>?_⟩
 ·have:=h.apart i (by simp;omega)
  rw[al (by omega),al hi]at this
  exact this
 ·obtain⟨p,rfl⟩:=Yg hq
  have:=h.apart p.length (by simp)
  simpa using this
theorem Yu{out:Row}{r:Run}(h:XV out)(hr:0<r.len∧(r.mark=true→r.len=1)):XV (B6 out r):=by
 unfold B6
 cases hq:out.getLast? with
 |none=>exact XV.snoc XV.nil hr fun q hq=>by cases hq
 |some q=>
  simp only
  obtain⟨X,rfl⟩:=Yg hq
  obtain⟨h1,h2⟩:=h.init
  split
  ·rename_i hj
   obtain⟨j1,j2,j3,j4,j5⟩:=KU.1 hj
   rw[List.dropLast_concat]
   refine h1.snoc ⟨?_,fun e=>?_⟩ fun p hp=>?_
   ·have:=hr.1
    unfold Run.len at*
    simp only[Ai];omega
   ·have:q.mark=true:=e
    rw[j4]at this;cases this
   ·have h3:=h2 p hp
    unfold Run.joins Run.len at*
    exact h3
  ·rename_i hj
   refine h.snoc hr fun p hp=>?_
   rw[hq]at hp
   cases hp
   simpa using hj
theorem Yp:∀(l out:Row),(∀r∈l,0<r.len∧(r.mark=true→r.len=1))→XV out→XV (l.foldl B6 out)
 |[],_,_,h=>h
 |r::l,_,hl,h=>Yp l _ (fun q hq=>hl q (by simp[hq])) (Yu h (hl r (by simp)))
theorem Yo{l:Row}(h:∀r∈l,0<r.len∧(r.mark=true→r.len=1)):XV (ID l):=Yp l [] h .nil
theorem X2{r:Run}{j:Nat}(hj:j<r.len):(BF r)[j]? =some ⟨⟨r.op,((r.fr+j:Nat):Int)⟩,r.gone,r.mark,r.text[j]'hj⟩:=Ea _ _ _ _ _ j hj
/-- the shorter of two heads would be joined to what is behind it -/
theorem YB{r r':Run}{l l':Row}(h:XV (r::l))(h':XV (r'::l'))(e:BF r++Bz l=BF r'++Bz l')(hlt:r.len<r'.len):False:=by
 have p:=(h.pos r (by simp)).1
 have p':=h'.pos r' (by simp)
 have g0:(BF r++Bz l)[0]? =(BF r'++Bz l')[0]? :=by rw[e]
 have gn:(BF r++Bz l)[r.len]? =(BF r'++Bz l')[r.len]? :=by rw[e]
 rw[av (by rw[CV];exact p),av (by rw[CV];exact p'.1),X2 p,X2 p'.1]at g0
 rw[List.getElem?_append_right (by rw[CV];exact Ac _),CV,Nat.sub_self,av (by rw[CV];exact hlt),X2 hlt]at gn
 cases l with
 |nil=>simp[Bz]at gn
 |cons q l=>
  have pq:=(h.pos q (by simp)).1
  rw[BL,av (by rw[CV];exact pq),X2 pq]at gn
  simp only[AZ,RC.mk.injEq,Chr.mk.injEq]at g0 gn
  have hj:=h.apart 0 (by simp)
  simp only[List.getElem_cons_zero,List.getElem_cons_succ]at hj
  have hm':r'.mark=false:=by
   cases hm:r'.mark with
   |false=>rfl
   |true=>have:=p'.2 hm;omega
  have:r.joins q=true:=KU.2 ⟨by rw[g0.1.1,gn.1.1],by have h1:=g0.1.2;have h2:=gn.1.2;omega,by rw[g0.2.1,gn.2.1],by rw[g0.2.2.1];exact hm',by rw[gn.2.2.1];exact hm'⟩
  rw[this]at hj;cases hj
theorem Zj{r r':Run}(hp:0<r.len)(hl:r.len=r'.len)(e:BF r=BF r'):r=r':=by
 have g0:(BF r)[0]? =(BF r')[0]? :=by rw[e]
 rw[X2 hp,X2 (hl▸hp)]at g0
 simp only[AZ,RC.mk.injEq,Chr.mk.injEq]at g0
 have ht:r.text=r'.text:=by
  refine List.ext_getElem hl fun j h1 h2=>?_
  have gj:(BF r)[j]? =(BF r')[j]? :=by rw[e]
  rw[X2 h1,X2 h2]at gj
  simp only[AZ,RC.mk.injEq]at gj
  exact gj.2.2.2
 cases r;cases r'
 simp only[Run.mk.injEq]at*
 exact⟨g0.1.1,by have:=g0.1.2;omega,g0.2.1,g0.2.2.1,ht⟩
theorem Yl:∀{l l':Row},XV l→XV l'→Bz l=Bz l'→l=l'
 |[],[],_,_,_=>rfl
 |[],r::l',_,h',e=>by
  have p:=(h'.pos r (by simp)).1
  have:=congrArg List.length e
  rw[BL,Ai,CV]at this
  simp[Bz]at this
  omega
 |r::l,[],h,_,e=>by
  have p:=(h.pos r (by simp)).1
  have:=congrArg List.length e
  rw[BL,Ai,CV]at this
  simp[Bz]at this
  omega
 |r::l,r'::l',h,h',e=>by
  rw[BL,BL]at e
  have hl:r.len=r'.len:=by
   rcases Nat.lt_trichotomy r.len r'.len with hlt|heq|hgt
   ·exact(YB h h' e hlt).elim
   ·exact heq
   ·exact(YB h' h e.symm hgt).elim
  obtain⟨e1,e2⟩:=List.append_inj e (by rw[CV,CV];exact hl)
  rw[Zj (h.pos r (by simp)).1 hl e1,Yl h.tail h'.tail e2]
def Ya(r:Run):Prop:=0<r.len∧(r.mark=true→r.len=1)
theorem YQ{r:Run}{n:Nat}(h:n≤r.len):(r.left n).len=n:=by
 unfold Run.left Run.len at*
 simp only[Ad];omega
theorem YF(r:Run)(n:Nat):(r.right n).len=r.len-n:=by
 unfold Run.right Run.len
 simp only[Am]
theorem Ya.left{r:Run}{n:Nat}(h:Ya r)(h0:0<n)(h1:n<r.len):Ya (r.left n):=by
 have e:=YQ (r:=r) (n:=n) (by omega)
 refine⟨by omega,fun hm=>?_⟩
 have:r.mark=true:=hm
 have:=h.2 this
 omega
theorem Ya.right{r:Run}{n:Nat}(h:Ya r)(h1:n<r.len):Ya (r.right n):=by
 have e:=YF r n
 refine⟨by omega,fun hm=>?_⟩
 have:r.mark=true:=hm
 have:=h.2 this
 omega
theorem Yf:∀{l:Row} {k:Nat},(∀r∈l,Ya r)→∀r∈(Bw l k).1,Ya r
 |[],_,_,r,hr=>by unfold Bw at hr;cases hr
 |q::l,k,h,r,hr=>by
  unfold Bw at hr
  split at hr
  ·exact h r hr
  ·split at hr
   ·rename_i h1 h2
    simp only[A7]at hr
    have hq:=h q (by simp)
    rcases hr with rfl|rfl|hr
    ·exact hq.left (by omega) h2
    ·exact hq.right h2
    ·exact h r (by simp[hr])
   ·simp only[A7]at hr
    rcases hr with rfl|hr
    ·exact h r (by simp)
    ·exact Yf (fun x hx=>h x (by simp[hx])) r hr
theorem Ze{l:Row}{k:Int}{x:Run}(h:XV l)(hx:Ya x):XV (Jq l k x):=by
 unfold Jq
 split
 ·exact h
 ·refine Yo fun r hr=>?_
  unfold Ax at hr
  rcases AC.1 hr with hr|hr
  ·exact Yf h.pos r (ap hr)
  ·rcases A7.1 hr with rfl|hr
   ·exact hx
   ·exact Yf h.pos r (BC hr)
theorem YU{r:Run}(h:Ya r)(c:Cut):∀q∈(DR r c).1,Ya q:=by
 intro q hq
 unfold DR at hq
 simp only at hq
 split at hq
 ·simp only[AU]at hq;rw[hq];exact h
 ·rename_i hno
  have h1:max c.fr (r.fr:Int)<min c.to ((r.fr:Int)+r.len):=by omega
  have hb:min c.to ((r.fr:Int)+r.len)≤(r.fr:Int)+r.len:=Int.min_le_right _ _
  have ha:(r.fr:Int)≤max c.fr r.fr:=Int.le_max_right _ _
  generalize max c.fr (r.fr:Int)=a at*
  generalize min c.to ((r.fr:Int)+r.len)=b at*
  simp only[AC,A7]at hq
  rcases hq with hq|rfl|hq
  ·split at hq
   ·rw[AU]at hq
    rw[hq]
    exact h.left (by omega) (by omega)
   ·cases hq
  ·have e1:(r.left (b-r.fr).toNat).len=(b-r.fr).toNat:=YQ (by omega)
   have e2:=YF (r.left (b-r.fr).toNat) (a-r.fr).toNat
   refine⟨?_,fun hm=>?_⟩
   ·show 0<((r.left (b-r.fr).toNat).right (a-r.fr).toNat).len
    omega
   ·have:r.mark=true:=hm
    have:=h.2 this
    show((r.left (b-r.fr).toNat).right (a-r.fr).toNat).len=1
    omega
  ·split at hq
   ·rw[AU]at hq
    rw[hq]
    exact h.right (by omega)
   ·cases hq
theorem Zl{l:Row}(h:XV l)(c:Cut):XV (NZ l c):=by
 unfold NZ
 refine Yo fun r hr=>?_
 obtain⟨q,hq,hr⟩:=Ba.1 hr
 exact YU (h.pos q hq) c r hr
theorem Zg{o:Op}(hs:0<o.size):Ya (B0 o):=by
 have h1:=MX hs
 refine⟨by omega,fun hm=>?_⟩
 rw[h1]
 unfold B0 at hm
 unfold Op.size
 split at hm
 ·rename_i h5
  rw[Ae (by rw[h5];decide),Ak h5]
 ·cases hm
theorem Zh{t:YT}{o:Op}(h:XV t.row)(hs:0<o.size):XV (Gv t o).row:=Ze h (Zg hs)
end Dc
namespace Dc
open Off (Bid AV Bn DF)
noncomputable def lfO(N:C5)(o:Op):Bool:=decide (o.right≠ .z)&&IJ N o.left o.right
noncomputable def upO(N:C5)(o:Op):Chr:=if lfO N o=true then o.right else o.left
/-- x is a character of these ops, below c at the side s -/
def X1(ops:List Op)(seg:Bid)(N:C5)(c:Chr)(s:Bool)(x:Chr):Prop:=
 ∃o∈ops,o.seg=seg∧0<o.size∧x.op=o.id∧(x.i=0∧s= !lfO N o∧c=upO N o∨0<x.i∧x.i<o.size∧s=true∧c=⟨o.id,x.i-1⟩)
structure XS(ops:List Op)(seg:Bid)(N:C5):Prop where
 dom:∀c,N c≠none↔c= .z∨∃o∈ops,o.seg=seg∧c.op=o.id∧0≤c.i∧c.i<o.size
 mem:∀c n s x,N c=some n→(x∈n.side s↔X1 ops seg N c s x)
 up:∀x m,N x=some m→x≠ .z→∃s,X1 ops seg N m.up s x
 refs:∀o∈ops,o.seg=seg→0<o.size→N o.left≠none∧N o.right≠none
 zup:∀n,N .z=some n→n.up= .z
/-- more nodes, the old ones below the same ones -/
def Ext(N N':C5):Prop:=∀b n,N b=some n→∃n',N' b=some n'∧n'.up=n.up
theorem Ext.abv{N N':C5}(h:Ext N N')(hup:∀c n,N c=some n→N n.up≠none){a b:Chr}(hb:N b≠none):Abv N' a b↔Abv N a b:=by
 constructor
 ·intro h1
  induction h1 with
  |one e1 e2 e3=>
   obtain⟨n,hn⟩:=BQ.1 hb
   obtain⟨n',h2,h3⟩:=h _ n hn
   rw[h2]at e1;cases e1
   exact .one hn e2 (h3▸e3)
  |more e1 e2 _ ih=>
   obtain⟨n,hn⟩:=BQ.1 hb
   obtain⟨n',h2,h3⟩:=h _ n hn
   rw[h2]at e1;cases e1
   rw[h3]at ih
   exact .more hn e2 (ih (hup _ n hn))
 ·intro h1
  clear hb
  induction h1 with
  |one e1 e2 e3=>
   obtain⟨n',h2,h3⟩:=h _ _ e1
   exact .one h2 e2 (h3.trans e3)
  |more e1 e2 _ ih=>
   obtain⟨n',h2,h3⟩:=h _ _ e1
   exact .more h2 e2 (h3▸ih)
theorem Ext.above{N N':C5}(h:Ext N N')(hup:∀c n,N c=some n→N n.up≠none)(a:Chr){b:Chr}(hb:N b≠none):IJ N' a b=IJ N a b:=by
 unfold Dc.IJ
 rw[decide_eq_decide]
 exact h.abv hup hb
theorem Ext.lf{N N':C5}(h:Ext N N')(hup:∀c n,N c=some n→N n.up≠none){o:Op}(hb:N o.right≠none):lfO N' o=lfO N o∧upO N' o=upO N o:=by
 have e:lfO N' o=lfO N o:=by unfold lfO;rw[h.above hup o.left hb]
 exact⟨e,by unfold upO;rw[e]⟩
theorem Ext.trans{N N' N'':C5}(h:Ext N N')(h':Ext N' N''):Ext N N'':=fun b n hn=>by
 obtain⟨n',h1,h2⟩:=h b n hn
 obtain⟨n'',h3,h4⟩:=h' b n' h1
 exact⟨n'',h3,h4.trans h2⟩
theorem Zs{N:C5}{c:Chr}{s:Kv}{u:CP}(hc:N c=none)(hu:N s.up=some u):Ext N (sit N c s):=fun b n hn=>by
 rw[G9 hu]
 have h1:b≠c:=fun e=>by rw[e,hc]at hn;cases hn
 rw[Ae h1]
 split
 ·rename_i h2
  rw[h2,hu]at hn;cases hn
  exact⟨_,rfl,CP.put_up _ _ _ _⟩
 ·exact⟨n,hn,rfl⟩
/-- what one more character makes of the sides -/
theorem Zn{N:C5}{c:Chr}{s:Kv}{u:CP}(hc:N c=none)(hu:N s.up=some u)(y:Chr)(n:CP)(hy:sit N c s y=some n)(t:Bool)(x:Chr):
  x∈n.side t↔(∃m,N y=some m∧x∈m.side t)∨(x=c∧y=s.up∧t=s.side):=by
 rw[G9 hu]at hy
 have huc:s.up≠c:=fun e=>by rw[e,hc]at hu;cases hu
 split at hy
 ·rename_i h1
  cases hy
  constructor
  ·intro h;cases t<;>cases h
  ·rintro(⟨m,hm,_⟩|⟨_,h2,_⟩)
   ·rw[h1,hc]at hm;cases hm
   ·exact absurd (h2.symm.trans h1) huc
 ·split at hy
  ·rename_i h1 h2
   cases hy
   rw[CP.put_side]
   by_cases ht:t=s.side
   ·rw[Ak ht,ht]
    unfold Ax
    rw[AC,A7]
    constructor
    ·rintro(h|h|h)
     ·exact .inl ⟨u,by rw[h2];exact hu,ap h⟩
     ·exact .inr ⟨h,h2,rfl⟩
     ·exact .inl ⟨u,by rw[h2];exact hu,BC h⟩
    ·rintro(⟨m,hm,h⟩|⟨h,_⟩)
     ·rw[h2,hu]at hm;cases hm
      have h3:x∈(u.side s.side).take s.pos++(u.side s.side).drop s.pos:=by rw[A9];exact h
      rcases AC.1 h3 with h4|h4
      ·exact .inl h4
      ·exact .inr (.inr h4)
     ·exact .inr (.inl h)
   ·rw[Ae ht]
    constructor
    ·intro h;exact .inl ⟨u,by rw[h2];exact hu,h⟩
    ·rintro(⟨m,hm,h⟩|⟨_,_,h⟩)
     ·rw[h2,hu]at hm;cases hm;exact h
     ·exact absurd h ht
  ·rename_i h1 h2
   constructor
   ·intro h;exact .inl ⟨n,hy,h⟩
   ·rintro(⟨m,hm,h⟩|⟨_,h,_⟩)
    ·rw[hy]at hm;cases hm;exact h
    ·exact absurd h h2
/-- the first k characters of the op o, below c at the side s -/
def YG(o:Op)(N:C5)(k:Nat)(c:Chr)(s:Bool)(x:Chr):Prop:=
 x.op=o.id∧0≤x.i∧x.i<k∧(x.i=0∧s= !lfO N o∧c=upO N o∨0<x.i∧s=true∧c=⟨o.id,x.i-1⟩)
structure XU(ops:List Op)(seg:Bid)(o:Op)(k:Nat)(N:C5):Prop where
 dom:∀c,N c≠none↔(c= .z∨∃p∈ops,p.seg=seg∧c.op=p.id∧0≤c.i∧c.i<p.size)∨c.op=o.id∧0≤c.i∧c.i<k
 mem:∀c n s x,N c=some n→(x∈n.side s↔X1 ops seg N c s x∨YG o N k c s x)
 up:∀x m,N x=some m→x≠ .z→∃s,X1 ops seg N m.up s x∨YG o N k m.up s x
 refs:∀p∈ops,p.seg=seg→0<p.size→N p.left≠none∧N p.right≠none
 oref:N o.left≠none∧N o.right≠none
 zup:∀n,N .z=some n→n.up= .z
theorem XS.start{ops:List Op}{seg:Bid}{N:C5}(h:XS ops seg N){o:Op}(ho:N o.left≠none∧N o.right≠none):XU ops seg o 0 N:=
 ⟨fun c=>by rw[h.dom c];exact⟨.inl,fun e=>e.elim id fun e=>by omega⟩,
  fun c n s x hn=>by rw[h.mem c n s x hn];exact⟨.inl,fun e=>e.elim id fun e=>by have:=e.2.2.1;have:=e.2.1;omega⟩,
  fun x m hx hz=>by obtain⟨s,hs⟩:=h.up x m hx hz;exact⟨s,.inl hs⟩,h.refs,ho,h.zup⟩
theorem XU.stop{ops:List Op}{seg:Bid}{o:Op}{N:C5}(h:XU ops seg o o.size N)(hseg:o.seg=seg)(hs:0<o.size):XS (ops++[o]) seg N:=by
 have hc:∀c s x,X1 (ops++[o]) seg N c s x↔X1 ops seg N c s x∨YG o N o.size c s x:=fun c s x=>by
  constructor
  ·rintro⟨p,hp,h1,h2,h3,h4⟩
   rcases AC.1 hp with hp|hp
   ·exact .inl ⟨p,hp,h1,h2,h3,h4⟩
   ·rw[AU]at hp;subst hp
    refine .inr ⟨h3,?_,?_,?_⟩
    ·rcases h4 with h4|h4<;>omega
    ·rcases h4 with h4|h4<;>omega
    ·rcases h4 with h4|h4
     ·exact .inl h4
     ·exact .inr ⟨h4.1,h4.2.2⟩
  ·rintro(⟨p,hp,h1⟩|⟨h1,h2,h3,h4⟩)
   ·exact⟨p,ai _ hp,h1⟩
   ·refine⟨o,by simp,hseg,hs,h1,?_⟩
    rcases h4 with h4|h4
    ·exact .inl h4
    ·exact .inr ⟨h4.1,h3,h4.2⟩
 refine⟨fun c=>?_,fun c n s x hn=>by rw[h.mem c n s x hn,hc],fun x m hx hz=>?_,fun p hp h1 h2=>?_,h.zup⟩
 ·rw[h.dom c]
  constructor
  ·rintro((h1|⟨p,hp,h1⟩)|h1)
   ·exact .inl h1
   ·exact .inr ⟨p,ai _ hp,h1⟩
   ·exact .inr ⟨o,by simp,hseg,h1⟩
  ·rintro(h1|⟨p,hp,h1,h2⟩)
   ·exact .inl (.inl h1)
   ·rcases AC.1 hp with hp|hp
    ·exact .inl (.inr ⟨p,hp,h1,h2⟩)
    ·rw[AU]at hp;subst hp
     exact .inr h2
 ·obtain⟨s,hs'⟩:=h.up x m hx hz
  exact⟨s,(hc _ _ _).2 hs'⟩
 ·rcases AC.1 hp with hp|hp
  ·exact h.refs p hp h1 h2
  ·rw[AU]at hp;subst hp
   exact h.oref
/-- one character more -/
theorem XU.sit{ops:List Op}{seg:Bid}{o:Op}{k:Nat}{N:C5}(h:XU ops seg o k N)(hup:∀c n,N c=some n→N n.up≠none)(hfr:∀p∈ops,p.id≠o.id)(hz:(⟨o.id,(k:Int)⟩:Chr)≠ .z)
  {s:Kv}{u:CP}(hu:N s.up=some u)(h0:k=0→s.up=upO N o∧s.side= !lfO N o)(h1:0<k→s.up=⟨o.id,(k:Int)-1⟩∧s.side=true):XU ops seg o (k+1) (sit N ⟨o.id,(k:Int)⟩ s):=by
 have hc:N ⟨o.id,(k:Int)⟩=none:=by
  cases e:N ⟨o.id,(k:Int)⟩with
  |none=>rfl
  |some n=>
   rcases(h.dom _).1 (by rw[e];simp)with(e1|⟨p,hp,_,h2,_⟩)|⟨_,_,h3⟩
   ·exact absurd e1 hz
   ·exact absurd h2.symm (hfr p hp)
   ·simp only at h3;omega
 have hx:=Zs hc hu
 have hlf:∀p∈ops,p.seg=seg→0<p.size→lfO (Dc.sit N ⟨o.id,(k:Int)⟩ s) p=lfO N p∧upO (Dc.sit N ⟨o.id,(k:Int)⟩ s) p=upO N p:=fun p hp e1 e2=>hx.lf hup (h.refs p hp e1 e2).2
 have hlo:=hx.lf hup h.oref.2
 have hch:∀c s' x,X1 ops seg (Dc.sit N ⟨o.id,(k:Int)⟩ s) c s' x↔X1 ops seg N c s' x:=fun c s' x=>by
  constructor
  ·rintro⟨p,hp,e1,e2,e3,e4⟩
   rw[(hlf p hp e1 e2).1,(hlf p hp e1 e2).2]at e4
   exact⟨p,hp,e1,e2,e3,e4⟩
  ·rintro⟨p,hp,e1,e2,e3,e4⟩
   refine⟨p,hp,e1,e2,e3,?_⟩
   rw[(hlf p hp e1 e2).1,(hlf p hp e1 e2).2]
   exact e4
 have hpa:∀c s' x,YG o (Dc.sit N ⟨o.id,(k:Int)⟩ s) (k+1) c s' x↔YG o N k c s' x∨(x=⟨o.id,(k:Int)⟩∧c=s.up∧s'=s.side):=fun c s' x=>by
  unfold YG
  rw[hlo.1,hlo.2]
  constructor
  ·rintro⟨e1,e2,e3,e4⟩
   by_cases hk:x.i=k
   ·right
    refine⟨by cases x;simp only at*;subst e1;subst hk;rfl,?_⟩
    rcases e4 with⟨e5,e6,e7⟩|⟨e5,e6,e7⟩
    ·obtain⟨a1,a2⟩:=h0 (by omega)
     exact⟨e7.trans a1.symm,e6.trans a2.symm⟩
    ·obtain⟨a1,a2⟩:=h1 (by omega)
     exact⟨by rw[e7,a1,hk],e6.trans a2.symm⟩
   ·exact .inl ⟨e1,e2,by omega,e4⟩
  ·rintro(⟨e1,e2,e3,e4⟩|⟨rfl,rfl,rfl⟩)
   ·exact⟨e1,e2,by omega,e4⟩
   ·refine⟨rfl,by simp,by simp;omega,?_⟩
    by_cases hk:k=0
    ·obtain⟨a1,a2⟩:=h0 hk
     exact .inl ⟨by simp[hk],a2,a1⟩
    ·obtain⟨a1,a2⟩:=h1 (by omega)
     exact .inr ⟨by simp;omega,a2,a1⟩
 refine⟨fun c=>?_,fun c n s' x hn=>?_,fun x m hm hxz=>?_,fun p hp e1 e2=>?_,?_,fun n hn=>?_⟩
 ·rw[G9 hu]
  constructor
  ·intro e
   split at e
   ·rename_i e1
    rw[e1]
    exact .inr ⟨rfl,by simp,by simp;omega⟩
   ·have:N c≠none:=by
     split at e
     ·rename_i e2;rw[e2,hu];simp
     ·exact e
    rcases(h.dom c).1 this with e3|⟨e3,e4,e5⟩
    ·exact .inl e3
    ·exact .inr ⟨e3,e4,by omega⟩
  ·intro e
   split
   ·simp
   ·rename_i hne
    split
    ·simp
    ·refine(h.dom c).2 ?_
     rcases e with e|⟨e1,e2,e3⟩
     ·exact .inl e
     ·refine .inr ⟨e1,e2,?_⟩
      have:c.i≠k:=fun e=>hne (by cases c;simp only at*;subst e1;subst e;rfl)
      omega
 ·rw[Zn hc hu c n hn,hch,hpa]
  constructor
  ·rintro(⟨m,hm,hxm⟩|e)
   ·rcases(h.mem c m s' x hm).1 hxm with e|e
    ·exact .inl e
    ·exact .inr (.inl e)
   ·exact .inr (.inr e)
  ·rintro(e|e|e)
   ·have hcd:N c≠none:=by
     obtain⟨p,hp,e1,e2,e3,e4⟩:=e
     rcases e4 with⟨_,_,e5⟩|⟨e5,e6,_,e7⟩
     ·rw[e5]
      unfold upO
      split
      ·exact(h.refs p hp e1 e2).2
      ·exact(h.refs p hp e1 e2).1
     ·rw[e7]
      exact(h.dom _).2 (.inl (.inr ⟨p,hp,e1,rfl,by simp only;omega,by simp only;omega⟩))
    obtain⟨m,hm⟩:=BQ.1 hcd
    exact .inl ⟨m,hm,(h.mem c m s' x hm).2 (.inl e)⟩
   ·have hcd:N c≠none:=by
     obtain⟨e1,e2,e3,e4⟩:=e
     rcases e4 with⟨_,_,e5⟩|⟨e5,_,e7⟩
     ·rw[e5]
      unfold upO
      split
      ·exact h.oref.2
      ·exact h.oref.1
     ·rw[e7]
      exact(h.dom _).2 (.inr ⟨rfl,by simp only;omega,by simp only;omega⟩)
    obtain⟨m,hm⟩:=BQ.1 hcd
    exact .inl ⟨m,hm,(h.mem c m s' x hm).2 (.inr e)⟩
   ·exact .inr e
 ·rw[G9 hu]at hm
  split at hm
  ·rename_i e1
   cases hm
   exact⟨s.side,.inr ((hpa _ _ _).2 (.inr ⟨e1,rfl,rfl⟩))⟩
  ·have:∃m0,N x=some m0∧m0.up=m.up:=by
    split at hm
    ·rename_i e2
     cases hm
     exact⟨u,by rw[e2];exact hu,(CP.put_up _ _ _ _).symm⟩
    ·exact⟨m,hm,rfl⟩
   obtain⟨m0,hm0,e0⟩:=this
   obtain⟨s',hs'⟩:=h.up x m0 hm0 hxz
   rw[e0]at hs'
   rcases hs' with e|e
   ·exact⟨s',.inl ((hch _ _ _).2 e)⟩
   ·exact⟨s',.inr ((hpa _ _ _).2 (.inl e))⟩
 ·have hr:=h.refs p hp e1 e2
  constructor
  ·obtain⟨n,hn⟩:=BQ.1 hr.1
   obtain⟨n',hn',_⟩:=hx _ _ hn
   rw[hn'];simp
  ·obtain⟨n,hn⟩:=BQ.1 hr.2
   obtain⟨n',hn',_⟩:=hx _ _ hn
   rw[hn'];simp
 ·constructor
  ·obtain⟨n,hn⟩:=BQ.1 h.oref.1
   obtain⟨n',hn',_⟩:=hx _ _ hn
   rw[hn'];simp
  ·obtain⟨n,hn⟩:=BQ.1 h.oref.2
   obtain⟨n',hn',_⟩:=hx _ _ hn
   rw[hn'];simp
 ·rw[G9 hu,Ae (Ne.symm hz)]at hn
  split at hn
  ·rename_i e
   cases hn
   rw[CP.put_up]
   exact h.zup u (by rw[e];exact hu)
  ·exact h.zup n hn
theorem XU.closed{ops:List Op}{seg:Bid}{o:Op}{k:Nat}{N:C5}(h:XU ops seg o k N)(c:Chr)(n:CP)(hn:N c=some n):N n.up≠none:=by
 by_cases hz:c= .z
 ·rw[h.zup n (hz▸hn),←hz,hn];simp
 ·obtain⟨s,e|e⟩:=h.up c n hn hz
  ·obtain⟨p,hp,e1,e2,e3,e4⟩:=e
   rcases e4 with⟨_,_,e5⟩|⟨e5,e6,_,e7⟩
   ·rw[e5]
    unfold upO
    split
    ·exact(h.refs p hp e1 e2).2
    ·exact(h.refs p hp e1 e2).1
   ·rw[e7]
    exact(h.dom _).2 (.inl (.inr ⟨p,hp,e1,rfl,by simp only;omega,by simp only;omega⟩))
  ·obtain⟨e1,e2,e3,e4⟩:=e
   rcases e4 with⟨_,_,e5⟩|⟨e5,_,e7⟩
   ·rw[e5]
    unfold upO
    split
    ·exact h.oref.2
    ·exact h.oref.1
   ·rw[e7]
    exact(h.dom _).2 (.inr ⟨rfl,by simp only;omega,by simp only;omega⟩)
theorem XU.rest{ops:List Op}{seg:Bid}{o:Op}(hfr:∀p∈ops,p.id≠o.id)(hz:∀k:Nat,(⟨o.id,(k:Int)⟩:Chr)≠ .z):∀(k i:Nat) (N:C5),0<i→XU ops seg o i N→XU ops seg o (i+k) (Ez o.id i k N)
 |0,_,_,_,h=>h
 |k+1,i,N,hi,h=>by
  rw[Ez]
  have hd:N ⟨o.id,(i:Int)-1⟩≠none:=(h.dom _).2 (.inr ⟨rfl,by simp only;omega,by simp only;omega⟩)
  obtain⟨u,hu⟩:=BQ.1 hd
  have h1:=h.sit h.closed hfr (hz i) (s:=⟨⟨o.id,(i:Int)-1⟩,true,0⟩) hu (fun e=>by omega) (fun _=>⟨rfl,rfl⟩)
  have h2:=XU.rest hfr hz k (i+1) _ (by omega) h1
  rw[show i+1+k=i+(k+1)by omega]at h2
  exact h2
theorem XS.ins{ops:List Op}{seg:Bid}{t:YT}(h:XS ops seg t.nodes){o:Op}(hl:t.nodes o.left≠none)(hr:t.nodes o.right≠none)(hs:0<o.size)(hseg:o.seg=seg)(hfr:∀p∈ops,p.id≠o.id)(hz:∀k:Nat,(⟨o.id,(k:Int)⟩:Chr)≠ .z):
  XS (ops++[o]) seg (Gv t o).nodes:=by
 have h0:=h.start ⟨hl,hr⟩
 obtain⟨u,hu⟩:=LQ hl hr
 have h1:=h0.sit h0.closed hfr (hz 0) hu (fun _=>⟨rfl,rfl⟩) (fun e=>absurd e (GB _))
 have h2:=XU.rest hfr hz (o.size-1) 1 _ (by omega) h1
 rw[show 1+(o.size-1)=o.size by omega]at h2
 exact h2.stop hseg hs
/-- an op that lays no characters here -/
theorem XS.skip{ops:List Op}{seg:Bid}{N:C5}(h:XS ops seg N){o:Op}(ho:o.size=0∨o.seg≠seg):XS (ops++[o]) seg N:=by
 have hno:∀P:Prop,(o.seg=seg∧0<o.size∧P)→False:=fun P e=>by
  rcases ho with h1|h1
  ·omega
  ·exact h1 e.1
 have hc:∀c s x,X1 (ops++[o]) seg N c s x↔X1 ops seg N c s x:=fun c s x=>by
  constructor
  ·rintro⟨p,hp,h1,h2,h3⟩
   rcases AC.1 hp with hp|hp
   ·exact⟨p,hp,h1,h2,h3⟩
   ·rw[AU]at hp;subst hp
    exact(hno True ⟨h1,h2,trivial⟩).elim
  ·rintro⟨p,hp,h1⟩
   exact⟨p,ai _ hp,h1⟩
 refine⟨fun c=>?_,fun c n s x hn=>by rw[h.mem c n s x hn,hc],fun x m hx hz=>?_,fun p hp h1 h2=>?_,h.zup⟩
 ·rw[h.dom c]
  constructor
  ·rintro(h1|⟨p,hp,h1⟩)
   ·exact .inl h1
   ·exact .inr ⟨p,ai _ hp,h1⟩
  ·rintro(h1|⟨p,hp,h1,h2,h3,h4⟩)
   ·exact .inl h1
   ·rcases AC.1 hp with hp|hp
    ·exact .inr ⟨p,hp,h1,h2,h3,h4⟩
    ·rw[AU]at hp;subst hp
     exact(hno True ⟨h1,by omega,trivial⟩).elim
 ·obtain⟨s,hs⟩:=h.up x m hx hz
  exact⟨s,(hc _ _ _).2 hs⟩
 ·rcases AC.1 hp with hp|hp
  ·exact h.refs p hp h1 h2
  ·rw[AU]at hp;subst hp
   exact(hno True ⟨h1,h2,trivial⟩).elim
theorem XS.new{ops:List Op}{seg:Bid}(h:∀o∈ops,o.seg=seg→o.size=0):XS ops seg YT.new.nodes:=by
 have hn:∀c n,YT.new.nodes c=some n→c= .z∧n=⟨.z,[],[]⟩:=by
  intro c n e
  unfold YT.new at e
  simp only at e
  split at e
  ·cases e;exact⟨by assumption,rfl⟩
  ·cases e
 refine⟨fun c=>?_,fun c n s x e=>?_,fun x m e hz=>absurd (hn x m e).1 hz,fun p hp h1 h2=>by have:=h p hp h1;omega,fun n e=>by rw[(hn _ _ e).2]⟩
 ·constructor
  ·intro e
   obtain⟨n,e⟩:=BQ.1 e
   exact .inl (hn c n e).1
  ·rintro(e|⟨p,hp,h1,_,h3,h4⟩)
   ·rw[e];simp[YT.new]
   ·have:=h p hp h1;omega
 ·rw[(hn c n e).2]
  constructor
  ·intro h1;cases s<;>cases h1
  ·rintro⟨p,hp,h1,h2,_⟩
   have:=h p hp h1;omega
/-- what an op hangs on was done ahead of it -/
def Yq(ops:List Op):Prop:=∀(i:Nat) (hi:i<ops.length),0<(ops[i]'hi).size→
 ((ops[i]'hi).left= .z∨∃j,∃hj:j<i,(ops[j]'(by omega)).id=(ops[i]'hi).left.op)∧((ops[i]'hi).right= .z∨∃j,∃hj:j<i,(ops[j]'(by omega)).id=(ops[i]'hi).right.op)
def Za(ops:List Op):Prop:=∀o∈ops,∀p∈ops,o.id=p.id→o=p
section
variable {ops ops':List Op} {seg:Bid} {N N':C5}
def Zr(ops:List Op)(i:Nat)(b:Chr):Prop:=b= .z∨∃j,∃hj:j<ops.length,j<i∧(ops[j]'hj).id=b.op
theorem Yj(h:XS ops seg N)(h':XS ops' seg N')(hm:∀o,o∈ops'↔o∈ops)(hu:Za ops)(he:Yq ops){i:Nat}(hA:∀(j:Nat) (hj:j<ops.length),j<i→lfO N (ops[j]'hj)=lfO N' (ops[j]'hj))
  {b:Chr}(hb:Zr ops i b){n n':CP}(hn:N b=some n)(hn':N' b=some n'):n.up=n'.up∧Zr ops i n.up:=by
 by_cases hz:b= .z
 ·rw[h.zup n (hz▸hn),h'.zup n' (hz▸hn')]
  exact⟨rfl,.inl rfl⟩
 ·rcases hb with hb|⟨j,hj,hji,hid⟩
  ·exact absurd hb hz
  ·obtain⟨s,p,hp,e1,e2,e3,e4⟩:=h.up b n hn hz
   obtain⟨s',p',hp',f1,f2,f3,f4⟩:=h'.up b n' hn' hz
   have hpe:p=ops[j]'hj:=hu p hp _ (AQ hj) (by rw[hid,e3])
   have hpe':p'=ops[j]'hj:=hu p' ((hm p').1 hp') _ (AQ hj) (by rw[hid,f3])
   subst hpe
   subst hpe'
   have hlf:=hA j hj hji
   rcases e4 with⟨e5,_,e6⟩|⟨e5,_,_,e6⟩
   ·rcases f4 with⟨f5,_,f6⟩|⟨f5,_,_,f6⟩
    ·refine⟨by rw[e6,f6];unfold upO;rw[hlf],?_⟩
     obtain⟨a1,a2⟩:=he j hj e2
     rw[e6]
     unfold upO
     split
     ·rcases a2 with a2|⟨q,hq,a2⟩
      ·exact .inl a2
      ·exact .inr ⟨q,by omega,by omega,a2⟩
     ·rcases a1 with a1|⟨q,hq,a1⟩
      ·exact .inl a1
      ·exact .inr ⟨q,by omega,by omega,a1⟩
    ·omega
   ·rcases f4 with⟨f5,_,f6⟩|⟨f5,_,_,f6⟩
    ·omega
    ·exact⟨by rw[e6,f6],by rw[e6];exact .inr ⟨j,hj,hji,rfl⟩⟩
theorem X7(h:XS ops seg N)(h':XS ops' seg N')(hm:∀o,o∈ops'↔o∈ops)(c:Chr):N c≠none↔N' c≠none:=by
 rw[h.dom,h'.dom]
 constructor
 ·rintro(e|⟨p,hp,e⟩)
  ·exact .inl e
  ·exact .inr ⟨p,(hm p).2 hp,e⟩
 ·rintro(e|⟨p,hp,e⟩)
  ·exact .inl e
  ·exact .inr ⟨p,(hm p).1 hp,e⟩
theorem Zq(h:XS ops seg N)(h':XS ops' seg N')(hm:∀o,o∈ops'↔o∈ops)(hu:Za ops)(he:Yq ops){i:Nat}(hA:∀(j:Nat) (hj:j<ops.length),j<i→lfO N (ops[j]'hj)=lfO N' (ops[j]'hj))
  {a b:Chr}(hb:Zr ops i b):Abv N a b↔Abv N' a b:=by
 constructor
 ·intro ha
  induction ha with
  |one e1 e2 e3=>
   obtain⟨n',hn'⟩:=BQ.1 ((X7 h h' hm _).1 (by rw[e1];simp))
   exact .one hn' e2 ((Yj h h' hm hu he hA hb e1 hn').1.symm.trans e3)
  |more e1 e2 _ ih=>
   obtain⟨n',hn'⟩:=BQ.1 ((X7 h h' hm _).1 (by rw[e1];simp))
   obtain⟨g1,g2⟩:=Yj h h' hm hu he hA hb e1 hn'
   exact .more hn' e2 (g1▸ih g2)
 ·intro ha
  induction ha with
  |one e1 e2 e3=>
   obtain⟨n,hn⟩:=BQ.1 ((X7 h h' hm _).2 (by rw[e1];simp))
   exact .one hn e2 ((Yj h h' hm hu he hA hb hn e1).1.trans e3)
  |more e1 e2 _ ih=>
   obtain⟨n,hn⟩:=BQ.1 ((X7 h h' hm _).2 (by rw[e1];simp))
   obtain⟨g1,g2⟩:=Yj h h' hm hu he hA hb hn e1
   exact .more hn e2 (g1▸ih (g1▸g2))
theorem Zd(h:XS ops seg N)(h':XS ops' seg N')(hm:∀o,o∈ops'↔o∈ops)(hu:Za ops)(he:Yq ops)(hsz:∀o∈ops,o.size=0→o.right= .z):∀(i:Nat) (j:Nat) (hj:j<ops.length),j<i→lfO N (ops[j]'hj)=lfO N' (ops[j]'hj)
 |0,_,_,h0=>absurd h0 (aK _)
 |i+1,j,hj,hji=>by
  have ih:=Zd h h' hm hu he hsz i
  by_cases e:j=i
  ·subst e
   unfold lfO
   by_cases hz:(ops[j]'hj).right= .z
   ·simp[hz]
   ·have hs:0<(ops[j]'hj).size:=by
     rcases Nat.eq_zero_or_pos (ops[j]'hj).size with e|e
     ·exact absurd (hsz _ (AQ hj) e) hz
     ·exact e
    have hb:Zr ops j (ops[j]'hj).right:=by
     rcases(he j hj hs).2 with a|⟨q,hq,a⟩
     ·exact .inl a
     ·exact .inr ⟨q,by omega,hq,a⟩
    have:IJ N (ops[j]'hj).left (ops[j]'hj).right=IJ N' (ops[j]'hj).left (ops[j]'hj).right:=by
     unfold IJ
     rw[decide_eq_decide]
     exact Zq h h' hm hu he ih hb
    rw[this]
  ·exact ih j hj (by omega)
theorem YJ{rk rk':Chr→Nat}{B M B' M':Nat}(hN:BZ N rk B M)(hN':BZ N' rk' B' M')(h:XS ops seg N)(h':XS ops' seg N')(hm:∀o,o∈ops'↔o∈ops)(hu:Za ops)(he:Yq ops)(hsz:∀o∈ops,o.size=0→o.right= .z):N=N':=by
 have hlf:∀o∈ops,lfO N o=lfO N' o:=fun o ho=>by
  obtain⟨j,hj,rfl⟩:=CM ho
  exact Zd h h' hm hu he hsz (j+1) j hj (by omega)
 have hA:∀(j:Nat) (hj:j<ops.length),j<ops.length→lfO N (ops[j]'hj)=lfO N' (ops[j]'hj):=fun j hj _=>hlf _ (AQ hj)
 have hch:∀c s x,X1 ops seg N c s x↔X1 ops' seg N' c s x:=fun c s x=>by
  constructor
  ·rintro⟨p,hp,h1,h2,h3,h4⟩
   refine⟨p,(hm p).2 hp,h1,h2,h3,?_⟩
   have e:=hlf p hp
   have e2:upO N' p=upO N p:=by unfold upO;rw[e]
   rw[←e,e2];exact h4
  ·rintro⟨p,hp,h1,h2,h3,h4⟩
   have hp:=(hm p).1 hp
   refine⟨p,hp,h1,h2,h3,?_⟩
   have e:=hlf p hp
   have e2:upO N' p=upO N p:=by unfold upO;rw[e]
   rw[e,←e2];exact h4
 funext c
 cases hc:N c with
 |none=>
  have:=mt (X7 h h' hm c).2
  simp only[ne_eq,Decidable.not_not]at this
  exact(this hc).symm
 |some n=>
  obtain⟨n',hn'⟩:=BQ.1 ((X7 h h' hm c).1 (by rw[hc];simp))
  rw[hn']
  have hidx:Zr ops ops.length c:=by
   rcases(h.dom c).1 (by rw[hc];simp)with e|⟨p,hp,_,e,_⟩
   ·exact .inl e
   ·obtain⟨j,hj,rfl⟩:=CM hp
    exact .inr ⟨j,hj,hj,e.symm⟩
  have hup:=(Yj h h' hm hu he hA hidx hc hn').1
  have hside:∀s,n.side s=n'.side s:=fun s=>
   Jt (c:=fun a b:Chr=>BD a.op b.op) (fun{a b} h1 h2=>by have:=JW.1 h1;omega) (fun a h1=>by have:=JW.1 h1;omega) (hN.sorted c n s hc) (hN'.sorted c n' s hn') fun x=>by
    rw[h.mem c n s x hc,h'.mem c n' s x hn',hch]
  have hl:n.l=n'.l:=hside false
  have hr:n.r=n'.r:=hside true
  cases n;cases n'
  simp only[AZ,CP.mk.injEq]at*
  exact⟨hup,hl,hr⟩
end
end Dc
namespace Dc
open Off (Bid AV Bn DF)
structure Yb(x:TX)(ops:List Op):Prop where
 canon:∀seg t,x.texts seg=some t→XV t.row
 rowin:∀seg t,x.texts seg=some t→Ye t
 zero:∀seg t r,x.texts seg=some t→r∈Bz t.row→r.mark=true→r.b=0
 nodes:∀seg t,x.texts seg=some t→XS ops seg t.nodes
theorem Yb.new:Yb .new []:=by
 refine⟨?_,?_,?_,?_⟩<;>simp[TX.new]
theorem Yb.skip{x:TX}{ops:List Op}(h:Yb x ops){o:Op}(hs:o.size=0):Yb x (ops++[o]):=
 ⟨h.canon,h.rowin,h.zero,fun s t ht=>(h.nodes s t ht).skip (.inl hs)⟩
theorem Yb.del1{x:TX}{ops:List Op}(h:Yb x ops)(c:Cut):Yb (Dc.del1 x c) ops:=by
 unfold Dc.del1
 cases hs:x.made c.op with
 |none=>exact h
 |some s=>
  simp only
  cases ht:x.texts s.seg with
  |none=>exact h
  |some t=>
   simp only
   have hget:∀q u,(EF x.texts s.seg (PR t c)) q=some u→(q=s.seg∧u=PR t c)∨x.texts q=some u:=by
    intro q u e
    unfold EF at e
    split at e
    ·cases e;exact .inl ⟨by assumption,rfl⟩
    ·exact .inr e
   refine⟨fun q u e=>?_,fun q u e=>?_,fun q u r e hr=>?_,fun q u e=>?_⟩
   ·rcases hget q u e with⟨_,rfl⟩|e
    ·exact Zl (h.canon _ t ht) c
    ·exact h.canon q u e
   ·rcases hget q u e with⟨_,rfl⟩|e
    ·exact(h.rowin _ t ht).cut c
    ·exact h.rowin q u e
   ·rcases hget q u e with⟨_,rfl⟩|e
    ·have e2:Bz (PR t c).row=(Bz t.row).map (Hj c):=KY _ _
     rw[e2]at hr
     obtain⟨y,hy,rfl⟩:=A5.1 hr
     intro hm
     have e3:(Hj c y).mark=y.mark∧(Hj c y).b=y.b:=by unfold Hj;split<;>exact⟨rfl,rfl⟩
     rw[e3.2]
     exact h.zero _ t y ht hy (e3.1▸hm)
    ·exact h.zero q u r e hr
   ·rcases hget q u e with⟨rfl,rfl⟩|e
    ·exact h.nodes _ t ht
    ·exact h.nodes q u e
theorem Yb.del{ops:List Op}:∀{x:TX} (cs:List Cut),Yb x ops→Yb (delX x cs) ops
 |_,[],h=>h
 |x,c::cs,h=>Yb.del (x:=Dc.del1 x c) cs (h.del1 c)
theorem Yb.write{d:Doc}(hf:BS d)(h:Yb d.tx d.ops){o:Op}(he:d.err o=0):Yb (Gh d.tx o) (d.ops++[o]):=by
 obtain⟨hok,hkn,_,hw⟩:=HU he
 have hfr:∀p∈d.ops,p.id≠o.id:=fun p hp e=>(hf.kinds o.id).2 ⟨p,hp,e⟩ hkn
 have hz:∀k:Nat,(⟨o.id,(k:Int)⟩:Chr)≠ .z:=fun k e=>by
  have h1:=(Eg hok).2.1
  have h2:o.id= .z:=by injection e
  rw[h2]at h1
  exact absurd h1 (by decide)
 unfold D2 at hw
 unfold Gh
 split
 ·rename_i hk
  rw[Ak hk]at hw
  have hs:o.size=0:=Jd (by rw[hk];decide) (by rw[hk];decide)
  have hno:d.tx.texts o.id=none:=by
   unfold DG at hw
   split at hw
   ·cases hw
   ·split at hw
    ·cases hw
    ·rename_i hh
     simp only[not_or,Bool.not_eq_true,Option.isSome_eq_false_iff,Option.isNone_iff_eq_none]at hh
     exact hh.1
  have hget:∀q u,(Gn d.tx o.id).texts q=some u→(q=o.id∧u= .new)∨d.tx.texts q=some u:=by
   intro q u e
   unfold Gn EF at e
   simp only at e
   split at e
   ·cases e;exact .inl ⟨by assumption,rfl⟩
   ·exact .inr e
  refine⟨fun q u e=>?_,fun q u e=>?_,fun q u r e hr=>?_,fun q u e=>?_⟩
  ·rcases hget q u e with⟨_,rfl⟩|e
   ·exact XV.nil
   ·exact h.canon q u e
  ·rcases hget q u e with⟨_,rfl⟩|e
   ·exact Ye.new
   ·exact h.rowin q u e
  ·rcases hget q u e with⟨_,rfl⟩|e
   ·cases hr
   ·exact h.zero q u r e hr
  ·rcases hget q u e with⟨rfl,rfl⟩|e
   ·refine XS.new fun p hp hps=>?_
    rcases AC.1 hp with hp|hp
    ·rcases Nat.eq_zero_or_pos p.size with e|e
     ·exact e
     ·have hm:=(hf.full.made p.id _).2 ⟨p,hp,rfl,e,rfl⟩
      obtain⟨⟨t,ht⟩,_⟩:=hf.tx.made _ _ hm
      simp only[hps,hno]at ht
      cases ht
    ·rw[AU]at hp;rw[hp];exact hs
   ·exact(h.nodes q u e).skip (.inl hs)
 ·rename_i hk
  rw[Ae hk]at hw
  split
  ·rename_i hk2
   rw[Ak hk2]at hw
   unfold E4 at hw
   rw[Ae (by simp[hok])]at hw
   unfold doX
   split
   ·rename_i hs
    rw[Ak hs]at hw
    obtain⟨_,_,t,ht,_,hl,hr,_,hn⟩:=M1 hf.tx hw hok
    have e0:LI d.tx o=⟨EF d.tx.texts o.seg (Gv t o),Mc d.tx.made o.id ⟨o.seg,o.size,decide (o.kind=5)⟩⟩:=by unfold LI;rw[ht]
    rw[e0]
    obtain⟨rk,hnd⟩:=hf.tx.nodes _ t ht
    have hrow:=(hf.tx.row _ t ht).1
    obtain⟨_,k,_,hfl⟩:=OA hnd (hf.full.row _ t ht) hrow hok hl hr hs hn
    have hget:∀q u,(EF d.tx.texts o.seg (Gv t o)) q=some u→(q=o.seg∧u=Gv t o)∨(q≠o.seg∧d.tx.texts q=some u):=by
     intro q u e
     unfold EF at e
     split at e
     ·cases e;exact .inl ⟨by assumption,rfl⟩
     ·exact .inr ⟨by assumption,e⟩
    refine⟨fun q u e=>?_,fun q u e=>?_,fun q u r e hr=>?_,fun q u e=>?_⟩
    ·rcases hget q u e with⟨_,rfl⟩|⟨_,e⟩
     ·exact Zh (h.canon _ t ht) hs
     ·exact h.canon q u e
    ·rcases hget q u e with⟨_,rfl⟩|⟨_,e⟩
     ·exact(h.rowin _ t ht).ins (hf.full.row _ t ht) hrow hok hl hr hs hn
     ·exact h.rowin q u e
    ·rcases hget q u e with⟨_,rfl⟩|⟨_,e⟩
     ·rw[hfl]at hr
      have hin:r∈Bz t.row∨r∈BF (B0 o):=by
       rcases AC.1 hr with hr|hr
       ·rcases AC.1 hr with hr|hr
        ·exact .inl (ap hr)
        ·exact .inr hr
       ·exact .inl (BC hr)
      rcases hin with hin|hin
      ·exact h.zero _ t r ht hin
      ·intro hm
       rcases Uz hs with⟨_,e1⟩|⟨_,e1⟩
       ·rw[e1,AU]at hin
        rw[hin]
       ·rw[e1]at hin
        obtain⟨j,hj,rfl⟩:=(J8 _ _ _).1 hin
        cases hm
     ·exact h.zero q u r e hr
    ·rcases hget q u e with⟨rfl,rfl⟩|⟨hne,e⟩
     ·exact(h.nodes _ t ht).ins hl hr hs rfl hfr hz
     ·exact(h.nodes q u e).skip (.inr (Ne.symm hne))
   ·rename_i hs
    exact(Yb.del o.cuts h).skip (by omega)
  ·rename_i hk2
   exact h.skip (Jd (by omega) (by omega))
theorem Yq.skip{ops:List Op}(h:Yq ops){o:Op}(ho:0<o.size→(o.left= .z∨∃p∈ops,p.id=o.left.op)∧(o.right= .z∨∃p∈ops,p.id=o.right.op)):Yq (ops++[o]):=by
 intro i hi hs
 rw[Ai,List.length_singleton]at hi
 by_cases hlt:i<ops.length
 ·simp only[al hlt]at hs⊢
  obtain⟨h1,h2⟩:=h i hlt hs
  refine⟨h1.imp id ?_,h2.imp id ?_⟩
  ·rintro⟨j,hj,e⟩
   exact⟨j,hj,by rw[al (by omega)];exact e⟩
  ·rintro⟨j,hj,e⟩
   exact⟨j,hj,by rw[al (by omega)];exact e⟩
 ·have e:i=ops.length:=by omega
  subst e
  have e2:(ops++[o])[ops.length]'(by simp)=o:=by simp
  simp only[e2]at hs⊢
  obtain⟨h1,h2⟩:=ho hs
  refine⟨h1.imp id ?_,h2.imp id ?_⟩
  ·rintro⟨p,hp,e⟩
   obtain⟨j,hj,rfl⟩:=CM hp
   exact⟨j,hj,by rw[al hj];exact e⟩
  ·rintro⟨p,hp,e⟩
   obtain⟨j,hj,rfl⟩:=CM hp
   exact⟨j,hj,by rw[al hj];exact e⟩
/-- the words about a block -/
def X6(o:Op):I7:=⟨o.flag,o.t,o.id.R,o.id⟩
structure X4(g:FM)(ops:List Op):Prop where
 no:∀b,g b=none↔ ∀o∈ops,o.kind=6→o.block≠b
 mx:∀b w,g b=some w→(∃o∈ops,o.kind=6∧o.block=b∧w=X6 o)∧∀o∈ops,o.kind=6→o.block=b→(X6 o).later w=false
theorem Yv(w:I7):w.later w=false:=by
 unfold I7.later
 have:or2 (Fv w.t w.r w.t w.r) (BD w.from' w.from')=0:=JX.2 ⟨Ih.2 ⟨rfl,rfl⟩,Ii.2 rfl⟩
 rw[this];rfl
theorem YR{a b c:I7}(h1:a.later b=false)(h2:b.later c=false):a.later c=false:=by
 unfold I7.later at*
 simp only[decide_eq_false_iff_not,LS,QE,Ih,Lm]at*
 omega
theorem YY{a b:I7}(h:a.later b=true):b.later a=false:=by
 unfold I7.later at*
 simp only[decide_eq_false_iff_not,Au,LS,QE,Ih,Lm]at*
 omega
theorem YX{a b:I7}(h1:a.later b=false)(h2:b.later a=false):a.from'=b.from':=by
 unfold I7.later at*
 simp only[decide_eq_false_iff_not,LS,QE,Ih,Lm]at*
 have e1:a.from'.R=b.from'.R:=by omega
 have e2:a.from'.N=b.from'.N:=by omega
 cases hx:a.from';cases hy:b.from'
 rw[hx,hy]at e1 e2
 simp only at e1 e2
 rw[e1,e2]
theorem X4.skip{g:FM}{ops:List Op}(h:X4 g ops){o:Op}(hk:o.kind≠6):X4 g (ops++[o]):=by
 refine⟨fun b=>?_,fun b w hb=>?_⟩
 ·rw[h.no b]
  constructor
  ·intro e p hp hk6
   rcases AC.1 hp with hp|hp
   ·exact e p hp hk6
   ·rw[AU]at hp;rw[hp]at hk6;exact absurd hk6 hk
  ·intro e p hp
   exact e p (ai _ hp)
 ·obtain⟨⟨p,hp,e⟩,h2⟩:=h.mx b w hb
  refine⟨⟨p,ai _ hp,e⟩,fun q hq hk6 hb=>?_⟩
  rcases AC.1 hq with hq|hq
  ·exact h2 q hq hk6 hb
  ·rw[AU]at hq;rw[hq]at hk6;exact absurd hk6 hk
theorem X4.say{g:FM}{ops:List Op}(h:X4 g ops){o:Op}(hk:o.kind=6):X4 (KD g o.block (X6 o)) (ops++[o]):=by
 have hother:∀b,b≠o.block→KD g o.block (X6 o) b=g b:=fun b hb=>by
  unfold KD
  cases g o.block with
  |none=>exact Ae hb
  |some old=>
   simp only
   split
   ·exact Ae hb
   ·rfl
 have hmem:∀b,b≠o.block→∀p,p∈ops++[o]→p.kind=6→p.block=b→p∈ops:=fun b hb p hp _ e=>by
  rcases AC.1 hp with hp|hp
  ·exact hp
  ·rw[AU]at hp;rw[hp]at e;exact absurd e.symm hb
 have hown:∃w,KD g o.block (X6 o) o.block=some w∧((∃p∈ops++[o],p.kind=6∧p.block=o.block∧w=X6 p)∧∀p∈ops++[o],p.kind=6→p.block=o.block→(X6 p).later w=false):=by
  unfold KD
  cases hg:g o.block with
  |none=>
   refine⟨X6 o,by simp,⟨o,by simp,hk,rfl,rfl⟩,fun p hp hk6 hb=>?_⟩
   rcases AC.1 hp with hp|hp
   ·exact absurd hb ((h.no _).1 hg p hp hk6)
   ·rw[AU]at hp;rw[hp];exact Yv _
  |some old=>
   obtain⟨⟨q,hq,e1,e2,e3⟩,h2⟩:=h.mx _ _ hg
   simp only
   cases hl:(X6 o).later old with
   |true=>
    refine⟨X6 o,by simp,⟨o,by simp,hk,rfl,rfl⟩,fun p hp hk6 hb=>?_⟩
    rcases AC.1 hp with hp|hp
    ·exact YR (h2 p hp hk6 hb) (YY hl)
    ·rw[AU]at hp;rw[hp];exact Yv _
   |false=>
    refine⟨old,by simpa using hg,⟨q,ai _ hq,e1,e2,e3⟩,fun p hp hk6 hb=>?_⟩
    rcases AC.1 hp with hp|hp
    ·exact h2 p hp hk6 hb
    ·rw[AU]at hp;rw[hp];exact hl
 obtain⟨w0,hw0,hw1,hw2⟩:=hown
 refine⟨fun b=>?_,fun b w hb=>?_⟩
 ·by_cases e:b=o.block
  ·subst e
   rw[hw0]
   constructor
   ·intro e;cases e
   ·intro e;exact absurd rfl (e o (by simp) hk)
  ·rw[hother b e,h.no b]
   constructor
   ·intro h1 p hp hk6 hb
    exact h1 p (hmem b e p hp hk6 hb) hk6 hb
   ·intro h1 p hp
    exact h1 p (ai _ hp)
 ·by_cases e:b=o.block
  ·subst e
   rw[hw0]at hb;cases hb
   exact⟨hw1,hw2⟩
  ·rw[hother b e]at hb
   obtain⟨⟨p,hp,e1⟩,h2⟩:=h.mx b w hb
   exact⟨⟨p,ai _ hp,e1⟩,fun q hq hk6 hb'=>h2 q (hmem b e q hq hk6 hb') hk6 hb'⟩
theorem YH{g g':FM}{ops ops':List Op}(h:X4 g ops)(h':X4 g' ops')(hm:∀o,o∈ops'↔o∈ops)(hu:Za ops):g=g':=by
 funext b
 cases hg:g b with
 |none=>
  refine((h'.no b).2 fun o ho=>(h.no b).1 hg o ((hm o).1 ho)).symm
 |some w=>
  obtain⟨⟨o,ho,e1,e2,e3⟩,h1⟩:=h.mx b w hg
  cases hg':g' b with
  |none=>exact absurd e2 ((h'.no b).1 hg' o ((hm o).2 ho) e1)
  |some w'=>
   obtain⟨⟨p,hp,f1,f2,f3⟩,h2⟩:=h'.mx b w' hg'
   have a1:=h1 p ((hm p).1 hp) f1 f2
   have a2:=h2 o ((hm o).2 ho) e1 e2
   rw[←f3]at a1
   rw[←e3]at a2
   have hid:p.id=o.id:=by have:=YX a1 a2;rw[f3,e3]at this;exact this
   have:p=o:=hu p ((hm p).1 hp) o ho hid
   rw[f3,e3,this]
structure XZ(d:Doc):Prop where
 full:BS d
 tx:Yb d.tx d.ops
 nodup:(d.ops.map (·.id)).Nodup
 early:Yq d.ops
 ms:∀m,m∈d.ms↔ ∃o∈d.ops,o.mv=some m
 words:X4 d.words d.ops
theorem XZ.ids{d:Doc}(h:XZ d):Za d.ops:=by
 intro o ho p hp e
 obtain⟨i,hi,rfl⟩:=CM ho
 obtain⟨j,hj,rfl⟩:=CM hp
 have h2:(d.ops.map (·.id))[i]'(by simpa using hi)=(d.ops.map (·.id))[j]'(by simpa using hj):=by simpa using e
 have:=(List.getElem_inj h.nodup).1 h2
 subst this
 rfl
theorem XZ.new:XZ .new:=by
 refine⟨BS.new,Yb.new,List.Pairwise.nil,fun i hi=>absurd hi (aK _),fun m=>?_,⟨fun b=>?_,fun b w hb=>?_⟩⟩
 ·simp[Doc.new]
 ·simp[Doc.new]
 ·cases hb
theorem XZ.apply{d:Doc}(h:XZ d){o:Op}(he:d.err o=0):XZ (d.apply o):=by
 have hact:d.act o=d.apply o:=by unfold Doc.act;rw[Ak he]
 obtain⟨hok,hkn,_,hw⟩:=HU he
 have hfr:∀p∈d.ops,p.id≠o.id:=fun p hp e=>(h.full.kinds o.id).2 ⟨p,hp,e⟩ hkn
 refine⟨hact▸h.full.act o,h.tx.write h.full he,?_,?_,fun m=>?_,?_⟩
 ·show(List.map (fun p:Op=>p.id) (d.ops++[o])).Nodup
  rw[Bo]
  refine Ff.2 ⟨h.nodup,by simp,fun a ha b hb=>?_⟩
  simp only[Cd,N5,AU]at hb
  subst hb
  obtain⟨p,hp,rfl⟩:=A5.1 ha
  exact hfr p hp
 ·refine h.early.skip fun hs=>?_
  unfold D2 at hw
  have hk1:o.kind≠1:=fun e=>by have:=Jd (o:=o) (by omega) (by omega);omega
  have hk35:o.kind=3∨o.kind=5∨o.kind=4:=by
   by_cases h3:o.kind=3
   ·exact .inl h3
   ·by_cases h5:o.kind=5
    ·exact .inr (.inl h5)
    ·have:=Jd h3 h5;omega
  rw[Ae hk1,Ak hk35]at hw
  unfold E4 at hw
  rw[Ae (by simp[hok]),Ak hs]at hw
  obtain⟨_,_,t,ht,_,hl,hr,_,_⟩:=M1 h.full.tx hw hok
  have hn:=h.tx.nodes _ t ht
  constructor
  ·rcases(hn.dom _).1 hl with e|⟨p,hp,_,e,_⟩
   ·exact .inl e
   ·exact .inr ⟨p,hp,e.symm⟩
  ·rcases(hn.dom _).1 hr with e|⟨p,hp,_,e,_⟩
   ·exact .inl e
   ·exact .inr ⟨p,hp,e.symm⟩
 ·rw[Kr]
  have hops:(d.apply o).ops=d.ops++[o]:=rfl
  rw[hops]
  cases hmv:o.mv with
  |none=>
   simp only
   rw[h.ms m]
   constructor
   ·rintro⟨p,hp,e⟩;exact⟨p,ai _ hp,e⟩
   ·rintro⟨p,hp,e⟩
    rcases AC.1 hp with hp|hp
    ·exact⟨p,hp,e⟩
    ·rw[AU]at hp;rw[hp,hmv]at e;cases e
  |some m0=>
   simp only
   rw[IW,h.ms m]
   constructor
   ·rintro(rfl|⟨p,hp,e⟩)
    ·exact⟨o,by simp,hmv⟩
    ·exact⟨p,ai _ hp,e⟩
   ·rintro⟨p,hp,e⟩
    rcases AC.1 hp with hp|hp
    ·exact .inr ⟨p,hp,e⟩
    ·rw[AU]at hp;rw[hp,hmv]at e;cases e;exact .inl rfl
 ·show X4 (if o.kind=6 then KD d.words o.block ⟨o.flag,o.t,o.id.R,o.id⟩else d.words) (d.ops++[o])
  split
  ·rename_i hk;exact h.words.say hk
  ·rename_i hk;exact h.words.skip hk
theorem XZ.act{d:Doc}(h:XZ d)(o:Op):XZ (d.act o):=by
 unfold Doc.act
 split
 ·rename_i he;exact h.apply he
 ·exact h
theorem Zf{o:Op}(hok:o.ok=true)(h3:o.kind≠3)(h5:o.kind≠5):o.right= .z:=by
 have h:=(Eg hok).2.2.2
 have e:o.own.right= .z:=by
  unfold Op.own
  rw[Ae (c:=o.kind=3) h3,Ae (c:=o.kind=5) h5]
  repeat' (first|rfl|split)
 rw[←h];exact e
theorem YV{o:Op}(hok:o.ok=true)(hs:o.size=0):o.right= .z:=by
 refine Zf hok (fun h3=>?_) fun h5=>?_
 ·have hp:=(Eg hok).2.2.1
  unfold Op.parts at hp
  rw[Ae (by omega),Ae (by omega),Ak h3]at hp
  unfold Vo at hp
  simp only[AN,Au]at hp
  unfold Op.size at hs
  rw[Ak h3]at hs
  exact hp.2.1 (LN hs)
 ·unfold Op.size at hs
  rw[Ae (by omega),Ak h5]at hs
  cases hs
theorem YW{ops ops':List Op}(hm:∀o,o∈ops'↔o∈ops)(hu:Za ops){seg:Bid}{r r':RC}(h:RJ ops seg r)(h':RJ ops' seg r')(hc:r.c=r'.c)(hg:r.gone=true↔r'.gone=true)(hz:r.mark=true→r.b=0)(hz':r'.mark=true→r'.b=0):r=r':=by
 obtain⟨o,ho,e1,_,e3⟩:=h
 obtain⟨p,hp,f1,_,f3⟩:=h'
 have hpo:p=o:=hu p ((hm p).1 hp) o ho (by rw[f1,e1,hc])
 subst hpo
 have hgone:r.gone=r'.gone:=by
  cases hr:r.gone<;>cases hr':r'.gone<;>simp_all
 have hmb:r.mark=r'.mark∧r.b=r'.b:=by
  rcases e3 with⟨k5,m1,_⟩|⟨k3,m1,k,i1,i2⟩
  ·rcases f3 with⟨_,m2,_⟩|⟨k3,_⟩
   ·exact⟨m1.trans m2.symm,(hz m1).trans (hz' m2).symm⟩
   ·omega
  ·rcases f3 with⟨k5,_⟩|⟨_,m2,k',i1',i2'⟩
   ·omega
   ·refine⟨m1.trans m2.symm,?_⟩
    rw[hc]at i1
    have:k=k':=by omega
    subst this
    rw[i2]at i2'
    exact Ap i2'
 cases r;cases r'
 simp only at*
 rw[hc,hgone,hmb.1,hmb.2]
theorem Zi{ops ops':List Op}(hm:∀o,o∈ops'↔o∈ops)(c:Chr):FD ops' c↔FD ops c:=by
 unfold FD
 constructor
 ·rintro⟨p,hp,e⟩;exact⟨p,(hm p).1 hp,e⟩
 ·rintro⟨p,hp,e⟩;exact⟨p,(hm p).2 hp,e⟩
theorem YO{α β:Type}{f g:α→Option β}(h:∀a b,f a=some b↔g a=some b):f=g:=by
 funext a
 cases hf:f a with
 |none=>
  cases hg:g a with
  |none=>rfl
  |some b=>rw[←h,hf]at hg;cases hg
 |some b=>exact((h a b).1 hf).symm
theorem Zk{a b:Doc}(ha:XZ a)(hb:XZ b)(hm:∀o,o∈b.ops↔o∈a.ops):a.kinds=b.kinds∧a.tx=b.tx∧a.ms=b.ms∧a.words=b.words:=by
 have hu:=ha.ids
 refine⟨YO fun i k=>?_,?_,?_,YH ha.words hb.words hm hu⟩
 ·have key:∀{a b:Doc},XZ a→XZ b→(∀o,o∈b.ops↔o∈a.ops)→∀i k,a.kinds i=some k→b.kinds i=some k:=fun{a b} ha hb hm i k h=>by
   obtain⟨o,ho,e1,e2⟩:=ha.full.kind i k h
   have h2:=(hb.full.kinds i).2 ⟨o,(hm o).2 ho,e1⟩
   obtain⟨k',hk'⟩:=BQ.1 h2
   obtain⟨p,hp,f1,f2⟩:=hb.full.kind i k' hk'
   have:p=o:=ha.ids p ((hm p).1 hp) o ho (by rw[f1,e1])
   rw[hk',←f2,this,e2]
  exact⟨key ha hb hm i k,key hb ha (fun o=>(hm o).symm) i k⟩
 ·have hmade:a.tx.made=b.tx.made:=YO fun i s=>by
   rw[ha.full.full.made,hb.full.full.made]
   constructor
   ·rintro⟨o,ho,e⟩;exact⟨o,(hm o).2 ho,e⟩
   ·rintro⟨o,ho,e⟩;exact⟨o,(hm o).1 ho,e⟩
  have htexts:a.tx.texts=b.tx.texts:=by
   funext seg
   have hn:a.tx.texts seg≠none↔b.tx.texts seg≠none:=by
    rw[ha.full.full.texts,hb.full.full.texts]
    constructor
    ·rintro⟨o,ho,e⟩;exact⟨o,(hm o).2 ho,e⟩
    ·rintro⟨o,ho,e⟩;exact⟨o,(hm o).1 ho,e⟩
   cases hta:a.tx.texts seg with
   |none=>
    have:=mt hn.2
    simp only[ne_eq,Decidable.not_not]at this
    exact(this hta).symm
   |some t=>
    obtain⟨t',htb⟩:=BQ.1 (hn.1 (by rw[hta];simp))
    rw[htb]
    obtain⟨rk,h1⟩:=ha.full.tx.nodes _ t hta
    obtain⟨rk',h1'⟩:=hb.full.tx.nodes _ t' htb
    have hnodes:t.nodes=t'.nodes:=YJ h1 h1' (ha.tx.nodes _ t hta) (hb.tx.nodes _ t' htb) hm hu ha.early fun o ho hs=>YV (ha.full.ops o ho) hs
    have hcs:(Bz t.row).map (·.c)=(Bz t'.row).map (·.c):=by
     obtain⟨_,B,_,_,g1⟩:=ha.tx.rowin _ t hta
     obtain⟨_,B',_,_,g2⟩:=hb.tx.rowin _ t' htb
     rw[g1 (B+B'+2) (by omega),g2 (B+B'+2) (by omega),hnodes]
    have hflat:Bz t.row=Bz t'.row:=by
     have hlen:(Bz t.row).length=(Bz t'.row).length:=by
      have:=congrArg List.length hcs
      simpa using this
     refine List.ext_getElem hlen fun i i1 i2=>?_
     have hci:((Bz t.row)[i]'i1).c=((Bz t'.row)[i]'i2).c:=by
      have:=congrArg (fun l=>l[i]?) hcs
      simp only[Ei,Aj i1,Aj i2,Option.map_some,AZ]at this
      exact this
     have m1:=AQ i1
     have m2:=AQ i2
     refine YW hm hu (ha.full.full.shows _ t _ hta m1) (hb.full.full.shows _ t' _ htb m2) hci ?_ (ha.tx.zero _ t _ hta m1) (hb.tx.zero _ t' _ htb m2)
     rw[ha.full.full.gone _ t _ hta m1,hb.full.full.gone _ t' _ htb m2,←hci,Zi hm]
    have hrow:t.row=t'.row:=Yl (ha.tx.canon _ t hta) (hb.tx.canon _ t' htb) hflat
    cases t;cases t'
    simp only at hnodes hrow
    rw[hnodes,hrow]
  cases hx:a.tx;cases hy:b.tx
  rw[hx,hy]at hmade htexts
  simp only at hmade htexts
  rw[hmade,htexts]
 ·refine Jt (c:=Bi) (fun{x y} h1 h2=>by have:=MF.1 h1;omega) (fun x h1=>by have:=MF.1 h1;omega) ha.full.sorted hb.full.sorted fun m=>?_
  rw[ha.ms,hb.ms]
  constructor
  ·rintro⟨o,ho,e⟩;exact⟨o,(hm o).2 ho,e⟩
  ·rintro⟨o,ho,e⟩;exact⟨o,(hm o).1 ho,e⟩
end Dc
namespace Dc
open Off (Bid AV Bn DF)
theorem YD{d:Doc}(h:XZ d)(b:Bid):d.there b=true↔b= .z∨b= .t∨∃o∈d.ops,o.id=b∧(o.kind=1∨o.kind=5):=by
 unfold Doc.there
 simp only[Gz,Au]
 have hk:∀k,d.kinds b=some k↔ ∃o∈d.ops,o.id=b∧o.kind=k:=fun k=>by
  constructor
  ·exact h.full.kind b k
  ·rintro⟨o,ho,e1,e2⟩
   obtain⟨k',hk'⟩:=BQ.1 ((h.full.kinds b).2 ⟨o,ho,e1⟩)
   obtain⟨p,hp,f1,f2⟩:=h.full.kind b k' hk'
   have:p=o:=h.ids p hp o ho (by rw[f1,e1])
   rw[hk',←f2,this,e2]
 rw[hk,hk]
 constructor
 ·rintro(((e|e)|⟨o,ho,e1,e2⟩)|⟨o,ho,e1,e2⟩)
  ·exact .inl e
  ·exact .inr (.inl e)
  ·exact .inr (.inr ⟨o,ho,e1,.inl e2⟩)
  ·exact .inr (.inr ⟨o,ho,e1,.inr e2⟩)
 ·rintro(e|e|⟨o,ho,e1,e2|e2⟩)
  ·exact .inl (.inl (.inl e))
  ·exact .inl (.inl (.inr e))
  ·exact .inl (.inr ⟨o,ho,e1,e2⟩)
  ·exact .inr ⟨o,ho,e1,e2⟩
theorem YA{x:TX}:∀{cs:List Cut},FK x cs=0↔ ∀c∈cs,∃s,x.made c.op=some s∧c.to≤s.size
 |[]=>by simp[FK]
 |c::cs=>by
  unfold FK
  cases hc:x.made c.op with
  |none=>
   simp only
   constructor
   ·intro e;cases e
   ·intro e
    obtain⟨s,hs,_⟩:=e c (by simp)
    rw[hc]at hs;cases hs
  |some s=>
   simp only
   split
   ·rename_i hlt
    constructor
    ·intro e;cases e
    ·intro e
     obtain⟨s',hs',h2⟩:=e c (by simp)
     rw[hc]at hs';cases hs'
     omega
   ·rename_i hlt
    rw[YA]
    constructor
    ·intro e k hk
     rcases A7.1 hk with rfl|hk
     ·exact⟨s,hc,by omega⟩
     ·exact e k hk
    ·intro e k hk;exact e k (by simp[hk])
/-- what can be done can be done where more was done -/
theorem Zp{p b:Doc}(hp:XZ p)(hb:XZ b)(hsub:∀q∈p.ops,q∈b.ops){o:Op}(he:p.err o=0)(hn:∀q∈b.ops,q.id≠o.id):b.err o=0:=by
 obtain⟨hok,_,hkn,hw⟩:=HU he
 have hhas:b.kinds o.id=none:=by
  cases e:b.kinds o.id with
  |none=>rfl
  |some k=>
   obtain⟨q,hq,e1⟩:=(hb.full.kinds o.id).1 (by rw[e];simp)
   exact absurd e1 (hn q hq)
 have hth:∀x,p.there x=true→b.there x=true:=fun x h=>by
  rw[YD hp]at h
  rw[YD hb]
  rcases h with e|e|⟨q,hq,e⟩
  ·exact .inl e
  ·exact .inr (.inl e)
  ·exact .inr (.inr ⟨q,hsub q hq,e⟩)
 have hknb:b.known o=true:=by
  unfold Doc.known at hkn⊢
  split
  ·rename_i h1
   rw[Ak h1]at hkn
   exact hth _ hkn
  ·rename_i h1
   rw[Ae h1]at hkn
   split
   ·rename_i h2
    rw[Ak h2]at hkn
    simp only[AN]at hkn⊢
    exact⟨hth _ hkn.1,hth _ hkn.2⟩
   ·rename_i h2
    rw[Ae h2]at hkn
    split
    ·rename_i h3
     rw[Ak h3]at hkn
     exact hth _ hkn
    ·rfl
 have hnotext:b.tx.texts o.id=none:=by
  cases e:b.tx.texts o.id with
  |none=>rfl
  |some t=>
   obtain⟨q,hq,_,e1⟩:=(hb.full.full.texts o.id).1 (by rw[e];simp)
   exact absurd e1 (hn q hq)
 have hnomade:b.tx.made o.id=none:=by
  cases e:b.tx.made o.id with
  |none=>rfl
  |some s=>
   obtain⟨q,hq,e1,_⟩:=(hb.full.full.made o.id s).1 e
   exact absurd e1 (hn q hq)
 have hmade:∀i s,p.tx.made i=some s→b.tx.made i=some s:=fun i s h=>by
  obtain⟨q,hq,e⟩:=(hp.full.full.made i s).1 h
  exact(hb.full.full.made i s).2 ⟨q,hsub q hq,e⟩
 have hdom:∀seg t t',p.tx.texts seg=some t→b.tx.texts seg=some t'→∀c,t.nodes c≠none→t'.nodes c≠none:=fun seg t t' h h' c hc=>by
  rw[(hp.tx.nodes _ t h).dom]at hc
  rw[(hb.tx.nodes _ t' h').dom]
  rcases hc with e|⟨q,hq,e⟩
  ·exact .inl e
  ·exact .inr ⟨q,hsub q hq,e⟩
 unfold Doc.err
 rw[Ae (by simp[hok]),Ae (by unfold Doc.has;rw[hhas];simp),Ae (by simp[hknb])]
 unfold D2 at hw⊢
 split
 ·rename_i hk
  rw[Ak hk]at hw
  unfold DG
  rw[Ae (by simp[(Eg hok).2.1]),hnotext,hnomade,Ae (by simp[Src.z])]
 ·rename_i hk
  rw[Ae hk]at hw
  split
  ·rename_i hk2
   rw[Ak hk2]at hw
   unfold E4 at hw⊢
   rw[Ae (by simp[hok])]at hw⊢
   split
   ·rename_i hs
    rw[Ak hs]at hw
    obtain⟨_,_,t,ht,_,hl,hr,_,_⟩:=M1 hp.full.tx hw hok
    have hseg:b.tx.texts o.seg≠none:=by
     obtain⟨q,hq,e⟩:=(hp.full.full.texts o.seg).1 (by rw[ht];simp)
     exact(hb.full.full.texts o.seg).2 ⟨q,hsub q hq,e⟩
    obtain⟨t',ht'⟩:=BQ.1 hseg
    unfold FG
    rw[hnotext,hnomade,Ae (by simp),ht']
    simp only
    unfold PD
    rw[Ae (by rw[hok];simp;omega),Ae,Ae]
    ·simp only[not_or,Option.isNone_iff_eq_none]
     exact⟨hdom _ t t' ht ht' _ hl,hdom _ t t' ht ht' _ hr⟩
    ·have:t'.nodes ⟨o.id,0⟩=none:=by
      cases e:t'.nodes ⟨o.id,0⟩with
      |none=>rfl
      |some n=>
       rcases((hb.tx.nodes _ t' ht').dom _).1 (by rw[e];simp)with e1|⟨q,hq,_,e1,_⟩
       ·have h1:=(Eg hok).2.1
        have h2:o.id= .z:=by injection e1
        rw[h2]at h1
        exact absurd h1 (by decide)
       ·exact absurd e1.symm (hn q hq)
     rw[this];simp
   ·rename_i hs
    rw[Ae hs]at hw
    split
    ·rename_i h4
     rw[Ak h4]at hw
     rw[YA]at hw⊢
     intro c hc
     obtain⟨s,h1,h2⟩:=hw c hc
     exact⟨s,hmade _ _ h1,h2⟩
    ·rename_i h4
     rw[Ae h4]at hw;exact hw
  ·rfl
/-! rounds -/
noncomputable def X0(s:Doc×List Op)(o:Op):Doc×List Op:=(s.1.act o,if s.1.err o=0 then s.2 else s.2++[o])
def Yr(L:List Op)(n:Nat):List Op:=(List.range L.length).map fun k=>L.getD ((k+n) % L.length) .z
noncomputable def YI(b:Doc)(M:List Op):Doc×List Op:=M.foldl X0 (b,[])
theorem Yk(L:List Op)(n:Nat):(Yr L n).length=L.length:=by unfold Yr;simp
theorem Zt{L:List Op}{n k:Nat}(hk:k<L.length):(Yr L n)[k]'(by rw[Yk];exact hk)=L[(k+n) % L.length]'(ay _ (by omega)):=by
 unfold Yr
 rw[List.getElem_map,List.getElem_range,aH,Aj (ay _ (by omega))]
 rfl
theorem Yn(L:List Op)(n:Nat):(Yr L n).Perm L:=by
 rcases Nat.eq_zero_or_pos L.length with h0|h0
 ·have:L=[]:=LN h0
  subst this
  exact List.Perm.refl _
 ·have hm:n % L.length<L.length:=ay _ h0
  have e:Yr L n=L.drop (n % L.length)++L.take (n % L.length):=by
   refine List.ext_getElem (by rw[Yk];simp;omega) fun k h1 h2=>?_
   rw[Yk]at h1
   rw[Zt h1,List.getElem_append]
   have hmod:(k+n) % L.length=(k+n % L.length) % L.length:=by rw[Nat.add_mod_mod]
   split
   ·rename_i h3
    rw[Am]at h3
    rw[List.getElem_drop]
    congr 1
    rw[hmod,Nat.mod_eq_of_lt (by omega)];omega
   ·rename_i h3
    rw[Am]at h3
    rw[List.getElem_take]
    congr 1
    rw[hmod,Am,Nat.mod_eq_sub_mod (by omega),Nat.mod_eq_of_lt (by omega)];omega
  rw[e]
  exact List.perm_append_comm.trans (by rw[A9])
theorem Ym{d:Doc}{o:Op}(h:d.err o=0):(d.act o).ops=d.ops++[o]:=by unfold Doc.act;rw[Ak h];rfl
theorem Ys{d:Doc}{o:Op}(h:d.err o≠0):d.act o=d:=by unfold Doc.act;rw[Ae h]
theorem Zm:∀(M:List Op) (s:Doc×List Op),XZ s.1→XZ (M.foldl X0 s).1
 |[],_,h=>h
 |o::M,_,h=>Zm M _ (h.act o)
theorem YM:∀(M:List Op) (s:Doc×List Op),((M.foldl X0 s).1.ops++(M.foldl X0 s).2).Perm (s.1.ops++s.2++M)
 |[],s=>by simp
 |o::M,s=>by
  rw[Nv]
  refine(YM M (X0 s o)).trans ?_
  unfold X0
  simp only
  by_cases h:s.1.err o=0
  ·rw[Ak h,Ym h]
   simp only[AI,aQ]
   refine List.Perm.append_left _ ?_
   exact List.perm_middle.symm
  ·rw[Ae h,Ys h]
   simp
theorem Zb:∀(M:List Op) (s:Doc×List Op),∀q∈s.1.ops,q∈(M.foldl X0 s).1.ops
 |[],_,_,h=>h
 |o::M,s,q,h=>by
  refine Zb M _ q ?_
  unfold X0
  simp only
  by_cases h2:s.1.err o=0
  ·rw[Ym h2];exact ai _ h
  ·rw[Ys h2];exact h
theorem Zc:∀(M:List Op) (s:Doc×List Op),(M.foldl X0 s).2.length≤s.2.length+M.length
 |[],_=>Ac _
 |o::M,s=>by
  have:=Zc M (X0 s o)
  rw[Nv]
  have h2:(X0 s o).2.length≤s.2.length+1:=by
   unfold X0
   simp only
   split<;>simp
  simp only[BO];omega
/-- an op that can be done is done -/
theorem YN{p:Doc}(hp:XZ p){x:Op}(hx:p.err x=0):∀(M:List Op) (s:Doc×List Op),XZ s.1→(∀q∈p.ops,q∈s.1.ops)→x∈M→((s.1.ops++s.2++M).map (·.id)).Nodup→(M.foldl X0 s).2.length<s.2.length+M.length
 |[],_,_,_,h,_=>by cases h
 |o::M,s,hb,hsub,hxm,hnd=>by
  rw[Nv]
  by_cases e:o=x
  ·subst e
   have hn:∀q∈s.1.ops,q.id≠o.id:=fun q hq e=>by
    rw[Bo]at hnd
    exact(Ff.1 hnd).2.2 q.id (A5.2 ⟨q,ai _ hq,rfl⟩) o.id (by simp) e
   have he:=Zp hp hb hsub hx hn
   have h1:=Zc M (X0 s o)
   have h2:(X0 s o).2=s.2:=by unfold X0;simp only;rw[Ak he]
   rw[h2]at h1
   simp only[BO];omega
  ·have hxm':x∈M:=by
    rcases A7.1 hxm with h|h
    ·exact absurd h.symm e
    ·exact h
   have hnd':(((X0 s o).1.ops++(X0 s o).2++M).map (·.id)).Nodup:=by
    refine(List.Perm.nodup_iff ?_).2 hnd
    refine List.Perm.map _ ?_
    unfold X0
    simp only
    by_cases h:s.1.err o=0
    ·rw[Ak h,Ym h]
     simp only[AI,aQ]
     refine List.Perm.append_left _ ?_
     exact List.perm_middle.symm
    ·rw[Ae h,Ys h];simp
   have ih:=YN hp hx M (X0 s o) (hb.act o) (fun q hq=>by
    have:=Zb [o] s q (hsub q hq)
    exact this) hxm' hnd'
   have h2:(X0 s o).2.length≤s.2.length+1:=by
    unfold X0
    simp only
    split<;>simp
   simp only[BO];omega
/-- what the rounds keep: what was done and what is left are all ops -/
structure YC(a:Doc)(b:Doc)(left:List Op):Prop where
 by':XZ b
 perm:(b.ops++left).Perm a.ops
/-- the documents ahead of each op -/
def Yc(a:Doc):Prop:=∀(i:Nat) (hi:i<a.ops.length),∃p,XZ p∧p.ops=a.ops.take i∧p.err (a.ops[i]'hi)=0
theorem Yc.new:Yc .new:=fun _ hi=>absurd hi (aK _)
theorem Yc.act{a:Doc}(hb:XZ a)(h:Yc a)(o:Op):Yc (a.act o):=by
 by_cases he:a.err o=0
 ·intro i hi
  have hops:=Ym he
  have hi':i<(a.ops++[o]).length:=by rw[←hops];exact hi
  have e1:(a.act o).ops[i]'hi=(a.ops++[o])[i]'hi':=by simp only[hops]
  rw[e1,hops]
  rw[Ai,List.length_singleton]at hi'
  by_cases hlt:i<a.ops.length
  ·obtain⟨p,h1,h2,h3⟩:=h i hlt
   refine⟨p,h1,by rw[h2,Dj (by omega)],by rw[al hlt];exact h3⟩
  ·have:i=a.ops.length:=by omega
   subst this
   exact⟨a,hb,by simp,by simpa using he⟩
 ·rw[Ys he];exact h
theorem YC.start{a:Doc}:YC a .new a.ops:=⟨XZ.new,by show([]++a.ops).Perm a.ops;simp⟩
theorem Yz:∀(l bs:List Op),(∃x∈l,x∉bs)→∃(i:Nat) (hi:i<l.length),l[i]'hi∉bs∧∀q∈l.take i,q∈bs
 |[],_,h=>by obtain⟨x,h1,_⟩:=h;cases h1
 |o::l,bs,h=>by
  by_cases ho:o∈bs
  ·obtain⟨i,hi,h1,h2⟩:=Yz l bs (by
    obtain⟨x,h1,h2⟩:=h
    rcases A7.1 h1 with rfl|h1
    ·exact absurd ho h2
    ·exact⟨x,h1,h2⟩)
   refine⟨i+1,by simpa using hi,by simpa using h1,fun q hq=>?_⟩
   rw[Ix]at hq
   rcases A7.1 hq with rfl|hq
   ·exact ho
   ·exact h2 q hq
  ·exact⟨0,by simp,by simpa using ho,fun q hq=>by simp at hq⟩
theorem YC.round{a b:Doc}{left:List Op}(ha:XZ a)(hah:Yc a)(h:YC a b left)(n:Nat):
  YC a (YI b (Yr left n)).1 (YI b (Yr left n)).2∧(left≠ []→(YI b (Yr left n)).2.length<left.length):=by
 have hperm:=YM (Yr left n) (b,[])
 refine⟨⟨Zm _ _ h.by',?_⟩,fun hne=>?_⟩
 ·refine hperm.trans ?_
  simp only[CJ]
  exact((Yn left n).append_left _).trans h.perm
 ·have hnd:(List.map (fun o:Op=>o.id) (b.ops++[]++Yr left n)).Nodup:=by
   refine(List.Perm.nodup_iff ?_).2 ha.nodup
   refine List.Perm.map _ ?_
   simp only[CJ]
   exact((Yn left n).append_left _).trans h.perm
  obtain⟨y,hy⟩:∃y,y∈left:=List.exists_mem_of_ne_nil _ hne
  have hyb:y∉b.ops:=fun e=>by
   have h2:((b.ops++left).map (·.id)).Nodup:=(List.Perm.nodup_iff (h.perm.map _)).2 ha.nodup
   rw[Bo]at h2
   exact(Ff.1 h2).2.2 y.id (A5.2 ⟨y,e,rfl⟩) y.id (A5.2 ⟨y,hy,rfl⟩) rfl
  obtain⟨i,hi,h1,h2⟩:=Yz a.ops b.ops ⟨y,(h.perm.mem_iff).1 (List.mem_append_right _ hy),hyb⟩
  obtain⟨p,hp,e1,e2⟩:=hah i hi
  have hxl:a.ops[i]'hi∈left:=by
   have:=(h.perm.mem_iff).2 (AQ hi)
   rcases AC.1 this with e|e
   ·exact absurd e h1
   ·exact e
  have:=YN hp e2 (Yr left n) (b,[]) h.by' (fun q hq=>h2 q (e1▸hq)) ((Yn left n).mem_iff.2 hxl) hnd
  rw[Yk]at this
  unfold YI
  simpa using this
theorem YC.done{a b:Doc}(ha:XZ a)(h:YC a b []):b.ops.length=a.ops.length∧a.kinds=b.kinds∧a.tx=b.tx∧a.ms=b.ms∧a.words=b.words:=by
 have hp:=h.perm
 rw[CJ]at hp
 exact⟨hp.length_eq,Zk ha h.by' fun o=>hp.mem_iff⟩
end Dc
