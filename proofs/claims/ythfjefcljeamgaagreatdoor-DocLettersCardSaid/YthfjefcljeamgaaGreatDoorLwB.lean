/- joined: The statements of the document: the ops that they look at. The statements of the document: ops as new memory. -/
import Derived.Test.YthfjefcljeamgaaGreatDoorDoJ
namespace Go.Proofs.YthfjefcljeamgaaGreatDoor
set_option maxRecDepth 100000
set_option maxHeartbeats 4000000
section
open Go.RowKit
attribute [local go_sem ↓] Go.wp_at_zero Go.wp_at_succ
def TV(r n t:Int)(p:Off.Bid)(k:Dc.Bs):Dc.Op:=⟨1,⟨r,n⟩,t,.z,p,k,.z,.z,.z,[],[],false⟩
theorem OS(r n t:Int)(p:Off.Bid)(k:Dc.Bs)(w:World):
  Calls Tryz.prog 59 #[.int .i64 r,.int .i64 n,.int .i64 t,idV p,.string ⟨k.toArray⟩] w fun e w'=>e= .returned (opV (TV r n t p k) (.slice none 0 0))∧Aa No w w':=by
 obtain⟨pR,pN⟩:=p
 go_enter Tryz.func59,Tryz.ntmps59
 go_upto_region 1 with(fail)
 have k0:Aa No w ((w.alloc (.cells #[.int .i64 pR,.int .i64 pN] 24)).alloc (.cells Be 29)):=((Aa.refl No w).alloc _).alloc _
 have hA:=Ab (Nx w (.cells #[.int .i64 pR,.int .i64 pN] 24)) (.cells Be 29)
 have hB:=Nx (w.alloc (.cells #[.int .i64 pR,.int .i64 pN] 24)) (.cells Be 29)
 rw[World.size_alloc]at hB
 generalize (w.alloc (.cells #[.int .i64 pR,.int .i64 pN] 24)).alloc (.cells Be 29)=w1 at k0 hA hB⊢
 have a0:=Cx hA 0
 have a1:=Cx hA 1
 go_wp2_with(refine Bd rfl 29 _ _ rfl (w.heap.size+1) (As (TV r n t ⟨pR,pN⟩ k) (.slice none 0 0)) _ 29 rfl rfl hB (by rfl) Rx (by rfl) ?_;intro w4 hb4 k4 hz4;clear hz4)
 refine bodyPost_ret (CX rfl rfl hb4 Tryz.underlying29 rfl Rx) rfl ⟨rfl,k0.step k4 fun y hy hl=>by unfold At1 at hy;omega⟩
/-- a readable row of ops, of whose cuts only the lengths are known -/
def K7(v:Value)(l:List Dc.Op)(w:World):Prop:=∃ps:List (Dc.Op×Sl),ps.map (·.1)=l∧BI 20 EN v ps w∧∀p∈ps,p.2.n=p.1.cuts.length
theorem K7.keeps{S:Nat→Prop}{v:Value}{l:List Dc.Op}{w w':World}(h:K7 v l w)(k:Aa S w w')(hn:∀g,v.ownBlock=some g→¬S g):K7 v l w':=by
 obtain⟨ps,h1,h2,h3⟩:=h
 exact⟨ps,h1,h2.keeps k hn,h3⟩
theorem K7.no{v:Value}{l:List Dc.Op}{w w':World}(h:K7 v l w)(k:Aa No w w'):K7 v l w':=h.keeps k fun _ _ e=>e
def II(o:Dc.Op):Bool:=decide (200<o.text.length)||decide (200<o.key.length)||decide (40<o.cuts.length)
def DZ(l:List Dc.Op):Bool:=decide (40<l.length)||l.any II
theorem K7.cell{v:Value}{l:List Dc.Op}{w:World}(h:K7 v l w){k:Nat}(hk:k<l.length):∃g o c,v= .slice (some ⟨g,o,none⟩) l.length c∧w.cell? ⟨g,o+k*20+17,none⟩=some (.string ⟨(l[k]'hk).text.toArray⟩)∧w.cell? ⟨g,o+k*20+8,none⟩=some (.string ⟨(l[k]'hk).key.toArray⟩)∧
  ∃sa sc,w.cell? ⟨g,o+k*20+18,none⟩=some (.slice sa (l[k]'hk).cuts.length sc):=by
 obtain⟨ps,rfl,⟨_,ao,c,rfl,_,_,h3⟩,h4⟩:=h
 rw[AM]at hk
 obtain⟨g,o,rfl,_,h5⟩:=h3 (by intro e;rw[e]at hk;simp at hk)
 refine⟨g,o,c,by rw[AM],?_,?_,(ps[k]'hk).2.a,(ps[k]'hk).2.c,?_⟩
 ·rw[h5 k hk 17 (by decide)];simp
 ·rw[h5 k hk 8 (by decide)];simp
 ·rw[h5 k hk 18 (by decide)]
  have:=h4 _ (AQ hk)
  simp only[List.getElem_map]
  rw[←this]
  rfl
theorem K7.form{v:Value}{l:List Dc.Op}{w:World}(h:K7 v l w):∃ao c,v= .slice ao l.length c∧l.length≤maxLen:=by
 obtain⟨ps,rfl,⟨h0,ao,c,rfl,_⟩,_⟩:=h
 exact⟨ao,c,by rw[AM],by rw[AM];exact h0⟩
theorem Vv(v:Value)(l:List Dc.Op)(w:World)(h:K7 v l w):
  Calls Tryz.prog 60 #[v,.int .i64 40] w (BM (DZ l) w):=by
 obtain⟨ao,cp,rfl,hml⟩:=h.form
 have HL:=Hx h
 have hll:l.length≤9223372036854775807:=hml
 clear h hml
 by_cases hgt:40<l.length
 ·have HR:Hid (DZ l=true):=Hx (by unfold DZ;simp[hgt])
  generalize DZ l=r at HR⊢
  go_enter Tryz.func60,Tryz.ntmps60
  go_wp2_with fail
  go_ret
  exact⟨by rw[HR.out];rfl,Aa.refl _ _⟩
 ·have HR:Hid (DZ l=l.any II):=Hx (by unfold DZ;simp[hgt])
  generalize DZ l=r at HR⊢
  go_enter Tryz.func60,Tryz.ntmps60
  go_wp2_with fail
  go_loopg [5] l.length (fun kx s5 wr=>∃k:Nat,s5= .int .i64 k∧k≤l.length∧l.length-k≤kx∧Hid ((l.drop k).any II=l.any II)∧wr=w)
  case atStart=>exact⟨0,rfl,Ah _,Ac _,Hx rfl,rfl⟩
  case round=>
   obtain⟨k,rfl,hk,hkx,hany,hwr⟩:=hrel
   by_cases hlt:k<l.length
   ·obtain⟨g,of,c,e1,x17,x8,sa,sc,x18⟩:=HL.out.cell hlt
    injection e1 with e1 e2 e3
    subst e1 e3
    rw[←hwr]at x17 x8 x18
    have hdr:(l.drop k).any II=(II (l[k]'hlt)||(l.drop (k+1)).any II):=by rw[Ci hlt,List.any_cons]
    rw[hdr]at hany
    obtain⟨y,hy⟩:∃y,y=l[k]'hlt:=⟨_,rfl⟩
    rw[←hy]at x17 x8 x18 hany
    have kI0:(0:Int)≤(k:Int):=by omega
    have kI1:(k:Int)<(l.length:Int):=by omega
    have hk40:k≤40:=by omega
    have HW:=Hx hwr
    clear e2 hy hdr hwr
    by_cases hb:II y=true
    ·have HQ:Hid (BM r w (.returned (.bool true)) wr):=Hx ⟨by rw[HR.out,←hany.out,hb];rfl,by rw[HW.out];exact Aa.refl _ _⟩
     clear hany
     unfold II at hb
     simp only[Gz,Au]at hb
     by_cases h1:200<y.text.length
     ·have i1:(200:Int)<(y.text.length:Int):=by omega
      clear hb
      go_wp2_with fail
      go_ret
      exact HQ.out
     ·have i1:¬(200:Int)<(y.text.length:Int):=by omega
      by_cases h2:200<y.key.length
      ·have i2:(200:Int)<(y.key.length:Int):=by omega
       clear hb
       go_wp2_with fail
       go_ret
       exact HQ.out
      ·have i2:¬(200:Int)<(y.key.length:Int):=by omega
       have i3:(40:Int)<(y.cuts.length:Int):=by omega
       clear hb
       go_wp2_with fail
       go_ret
       exact HQ.out
    ·have hb':II y=false:=by simpa using hb
     rw[hb',Bool.false_or]at hany
     unfold II at hb'
     simp only[Bool.or_eq_false_iff,decide_eq_false_iff_not]at hb'
     have i1:¬(200:Int)<(y.text.length:Int):=by omega
     have i2:¬(200:Int)<(y.key.length:Int):=by omega
     have i3:¬(40:Int)<(y.cuts.length:Int):=by omega
     clear hb hb'
     go_wp2_with fail
     go_roundg (l.length-(k+1))
     case measure=>omega
     case rel=>exact⟨k+1,by go_num,hlt,Ac _,hany,HW.out⟩
   ·obtain rfl:k=l.length:=by omega
    have HQ:Hid (BM r w (.returned (.bool false)) wr):=Hx ⟨by rw[HR.out,←hany.out,EE];rfl,by rw[hwr];exact Aa.refl _ _⟩
    clear hwr
    go_wp2_with fail
    go_ret
    exact HQ.out
def Ie(l:List Dc.Op):Nat:=((l.take 100).map fun o=>o.text.length).sum
def Hz(l:List Dc.Op):Bool:=DZ l||decide (200<Ie l)
theorem NB{l:List Dc.Op}{k:Nat}(hk:k<l.length):((l.take (k+1)).map fun o=>o.text.length).sum=((l.take k).map fun o=>o.text.length).sum+(l[k]'hk).text.length:=by
 rw[AW,Aj hk,Bo,List.sum_append]
 rfl
theorem EZ{l:List Dc.Op}(h:DZ l=false):l.length≤40∧∀o∈l,o.text.length≤200∧o.key.length≤200∧o.cuts.length≤40:=by
 unfold DZ at h
 simp only[Bool.or_eq_false_iff,decide_eq_false_iff_not,List.any_eq_false]at h
 refine⟨by omega,fun o ho=>?_⟩
 have h2:=h.2 o ho
 unfold II at h2
 simp only[Gz,Au]at h2
 omega
theorem Ob{l:List Dc.Op}(h:∀o∈l,o.text.length≤200):∀k,((l.take k).map fun o=>o.text.length).sum≤200*k:=by
 induction l with
 |nil=>intro k;simp
 |cons a l ih=>
  intro k
  cases k with
  |zero=>simp
  |succ k=>
   simp only[Ix,Cd,List.sum_cons]
   have h1:=h a (by simp)
   have h2:=ih (fun o ho=>h o (by simp[ho])) k
   omega
theorem UC(v:Value)(l:List Dc.Op)(w:World)(h:K7 v l w):
  Calls Tryz.prog 16 #[v] w (BM (Hz l) w):=by
 obtain⟨ao,cp,rfl,hml⟩:=h.form
 have HL:=Hx h
 have hll:l.length≤9223372036854775807:=hml
 have HLG:=Hx (fun W (k:Aa No w W)=>Vv _ l W (h.no k))
 have HR:Hid (Hz l=(DZ l||decide (200<Ie l))):=Hx rfl
 generalize Hz l=r at HR⊢
 clear h hml
 go_enter Tryz.func16,Tryz.ntmps16
 go_wp2_with fail
 go_loopg [3,4] (100-0) (fun kx s3 s4 wr=>∃(k:Nat) (n:Int),s3= .int .i64 n∧s4= .int .i64 k∧k≤l.length∧k≤100∧100-k≤kx∧Hid (DZ l=false→n=(((l.take k).map fun o=>o.text.length).sum:Nat))∧wr=w)
 case atStart=>exact⟨0,0,rfl,rfl,Ah _,Ah _,Ac _,Hx fun _=>by simp,rfl⟩
 case round=>
  obtain⟨k,n,rfl,rfl,hk,hk1,hkx,hs,hwr⟩:=hrel
  by_cases hlt:k<l.length∧k<100
  ·obtain⟨hlt,h100⟩:=hlt
   obtain⟨g,of,c,e1,x17,_,_,_,_⟩:=HL.out.cell hlt
   injection e1 with e1 e2 e3
   subst e1 e3
   rw[←hwr]at x17
   have hst:=NB hlt
   have HBD:Hid (DZ l=false→(l[k]'hlt).text.length≤200∧((l.take k).map fun o=>o.text.length).sum≤200*k):=Hx fun e=>⟨((EZ e).2 _ (AQ hlt)).1,Ob (fun o ho=>((EZ e).2 o ho).1) k⟩
   obtain⟨y,hy⟩:∃y,y=l[k]'hlt:=⟨_,rfl⟩
   rw[←hy]at x17 hst HBD
   have kI0:(0:Int)≤(k:Int):=by omega
   have kI1:(k:Int)<(l.length:Int):=by omega
   have kI2:(k:Int)<100:=by omega
   have HW:=Hx hwr
   have HST:=Hx hst
   clear e2 hy hwr hst
   go_wp2_with fail
   go_roundg (100-(k+1))
   case measure=>omega
   case rel=>
    refine⟨k+1,_,rfl,by go_num,hlt,by omega,Ac _,Hx fun e=>?_,HW.out⟩
    have h1:=hs.out e
    have h2:=HBD.out e
    rw[HST.out,h1]
    unfold wrap64
    omega
  ·have hdone:Hid (DZ l=false→n=(Ie l:Nat)):=Hx fun e=>by
    rw[hs.out e]
    unfold Ie
    rcases Nat.lt_or_ge k 100 with h1|h1
    ·have h2:k=l.length:=by omega
     rw[CB (by omega),CB (by have:=(EZ e).1;omega)]
    ·have h2:k=100:=by omega
     rw[h2]
   have HL0:=Hx (HLG.out w (Aa.refl _ _))
   have hsm:DZ l=false→Ie l≤20000:=fun e=>Ob (fun o ho=>((EZ e).2 o ho).1) 100
   have hend:Hid (∀w',Aa No w w'→BM r w (.returned (.bool r)) w'):=Hx fun w' k=>⟨rfl,k⟩
   obtain rfl:wr=w:=hwr
   have hcs:(¬(k:Int)<(l.length:Int))∨((k:Int)<(l.length:Int)∧k=100):=by omega
   cases hlo:DZ l with
   |true=>
    have hr:r=true:=by rw[HR.out,hlo];rfl
    have HRT:=Hx hr
    rw[hlo]at HL0
    clear hs hdone hsm hlt hr hlo
    rcases hcs with i1|⟨i1,rfl⟩
    all_goals
     go_wp2_with(go_at_call 60;(with_reducible refine HL0.out.mono ?_);rintro e w2 ⟨rfl,k2⟩)
     go_ret
     exact⟨by rw[HRT.out];rfl,k2⟩
   |false=>
    have hn:=hdone.out hlo
    have hr:r=decide (200<Ie l):=by rw[HR.out,hlo];simp
    have hts:=hsm hlo
    generalize Ie l=T at hn hr hts
    subst hn
    rw[hlo]at HL0
    have HRR:=Hx hr
    clear hs hdone hsm hlt hr hlo
    by_cases h2:200<T
    ·have i2:(200:Int)<(T:Int):=by omega
     rcases hcs with i1|⟨i1,rfl⟩
     all_goals
      go_wp2_with(go_at_call 60;(with_reducible refine HL0.out.mono ?_);rintro e w2 ⟨rfl,k2⟩)
      go_ret
      exact⟨by rw[HRR.out,aG h2];rfl,k2⟩
    ·have i2:¬(200:Int)<(T:Int):=by omega
     rcases hcs with i1|⟨i1,rfl⟩
     all_goals
      go_wp2_with(go_at_call 60;(with_reducible refine HL0.out.mono ?_);rintro e w2 ⟨rfl,k2⟩)
      go_ret
      exact⟨by rw[HRR.out,Dn h2];show Ending.returned (.bool (decide ((200:Int)<(T:Int))))=_;rw[Dn (by omega)],k2⟩
end
section
open Go.RowKit
attribute [local go_sem ↓] Go.wp_at_zero Go.wp_at_succ
/-- what may lie in a slice: 2^47 bytes -/
def LM(n bytes:Nat):Prop:=n*bytes≤140737488355328
section
variable {α:Type} {t e:TypeId} {m:Nat} {f:α→List Value} {v:Value} {l:List α} {w:World}
theorem I9.appendB(R:I9 t e m f)(h:Aq e m f v l w)(ad:Addr)(k c:Nat)(ys:List α)(hk:ys.length=k)(hsrc:∀j u,(ys.flatMap f)[j]? =some u→w.cell? (ad.add j)=some u)(h63:l.length+k≤maxLen)
  {z:Value}{by':Nat}(hi:(Tryz.prog.info? e).map (fun i=>(i.zero,i.size,i.bytes))=some (some z,m,by'))(hl:LM (l.length+k) by')(ty:TypeId):
  ∃v' w',(Builtin.append_ #[t,t] ty #[v,.slice (some ad) k c]).run Tryz.prog w= .ok v' w'∧Aq e m f v' (l++ys) w'∧Aa (Gp v) w w'∧(v'.ownBlock=v.ownBlock∨v'.ownBlock=some w.heap.size):=by
 obtain⟨i,z',h1,h2,h3,h4,h5⟩:=R.info
 obtain⟨i',hi1,hi2,hi3,hi4⟩:=info_parts hi
 obtain rfl:i=i':=Ap (h1.symm.trans hi1)
 have hfl:(ys.flatMap f).length=k*m:=by rw[Az R.len,hk]
 have hone:∀u∈ys.flatMap f,u.oneCell'=true:=fun u hu=>by
  obtain⟨y,_,hy⟩:=Ba.1 hu
  exact R.one y u hy
 obtain⟨v',w',hr,o1,o2,_,o4⟩:=run_append_own_at (P:=Tryz.prog) w 0 t ty e i z' m i.bytes R.und h1 h2 h3 rfl h5 R.pos v l.length (l.flatMap f) h ad k c (ys.flatMap f) hfl hsrc hone h63
  (by rw[hi4];exact hl) (Ah _)
 refine⟨v',w',hr,?_,⟨o2.os,o2.tape,o2.output,o2.size,fun k hk hn=>o2.block k hk fun e=>hn (by unfold Gp;rw[e])⟩,o4⟩
 unfold Aq
 rw[Ai,BU,hk]
 exact o1
theorem BI.src{g o n c:Nat}(h:BI m f (.slice (some ⟨g,o,none⟩) n c) l w)(hf:∀x,(f x).length=m)(hm:0<m):∀j u,(l.flatMap f)[j]? =some u→w.cell? ((⟨g,o,none⟩:Addr).add j)=some u:=fun j u hj=>by
 have hadd:(⟨g,o,none⟩:Addr).add j=⟨g,o+j,none⟩:=by unfold Addr.add;split<;>simp_all
 have hjl:=(AS.1 hj).1
 rw[Az hf]at hjl
 obtain⟨_,ao,c',e,_,_,h3⟩:=h
 obtain⟨g',o',rfl,_,h5⟩:=h3 (by intro e;subst e;simp at hjl)
 simp only[Value.slice.injEq,AZ,Addr.mk.injEq,DX]at e
 obtain⟨⟨rfl,rfl⟩,_⟩:=e
 have hk:j / m<l.length:=(Nat.div_lt_iff_lt_mul hm).2 hjl
 have hr:j % m<m:=ay _ hm
 have hj2:j=j / m*m+j % m:=by rw[Nat.mul_comm];exact(Nat.div_add_mod j m).symm
 rw[hadd]
 have h6:=h5 (j / m) hk (j % m) hr
 rw[Nat.add_assoc,←hj2]at h6
 rw[h6,←hj]
 conv=>rhs;rw[hj2]
 exact(EL hf l _ _ hk hr).symm
end
theorem VH:I9 27 64 4 AD:=GY PH Tryz.underlying27 (by decide) rfl (by decide) (fun _=>rfl) (fun _=>rfl)
def N2(n:Nat)(w:World)(e:Ending)(w':World):Prop:=∃a c,e= .returned (.slice a n c)∧Aa No w w'
theorem QU(v:Value)(l:List Dc.Cut)(w:World)(h:BI 4 AD v l w)(hb:LM l.length 32):
  Calls Tryz.prog 100 #[v] w (N2 l.length w):=by
 have hE:Aq 64 4 AD (.slice (some ⟨w.heap.size,0,none⟩) 0 0) [] (w.alloc (.cells #[] 64)):=World.ownsRow_made w #[] 0 (Ah _) (Ah _) rfl
 have ka:Aa No w (w.alloc (.cells #[] 64)):=(Aa.refl No w).alloc _
 have h2:=h.no ka
 obtain⟨h0,ao,c,rfl,_,_,hne⟩:=h
 cases ao with
 |none=>
  have hl:l=[]:=by
   rcases Classical.em (l=[])with h|h
   ·exact h
   ·obtain⟨g,o,h1,_⟩:=hne h;cases h1
  subst hl
  clear hne
  have HAP:=Hx (fun ty=>VH.append_none hE c ty)
  go_enter Tryz.func100,Tryz.ntmps100
  go_wp2_with(at_builtin;refine wpList_append_run rfl _ _ 27 27 rfl _ _ rfl rfl (HAP.out _) ?_)
  go_ret
  exact⟨_,_,rfl,ka⟩
 |some a=>
  obtain⟨g,o,f⟩:=a
  have hsrc:∀j u,(l.flatMap AD)[j]? =some u→(w.alloc (.cells #[] 64)).cell? ((⟨g,o,f⟩:Addr).add j)=some u:=by
   rcases Classical.em (l=[])with h|h
   ·subst h;intro j u hj;simp at hj
   ·obtain⟨g',o',h1,_⟩:=hne h
    cases h1
    exact h2.src (fun _=>rfl) (by decide)
  have HAP:=Hx (fun ty=>VH.appendB hE ⟨g,o,f⟩ l.length c l rfl hsrc (by simpa using h0) PH (by simpa using hb) ty)
  clear hne hsrc h2 h0
  go_enter Tryz.func100,Tryz.ntmps100
  go_wp2_with(at_builtin;obtain⟨v',w7,hr7,ho7,k7,hov7⟩:=HAP.out _;refine wpList_append_run rfl _ _ 27 27 rfl _ _ rfl rfl hr7 ?_)
  have hf:∃a c,v'= .slice a l.length c:=by
   rcases ho7.form with⟨e1,e2⟩|⟨g',cap,_,e1,_⟩
   ·have:l=[]:=by simpa using e2
    subst this
    exact⟨_,_,e1⟩
   ·exact⟨_,_,by simpa using e1⟩
  obtain⟨a7,c7,rfl⟩:=hf
  go_ret
  exact⟨_,_,rfl,ka.step k7 fun y hy hl=>by unfold Gp at hy;have:=Ap hy;simp at this;omega⟩
def RO(o:Dc.Op)(w:World)(e:Ending)(w':World):Prop:=∃a c,e= .returned (opV o (.slice a o.cuts.length c))∧Aa No w w'
theorem QV(o:Dc.Op)(cv:Value)(w:World)(h:BI 4 AD cv o.cuts w)(hb:LM o.cuts.length 32):
  Calls Tryz.prog 61 #[opV o cv] w (RO o w):=by
 obtain⟨ca,cc,rfl⟩:∃ca cc,cv= .slice ca o.cuts.length cc:=by
  obtain⟨_,ca,cc,e,_⟩:=h
  exact⟨ca,cc,e⟩
 have HCC:=Hx (fun W (k:Aa No w W)=>QU (.slice ca o.cuts.length cc) o.cuts W (h.no k) hb)
 clear h hb
 go_enter Tryz.func61,Tryz.ntmps61
 go_upto_region 1 with(fail)
 have k0:Aa No w ((w.alloc (.cells (As o (.slice ca o.cuts.length cc)) 29)).alloc (.cells Be 29)):=((Aa.refl No w).alloc _).alloc _
 have hA:=Ab (Nx w (.cells (As o (.slice ca o.cuts.length cc)) 29)) (.cells Be 29)
 have hB:=Nx (w.alloc (.cells (As o (.slice ca o.cuts.length cc)) 29)) (.cells Be 29)
 rw[World.size_alloc]at hB
 generalize (w.alloc (.cells (As o (.slice ca o.cuts.length cc)) 29)).alloc (.cells Be 29)=w1 at k0 hA hB⊢
 obtain⟨A,eA⟩:∃A,A=w.heap.size:=⟨_,rfl⟩
 obtain⟨B,eB⟩:∃B,B=w.heap.size+1:=⟨_,rfl⟩
 rw[←eA]at hA
 rw[←eB]at hB
 rw[←eB,←eA]
 have hAw:w.heap.size≤A:=by omega
 have hBw:w.heap.size≤B:=by omega
 clear eA eB
 have hZ:=Nx w1 (.cells Be 29)
 have kZ:Aa No w1 (w1.alloc (.cells Be 29)):=(Aa.refl No w1).alloc _
 have hAl:=Ao hA
 have hBl:=Ao hB
 go_upto_region 2 with(first
  |(refine An rfl 29 _ rfl A _ 29 _ rfl hA Tryz.underlying29 rfl Rx ?_)
  |(refine Bd rfl 29 _ _ rfl w1.heap.size _ _ 29 rfl rfl hZ (by rfl) Rx (by rfl) ?_;intro w2 hC2 k2 hz2))
 have k12:Aa No w1 w2:=kZ.step k2 fun y hy hl=>by unfold At1 at hy;omega
 have hA2:=k12.heap hA id
 have hB2:=k12.heap hB id
 have kw2:=k0.trans k12
 have hCA:w1.heap.size≠A:=by omega
 have hCB:w1.heap.size≠B:=by omega
 have hCw:w.heap.size≤w1.heap.size:=k0.size
 clear hz2 hZ kZ k2 hA hB
 have x18:=Cx hA2 18
 have HC2:=Hx (HCC.out _ kw2)
 go_upto_region 3 with(go_at_call 100;(with_reducible refine HC2.out.mono ?_);rintro e w3 ⟨va,vc,rfl,k3⟩;have hC3:=k3.heap hC2 id;have y18:=Cx hC3 18;have u18:=Fx hC3 18)
 have hB3:=k3.heap hB2 id
 have hC4:=heap_set hC3 18 (.slice va o.cuts.length vc)
 have hs4:(As o (.slice ca o.cuts.length cc)).setIfInBounds 18 (.slice va o.cuts.length vc)=As o (.slice va o.cuts.length vc):=rfl
 rw[hs4]at hC4
 have hB4:=AP (b':=w1.heap.size) (j:=18) hB3 (Ne.symm hCB) (.slice va o.cuts.length vc)
 have k4:Aa No w (w3.setCell ⟨w1.heap.size,18,none⟩ (.slice va o.cuts.length vc)):=(kw2.trans k3).setNew hCw _
 clear y18 u18 x18 hC3 hB3 hs4
 generalize w3.setCell ⟨w1.heap.size,18,none⟩ (.slice va o.cuts.length vc)=w4 at hC4 hB4 k4⊢
 go_wp2_with(first
  |(refine An rfl 29 _ rfl w1.heap.size _ 29 _ rfl hC4 Tryz.underlying29 rfl Rx ?_)
  |(refine Bd rfl 29 _ _ rfl B _ _ 29 rfl rfl hB4 (by rfl) Rx (by rfl) ?_;intro w5 hb5 k5 hz5;clear hz5))
 refine bodyPost_ret (CX rfl rfl hb5 Tryz.underlying29 rfl Rx) rfl ⟨va,vc,rfl,k4.step k5 fun y hy hl=>by unfold At1 at hy;omega⟩
/-- the argument of a statement: a readable row of ops with readable cuts -/
def EI(v:Value)(l:List Dc.Op)(w:World):Prop:=
 ∃ps:List (Dc.Op×Sl),ps.map (·.1)=l∧BI 20 EN v ps w∧∀p∈ps,BI 4 AD p.2.v p.1.cuts w∧LM p.1.cuts.length 32
theorem EI.keeps{S:Nat→Prop}{v:Value}{l:List Dc.Op}{w w':World}(h:EI v l w)(k:Aa S w w')(hS:∀g,g<w.heap.size→¬S g):EI v l w':=by
 obtain⟨ps,h1,h2,h3⟩:=h
 have hk:∀g,g<w.heap.size→w'.heap[g]? =w.heap[g]? :=fun g hg=>k.block g hg (hS g hg)
 exact⟨ps,h1,h2.keep (fun g _ hl=>hk g hl) k.size,fun p hp=>⟨(h3 p hp).1.keep (fun g _ hl=>hk g hl) k.size,(h3 p hp).2⟩⟩
theorem EI.no{v:Value}{l:List Dc.Op}{w w':World}(h:EI v l w)(k:Aa No w w'):EI v l w':=h.keeps k fun _ _ e=>e
def LH(l:List Dc.Op)(w:World)(e:Ending)(w':World):Prop:=
 ∃v ps,e= .returned v∧Aq 29 20 EN v ps w'∧ps.map (·.1)=l∧(∀p∈ps,p.2.n=p.1.cuts.length)∧(∀g,v.ownBlock=some g→w.heap.size≤g)∧Aa No w w'
theorem WW(v:Value)(l:List Dc.Op)(w:World)(h:EI v l w)(hb:LM l.length 192):
  Calls Tryz.prog 17 #[v] w (LH l w):=by
 have HA:=Hx h
 obtain⟨ps,hps,hlies,hcl⟩:=h
 have hml:=hlies.1
 have hll:ps.length≤9223372036854775807:=hml
 obtain⟨ao,cp,rfl⟩:∃ao cp,v= .slice ao ps.length cp:=by
  obtain⟨_,ao,c,e,_⟩:=hlies
  exact⟨ao,c,e⟩
 have hlen:l.length=ps.length:=by rw[←hps,AM]
 rw[hlen]at hb
 have HB:=Hx hb
 have HLI:=Hx hlies
 have HCL:=Hx hcl
 have HPS:=Hx hps
 have hE:Aq 29 20 EN (.slice (some ⟨w.heap.size,0,none⟩) 0 0) [] (w.alloc (.cells #[] 29)):=World.ownsRow_made w #[] 0 (Ah _) (Ah _) rfl
 have ka:Aa No w (w.alloc (.cells #[] 29)):=(Aa.refl No w).alloc _
 clear hb hps hlies hcl hml hlen
 go_enter Tryz.func17,Tryz.ntmps17
 go_wp2_with fail
 go_loopg [3,4] ps.length (fun kx s3 s4 wr=>∃(k:Nat) (qs:List (Dc.Op×Sl)),s4= .int .i64 k∧Aq 29 20 EN s3 qs wr∧qs.map (·.1)=(ps.take k).map (·.1)∧(∀p∈qs,p.2.n=p.1.cuts.length)∧(∀g,s3.ownBlock=some g→w.heap.size≤g)∧k≤ps.length∧ps.length-k≤kx∧Aa No w wr)
 case atStart=>exact⟨0,[],rfl,hE,rfl,(fun p hp=>by cases hp),(fun g hg=>by have:=Ap hg;simp at this;omega),Ah _,Ac _,ka⟩
 case round=>
  obtain⟨k,qs,rfl,hout,hq,hqn,hown,hk,hkx,kr⟩:=hrel
  by_cases hlt:k<ps.length
  ·have hli:=HLI.out.no kr
   obtain⟨g,of,rfl,_,_⟩:∃g of,ao=some ⟨g,of,none⟩∧True∧True:=by
    obtain⟨_,ao',c',e,_,_,h3⟩:=hli
    obtain⟨g,of,rfl,_⟩:=h3 (by intro e;rw[e]at hlt;simp at hlt)
    injection e with e1 e2 e3
    exact⟨g,of,e1,trivial,trivial⟩
   have hrg:=hli.range hlt (Ac _)
   have hcv:=(HCL.out _ (AQ hlt)).1.no kr
   have hcb:=(HCL.out _ (AQ hlt)).2
   have htk:ps.take (k+1)=ps.take k++[ps[k]'hlt]:=by rw[AW,Aj hlt];rfl
   obtain⟨⟨o,sl⟩,hy⟩:∃y,y=ps[k]'hlt:=⟨_,rfl⟩
   rw[←hy]at hrg hcv hcb htk
   have kI0:(0:Int)≤(k:Int):=by omega
   have kI1:(k:Int)<(ps.length:Int):=by omega
   have hql:qs.length=k:=by
    have:=congrArg List.length hq
    simp only[AM,Ad]at this
    omega
   have hfit:LM (qs.length+1) 192:=by have h1:=HB.out;unfold LM at h1⊢;omega
   have h63:qs.length+1≤maxLen:=by unfold maxLen;omega
   have HTK:=Hx htk
   have HCP:=Hx (QV o sl.v wr hcv hcb)
   clear hy htk hli hcv hcb
   go_wp2_with(first
    |(refine wpList_load_mid rfl 29 _ rfl g (of+k*20) rfl (EN (o,sl)) _ hrg Tryz.underlying29 rfl Rx ?_)
    |(go_at_call 61;(with_reducible refine HCP.out.mono ?_);rintro e w5 ⟨va,vc,rfl,k5⟩;have hg9:=Nx w5 (.cells (As o (.slice va o.cuts.length vc)) 29))
    |(at_builtin;obtain⟨v',w7,hr7,ho7,k7,hov7⟩:=WL.appendB (hout.no (k5.alloc (.cells (As o (.slice va o.cuts.length vc)) 29))) ⟨w5.heap.size,0,none⟩ 1 1 [((o,⟨va,o.cuts.length,vc⟩):Dc.Op×Sl)] rfl (Ey (y:=((o,⟨va,o.cuts.length,vc⟩):Dc.Op×Sl)) hg9) h63 VD hfit _;refine wpList_append_run rfl _ _ 22 22 rfl _ _ rfl rfl hr7 ?_))
   go_roundg (ps.length-(k+1))
   case measure=>omega
   case rel=>
    have hwr:=kr.size
    have kx:Aa No wr (w5.alloc (.cells (As o (.slice va o.cuts.length vc)) 29)):=k5.alloc _
    have hzx:=kx.size
    refine⟨k+1,_,by go_num,ho7,by rw[HTK.out,Bo,Bo,hq];rfl,fun p hp=>?_,fun y hy=>?_,hlt,Ac _,(kr.trans kx).any.step k7 fun x hx hl=>?_⟩
    ·rcases AC.1 hp with hp|hp
     ·exact hqn p hp
     ·rw[AU]at hp;rw[hp]
    ·rcases hov7 with e7|e7
     ·exact hown y (e7▸hy)
     ·rw[e7]at hy
      have e9:=Ap hy
      omega
    ·have:=hown x hx
     omega
  ·obtain rfl:k=ps.length:=by omega
   rw[AH,HPS.out]at hq
   have hf:∃a c,u3= .slice a ps.length c:=by
    have hql:qs.length=ps.length:=by
     have:=congrArg List.length hq
     rw[←HPS.out]at this
     simpa using this
    rcases hout.form with⟨e1,e2⟩|⟨g',cap,_,e1,_⟩
    ·rw[e2]at hql;exact⟨none,0,by rw[e1,←hql];rfl⟩
    ·exact⟨_,_,by rw[e1,hql]⟩
   obtain⟨a3,c3,rfl⟩:=hf
   have HQ:Hid (LH l w (.returned (.slice a3 ps.length c3)) wr):=Hx ⟨_,qs,rfl,hout,hq,hqn,hown,kr⟩
   clear hout
   go_wp2_with fail
   go_ret
   exact HQ.out
end
end Go.Proofs.YthfjefcljeamgaaGreatDoor
