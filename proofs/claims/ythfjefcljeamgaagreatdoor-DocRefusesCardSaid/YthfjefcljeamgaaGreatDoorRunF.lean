/- Rows of runs: a run made to begin at a place. -/
import Derived.Test.YthfjefcljeamgaaGreatDoorRep
import Derived.Deep.RegionLaw
namespace Go.Proofs.YthfjefcljeamgaaGreatDoor
set_option maxRecDepth 100000
set_option maxHeartbeats 4000000
open Go.RowKit
attribute [local go_sem ↓] Go.wp_at_zero Go.wp_at_succ
theorem Qp{l:Dc.Row}{k a j:Nat}{y:Dc.Run}(hj:j<l.length)(hy:y=l[j])(h:Dc.Bw l k=(l.take j++(Dc.Bw (l.drop j) a).1,j+(Dc.Bw (l.drop j) a).2)):
  (a=0→Dc.Bw l k=(l,j))∧(a≠0→a<y.len→Dc.Bw l k=(l.take j++y.left a::y.right a::l.drop (j+1),j+1))∧
  (a≠0→¬a<y.len→Dc.Bw l k=(l.take (j+1)++(Dc.Bw (l.drop (j+1)) (a-y.len)).1,(j+1)+(Dc.Bw (l.drop (j+1)) (a-y.len)).2)):=by
 rw[Ci hj,←hy]at h
 refine⟨fun h0=>?_,fun h0 h1=>?_,fun h0 h1=>?_⟩
 ·rw[h]
  unfold Dc.Bw
  rw[Ak h0]
  simp only[Prod.mk.injEq,Nat.add_zero,DX]
  rw[hy,←Ci hj,A9]
 ·rw[h]
  unfold Dc.Bw
  rw[Ae h0,Ak h1]
 ·rw[h]
  have e:Dc.Bw (y::l.drop (j+1)) a=(y::(Dc.Bw (l.drop (j+1)) (a-y.len)).1,(Dc.Bw (l.drop (j+1)) (a-y.len)).2+1):=by
   conv=>lhs;unfold Dc.Bw
   rw[Ae h0,Ae h1]
  rw[e]
  simp only[Prod.mk.injEq]
  refine⟨?_,by omega⟩
  rw[AW,Aj hj,←hy]
  simp
theorem Si{l:Dc.Row}{k a:Nat}(h:Dc.Bw l k=(l.take l.length++(Dc.Bw (l.drop l.length) a).1,l.length+(Dc.Bw (l.drop l.length) a).2)):Dc.Bw l k=(l,l.length):=by
 rw[h,EE,AH]
 simp[Dc.Bw]
def Jn(F:Nat→Prop)(b:Nat)(l:Dc.Row)(k:Nat)(w:World)(e:Ending)(w':World):Prop:=
 e= .returned (.int .i64 (Dc.Bw l k).2)∧Ec (Bv F w) b (Dc.Bw l k).1 w'∧Aa F w w'
theorem O1{F:Nat→Prop}{b:Nat}{l:Dc.Row}{w:World}(h:Ec F b l w)(hs:Gg l)(k:Nat)(hk6:k≤1000000):
  Calls Tryz.prog 298 #[.pointer (some ⟨b,0,none⟩),.int .i64 k] w (Jn F b l k w):=by
 obtain⟨v,h1,hrow,f1,f2⟩:=h
 obtain⟨ao,cp,rfl⟩:∃ao cp,v= .slice ao l.length cp:=by
  rcases hrow.form with⟨rfl,rfl⟩|⟨g',cap,_,rfl,_⟩
  ·exact⟨none,0,rfl⟩
  ·exact⟨_,cap,rfl⟩
 have H:=Hx hrow
 obtain⟨hs1,hs2,hs3⟩:=hs
 have HS1:=Hx hs1
 have F2:=Hx f2
 have H1:=Hx h1
 obtain⟨post,hpost⟩:∃post,post=Jn F b l k w:=⟨_,rfl⟩
 rw[←hpost]
 have HP:Hid (∀(e:Ending) (w':World) (l':Dc.Row) (i:Nat),Dc.Bw l k=(l',i)→e= .returned (.int .i64 i)→Ec (Bv F w) b l' w'→Aa F w w'→post e w'):=Hx fun e w' l' i hsp he hr hk=>by
  rw[hpost];unfold Jn;rw[hsp];exact⟨he,hr,hk⟩
 clear hrow hs1 f2 hpost
 have b0:=Cx h1 0
 go_enter Tryz.func298,Tryz.ntmps298
 go_wp2_with fail
 clear b0
 go_loopg [1,14] l.length (fun kx s1 s14 wr=>∃j a:Nat,s14= .int .i64 j∧s1= .int .i64 a∧a≤1000000∧j≤l.length∧l.length-j≤kx∧Hid (Dc.Bw l k=(l.take j++(Dc.Bw (l.drop j) a).1,j+(Dc.Bw (l.drop j) a).2))∧Aa No w wr)
 case atStart=>exact⟨0,k,rfl,rfl,hk6,Ah _,Ac _,Hx (by simp),Aa.refl _ _⟩
 case round=>
  obtain⟨j,a,rfl,rfl,ha6,hj,hjx,hsp,kr⟩:=hrel
  by_cases hlt:j<l.length
  ·have hrow:=H.out.no kr
   obtain⟨g,cap,e1,hcap,_⟩:=hrow.at (by omega)
   injection e1 with e1 e2 e3
   subst e1 e3
   obtain⟨x0,x1,x2,x3,x4,x5,x6,x7,x8,x9,x10,x11,x12⟩:=hrow.runO hlt
   obtain⟨y,hy⟩:∃y,y=l[j]'hlt:=⟨_,rfl⟩
   have hsm:=HS1.out y (by rw[hy];exact AQ hlt)
   have HSTEP:=Hx (Qp hlt hy hsp.out)
   rw[←hy]at x0 x1 x2 x3 x10 x11 x12
   have kI0:(0:Int)≤(j:Int):=by omega
   have kI1:(j:Int)<(l.length:Int):=by omega
   have haI:(0:Int)≤(a:Int):=by omega
   clear e2
   by_cases ha0:a=0
   ·subst ha0
    have HE:=Hx (HSTEP.out.1 rfl)
    clear hy hrow hsm HSTEP hsp
    go_wp2_with fail
    exact HP.out _ _ l j HE.out rfl ⟨_,(kr.alloc _).heap h1 id,H.out.no (kr.alloc _),.inl f1,fun g hg=> .inl (F2.out g hg)⟩ (kr.alloc _).any
   ·have ha1:(1:Int)≤(a:Int):=by omega
    have ha2:¬((a:Int)=0):=by omega
    by_cases hlen:a<y.len
    ·have HE:=Hx (HSTEP.out.2.1 ha0 hlen)
     have hparts:=fun W=>KJ y a (by omega) (by omega) W
     obtain⟨p,hp⟩:∃p,p=y.left a:=⟨_,rfl⟩
     obtain⟨q,hq⟩:∃q,q=y.right a:=⟨_,rfl⟩
     rw[←hp,←hq]at hparts HE
     clear hp hq
     have HPA:=Hx hparts
     have hlI:(a:Int)<(y.len:Int):=by omega
     clear hy hrow hsm HSTEP hsp hlen ha0 hparts
     go_upto_region 8 with(go_at_call 332;refine(HPA.out _).mono ?_;rintro e w2 ⟨rfl,k2⟩)
     have k3:Aa No w ((w2.alloc (.cells #[.int .i64 p.op.R,.int .i64 p.op.N,.int .i64 p.fr,.int .i64 p.len,.int .i64 0,.int .i64 0,.int .i64 0,.int .i64 0,.int .i64 0,.int .i64 0,.bool p.gone,.bool p.mark,.string ⟨p.text.toArray⟩] 285)).alloc (.cells #[.int .i64 q.op.R,.int .i64 q.op.N,.int .i64 q.fr,.int .i64 q.len,.int .i64 0,.int .i64 0,.int .i64 0,.int .i64 0,.int .i64 0,.int .i64 0,.bool q.gone,.bool q.mark,.string ⟨q.text.toArray⟩] 285)):=((((kr.alloc _).trans k2).alloc _).alloc _)
     have hP:CQ w2.heap.size p ((w2.alloc (.cells #[.int .i64 p.op.R,.int .i64 p.op.N,.int .i64 p.fr,.int .i64 p.len,.int .i64 0,.int .i64 0,.int .i64 0,.int .i64 0,.int .i64 0,.int .i64 0,.bool p.gone,.bool p.mark,.string ⟨p.text.toArray⟩] 285)).alloc (.cells #[.int .i64 q.op.R,.int .i64 q.op.N,.int .i64 q.fr,.int .i64 q.len,.int .i64 0,.int .i64 0,.int .i64 0,.int .i64 0,.int .i64 0,.int .i64 0,.bool q.gone,.bool q.mark,.string ⟨q.text.toArray⟩] 285)):=Ab (Nx w2 _) _
     have hQ:CQ (w2.heap.size+1) q ((w2.alloc (.cells #[.int .i64 p.op.R,.int .i64 p.op.N,.int .i64 p.fr,.int .i64 p.len,.int .i64 0,.int .i64 0,.int .i64 0,.int .i64 0,.int .i64 0,.int .i64 0,.bool p.gone,.bool p.mark,.string ⟨p.text.toArray⟩] 285)).alloc (.cells #[.int .i64 q.op.R,.int .i64 q.op.N,.int .i64 q.fr,.int .i64 q.len,.int .i64 0,.int .i64 0,.int .i64 0,.int .i64 0,.int .i64 0,.int .i64 0,.bool q.gone,.bool q.mark,.string ⟨q.text.toArray⟩] 285)):=by
      have h:=Nx (w2.alloc (.cells #[.int .i64 p.op.R,.int .i64 p.op.N,.int .i64 p.fr,.int .i64 p.len,.int .i64 0,.int .i64 0,.int .i64 0,.int .i64 0,.int .i64 0,.int .i64 0,.bool p.gone,.bool p.mark,.string ⟨p.text.toArray⟩] 285)) (.cells #[.int .i64 q.op.R,.int .i64 q.op.N,.int .i64 q.fr,.int .i64 q.len,.int .i64 0,.int .i64 0,.int .i64 0,.int .i64 0,.int .i64 0,.int .i64 0,.bool q.gone,.bool q.mark,.string ⟨q.text.toArray⟩] 285)
      rw[World.size_alloc]at h
      exact h
     have h2w:w.heap.size≤w2.heap.size:=((kr.alloc _).trans k2).size
     generalize (w2.alloc (.cells #[.int .i64 p.op.R,.int .i64 p.op.N,.int .i64 p.fr,.int .i64 p.len,.int .i64 0,.int .i64 0,.int .i64 0,.int .i64 0,.int .i64 0,.int .i64 0,.bool p.gone,.bool p.mark,.string ⟨p.text.toArray⟩] 285)).alloc (.cells #[.int .i64 q.op.R,.int .i64 q.op.N,.int .i64 q.fr,.int .i64 q.len,.int .i64 0,.int .i64 0,.int .i64 0,.int .i64 0,.int .i64 0,.int .i64 0,.bool q.gone,.bool q.mark,.string ⟨q.text.toArray⟩] 285)=w3 at k3 hP hQ⊢
     obtain⟨Q,eQ⟩:∃Q,Q=w2.heap.size+1:=⟨_,rfl⟩
     obtain⟨P,eP⟩:∃P,P=w2.heap.size:=⟨_,rfl⟩
     rw[←eQ]at hQ⊢
     rw[←eP]at hP h2w⊢
     clear eQ eP k2 x0 x1 x2 x3 x4 x5 x6 x7 x8 x9 x10 x11 x12 HPA
     have k4:Aa No w3 w3.drew:=(Aa.refl No w3).drew
     generalize hw4:w3.drew=w4 at k4
     have kw4:=k3.trans k4
     have hb4:=kw4.heap h1 id
     have hrow4:=H.out.no kw4
     have b0:=Cx hb4 0
     have hlb:=Ao hb4
     have hlP:=Ao (k4.heap hP id)
     have hlQ:=Ao (k4.heap hQ id)
     obtain⟨p0,p1,p2,p3,p4,p5,p6,p7,p8,p9,p10,p11,p12⟩:K5 P p w4:=CQ.c (k4.heap hP id)
     obtain⟨q0,q1,q2,q3,q4,q5,q6,q7,q8,q9,q10,q11,q12⟩:K5 Q q w4:=CQ.c (k4.heap hQ id)
     have hgb:(Value.slice (some ⟨g,0,none⟩) l.length cp).ownBlock≠some b:=Bh hrow4 hb4 (by decide)
     have hgs:(Value.slice (some ⟨g,0,none⟩) l.length cp).ownBlock≠some w4.heap.size:=fun e=>GB _ (hrow4.own_lt e)
     have ka:Aa No w4 (w4.alloc (.cells #[.int .i64 p.op.R,.int .i64 p.op.N,.int .i64 p.fr,.int .i64 p.len,.int .i64 0,.int .i64 0,.int .i64 0,.int .i64 0,.int .i64 0,.int .i64 0,.bool p.gone,.bool p.mark,.string ⟨p.text.toArray⟩,.int .i64 q.op.R,.int .i64 q.op.N,.int .i64 q.fr,.int .i64 q.len,.int .i64 0,.int .i64 0,.int .i64 0,.int .i64 0,.int .i64 0,.int .i64 0,.bool q.gone,.bool q.mark,.string ⟨q.text.toArray⟩] 285)):=(Aa.refl No w4).alloc _
     have ba:=Cx (ka.heap hb4 id) 0
     have HC:Hid (∀vb,vb=w4.heap.size→Calls Tryz.prog 333 #[.slice (some ⟨g,0,none⟩) l.length cp,.int .i64 j,.int .i64 ((j:Int)+1),.slice (some ⟨vb,0,none⟩) 2 2] (w4.alloc (.cells #[.int .i64 p.op.R,.int .i64 p.op.N,.int .i64 p.fr,.int .i64 p.len,.int .i64 0,.int .i64 0,.int .i64 0,.int .i64 0,.int .i64 0,.int .i64 0,.bool p.gone,.bool p.mark,.string ⟨p.text.toArray⟩,.int .i64 q.op.R,.int .i64 q.op.N,.int .i64 q.fr,.int .i64 q.len,.int .i64 0,.int .i64 0,.int .i64 0,.int .i64 0,.int .i64 0,.int .i64 0,.bool q.gone,.bool q.mark,.string ⟨q.text.toArray⟩] 285))
       (A6 285 13 Af (.slice (some ⟨g,0,none⟩) l.length cp) (l.take j++p::q::l.drop (j+1)) (w4.alloc (.cells #[.int .i64 p.op.R,.int .i64 p.op.N,.int .i64 p.fr,.int .i64 p.len,.int .i64 0,.int .i64 0,.int .i64 0,.int .i64 0,.int .i64 0,.int .i64 0,.bool p.gone,.bool p.mark,.string ⟨p.text.toArray⟩,.int .i64 q.op.R,.int .i64 q.op.N,.int .i64 q.fr,.int .i64 q.len,.int .i64 0,.int .i64 0,.int .i64 0,.int .i64 0,.int .i64 0,.int .i64 0,.bool q.gone,.bool q.mark,.string ⟨q.text.toArray⟩] 285)))):=Hx fun vb hvb=>
      SH l p q j vb _ _ (hrow4.no ka) hlt (by subst hvb;exact Nx w4 _) (by subst hvb;exact hgs) (by omega)
     have hwj:IntKind.i64.wrap ((j:Int)+1)=(j:Int)+1:=by rw[IntKind.wrap_i64];omega
     clear hrow4 hP hQ
     go_region_law(first
      |(go_simp;go_at_call 333;(with_reducible refine(HC.out _ rfl).mono ?_);rintro e w7 ⟨v7,rfl,hrow7,k7,ho7⟩
        have hb7:=k7.heap (ka.heap hb4 id) hgb;have y0:=Cx hb7 0;have u0:=Fx hb7 0;obtain⟨ao7,n7,c7,rfl⟩:=hrow7.slice))
     all_goals
      go_wp2_with fail
      have hb7v:∀g7,(Value.slice ao7 n7 c7).ownBlock=some g7→¬At1 b g7:=fun g7 hg7 e=>Bh hrow7 hb7 (by decide) (by rw[hg7];exact congrArg some e)
      refine HP.out _ _ _ (j+1) HE.out rfl ⟨.slice ao7 n7 c7,heap_set hb7 0 _,hrow7.keeps ((Aa.refl (At1 b) w7).set1 (o:=0) _) hb7v,.inl f1,fun g7 hg7=>?_⟩ (((kw4.no ka).any.step k7 fun x hx _=>F2.out x hx).setCell (a:=⟨b,0,none⟩) (fun _=>f1) _)
      rcases ho7 g7 hg7 with e7|e7
      ·exact .inl (F2.out g7 e7)
      ·refine .inr ?_
       have:=(kw4.no ka).size
       omega
    ·have HE:=Hx (HSTEP.out.2.2 ha0 hlen)
     have hlI:¬(a:Int)<(y.len:Int):=by omega
     have hsub:((a-y.len:Nat):Int)=(a:Int)-(y.len:Int):=by omega
     have hb1:(0:Int)≤(a:Int)-(y.len:Int):=by omega
     have HSUB:=Hx hsub
     clear hy hrow hsm HSTEP hsp hlen ha0 hsub
     go_wp2_with fail
     go_roundg (l.length-(j+1))
     case measure=>omega
     case rel=>exact⟨j+1,a-y.len,by go_num,by rw[HSUB.out],by omega,hlt,Ac _,HE,kr.alloc _⟩
  ·obtain rfl:j=l.length:=by omega
   have HE:=Hx (Si hsp.out)
   have b0:=Cx (kr.heap h1 id) 0
   clear hsp
   go_wp2_with fail
   exact HP.out _ _ l _ HE.out rfl ⟨_,kr.heap h1 id,H.out.no kr,.inl f1,fun g hg=> .inl (F2.out g hg)⟩ kr.any
end Go.Proofs.YthfjefcljeamgaaGreatDoor
