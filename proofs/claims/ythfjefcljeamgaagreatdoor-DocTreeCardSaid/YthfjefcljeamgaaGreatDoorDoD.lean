/- joined: The document: what an op tells of the tree, when it was made, what is folded. The document: how deep a block stands. -/
import Derived.Test.YthfjefcljeamgaaGreatDoorDoB
import Derived.Test.YthfjefcljeamgaaGreatDoorDcTxFull
namespace Go.Proofs.YthfjefcljeamgaaGreatDoor
set_option maxRecDepth 100000
set_option maxHeartbeats 4000000
section
open Go.RowKit
attribute [local go_sem ↓] Go.wp_at_zero Go.wp_at_succ
def Px(f:Off.Bid→Option Int)(o:Dc.Op):Bool:=
 if o.kind=1∨o.kind=5 then FQ f o.parent
 else if o.kind=2 then FQ f o.block&&FQ f o.parent
 else if o.kind=6 then FQ f o.block
 else true
theorem PO{F:Nat→Prop}{b:Nat}{s:DSt}{w:World}(h:Eu F b s w)(hE:Env w)(o:Dc.Op)(cv:Value):
  Calls Tryz.prog 67 #[.pointer (some ⟨b,0,none⟩),opV o cv] w (BM (Px s.kinds o) w):=by
 have HTH:=Hx (fun W (k:Aa No w W) a=>J9 (h.no k) (hE.no k) a)
 have hkn:Px s.kinds o=if o.kind=1∨o.kind=5 then FQ s.kinds o.parent else if o.kind=2 then FQ s.kinds o.block&&FQ s.kinds o.parent else if o.kind=6 then FQ s.kinds o.block else true:=rfl
 generalize Px s.kinds o=r at hkn⊢
 have HB:=Hx (fun W k=>HTH.out W k o.block)
 have HPA:=Hx (fun W k=>HTH.out W k o.parent)
 generalize FQ s.kinds o.block=rb at HB hkn
 generalize FQ s.kinds o.parent=rp at HPA hkn
 have HK:=Hx hkn
 have HPOST:Hid (∀w',Aa No w w'→BM r w (.returned (.bool r)) w'):=Hx fun w' k=>⟨rfl,k⟩
 generalize BM r w=post at HPOST⊢
 clear HTH hkn h hE
 by_cases h1:o.kind=1
 ·have hr:=HK.out
  rw[Ak (.inl h1)]at hr
  subst hr
  have b1:(o.kind==1)=true:=by simp[h1]
  clear h1 HK
  go_enter Tryz.func67,Tryz.ntmps67
  go_upto_region 1 with(fail)
  have k0:Aa No w (w.alloc (.cells (As o cv) 29)):=(Aa.refl No w).alloc _
  have hP:=Nx w (.cells (As o cv) 29)
  generalize w.alloc (.cells (As o cv) 29)=w1 at k0 hP⊢
  have p0:=Cx hP 0
  have p6:=Cx hP 6
  have p7:=Cx hP 7
  go_wp2_with(go_at_call 25;(with_reducible refine(HPA.out _ k0).mono ?_);rintro e w2 ⟨rfl,k2⟩)
  exact HPOST.out _ (k0.trans k2)
 ·by_cases h5:o.kind=5
  ·have hr:=HK.out
   rw[Ak (.inr h5)]at hr
   subst hr
   have b1:(o.kind==1)=false:=by simp[h1]
   have b5:(o.kind==5)=true:=by simp[h5]
   clear h1 h5 HK
   go_enter Tryz.func67,Tryz.ntmps67
   go_upto_region 1 with(fail)
   have k0:Aa No w (w.alloc (.cells (As o cv) 29)):=(Aa.refl No w).alloc _
   have hP:=Nx w (.cells (As o cv) 29)
   generalize w.alloc (.cells (As o cv) 29)=w1 at k0 hP⊢
   have p0:=Cx hP 0
   have p6:=Cx hP 6
   have p7:=Cx hP 7
   go_wp2_with(go_at_call 25;(with_reducible refine(HPA.out _ k0).mono ?_);rintro e w2 ⟨rfl,k2⟩)
   exact HPOST.out _ (k0.trans k2)
  ·by_cases h2:o.kind=2
   ·have hr:=HK.out
    rw[Ae (by omega),Ak h2]at hr
    have b1:(o.kind==1)=false:=by simp[h1]
    have b5:(o.kind==5)=false:=by simp[h5]
    have b2:(o.kind==2)=true:=by simp[h2]
    clear h1 h5 h2 HK
    go_enter Tryz.func67,Tryz.ntmps67
    go_upto_region 1 with(fail)
    have k0:Aa No w (w.alloc (.cells (As o cv) 29)):=(Aa.refl No w).alloc _
    have hP:=Nx w (.cells (As o cv) 29)
    generalize w.alloc (.cells (As o cv) 29)=w1 at k0 hP⊢
    have p0:=Cx hP 0
    have p4:=Cx hP 4
    have p5:=Cx hP 5
    cases rb with
    |false=>
     obtain rfl:r=false:=by rw[hr];rfl
     clear hr
     go_wp2_with(go_at_call 25;(with_reducible refine(HB.out _ k0).mono ?_);rintro e w2 ⟨rfl,k2⟩)
     exact HPOST.out _ (k0.trans k2)
    |true=>
     obtain rfl:r=rp:=by rw[hr];rfl
     clear hr
     go_wp2_with(first
      |(go_at_call 25;(with_reducible refine(HB.out _ k0).mono ?_);rintro e w2 ⟨rfl,k2⟩;have k02:=k0.trans k2;have q6:=Cx (k2.heap hP id) 6;have q7:=Cx (k2.heap hP id) 7)
      |(go_at_call 25;(with_reducible refine(HPA.out _ k02).mono ?_);rintro e w3 ⟨rfl,k3⟩))
     exact HPOST.out _ (k02.trans k3)
   ·by_cases h6:o.kind=6
    ·have hr:=HK.out
     rw[Ae (by omega),Ae h2,Ak h6]at hr
     subst hr
     have b1:(o.kind==1)=false:=by simp[h1]
     have b5:(o.kind==5)=false:=by simp[h5]
     have b2:(o.kind==2)=false:=by simp[h2]
     have b6:(o.kind==6)=true:=by simp[h6]
     clear h1 h5 h2 h6 HK
     go_enter Tryz.func67,Tryz.ntmps67
     go_upto_region 1 with(fail)
     have k0:Aa No w (w.alloc (.cells (As o cv) 29)):=(Aa.refl No w).alloc _
     have hP:=Nx w (.cells (As o cv) 29)
     generalize w.alloc (.cells (As o cv) 29)=w1 at k0 hP⊢
     have p0:=Cx hP 0
     have p4:=Cx hP 4
     have p5:=Cx hP 5
     go_wp2_with(go_at_call 25;(with_reducible refine(HB.out _ k0).mono ?_);rintro e w2 ⟨rfl,k2⟩)
     exact HPOST.out _ (k0.trans k2)
    ·have hr:=HK.out
     rw[Ae (by omega),Ae h2,Ae h6]at hr
     subst hr
     have b1:(o.kind==1)=false:=by simp[h1]
     have b5:(o.kind==5)=false:=by simp[h5]
     have b2:(o.kind==2)=false:=by simp[h2]
     have b6:(o.kind==6)=false:=by simp[h6]
     clear h1 h5 h2 h6 HK
     go_enter Tryz.func67,Tryz.ntmps67
     go_upto_region 1 with(fail)
     have k0:Aa No w (w.alloc (.cells (As o cv) 29)):=(Aa.refl No w).alloc _
     have hP:=Nx w (.cells (As o cv) 29)
     generalize w.alloc (.cells (As o cv) 29)=w1 at k0 hP⊢
     have p0:=Cx hP 0
     go_wp2_with fail
     exact HPOST.out _ k0
theorem Ko(o:Dc.Op)(cv:Value)(w:World):
  Calls Tryz.prog 71 #[opV o cv] w fun e w'=>e= .returned (.agg #[.int .i64 o.t,.int .i64 o.id.R])∧Aa No w w':=by
 go_enter Tryz.func71,Tryz.ntmps71
 go_upto_region 1 with(fail)
 have k0:Aa No w ((w.alloc (.cells (As o cv) 29)).alloc (.cells #[.int .i64 0,.int .i64 0] 119)):=((Aa.refl No w).alloc _).alloc _
 have hP:=Ab (Nx w (.cells (As o cv) 29)) (.cells #[.int .i64 0,.int .i64 0] 119)
 have hS:=Nx (w.alloc (.cells (As o cv) 29)) (.cells #[.int .i64 0,.int .i64 0] 119)
 rw[World.size_alloc]at hS
 generalize (w.alloc (.cells (As o cv) 29)).alloc (.cells #[.int .i64 0,.int .i64 0] 119)=w1 at k0 hP hS⊢
 have p1:=Cx hP 1
 have p3:=Cx hP 3
 have q0:=Cx hS 0
 have q1:=Cx hS 1
 have u:=Fx hS
 have hf:=heap_set (heap_set hS 0 (.int .i64 o.t)) 1 (.int .i64 o.id.R)
 have kf:Aa No w ((w1.setCell ⟨w.heap.size+1,0,none⟩ (.int .i64 o.t)).setCell ⟨w.heap.size+1,1,none⟩ (.int .i64 o.id.R)):=(k0.setNew (Hq _) _).setNew (Hq _) _
 go_wp2_with fail
 generalize (w1.setCell ⟨w.heap.size+1,0,none⟩ (.int .i64 o.t)).setCell ⟨w.heap.size+1,1,none⟩ (.int .i64 o.id.R)=wf at hf kf⊢
 refine bodyPost_ret (CX rfl rfl hf Tryz.underlying119 rfl Rx) rfl ⟨rfl,kf⟩
theorem NY{F:Nat→Prop}{b:Nat}{s:DSt}{w:World}(h:Eu F b s w)(a:Off.Bid):
  Calls Tryz.prog 27 #[.pointer (some ⟨b,0,none⟩),idV a] w (BM (Dc.Hl s.words a) w):=by
 obtain⟨lab,vo,bk,bx,bt,bc,bw,h⟩:=h
 obtain⟨R,N⟩:=a
 have HL:=Hx (fun W (k:Aa No w W)=>SI (h.words.keeps k fun _ _ e=>e) ⟨R,N⟩)
 have hb:=h.cells
 generalize Dc.Hl s.words ⟨R,N⟩=r at HL⊢
 clear h
 go_enter Tryz.func27,Tryz.ntmps27
 go_upto_region 1 with(fail)
 have k0:Aa No w (w.alloc (.cells #[.int .i64 R,.int .i64 N] 24)):=(Aa.refl No w).alloc _
 have hA:=Nx w (.cells #[.int .i64 R,.int .i64 N] 24)
 generalize w.alloc (.cells #[.int .i64 R,.int .i64 N] 24)=w1 at k0 hA⊢
 obtain⟨A,eA⟩:∃A,A=w.heap.size:=⟨_,rfl⟩
 rw[←eA]at hA⊢
 clear eA
 have z1:=Ex (Cx (k0.heap hb id) 5)
 have z2:=Ex (Cx hA 0)
 have z3:=Ex (Cx hA 1)
 have lk:=fun d os=>BV (HL.out _ (k0.trans (Ag w1 d os)))
 refine wp_region_quiet_below Rx Rx ?_
 repeat(quiet_step(exact lk _ _))
 refine wpQuiet_nil ?_
 intro _ hw'
 obtain⟨⟨dq,osq⟩,hw''⟩:=hw'
 subst hw''
 have k2:Aa No w1 (Sort.grow (redrawn w1 dq) osq):=Ag w1 dq osq
 clear z1 z2 z3 lk
 generalize Sort.grow (redrawn w1 dq) osq=w2 at k2⊢
 go_wp2_with fail
 go_ret
 exact⟨rfl,k0.trans k2⟩
end
section
open Go.RowKit
attribute [local go_sem ↓] Go.wp_at_zero Go.wp_at_succ
theorem WH{α:Type}{p:α→Bool}:∀{l:List α} {k:Nat} (hk:k<l.length),k≤(l.takeWhile p).length→(p l[k]=true→k+1≤(l.takeWhile p).length)∧(p l[k]=false→(l.takeWhile p).length=k)
 |[],_,hk,_=>by cases hk
 |a::l,0,_,_=>by
  simp only[List.getElem_cons_zero,List.takeWhile_cons]
  constructor
  ·intro h;rw[Ak h];simp
  ·intro h;rw[Ae (by rw[h];decide)];rfl
 |a::l,k+1,hk,h=>by
  simp only[List.getElem_cons_succ,List.takeWhile_cons]at h⊢
  by_cases ha:p a=true
  ·rw[Ak ha]at h⊢
   simp only[BO]at h hk⊢
   have:=WH (p:=p) (l:=l) (k:=k) (by omega) (by omega)
   exact⟨fun e=>by have:=this.1 e;omega,fun e=>by rw[this.2 e]⟩
  ·rw[Ae ha]at h
   simp at h
theorem Xc{α:Type}(p:α→Bool)(l:List α):(l.takeWhile p).length≤l.length:=(List.takeWhile_prefix p).length_le
theorem Aq.idO{l:List Off.Bid}{w:World}{g n cap:Nat}(h:Aq 24 2 Bf (.slice (some ⟨g,0,none⟩) n cap) l w){k:Nat}(hk:k<l.length):
  w.cell? ⟨g,k*2,none⟩=some (.int .i64 (l[k]'hk).R)∧w.cell? ⟨g,k*2+1,none⟩=some (.int .i64 (l[k]'hk).N):=by
 have hc:=fun r (hr:r<2)=>h.cell (fun _=>rfl) hk hr
 exact⟨hc 0 (by decide),hc 1 (by decide)⟩
def Qc(n:Int)(w:World)(e:Ending)(w':World):Prop:=e= .returned (.int .i64 n)∧Aa No w w'
theorem PP{F:Nat→Prop}{b:Nat}{s:DSt}{w:World}(h:Eu F b s w)(rk:Off.Bid→Nat)(hr:Dc.Ce s.f rk)(a top:Off.Bid)(hlen:(Dc.way s.f a).length≤1000000):
  Calls Tryz.prog 74 #[.pointer (some ⟨b,0,none⟩),idV a,idV top] w (Qc (Dc.EQ s.f a top:Nat) w):=by
 obtain⟨lab,vo,bk,bx,bt,bc,bw,h⟩:=h
 obtain⟨R,N⟩:=a
 obtain⟨tR,tN⟩:=top
 have hb:=h.cells
 obtain⟨vs,bi,bp,vc,h1,_,_,h4,_⟩:=h.tree
 have HW:=Hx (fun W (k:Aa No w W)=>V0 bt bi bp vs vc s.f rk hr R N hlen W (k.heap h1 id) (h4.keeps k id))
 have hd:Dc.EQ s.f ⟨R,N⟩ ⟨tR,tN⟩=((Dc.way s.f ⟨R,N⟩).takeWhile fun x=>decide (x≠⟨tR,tN⟩)).length:=rfl
 generalize Dc.EQ s.f ⟨R,N⟩ ⟨tR,tN⟩=D at hd⊢
 generalize Dc.way s.f ⟨R,N⟩=L at HW hd hlen
 have HD:=Hx hd
 have hDL:D≤L.length:=hd▸Xc _ _
 clear h h1 h4 hd
 go_enter Tryz.func74,Tryz.ntmps74
 go_upto_region 2 with(fail)
 have k0:Aa No w ((w.alloc (.cells #[.int .i64 R,.int .i64 N] 24)).alloc (.cells #[.int .i64 tR,.int .i64 tN] 24)):=((Aa.refl No w).alloc _).alloc _
 have hA:=Ab (Nx w (.cells #[.int .i64 R,.int .i64 N] 24)) (.cells #[.int .i64 tR,.int .i64 tN] 24)
 have hT:=Nx (w.alloc (.cells #[.int .i64 R,.int .i64 N] 24)) (.cells #[.int .i64 tR,.int .i64 tN] 24)
 rw[World.size_alloc]at hT
 generalize (w.alloc (.cells #[.int .i64 R,.int .i64 N] 24)).alloc (.cells #[.int .i64 tR,.int .i64 tN] 24)=w1 at k0 hA hT⊢
 obtain⟨A,eA⟩:∃A,A=w.heap.size:=⟨_,rfl⟩
 obtain⟨T,eT⟩:∃T,T=w.heap.size+1:=⟨_,rfl⟩
 rw[←eA]at hA
 rw[←eT]at hT
 rw[←eT,←eA]
 clear eA eT
 have kd:Aa No w1 w1.drew:=(Aa.refl No w1).drew
 have hb1:=k0.heap hb id
 have HSA:Hid (∀W:World,Aa No w1 W→W.cell? ⟨b,3,none⟩=some (.pointer (some ⟨bt,0,none⟩))∧W.cell? ⟨A,0,none⟩=some (.int .i64 R)∧W.cell? ⟨A,1,none⟩=some (.int .i64 N)):=Hx fun W k=>
  ⟨Cx (k.heap hb1 id) 3,Cx (k.heap hA id) 0,Cx (k.heap hA id) 1⟩
 have HS0:=HSA.out _ kd
 have HW1:=Hx (HW.out _ (k0.trans kd))
 go_region_held3(fun W=>W.cell? ⟨b,3,none⟩=some (.pointer (some ⟨bt,0,none⟩))∧W.cell? ⟨A,0,none⟩=some (.int .i64 R)∧W.cell? ⟨A,1,none⟩=some (.int .i64 N))
  (first|exact HS0|exact HS1)
  (first
   |(go_at_call 118;(with_reducible refine HW1.out.mono ?_);rintro e w2 ⟨v,rfl,hrow2,hown2,k2⟩;have HR2:=Hx hrow2;(obtain⟨ao,cp,rfl⟩:∃ao cp,v= .slice ao L.length cp:=by(rcases hrow2.form with⟨rfl,rfl⟩|⟨g',cap,_,rfl,_⟩<;>exact⟨_,_,rfl⟩));have HS1:=HSA.out _ (kd.trans k2)))
 all_goals
  clear hrow2 hown2 HS0 HS1
  have k12:=kd.trans k2
  have kw2:=k0.trans k12
  have hT2:=k12.heap hT id
  clear hA hT hb1 HSA kd k2 k0
  go_wp2_with fail
  go_loopg [7,17] L.length (fun kx s7 s17 wr=>∃k:Nat,s7= .int .i64 k∧s17= .int .i64 k∧k≤D∧L.length-k≤kx∧Aa No w2 wr)
  case atStart=>exact⟨0,rfl,rfl,Ah _,Ac _,Aa.refl _ _⟩
  case round=>
   obtain⟨k,rfl,rfl,hk,hkx,kr⟩:=hrel
   by_cases hlt:k<L.length
   ·have hrow:=HR2.out.no kr
    obtain⟨g,cap,e1,hcap,_⟩:=hrow.at (by omega)
    injection e1 with e1 e2 e3
    subst e1 e3
    obtain⟨x0,x1⟩:=hrow.idO hlt
    have htw:=WH (p:=fun x=>decide (x≠(⟨tR,tN⟩:Off.Bid))) hlt (by rw[←HD.out];exact hk)
    rw[←HD.out]at htw
    obtain⟨⟨yR,yN⟩,hy⟩:∃y,y=L[k]'hlt:=⟨_,rfl⟩
    rw[←hy]at x0 x1 htw
    have hTr:=kr.heap hT2 id
    have kI0:(0:Int)≤(k:Int):=by omega
    have kI1:(k:Int)<(L.length:Int):=by omega
    have kD:k≤1000000:=by omega
    clear hrow e2 hy
    go_upto_region 5 with(fail)
    have k6:Aa No wr (wr.alloc (.cells #[.int .i64 yR,.int .i64 yN] 24)):=(Aa.refl No wr).alloc _
    have hY:=Nx wr (.cells #[.int .i64 yR,.int .i64 yN] 24)
    clear x0 x1
    generalize wr.alloc (.cells #[.int .i64 yR,.int .i64 yN] 24)=w6 at k6 hY⊢
    obtain⟨Y,eY⟩:∃Y,Y=wr.heap.size:=⟨_,rfl⟩
    rw[←eY]at hY⊢
    clear eY
    have hT6:=k6.heap hTr id
    have y0:=Cx hY 0
    have y1:=Cx hY 1
    have t0:=Cx hT6 0
    have t1:=Cx hT6 1
    by_cases hq:(⟨yR,yN⟩:Off.Bid)=⟨tR,tN⟩
    ·have hDk:D=k:=htw.2 (by simp[hq])
     have hq':=hq
     simp only[Off.Bid.mk.injEq]at hq'
     obtain⟨rfl,rfl⟩:=hq'
     have HQ:Hid (Qc (D:Nat) w (.returned (.int .i64 (k:Nat))) w6):=Hx ⟨by rw[hDk],(kw2.trans kr).trans k6⟩
     clear hq htw hDk
     go_wp2_with fail
     go_ret
     exact HQ.out
    ·have hDk:k+1≤D:=htw.1 (by simp[hq])
     clear htw
     rcases K1 hq with d|⟨d1,d⟩
     focus
      simp only at d
      clear hq
     rotate_left
     focus
      simp only at d d1
      clear hq
      subst d1
     all_goals
      go_wp2_with fail
      go_roundg (L.length-(k+1))
      case measure=>omega
      case rel=>exact⟨k+1,by go_num,by go_num,hDk,Ac _,kr.trans k6⟩
   ·have hDk:k=D:=by omega
    have HQ:Hid (Qc (D:Nat) w (.returned (.int .i64 (k:Nat))) wr):=Hx ⟨by rw[hDk],kw2.trans kr⟩
    have hkL:k=L.length:=by omega
    have hnk:¬(k:Int)<(L.length:Int):=by omega
    clear hDk hkL
    go_wp2_with fail
    go_ret
    exact HQ.out
end
end Go.Proofs.YthfjefcljeamgaaGreatDoor
