/- joined: The document: a block's place; whether a block lies in the trash. The texts of blocks: all runs of a text; runs held against the same ones. DocOrders: what lies on the heap while ops are done in whatever order. DocOrders: the walk. -/
import Derived.Test.YthfjefcljeamgaaGreatDoorDoD
import Derived.Test.YthfjefcljeamgaaGreatDoorTxF
import Derived.Test.YthfjefcljeamgaaGreatDoorDoB
import Derived.Test.YthfjefcljeamgaaGreatDoorLwF
import Derived.Test.YthfjefcljeamgaaGreatDoorDcTurns
namespace Go.Proofs.YthfjefcljeamgaaGreatDoor
set_option maxRecDepth 100000
set_option maxHeartbeats 8000000
section
open Go.RowKit
attribute [local go_sem ↓] Go.wp_at_zero Go.wp_at_succ
theorem Zx{F:Nat→Prop}{b:Nat}{s:DSt}{w:World}(h:Eu F b s w)(a:Off.Bid):
  Calls Tryz.prog 24 #[.pointer (some ⟨b,0,none⟩),idV a] w (U1 (pl s.f a) (s.f a).isSome w):=by
 obtain⟨lab,vo,bk,bx,bt,bc,bw,h⟩:=h
 obtain⟨R,N⟩:=a
 have hb:=h.cells
 obtain⟨vs,bi,bp,vc,h1,_,_,h4,_⟩:=h.tree
 have HT:=Hx (fun W (k:Aa No w W)=>Ul bt bi bp vs vc s.f R N W (k.heap h1 id) (h4.keeps k id))
 generalize pl s.f ⟨R,N⟩=p at HT⊢
 generalize (s.f ⟨R,N⟩).isSome=ok at HT⊢
 clear h h1 h4
 go_enter Tryz.func24,Tryz.ntmps24
 go_upto_region 1 with(fail)
 have k0:Aa No w ((w.alloc (.cells #[.int .i64 R,.int .i64 N] 24)).alloc (.cells #[.int .i64 0,.int .i64 0,.string ⟨#[]⟩] 45)):=((Aa.refl No w).alloc _).alloc _
 have hA:=Ab (Nx w (.cells #[.int .i64 R,.int .i64 N] 24)) (.cells #[.int .i64 0,.int .i64 0,.string ⟨#[]⟩] 45)
 have hB:=Nx (w.alloc (.cells #[.int .i64 R,.int .i64 N] 24)) (.cells #[.int .i64 0,.int .i64 0,.string ⟨#[]⟩] 45)
 rw[World.size_alloc]at hB
 generalize (w.alloc (.cells #[.int .i64 R,.int .i64 N] 24)).alloc (.cells #[.int .i64 0,.int .i64 0,.string ⟨#[]⟩] 45)=w1 at k0 hA hB⊢
 obtain⟨A,eA⟩:∃A,A=w.heap.size:=⟨_,rfl⟩
 obtain⟨B,eB⟩:∃B,B=w.heap.size+1:=⟨_,rfl⟩
 have hBw:w.heap.size≤B:=by omega
 have hAB:A≠B:=by omega
 rw[←eA]at hA
 rw[←eB]at hB
 rw[←eB,←eA]
 clear eA eB
 have hb1:=k0.heap hb id
 have hbB:b≠B:=by have:=Ao hb;omega
 have kd:Aa No w1 w1.drew:=(Aa.refl No w1).drew
 have HSA:Hid (∀W:World,Aa (At1 B) w1 W→W.cell? ⟨b,3,none⟩=some (.pointer (some ⟨bt,0,none⟩))∧W.cell? ⟨A,0,none⟩=some (.int .i64 R)∧W.cell? ⟨A,1,none⟩=some (.int .i64 N)):=Hx fun W k=>
  ⟨Cx (k.heap hb1 hbB) 3,Cx (k.heap hA hAB) 0,Cx (k.heap hA hAB) 1⟩
 have HS0:=HSA.out _ kd.any
 have HT1:=Hx (HT.out _ (k0.trans kd))
 have HB:=Hx hB
 clear hA hB hb1
 go_region_held3(fun W=>W.cell? ⟨b,3,none⟩=some (.pointer (some ⟨bt,0,none⟩))∧W.cell? ⟨A,0,none⟩=some (.int .i64 R)∧W.cell? ⟨A,1,none⟩=some (.int .i64 N))
  (first|exact HS0|exact HS1|exact HS2)
  (first
   |(go_at_call 75;(with_reducible refine HT1.out.mono ?_);rintro e w2 ⟨rfl,k2⟩;have k12:=kd.trans k2;have hB2:=k12.heap HB.out id;have HS1:=HSA.out _ k12.any;have q0:=Cx hB2 0;have q1:=Cx hB2 1;have q2:=Cx hB2 2;have u:=Fx hB2;have HS2:=HSA.out _ (((k12.any.set1 (o:=0) (.int .i64 p.parent.R)).set1 (o:=1) (.int .i64 p.parent.N)).set1 (o:=2) (.string ⟨p.key.toArray⟩))))
 all_goals
  have hf:=heap_set (heap_set (heap_set hB2 0 (.int .i64 p.parent.R)) 1 (.int .i64 p.parent.N)) 2 (.string ⟨p.key.toArray⟩)
  have kf:Aa No w (((w2.setCell ⟨B,0,none⟩ (.int .i64 p.parent.R)).setCell ⟨B,1,none⟩ (.int .i64 p.parent.N)).setCell ⟨B,2,none⟩ (.string ⟨p.key.toArray⟩)):=(((k0.trans k12).setNew hBw _).setNew hBw _).setNew hBw _
  go_wp2_with fail
  generalize ((w2.setCell ⟨B,0,none⟩ (.int .i64 p.parent.R)).setCell ⟨B,1,none⟩ (.int .i64 p.parent.N)).setCell ⟨B,2,none⟩ (.string ⟨p.key.toArray⟩)=wf at hf kf⊢
  refine bodyPost_ret (EC Tryz.results24 rfl hf Tryz.underlying45 rfl Rx) rfl ⟨rfl,kf⟩
theorem ZA{F:Nat→Prop}{b:Nat}{s:DSt}{w:World}(h:Eu F b s w)(hE:Env w)(rk:Off.Bid→Nat)(hrk:Dc.Ce s.f rk)(a:Off.Bid):
  Calls Tryz.prog 26 #[.pointer (some ⟨b,0,none⟩),idV a] w (BM (decide (a= .t)||Dc.below s.f a .t) w):=by
 obtain⟨lab,vo,bk,bx,bt,bc,bw,h⟩:=h
 obtain⟨R,N⟩:=a
 have hb:=h.cells
 obtain⟨vs,bi,bp,vc,h1,_,_,h4,_⟩:=h.tree
 have HT:=Hx (fun W (k:Aa No w W)=>UV bt bi bp vs vc s.f rk hrk R N 1 0 W (k.heap h1 id) (h4.keeps k id))
 have ht:Dc.below s.f ⟨R,N⟩ .t=Dc.below s.f ⟨R,N⟩ ⟨1,0⟩:=rfl
 rw[ht]
 generalize Dc.below s.f ⟨R,N⟩ ⟨1,0⟩=q at HT⊢
 have HPOST:Hid (∀w',Aa No w w'→BM (decide ((⟨R,N⟩:Off.Bid)= .t)||q) w (.returned (.bool (decide ((⟨R,N⟩:Off.Bid)= .t)||q))) w'):=Hx fun w' k=>⟨rfl,k⟩
 generalize BM (decide ((⟨R,N⟩:Off.Bid)= .t)||q) w=post at HPOST⊢
 clear h h1 h4 ht
 have t0:=hE.trash0
 have t1:=hE.trash1
 clear hE
 have hd:(R=1∧N=0)∨(¬R=1)∨(R=1∧¬N=0):=by omega
 rcases hd with⟨rfl,rfl⟩|d|⟨rfl,d⟩
 ·have hq:decide ((⟨1,0⟩:Off.Bid)= .t)=true:=rfl
  rw[hq,Bool.true_or]at HPOST
  clear HT hq
  go_enter Tryz.func26,Tryz.ntmps26
  go_upto_region 1 with(fail)
  have k0:Aa No w (w.alloc (.cells #[.int .i64 1,.int .i64 0] 24)):=(Aa.refl No w).alloc _
  have hA:=Nx w (.cells #[.int .i64 1,.int .i64 0] 24)
  have z4:=Ex (k0.cellOf t0 id)
  have z5:=Ex (k0.cellOf t1 id)
  generalize w.alloc (.cells #[.int .i64 1,.int .i64 0] 24)=w1 at k0 hA z4 z5⊢
  obtain⟨A,eA⟩:∃A,A=w.heap.size:=⟨_,rfl⟩
  rw[←eA]at hA⊢
  clear eA t0 t1
  have z2:=Ex (Cx hA 0)
  have z3:=Ex (Cx hA 1)
  refine wp_region_quiet_below Rx Rx ?_
  repeat(quiet_step(fail))
  refine wpQuiet_nil ?_
  intro _ hw'
  obtain⟨⟨dq,osq⟩,hw''⟩:=hw'
  subst hw''
  have k2:Aa No w1 (Sort.grow (redrawn w1 dq) osq):=Ag w1 dq osq
  clear z2 z3 z4 z5
  generalize Sort.grow (redrawn w1 dq) osq=w2 at k2⊢
  go_wp2_with fail
  exact HPOST.out _ (k0.trans k2)
 ·have hq:decide ((⟨R,N⟩:Off.Bid)= .t)=false:=Dn fun e=>by simp only[Off.Bid.t,Off.Bid.mk.injEq]at e;exact d e.1
  rw[hq,Bool.false_or]at HPOST
  clear hq
  go_enter Tryz.func26,Tryz.ntmps26
  go_upto_region 1 with(fail)
  have k0:Aa No w (w.alloc (.cells #[.int .i64 R,.int .i64 N] 24)):=(Aa.refl No w).alloc _
  have hA:=Nx w (.cells #[.int .i64 R,.int .i64 N] 24)
  have z4:=Ex (k0.cellOf t0 id)
  have z5:=Ex (k0.cellOf t1 id)
  generalize w.alloc (.cells #[.int .i64 R,.int .i64 N] 24)=w1 at k0 hA z4 z5⊢
  obtain⟨A,eA⟩:∃A,A=w.heap.size:=⟨_,rfl⟩
  rw[←eA]at hA⊢
  clear eA t0 t1
  have z1:=Ex (Cx (k0.heap hb id) 3)
  have z2:=Ex (Cx hA 0)
  have z3:=Ex (Cx hA 1)
  have lk:=fun d os=>BV (HT.out _ (k0.trans (Ag w1 d os)))
  refine wp_region_quiet_below Rx Rx ?_
  repeat(quiet_step(exact lk _ _))
  refine wpQuiet_nil ?_
  intro _ hw'
  obtain⟨⟨dq,osq⟩,hw''⟩:=hw'
  subst hw''
  have k2:Aa No w1 (Sort.grow (redrawn w1 dq) osq):=Ag w1 dq osq
  clear z1 z2 z3 z4 z5 lk
  generalize Sort.grow (redrawn w1 dq) osq=w2 at k2⊢
  go_wp2_with fail
  exact HPOST.out _ (k0.trans k2)
 ·have hq:decide ((⟨1,N⟩:Off.Bid)= .t)=false:=Dn fun e=>by simp only[Off.Bid.t,Off.Bid.mk.injEq]at e;exact d e.2
  rw[hq,Bool.false_or]at HPOST
  clear hq
  go_enter Tryz.func26,Tryz.ntmps26
  go_upto_region 1 with(fail)
  have k0:Aa No w (w.alloc (.cells #[.int .i64 1,.int .i64 N] 24)):=(Aa.refl No w).alloc _
  have hA:=Nx w (.cells #[.int .i64 1,.int .i64 N] 24)
  have z4:=Ex (k0.cellOf t0 id)
  have z5:=Ex (k0.cellOf t1 id)
  generalize w.alloc (.cells #[.int .i64 1,.int .i64 N] 24)=w1 at k0 hA z4 z5⊢
  obtain⟨A,eA⟩:∃A,A=w.heap.size:=⟨_,rfl⟩
  rw[←eA]at hA⊢
  clear eA t0 t1
  have z1:=Ex (Cx (k0.heap hb id) 3)
  have z2:=Ex (Cx hA 0)
  have z3:=Ex (Cx hA 1)
  have lk:=fun d os=>BV (HT.out _ (k0.trans (Ag w1 d os)))
  refine wp_region_quiet_below Rx Rx ?_
  repeat(quiet_step(exact lk _ _))
  refine wpQuiet_nil ?_
  intro _ hw'
  obtain⟨⟨dq,osq⟩,hw''⟩:=hw'
  subst hw''
  have k2:Aa No w1 (Sort.grow (redrawn w1 dq) osq):=Ag w1 dq osq
  clear z1 z2 z3 z4 z5 lk
  generalize Sort.grow (redrawn w1 dq) osq=w2 at k2⊢
  go_wp2_with fail
  exact HPOST.out _ (k0.trans k2)
end
section
open Go.RowKit
attribute [local go_sem ↓] Go.wp_at_zero Go.wp_at_succ
def Zv(x:Dc.TX)(a:Off.Bid):Dc.Row:=match x.texts a with|some t=>t.row|none=>[]
theorem ZF{F:Nat→Prop}{b:Nat}{x:Dc.TX}{w:World}(h:Bg F b x w)(hx:∀seg t,x.texts seg=some t→t.row.length≤1000000)(a:Off.Bid):
  Calls Tryz.prog 31 #[.pointer (some ⟨b,0,none⟩),idV a] w (RL (Zv x a) w):=by
 obtain⟨R,N⟩:=a
 obtain⟨lab,bt,bm,tv,h1,h2,h3,h4,h5,h6,h7,h8,h9⟩:=h
 have HLT:=Hx (fun W (k:Aa No w W)=>FB (h5.keeps k id) R N)
 have HB:=Hx h2
 have e1:(tv ⟨R,N⟩).isSome=(x.texts ⟨R,N⟩).isSome:=h6 _
 rw[e1]at HLT
 obtain⟨p,hp⟩:∃p,p=D5 (tv ⟨R,N⟩):=⟨_,rfl⟩
 obtain⟨ok,hok⟩:∃ok,ok=(x.texts ⟨R,N⟩).isSome:=⟨_,rfl⟩
 rw[←hp,←hok]at HLT
 have H7:=Hx h7
 have HP:=Hx hp
 have HOK:=Hx hok
 have HE1:=Hx e1
 have HX:=Hx hx
 obtain⟨L,hL⟩:∃L,L=Zv x ⟨R,N⟩:=⟨_,rfl⟩
 rw[←hL]
 have HL:=Hx hL
 clear h1 h2 h3 h4 h5 h6 h7 h8 h9 hp e1 hok hx hL
 go_enter Tryz.func31,Tryz.ntmps31
 go_upto_region 1 with(fail)
 have k0:Aa No w (w.alloc (.cells #[.int .i64 R,.int .i64 N] 24)):=(Aa.refl No w).alloc _
 have hA:=Nx w (.cells #[.int .i64 R,.int .i64 N] 24)
 generalize w.alloc (.cells #[.int .i64 R,.int .i64 N] 24)=w1 at k0 hA⊢
 obtain⟨A,eA⟩:∃A,A=w.heap.size:=⟨_,rfl⟩
 rw[←eA]at hA⊢
 clear eA
 have z1:=Ex (Cx (k0.heap HB.out id) 0)
 have z2:=Ex (Cx hA 0)
 have z3:=Ex (Cx hA 1)
 have lk:=fun d os=>HLT.out _ (k0.trans (Ag w1 d os))
 refine wp_region_quiet_below Rx Rx ?_
 repeat(quiet_step(fail))
 refine wpQuiet_nil ?_
 intro _ hw'
 obtain⟨⟨dq,osq⟩,hw''⟩:=hw'
 subst hw''
 have k2:Aa No w1 (Sort.grow (redrawn w1 dq) osq):=Ag w1 dq osq
 clear z1 z2 z3 lk
 generalize Sort.grow (redrawn w1 dq) osq=w2 at k2⊢
 have kw2:=k0.trans k2
 clear hA HLT
 cases ok with
 |false=>
  have ht:x.texts ⟨R,N⟩=none:=by
   have:=HOK.out
   cases h:x.texts ⟨R,N⟩with
   |none=>rfl
   |some t=>rw[h]at this;cases this
  have HQ:Hid (RL L w (.returned (.slice none 0 0)) w2):=Hx ⟨_,rfl,by rw[HL.out];unfold Zv;rw[ht];exact Aq.nil,(fun x hx=>by cases hx),kw2⟩
  clear ht
  go_wp2_with fail
  go_ret
  exact HQ.out
 |true=>
  obtain⟨t,ht⟩:∃t,x.texts ⟨R,N⟩=some t:=D8.1 HOK.out.symm
  obtain⟨kt,hkt⟩:∃kt,tv ⟨R,N⟩=some kt:=by
   have:=HE1.out
   rw[ht]at this
   exact D8.1 this
  have hp:=HP.out
  rw[hkt]at hp
  obtain rfl:p= .pointer (some ⟨kt,0,none⟩):=hp
  have hpc:L=t.row:=by rw[HL.out];unfold Zv;rw[ht]
  have HRN:=Hx (RS ((H7.out _ kt t hkt ht).keeps kw2 fun _ _ e=>e) (HX.out _ t ht))
  rw[←hpc]at HRN
  clear hpc hkt ht
  go_wp2_with(go_at_call 80;(with_reducible refine HRN.out.mono ?_);rintro e w3 ⟨v,rfl,hr3,ho3,k3⟩;have HR3:=Hx hr3;obtain⟨ao,n,c,rfl⟩:=hr3.slice)
  have HQ:Hid (RL L w (.returned (.slice ao n c)) w3):=Hx ⟨_,rfl,HR3.out,fun y hy=>AG kw2.size (ho3 y hy),kw2.trans k3⟩
  go_ret
  exact HQ.out
theorem Aq.runI{T:TypeId}{l:List Dc.Run}{w:World}{g n cap:Nat}(h:Aq T 13 Af (.slice (some ⟨g,0,none⟩) n cap) l w){k:Nat}(hk:k<l.length):
  w.cell? ⟨g,k*13,none⟩=some (.int .i64 (l[k]'hk).op.R)∧w.cell? ⟨g,k*13+1,none⟩=some (.int .i64 (l[k]'hk).op.N)∧w.cell? ⟨g,k*13+2,none⟩=some (.int .i64 (l[k]'hk).fr)∧w.cell? ⟨g,k*13+3,none⟩=some (.int .i64 (l[k]'hk).len)∧w.cell? ⟨g,k*13+4,none⟩=some (.int .i64 0)∧w.cell? ⟨g,k*13+5,none⟩=some (.int .i64 0)∧w.cell? ⟨g,k*13+6,none⟩=some (.int .i64 0)∧w.cell? ⟨g,k*13+7,none⟩=some (.int .i64 0)∧w.cell? ⟨g,k*13+8,none⟩=some (.int .i64 0)∧w.cell? ⟨g,k*13+9,none⟩=some (.int .i64 0)∧w.cell? ⟨g,k*13+10,none⟩=some (.bool (l[k]'hk).gone)∧w.cell? ⟨g,k*13+11,none⟩=some (.bool (l[k]'hk).mark)∧w.cell? ⟨g,k*13+12,none⟩=some (.string ⟨(l[k]'hk).text.toArray⟩):=by
 have hc:=fun r (hr:r<13)=>h.cell (fun _=>rfl) hk hr
 exact⟨hc 0 (by decide),hc 1 (by decide),hc 2 (by decide),hc 3 (by decide),hc 4 (by decide),hc 5 (by decide),hc 6 (by decide),hc 7 (by decide),hc 8 (by decide),hc 9 (by decide),hc 10 (by decide),hc 11 (by decide),hc 12 (by decide)⟩
theorem ZC(va vb:Value)(l:Dc.Row)(w:World)(h1:Aq 127 13 Af va l w)(h2:Aq 127 13 Af vb l w):
  Calls Tryz.prog 30 #[va,vb] w (BM true w):=by
 obtain⟨a1,c1,rfl⟩:∃a c,va= .slice a l.length c:=by rcases h1.form with⟨rfl,rfl⟩|⟨g',cap,_,rfl,_⟩<;>exact⟨_,_,rfl⟩
 obtain⟨a2,c2,rfl⟩:∃a c,vb= .slice a l.length c:=by rcases h2.form with⟨rfl,rfl⟩|⟨g',cap,_,rfl,_⟩<;>exact⟨_,_,rfl⟩
 have H1:=Hx h1
 have H2:=Hx h2
 have hl1:l.length≤9223372036854775807:=h1.len_le
 have HP:Hid (∀w',Aa No w w'→BM true w (.returned (.bool true)) w'):=Hx fun w' k=>⟨rfl,k⟩
 generalize BM true w=post at HP⊢
 clear h1 h2
 go_enter Tryz.func30,Tryz.ntmps30
 go_wp2_with fail
 go_loopg [5] l.length (fun kx s5 wr=>∃k:Nat,s5= .int .i64 k∧k≤l.length∧l.length-k≤kx∧Aa No w wr)
 case atStart=>exact⟨0,rfl,Ah _,Ac _,Aa.refl _ _⟩
 case round=>
  obtain⟨k,rfl,hk,hkx,kr⟩:=hrel
  by_cases hlt:k<l.length
  ·have r1:=H1.out.no kr
   have r2:=H2.out.no kr
   obtain⟨ga,ca,e1,_⟩:=r1.at (by omega)
   injection e1 with e1 e2 e3
   subst e1 e3
   obtain⟨gb,cb,f1,_⟩:=r2.at (by omega)
   injection f1 with f1 f2 f3
   subst f1 f3
   obtain⟨x0,x1,x2,x3,x4,x5,x6,x7,x8,x9,x10,x11,x12⟩:=r1.runI hlt
   obtain⟨y0,y1,y2,y3,y4,y5,y6,y7,y8,y9,y10,y11,y12⟩:=r2.runI hlt
   obtain⟨y,hy⟩:∃y,y=l[k]'hlt:=⟨_,rfl⟩
   rw[←hy]at x0 x1 x2 x3 x10 x11 x12 y0 y1 y2 y3 y10 y11 y12
   have kI0:(0:Int)≤(k:Int):=by omega
   have kI1:(k:Int)<(l.length:Int):=by omega
   have kd:Aa No wr wr.drew:=(Aa.refl No wr).drew
   have HSA:Hid (∀W:World,Aa No wr W→(W.cell? ⟨ga,k*13,none⟩=some (.int .i64 y.op.R)∧W.cell? ⟨ga,k*13+1,none⟩=some (.int .i64 y.op.N)∧W.cell? ⟨ga,k*13+2,none⟩=some (.int .i64 y.fr)∧W.cell? ⟨ga,k*13+3,none⟩=some (.int .i64 y.len)∧W.cell? ⟨ga,k*13+4,none⟩=some (.int .i64 0)∧W.cell? ⟨ga,k*13+5,none⟩=some (.int .i64 0)∧W.cell? ⟨ga,k*13+6,none⟩=some (.int .i64 0)∧W.cell? ⟨ga,k*13+7,none⟩=some (.int .i64 0)∧W.cell? ⟨ga,k*13+8,none⟩=some (.int .i64 0)∧W.cell? ⟨ga,k*13+9,none⟩=some (.int .i64 0)∧W.cell? ⟨ga,k*13+10,none⟩=some (.bool y.gone)∧W.cell? ⟨ga,k*13+11,none⟩=some (.bool y.mark)∧W.cell? ⟨ga,k*13+12,none⟩=some (.string ⟨y.text.toArray⟩))∧(W.cell? ⟨gb,k*13,none⟩=some (.int .i64 y.op.R)∧W.cell? ⟨gb,k*13+1,none⟩=some (.int .i64 y.op.N)∧W.cell? ⟨gb,k*13+2,none⟩=some (.int .i64 y.fr)∧W.cell? ⟨gb,k*13+3,none⟩=some (.int .i64 y.len)∧W.cell? ⟨gb,k*13+4,none⟩=some (.int .i64 0)∧W.cell? ⟨gb,k*13+5,none⟩=some (.int .i64 0)∧W.cell? ⟨gb,k*13+6,none⟩=some (.int .i64 0)∧W.cell? ⟨gb,k*13+7,none⟩=some (.int .i64 0)∧W.cell? ⟨gb,k*13+8,none⟩=some (.int .i64 0)∧W.cell? ⟨gb,k*13+9,none⟩=some (.int .i64 0)∧W.cell? ⟨gb,k*13+10,none⟩=some (.bool y.gone)∧W.cell? ⟨gb,k*13+11,none⟩=some (.bool y.mark)∧W.cell? ⟨gb,k*13+12,none⟩=some (.string ⟨y.text.toArray⟩))):=Hx fun W q=>⟨⟨q.cellOf x0 id,q.cellOf x1 id,q.cellOf x2 id,q.cellOf x3 id,q.cellOf x4 id,q.cellOf x5 id,q.cellOf x6 id,q.cellOf x7 id,q.cellOf x8 id,q.cellOf x9 id,q.cellOf x10 id,q.cellOf x11 id,q.cellOf x12 id⟩,q.cellOf y0 id,q.cellOf y1 id,q.cellOf y2 id,q.cellOf y3 id,q.cellOf y4 id,q.cellOf y5 id,q.cellOf y6 id,q.cellOf y7 id,q.cellOf y8 id,q.cellOf y9 id,q.cellOf y10 id,q.cellOf y11 id,q.cellOf y12 id⟩
   clear hy x0 x1 x2 x3 x4 x5 x6 x7 x8 x9 x10 x11 x12 y0 y1 y2 y3 y4 y5 y6 y7 y8 y9 y10 y11 y12 r1 r2 e2 f2
   go_upto_region 6 with(fail)
   go_region_held3(fun W=>(W.cell? ⟨ga,k*13,none⟩=some (.int .i64 y.op.R)∧W.cell? ⟨ga,k*13+1,none⟩=some (.int .i64 y.op.N)∧W.cell? ⟨ga,k*13+2,none⟩=some (.int .i64 y.fr)∧W.cell? ⟨ga,k*13+3,none⟩=some (.int .i64 y.len)∧W.cell? ⟨ga,k*13+4,none⟩=some (.int .i64 0)∧W.cell? ⟨ga,k*13+5,none⟩=some (.int .i64 0)∧W.cell? ⟨ga,k*13+6,none⟩=some (.int .i64 0)∧W.cell? ⟨ga,k*13+7,none⟩=some (.int .i64 0)∧W.cell? ⟨ga,k*13+8,none⟩=some (.int .i64 0)∧W.cell? ⟨ga,k*13+9,none⟩=some (.int .i64 0)∧W.cell? ⟨ga,k*13+10,none⟩=some (.bool y.gone)∧W.cell? ⟨ga,k*13+11,none⟩=some (.bool y.mark)∧W.cell? ⟨ga,k*13+12,none⟩=some (.string ⟨y.text.toArray⟩))∧(W.cell? ⟨gb,k*13,none⟩=some (.int .i64 y.op.R)∧W.cell? ⟨gb,k*13+1,none⟩=some (.int .i64 y.op.N)∧W.cell? ⟨gb,k*13+2,none⟩=some (.int .i64 y.fr)∧W.cell? ⟨gb,k*13+3,none⟩=some (.int .i64 y.len)∧W.cell? ⟨gb,k*13+4,none⟩=some (.int .i64 0)∧W.cell? ⟨gb,k*13+5,none⟩=some (.int .i64 0)∧W.cell? ⟨gb,k*13+6,none⟩=some (.int .i64 0)∧W.cell? ⟨gb,k*13+7,none⟩=some (.int .i64 0)∧W.cell? ⟨gb,k*13+8,none⟩=some (.int .i64 0)∧W.cell? ⟨gb,k*13+9,none⟩=some (.int .i64 0)∧W.cell? ⟨gb,k*13+10,none⟩=some (.bool y.gone)∧W.cell? ⟨gb,k*13+11,none⟩=some (.bool y.mark)∧W.cell? ⟨gb,k*13+12,none⟩=some (.string ⟨y.text.toArray⟩))) (exact HSA.out _ (kd)) (fail)
   all_goals
    go_wp2_with fail
    go_roundg (l.length-(k+1))
    case measure=>omega
    case rel=>exact⟨k+1,by go_num,hlt,Ac _,kr.trans kd⟩
  ·obtain rfl:k=l.length:=by omega
   have HQ:=Hx (HP.out wr kr)
   go_wp2_with fail
   exact HQ.out
end
section
open Go.RowKit
attribute [local go_sem ↓] Go.wp_at_zero Go.wp_at_succ
theorem EI.opsLO{v:Value}{l:List Dc.Op}{w:World}(h:EI v l w):K7 v l w:=by
 obtain⟨ps,h1,h2,h3⟩:=h
 refine⟨ps,h1,h2,fun p hp=>?_⟩
 obtain⟨⟨_,ao,c,e,_⟩,_⟩:=h3 p hp
 have e':Value.slice p.2.a p.2.n p.2.c= .slice ao p.1.cuts.length c:=e
 injection e'
theorem ZE{F:Nat→Prop}{b:Nat}{d:Dc.Doc}{w:World}(h:C6 F b d w)(a:Off.Bid):
  Calls Tryz.prog 24 #[.pointer (some ⟨b,0,none⟩),idV a] w (U1 (pl d.places a) (d.places a).isSome w):=by
 obtain⟨s,hC,hT,h1,h2,h3,h4,h5⟩:=h
 have hf:s.f=d.places:=by rw[hT.places,h4];rfl
 have:=Zx hC a
 rw[hf]at this
 exact this
theorem ZD{F:Nat→Prop}{b:Nat}{d:Dc.Doc}{w:World}(h:C6 F b d w)(a:Off.Bid):
  Calls Tryz.prog 27 #[.pointer (some ⟨b,0,none⟩),idV a] w (BM (Dc.Hl d.words a) w):=by
 obtain⟨s,hC,hT,h1,h2,h3,h4,h5⟩:=h
 have:=NY hC a
 rw[h5]at this
 exact this
theorem Zw{b bx:Nat}{c0 c1 c3 c4 c5:Value}{T:TypeId}{w:World}(hb:w.heap[b]? =some (.cells #[c0,c1,.pointer (some ⟨bx,0,none⟩),c3,c4,c5] T (0,0))):
  Calls Tryz.prog 28 #[.pointer (some ⟨b,0,none⟩)] w fun e w'=>e= .returned (.pointer (some ⟨bx,0,none⟩))∧Aa No w w':=by
 have z:=Cx hb 2
 clear hb
 go_enter Tryz.func28,Tryz.ntmps28
 go_wp2_with fail
 go_ret
 exact⟨rfl,Aa.refl _ _⟩
/-- the document's texts: one block for good -/
theorem ZJ{F:Nat→Prop}{b:Nat}{d:Dc.Doc}{w:World}(h:C6 F b d w):∃bx F',∀W,Aa No w W→Bg F' bx d.tx W∧Calls Tryz.prog 28 #[.pointer (some ⟨b,0,none⟩)] W fun e w'=>e= .returned (.pointer (some ⟨bx,0,none⟩))∧Aa No W w':=by
 obtain⟨s,⟨lab,vo,bk,bx,bt,bc,bw,h⟩,hT,h1,h2,h3,h4,h5⟩:=h
 exact⟨bx,_,fun W k=>⟨h3▸h.tx.keeps k fun _ _ e=>e,Zw (k.heap h.cells id)⟩⟩
/-- an op whose cuts lie in the arguments' memory -/
def ZB(base:Nat)(w0:World)(p:Dc.Op×Sl):Prop:=
 p.2.n=p.1.cuts.length∧BI 4 AD p.2.v p.1.cuts w0∧(p.1.cuts≠ []→∀g,p.2.v.ownBlock=some g→g<base)∧p.1.cuts.length≤40∧p.1.text.length≤200
structure ZY(B a:Nat)(D:Dc.Doc)(ps:List (Dc.Op×Sl))(v:Value)(F:Nat→Prop)(w:World):Prop where
 row:Aq 29 20 EN v ps w
 own:∀x,v.ownBlock=some x→B≤x∧¬F x
 doc:C6 F a D w
 foot:∀g,F g→B≤g∧g<w.heap.size
section
variable {B a b:Nat} {D D' E E':Dc.Doc} {ps ls rs ps' rs':List (Dc.Op×Sl)} {v v' v6 v9 v11:Value} {F G:Nat→Prop} {w w':World}
theorem ZY.no(h:ZY B a D ps v F w)(k:Aa No w w'):ZY B a D ps v F w':=
 ⟨h.row.no k,h.own,h.doc.no k,fun g hg=>⟨(h.foot g hg).1,AK (h.foot g hg).2 k.size⟩⟩
theorem ZY.did(h:ZY B a D ps v F w)(hB:B≤w.heap.size)(k:Aa F w w')(hd:C6 (Bv F w) a D' w'):ZY B a D' ps v (fun g=>Bv F w g∧g<w'.heap.size) w':=
 ⟨h.row.keeps k fun _ hg=>(h.own _ hg).2,fun x hx=>⟨(h.own x hx).1,fun e=>(h.own x hx).2 (e.1.lt (h.row.own_lt hx))⟩,hd.mono fun _ hg hl=>⟨hg,hl⟩,
  fun g hg=>⟨hg.1.elim (fun e=>(h.foot g e).1) fun e=>AG hB e,hg.2⟩⟩
theorem ZY.push(h:ZY B a D ps v F w)(hB:B≤w.heap.size)(k:Aa (Gp v) w w')(hr:Aq 29 20 EN v' ps' w')(ho:v'.ownBlock=v.ownBlock∨v'.ownBlock=some w.heap.size):ZY B a D ps' v' F w':=
 ⟨hr,fun x hx=>by
  rcases ho with ho|ho
  ·exact h.own x (ho▸hx)
  ·rw[ho]at hx;cases hx
   exact⟨hB,fun e=>by have:=(h.foot _ e).2;omega⟩,h.doc.keeps k fun g hg e=>(h.own g e).2 hg,fun g hg=>⟨(h.foot g hg).1,AK (h.foot g hg).2 k.size⟩⟩
/-- both documents; the ops that were done, what is left of them, what is left behind this round -/
structure ZX(B a b:Nat)(D E:Dc.Doc)(ps ls rs:List (Dc.Op×Sl))(v6 v9 v11:Value)(F G:Nat→Prop)(w:World):Prop where
 rowD:Aq 29 20 EN v6 ps w
 ownD:∀x,v6.ownBlock=some x→B≤x∧¬F x∧¬G x
 rowL:Aq 29 20 EN v9 ls w
 ownL:∀x,v9.ownBlock=some x→B≤x∧¬F x∧¬G x
 rowR:Aq 29 20 EN v11 rs w
 ownR:∀x,v11.ownBlock=some x→B≤x∧¬F x∧¬G x∧v6.ownBlock≠some x∧v9.ownBlock≠some x
 docA:C6 F a D w
 docB:C6 G b E w
 footA:∀g,F g→B≤g∧g<w.heap.size
 footB:∀g,G g→B≤g∧g<w.heap.size
 apart:∀g,F g→¬G g
theorem ZX.no(h:ZX B a b D E ps ls rs v6 v9 v11 F G w)(k:Aa No w w'):ZX B a b D E ps ls rs v6 v9 v11 F G w':=
 ⟨h.rowD.no k,h.ownD,h.rowL.no k,h.ownL,h.rowR.no k,h.ownR,h.docA.no k,h.docB.no k,fun g hg=>⟨(h.footA g hg).1,AK (h.footA g hg).2 k.size⟩,fun g hg=>⟨(h.footB g hg).1,AK (h.footB g hg).2 k.size⟩,h.apart⟩
theorem ZX.did(h:ZX B a b D E ps ls rs v6 v9 v11 F G w)(hB:B≤w.heap.size)(k:Aa G w w')(hd:C6 (Bv G w) b E' w'):ZX B a b D E' ps ls rs v6 v9 v11 F (fun g=>Bv G w g∧g<w'.heap.size) w':=
 ⟨h.rowD.keeps k fun _ hg=>(h.ownD _ hg).2.2,fun x hx=>⟨(h.ownD x hx).1,(h.ownD x hx).2.1,fun e=>(h.ownD x hx).2.2 (e.1.lt (h.rowD.own_lt hx))⟩,
  h.rowL.keeps k fun _ hg=>(h.ownL _ hg).2.2,fun x hx=>⟨(h.ownL x hx).1,(h.ownL x hx).2.1,fun e=>(h.ownL x hx).2.2 (e.1.lt (h.rowL.own_lt hx))⟩,
  h.rowR.keeps k fun _ hg=>(h.ownR _ hg).2.2.1,fun x hx=>⟨(h.ownR x hx).1,(h.ownR x hx).2.1,fun e=>(h.ownR x hx).2.2.1 (e.1.lt (h.rowR.own_lt hx)),(h.ownR x hx).2.2.2⟩,
  h.docA.keeps k fun g hg=>h.apart g hg,hd.mono fun _ hg hl=>⟨hg,hl⟩,fun g hg=>⟨(h.footA g hg).1,AK (h.footA g hg).2 k.size⟩,
  fun g hg=>⟨hg.1.elim (fun e=>(h.footB g e).1) fun e=>AG hB e,hg.2⟩,fun g hg e=>h.apart g hg (e.1.lt (h.footA g hg).2)⟩
theorem ZX.push(h:ZX B a b D E ps ls rs v6 v9 v11 F G w)(hB:B≤w.heap.size)(k:Aa (Gp v11) w w')(hr:Aq 29 20 EN v' rs' w')(ho:v'.ownBlock=v11.ownBlock∨v'.ownBlock=some w.heap.size):ZX B a b D E ps ls rs' v6 v9 v' F G w':=
 ⟨h.rowD.keeps k fun x hx e=>(h.ownR x e).2.2.2.1 hx,h.ownD,h.rowL.keeps k fun x hx e=>(h.ownR x e).2.2.2.2 hx,h.ownL,hr,fun x hx=>by
  rcases ho with ho|ho
  ·exact h.ownR x (ho▸hx)
  ·rw[ho]at hx;cases hx
   exact⟨hB,fun e=>by have:=(h.footA _ e).2;omega,fun e=>by have:=(h.footB _ e).2;omega,fun e=>by have:=h.rowD.own_lt e;omega,fun e=>by have:=h.rowL.own_lt e;omega⟩,
  h.docA.keeps k fun g hg e=>(h.ownR g e).2.1 hg,h.docB.keeps k fun g hg e=>(h.ownR g e).2.2.1 hg,fun g hg=>⟨(h.footA g hg).1,AK (h.footA g hg).2 k.size⟩,fun g hg=>⟨(h.footB g hg).1,AK (h.footB g hg).2 k.size⟩,h.apart⟩
/-- none is left behind a round that begins -/
theorem ZX.fresh(h:ZX B a b D E ps ls rs v6 v9 v11 F G w)(hB:B≤w.heap.size)(k:Aa No w w'){x:Nat}(hx:w.heap.size≤x)(hr:Aq 29 20 EN (.slice (some ⟨x,0,none⟩) 0 0) ([]:List (Dc.Op×Sl)) w'):ZX B a b D E ps ls [] v6 v9 (.slice (some ⟨x,0,none⟩) 0 0) F G w':=
 ⟨h.rowD.no k,h.ownD,h.rowL.no k,h.ownL,hr,fun y hy=>by
  have e:=Ap hy
  simp only at e
  subst e
  exact⟨AG hB hx,fun e=>by have:=(h.footA _ e).2;omega,fun e=>by have:=(h.footB _ e).2;omega,fun e=>by have:=h.rowD.own_lt e;omega,fun e=>by have:=h.rowL.own_lt e;omega⟩,
  h.docA.no k,h.docB.no k,fun g hg=>⟨(h.footA g hg).1,AK (h.footA g hg).2 k.size⟩,fun g hg=>⟨(h.footB g hg).1,AK (h.footB g hg).2 k.size⟩,h.apart⟩
/-- what was left behind a round is what is left -/
theorem ZX.swap(h:ZX B a b D E ps ls rs v6 v9 v11 F G w):ZX B a b D E ps rs [] v6 v11 (.slice none 0 0) F G w:=
 ⟨h.rowD,h.ownD,h.rowR,fun x hx=>⟨(h.ownR x hx).1,(h.ownR x hx).2.1,(h.ownR x hx).2.2.1⟩,Aq.nil,fun x hx=>(by cases hx),h.docA,h.docB,h.footA,h.footB,h.apart⟩
end
theorem Zz:∀(l:List Dc.Op) (d:Dc.Doc),Dc.XZ d→Dc.Yc d→Dc.XZ (l.foldl Dc.Doc.act d)∧Dc.Yc (l.foldl Dc.Doc.act d)
 |[],_,h,h'=>⟨h,h'⟩
 |o::l,d,h,h'=>Zz l (d.act o) (h.act o) (h'.act h o)
theorem ZH(l:List Dc.Op):Dc.XZ (En l)∧Dc.Yc (En l):=Zz l _ Dc.XZ.new Dc.Yc.new
/-- a number of 0 .. 1023 -/
theorem ZI(z:Int):∃m:Nat,bits .and .i64 z 1023=(m:Int)∧m≤1023:=by
 have h1:(BitVec.ofInt 64 z&&& BitVec.ofInt 64 1023).toNat≤1023:=by
  rw[BitVec.toNat_and]
  exact Nat.and_le_right
 refine⟨(BitVec.ofInt 64 z&&& BitVec.ofInt 64 1023).toNat,?_,h1⟩
 show IntKind.i64.wrap ((BitVec.ofInt 64 z&&& BitVec.ofInt 64 1023).toNat:Int)=_
 rw[IntKind.wrap_i64]
 omega
def Zy(z:Int):List Value:=[.int .i64 z]
theorem ZK(a b:Nat):Int.tmod (a:Int) (b:Int)=((a % b:Nat):Int):=by
 rw[Int.tmod_eq_emod_of_nonneg (by omega)];rfl
theorem ZM{D E:Dc.Doc}(h2:D.tx=E.tx)(h3:D.ms=E.ms)(h4:D.words=E.words)(t:Off.Bid):Dc.Vs E t=Dc.Vs D t:=by
 have hp:E.places=D.places:=by unfold Dc.Doc.places;rw[h3]
 unfold Dc.Vs Dc.Vr
 rw[hp,h2,h4]
/-- a row of ops at one place -/
theorem Aq.opR{l:List (Dc.Op×Sl)}{w:World}{g n cap:Nat}(h:Aq 29 20 EN (.slice (some ⟨g,0,none⟩) n cap) l w){k:Nat}(hk:k<l.length):w.rangeAt g (k*20) (EN (l[k]'hk)):=by
 intro j v hj
 have hlt:j<20:=(AS.1 hj).1
 rw[h.cell (fun _=>rfl) hk hlt]
 exact hj
theorem ZL(va vb:Value)(l:List Dc.Ky)(w:World)(h1:Aq 49 5 E5 va l w)(h2:Aq 49 5 E5 vb l w):
  Calls Tryz.prog 23 #[va,vb] w (BM true w):=by
 have:=Vm va vb l l w (h1.lies fun _=>rfl) (h2.lies fun _=>rfl)
 rwa [aG rfl]at this
/-- a round, op by op -/
theorem ZO{D E:Dc.Doc}{ls:List (Dc.Op×Sl)}(ha:Dc.XZ D)(hah:Dc.Yc D)(h:Dc.YC D E (ls.map (·.1)))(hn:D.ops.length≤40)(N:Nat)(h0:0<ls.length):
  ∃S:Nat→Dc.Doc×List Dc.Op,S 0=(E,[])∧(∀k,k<ls.length→∃hj:(k+N) % ls.length<ls.length,S (k+1)=Dc.X0 (S k) (ls[(k+N) % ls.length]'hj).1)∧
   (∀k,k≤ls.length→Dc.XZ (S k).1∧(S k).1.ops.length≤40∧(S k).2.length≤40)∧Dc.YC D (S ls.length).1 (S ls.length).2∧(S ls.length).2.length<ls.length:=by
 have hMl:(Dc.Yr (ls.map (·.1)) N).length=ls.length:=by rw[Dc.Yk,AM]
 have hperm:=h.perm.length_eq
 rw[Ai,AM]at hperm
 have htd:=Dc.YC.round ha hah h N
 refine⟨fun k=>((Dc.Yr (ls.map (·.1)) N).take k).foldl Dc.X0 (E,[]),rfl,fun k hk=>⟨ay _ h0,?_⟩,fun k hk=>⟨Dc.Zm _ _ h.by',?_⟩,?_,?_⟩
 ·show((Dc.Yr (ls.map (·.1)) N).take (k+1)).foldl Dc.X0 (E,[])=_
  rw[AW,Aj (by rw[hMl];exact hk),Dy]
  have e:(Dc.Yr (ls.map (·.1)) N)[k]'(by rw[hMl];exact hk)=(ls[(k+N) % ls.length]'(ay _ h0)).1:=by
   rw[Dc.Zt (by rw[AM];exact hk)]
   simp
  rw[e]
  rfl
 ·have:=(Dc.YM ((Dc.Yr (ls.map (·.1)) N).take k) (E,[])).length_eq
  simp only[Ai,Ad,List.length_nil]at this
  show(((Dc.Yr (ls.map (·.1)) N).take k).foldl Dc.X0 (E,[])).1.ops.length≤40∧(((Dc.Yr (ls.map (·.1)) N).take k).foldl Dc.X0 (E,[])).2.length≤40
  omega
 ·show Dc.YC D (((Dc.Yr (ls.map (·.1)) N).take ls.length).foldl Dc.X0 (E,[])).1 (((Dc.Yr (ls.map (·.1)) N).take ls.length).foldl Dc.X0 (E,[])).2
  rw[←hMl,AH]
  exact htd.1
 ·show(((Dc.Yr (ls.map (·.1)) N).take ls.length).foldl Dc.X0 (E,[])).2.length<ls.length
  have:=htd.2 (fun e=>by rw[List.map_eq_nil_iff]at e;rw[e]at h0;simp at h0)
  rw[AM]at this
  rw[←hMl,AH,hMl]
  exact this
/-- what is asked of either document in the end, whatever more lies on the heap -/
structure ZQ(a bx:Nat)(D:Dc.Doc)(w:World):Prop where
 place:∀W,Aa No w W→∀i,Calls Tryz.prog 24 #[.pointer (some ⟨a,0,none⟩),idV i] W (U1 (pl D.places i) (D.places i).isSome W)
 fold:∀W,Aa No w W→∀i,Calls Tryz.prog 27 #[.pointer (some ⟨a,0,none⟩),idV i] W (BM (Dc.Hl D.words i) W)
 texts:∀W,Aa No w W→Calls Tryz.prog 28 #[.pointer (some ⟨a,0,none⟩)] W fun e w'=>e= .returned (.pointer (some ⟨bx,0,none⟩))∧Aa No W w'
 text:∀W,Aa No w W→∀i,Calls Tryz.prog 29 #[.pointer (some ⟨bx,0,none⟩),idV i] W (Kt (Dc.Dp D.tx i) (Dc.D3 D.tx i) W)
 runs:∀W,Aa No w W→∀i,Calls Tryz.prog 31 #[.pointer (some ⟨bx,0,none⟩),idV i] W (RL (Zv D.tx i) W)
 out:∀W,Aa No w W→∀t,Calls Tryz.prog 20 #[.pointer (some ⟨a,0,none⟩),idV t] W (LV (Dc.Vs D t) W)
theorem ZP{F:Nat→Prop}{a:Nat}{D E:Dc.Doc}{w:World}(h:C6 F a E w)(hf:Dc.BS E)(hn:E.ops.length≤14000)(h2:D.tx=E.tx)(h3:D.ms=E.ms)(h4:D.words=E.words):∃bx,ZQ a bx D w:=by
 obtain⟨bx,F',HX⟩:=ZJ h
 have hp:D.places=E.places:=by unfold Dc.Doc.places;rw[h3]
 obtain⟨hr,ht⟩:(∀seg t,E.tx.texts seg=some t→t.row.length≤1000000)∧∀a,(Dc.Dp E.tx a).length≤1000000000:=
  ⟨fun seg t ht=>by have:=Dc.O0 hf.tx seg t ht;omega,fun a=>by have:=Dc.L2 hf.tx a;omega⟩
 refine⟨bx,fun W k i=>?_,fun W k i=>?_,fun W k=>(HX W k).2,fun W k i=>?_,fun W k i=>?_,fun W k t=>?_⟩
 ·rw[hp];exact ZE (h.no k) i
 ·rw[h4];exact ZD (h.no k) i
 ·rw[h2];exact L1 (HX W k).1 hr i (ht i)
 ·rw[h2];exact ZF (HX W k).1 hr i
 ·rw[←ZM h2 h3 h4];exact SY (h.no k) hf hn t
end
section
open Go.RowKit
attribute [local go_sem ↓] Go.wp_at_zero Go.wp_at_succ
theorem ZG(v:Value)(l:List Dc.Op)(tv:Value)(ts:List Int)(w:World)(hE:Env w)(hv:EI v l w)(ht:BI 1 Zy tv ts w):
  Calls Tryz.prog 5 #[v,tv] w (BM true w):=by
 have hpost:∀w',Aa (BN w.heap.size) w w'→BM true w (.returned (.bool true)) w':=fun w' k=>⟨rfl,k.mono fun g hg hl=>by unfold BN at hg;omega⟩
 obtain⟨base,hbase⟩:∃base,base=w.heap.size:=⟨_,rfl⟩
 rw[←hbase]at hpost
 have h4:4≤base:=hbase▸hE.size
 have HPOST:=Hx hpost
 generalize BM true w=post at HPOST⊢
 have HEV:Hid (∀W,Aa (BN base) w W→Env W):=Hx fun W k=>hE.keeps k fun g hg=>by unfold BN at hg;omega
 have HBS:Hid (∀W,Aa (BN base) w W→base≤W.heap.size):=Hx fun W k=>hbase▸k.size
 have HAG:Hid (∀W,Aa (BN base) w W→EI v l W):=Hx fun W k=>hv.keeps k fun g hg=>by unfold BN;omega
 have HTG:Hid (∀W,Aa (BN base) w W→BI 1 Zy tv ts W):=Hx fun W k=>ht.keep (fun g _ hl=>k.block g hl (by unfold BN;omega)) k.size
 have hOWL:∀(k:Nat) (hk:k<l.length) sa sc,BI 4 AD (.slice sa (l[k]'hk).cuts.length sc) (l[k]'hk).cuts w→(l[k]'hk).cuts≠ []→∀g,(Value.slice sa (l[k]'hk).cuts.length sc).ownBlock=some g→g<base:=fun k hk sa sc hli hne g hg=>by
  obtain⟨_,ao,c,e,_,_,h3⟩:=hli
  obtain⟨g',o',rfl,h5,_⟩:=h3 hne
  injection e with e1 e2 e3
  subst e1
  have:=Ap hg
  simp only at this
  omega
 obtain⟨ao,cp,rfl,hml⟩:=hv.form
 obtain⟨ta,tc,rfl,htl⟩:=ht.form
 have hll:l.length≤9223372036854775807:=hml
 have htt:ts.length≤9223372036854775807:=htl
 have HAL:=Hx (UY w hE)
 have HV:=Hx hv
 have H4:=Hx h4
 have HGR:=Hx (fun W (k:Aa No w W)=>UC _ _ W (HAG.out W k.any).opsLO)
 clear hE hv ht hpost h4 hml htl
 cases hg:Hz l with
 |true=>
  rw[hg]at HGR
  go_enter Tryz.func5,Tryz.ntmps5
  go_wp2_with(first
   |(go_at_call 15;(with_reducible refine HAL.out.mono ?_);rintro e w2 ⟨rfl,k2⟩;have HG2:=Hx (HGR.out w2 k2))
   |(go_at_call 16;(with_reducible refine HG2.out.mono ?_);rintro e w3 ⟨rfl,k3⟩))
  exact HPOST.out _ (k2.trans k3).any
 |false=>
  rw[hg]at HGR
  by_cases h200:200<ts.length
  ·have h200i:(200:Int)<(ts.length:Int):=by omega
   clear h200
   go_enter Tryz.func5,Tryz.ntmps5
   go_wp2_with(first
    |(go_at_call 15;(with_reducible refine HAL.out.mono ?_);rintro e w2 ⟨rfl,k2⟩;have HG2:=Hx (HGR.out w2 k2))
    |(go_at_call 16;(with_reducible refine HG2.out.mono ?_);rintro e w3 ⟨rfl,k3⟩))
   exact HPOST.out _ (k2.trans k3).any
  have h200i:¬(200:Int)<(ts.length:Int):=by omega
  have hgf:=Q8 hg
  have hl40:l.length≤40:=hgf.1
  have HSM:Hid (∀x∈l,x.text.length≤200∧x.cuts.length≤40):=Hx hgf.2
  clear hgf hg
  go_enter Tryz.func5,Tryz.ntmps5
  go_upto_region 6 with(first
   |(go_at_call 15;(with_reducible refine HAL.out.mono ?_);rintro e w2 ⟨rfl,k2⟩;have HG2:=Hx (HGR.out w2 k2))
   |(go_at_call 16;(with_reducible refine HG2.out.mono ?_);rintro e w3 ⟨rfl,k3⟩;have HNW:=Hx (MS w3))
   |(go_at_call 18;(with_reducible refine HNW.out.mono ?_);rintro e w4 ⟨a,rfl,hd4,k4⟩))
  have k03:=k2.trans k3
  obtain⟨B,hB⟩:∃B,B=w3.heap.size:=⟨_,rfl⟩
  rw[←hB]at hd4
  have hBw:base≤B:=by have:=HBS.out w3 k03.any;omega
  have k04:Aa (BN base) w w4:=k03.any.no k4
  have HLB:Hid (∀W,Aa (BN B) w4 W→Aa (BN base) w W):=Hx fun W k=>k04.step k fun g hg _=>by unfold BN at hg⊢;omega
  have HBZ:Hid (∀W,Aa (BN B) w4 W→B≤W.heap.size):=Hx fun W k=>by have:=k4.size;have:=k.size;omega
  -- one op, handed to a document
  have HDO:Hid (∀(x:Dc.Op) (sl:Sl) (c:Nat) (D:Dc.Doc) F W,ZB base w (x,sl)→(∀g,F g→B≤g∧g<W.heap.size)→Aa (BN B) w4 W→C6 F c D W→Dc.BS D→D.ops.length≤40→
    Calls Tryz.prog 19 #[.pointer (some ⟨c,0,none⟩),opV x sl.v] W (JJ F c (D.err x) (D.act x) W)):=Hx fun x sl c D F W ha hF kk hd hf hn=>by
   obtain⟨_,hli,hlo,hc40,ht2⟩:=ha
   have hBB:=HBZ.out W kk
   have hli':BI 4 AD sl.v x.cuts W:=hli.keepsE (HLB.out W kk) fun hne g hg e=>by have:=hlo hne g hg;unfold BN at e;omega
   refine MV (fun g hg=>by have:=hF g hg;have:=H4.out;omega) hd hf (by omega) (HEV.out W (HLB.out W kk)) x sl.v hli' (fun hne g hg=>by have h1:=hlo hne g hg;exact⟨fun e=>by have:=hF g e;omega,by omega⟩) ?_ ?_
   ·show x.cuts.length≤1000000
    have:x.cuts.length≤40:=hc40
    omega
   ·show x.text.length≤1000000000
    have:x.text.length≤200:=ht2
    omega
  have HARG:Hid (∀(k:Nat) (hk:k<l.length) sa sc,BI 4 AD (.slice sa (l[k]'hk).cuts.length sc) (l[k]'hk).cuts w→ZB base w (l[k]'hk,⟨sa,(l[k]'hk).cuts.length,sc⟩)):=Hx fun k hk sa sc hli=>
   ⟨rfl,hli,hOWL k hk sa sc hli,(HSM.out _ (AQ hk)).2,(HSM.out _ (AQ hk)).1⟩
  clear hOWL
  go_upto_region 7 with(fail)
  have hr:=Nx w4 (.cells #[] 29)
  have k5:Aa No w4 (w4.alloc (.cells #[] 29)):=(Aa.refl No w4).alloc _
  have hB4:=HBZ.out w4 (Aa.refl _ _)
  have st5:ZY B a Dc.Doc.new [] (.slice (some ⟨w4.heap.size,0,none⟩) 0 0) (fun g=>B≤g∧g<w4.heap.size) (w4.alloc (.cells #[] 29)):=
   ⟨World.ownsRow_made w4 #[] 0 (Ah _) (Ah _) rfl,fun x hx=>by have:=Ap hx;simp only at this;exact⟨by omega,fun e=>by omega⟩,(hd4.mono fun g hg hl=>⟨hg,hl⟩).no k5,fun g hg=>⟨hg.1,by have:=k5.size;omega⟩⟩
  clear hr hd4
  generalize w4.alloc (.cells #[] 29)=w5 at k5 st5⊢
  obtain⟨Z,eZ⟩:∃Z,Z=w4.heap.size:=⟨_,rfl⟩
  rw[←eZ]at st5⊢
  clear eZ
  have k45:Aa (BN B) w4 w5:=k5.any
  clear k5
  go_wp2_with fail
  go_loopg [6,7] l.length (fun kx s6 s7 wr=>∃(k:Nat) (ps:List (Dc.Op×Sl)) (F:Nat→Prop),s7= .int .i64 k∧ZY B a (En (l.take k)) ps s6 F wr∧ps.map (·.1)=(En (l.take k)).ops∧Hid (∀p∈ps,ZB base w p)∧k≤l.length∧l.length-k≤kx∧Aa (BN B) w4 wr)
  case atStart=>exact⟨0,[],_,rfl,st5,rfl,Hx (fun p hp=>by cases hp),Ah _,Ac _,k45⟩
  case round=>
   obtain⟨k,ps,F,rfl,st,hps,hpa,hk,hkx,kr⟩:=hrel
   by_cases hlt:k<l.length
   ·obtain⟨g,of,c,sa,sc,e1,hgl,hrg,hli⟩:=HV.out.at hlt
    injection e1 with e1 e2 e3
    subst e1 e3
    have kwr:=HLB.out wr kr
    have hrg':wr.rangeAt g (of+k*20) (As (l[k]'hlt) (.slice sa (l[k]'hlt).cuts.length sc)).toList:=fun j v hj=>kwr.cellOf (hrg j v hj) fun e=>by unfold BN at e;omega
    have hrg2:∀W,Aa (BN B) w4 W→W.rangeAt g (of+k*20) (As (l[k]'hlt) (.slice sa (l[k]'hlt).cuts.length sc)).toList:=fun W kk j v hj=>(HLB.out W kk).cellOf (hrg j v hj) fun e=>by unfold BN at e;omega
    have htk:=Tu hlt
    have hya:=HARG.out k hlt sa sc hli
    have hopk:(En (l.take k)).ops.length≤40:=by
     have h1:=KX (l.take k)
     rw[Ad]at h1
     omega
    have hpl:ps.length≤40:=by rw[←AM (f:=(·.1)),hps];exact hopk
    have HD:=Hx (HDO.out (l[k]'hlt) ⟨sa,(l[k]'hlt).cuts.length,sc⟩ a (En (l.take k)) F wr hya st.foot kr st.doc (Ni _) hopk)
    obtain⟨y,hy⟩:∃y,y=l[k]'hlt:=⟨_,rfl⟩
    obtain⟨D,hD⟩:∃D,D=En (l.take k):=⟨_,rfl⟩
    obtain⟨D1,hD1⟩:∃D1,D1=En (l.take (k+1)):=⟨_,rfl⟩
    rw[←hy]at hrg' hrg2 HD htk hya
    rw[←hD]at HD htk st hps
    rw[←hD1]at htk
    have HR2:=Hx hrg2
    have HYA:=Hx hya
    have HPS:=Hx hps
    have HD1:=Hx hD1
    have hBr:=HBZ.out wr kr
    have kI0:(0:Int)≤(k:Int):=by omega
    have kI1:(k:Int)<(l.length:Int):=by omega
    clear e2 hrg hli hy hD hD1 hrg2 hya hps kwr
    by_cases he:D.err y=0
    rotate_left
    ·have hne:(D.err y==0)=false:=by simp[he]
     have hs1:=Dc.Ys he
     rw[←htk]at hs1 HD
     have HS1:=Hx hs1
     clear he hs1 htk
     go_wp2_with(first
      |(refine wpList_load_mid rfl 29 _ rfl g (of+k*20) rfl (As y (.slice sa y.cuts.length sc)).toList _ hrg' Tryz.underlying29 rfl Rx ?_)
      |(go_at_call 19;(with_reducible refine HD.out.mono ?_);rintro e w8 ⟨rfl,k8,hd8⟩))
     go_roundg (l.length-(k+1))
     case measure=>omega
     case rel=>exact⟨k+1,ps,_,by go_num,by rw[←HD1.out];exact st.did hBr k8 hd8,by rw[HPS.out,←HD1.out,HS1.out],hpa,hlt,Ac _,kr.step k8 fun g hg _=>(st.foot g hg).1⟩
    ·have hop:D1.ops=D.ops++[y]:=by rw[htk];exact Dc.Ym he
     rw[he,←htk]at HD
     have HOP:=Hx hop
     clear he hop htk
     go_upto_region 11 with(first
      |(refine wpList_load_mid rfl 29 _ rfl g (of+k*20) rfl (As y (.slice sa y.cuts.length sc)).toList _ hrg' Tryz.underlying29 rfl Rx ?_)
      |(go_at_call 19;(with_reducible refine HD.out.mono ?_);rintro e w8 ⟨rfl,k8,hd8⟩))
     have st8:=st.did hBr k8 hd8
     have kr8:Aa (BN B) w4 w8:=kr.step k8 fun g hg _=>(st.foot g hg).1
     have hB8:=HBZ.out w8 kr8
     have hrg8:=HR2.out w8 kr8
     have hg9:=Nx w8 (.cells (As y (.slice sa y.cuts.length sc)) 29)
     have k89:Aa No w8 (w8.alloc (.cells (As y (.slice sa y.cuts.length sc)) 29)):=(Aa.refl No w8).alloc _
     have st9:=st8.no k89
     have HST:=Hx st9
     have HAP:=Hx (fun ty=>WL.append st9.row ⟨w8.heap.size,0,none⟩ 1 1 [((y,⟨sa,y.cuts.length,sc⟩):Dc.Op×Sl)] rfl (Ey (y:=((y,⟨sa,y.cuts.length,sc⟩):Dc.Op×Sl)) hg9) (by omega) ty)
     clear hrg' st8 st9 hg9 hd8 st
     go_wp2_with(first
      |(refine wpList_load_mid rfl 29 _ rfl g (of+k*20) rfl (As y (.slice sa y.cuts.length sc)).toList _ hrg8 Tryz.underlying29 rfl Rx ?_)
      |(at_builtin;obtain⟨v',w10,hr10,ho10,k10,hov10⟩:=HAP.out _;refine wpList_append_run rfl _ _ 22 22 rfl _ _ rfl rfl hr10 ?_))
     go_roundg (l.length-(k+1))
     case measure=>omega
     case rel=>
      have hB9:B≤(w8.alloc (.cells (As y (.slice sa y.cuts.length sc)) 29)).heap.size:=AG hB8 k89.size
      have hz9:=k89.size
      refine⟨k+1,ps++[(y,⟨sa,y.cuts.length,sc⟩)],_,by go_num,by rw[←HD1.out];exact HST.out.push hB9 k10 ho10 hov10,by rw[Bo,HPS.out,←HD1.out,HOP.out];rfl,Hx fun p hp=>?_,hlt,Ac _,(kr8.no k89).step k10 fun x hx _=>(HST.out.own x hx).1⟩
      rcases AC.1 hp with hp|hp
      ·exact hpa.out p hp
      ·rw[AU]at hp;rw[hp];exact HYA.out
   ·obtain rfl:k=l.length:=by omega
    rw[AH]at st hps
    obtain⟨w11,hw11⟩:∃y,y=wr:=⟨_,rfl⟩
    subst hw11
    have hby:=ZH l
    have hopl:(En l).ops.length≤40:=AG (KX l) hl40
    obtain⟨D,hD⟩:∃D,D=En l:=⟨_,rfl⟩
    rw[←hD]at st hps hby hopl
    have hpl:ps.length=D.ops.length:=by rw[←hps,AM]
    obtain⟨a6,c6,rfl⟩:∃a c,u6= .slice a ps.length c:=by
     rcases st.row.form with⟨rfl,rfl⟩|⟨g',cap,_,rfl,_⟩<;>exact⟨_,_,rfl⟩
    have HN2:=Hx (MS w11)
    have HPS:=Hx hps
    have hp40:ps.length≤40:=by omega
    have HPL:=Hx hpl
    have HOPL:=Hx hopl
    have HBY:=Hx hby
    have kr11:=kr
    have hB11:=HBZ.out w11 kr11
    clear hD hby hopl hpl hps hk hkx hlt HAL HGR HARG HV HSM k45 st5 hl40 kr hll
    go_upto_region 13 with(go_at_call 18;(with_reducible refine HN2.out.mono ?_);rintro e w12 ⟨b,rfl,hdb,k12⟩)
    have hz12:=k12.size
    have kr12:Aa (BN B) w4 w12:=kr11.no k12
    have st12:ZX B a b D Dc.Doc.new ps ps [] (.slice a6 ps.length c6) (.slice a6 ps.length c6) (.slice none 0 0) F (fun g=>w11.heap.size≤g∧g<w12.heap.size) w12:=
     ⟨st.row.no k12,fun x hx=>⟨(st.own x hx).1,(st.own x hx).2,fun e=>by have:=st.row.own_lt hx;omega⟩,st.row.no k12,fun x hx=>⟨(st.own x hx).1,(st.own x hx).2,fun e=>by have:=st.row.own_lt hx;omega⟩,Aq.nil,fun x hx=>(by cases hx),st.doc.no k12,hdb.mono fun g hg hl=>⟨hg,hl⟩,
      fun g hg=>⟨(st.foot g hg).1,AK (st.foot g hg).2 k12.size⟩,fun g hg=>⟨AG hB11 hg.1,hg.2⟩,fun g hg e=>by have:=(st.foot g hg).2;omega⟩
    clear st hdb hz12 kr11 hB11 HN2 k12
    go_wp2_with fail
    go_loopg [9,10] (ps.length+1) (fun kx s9 s10 wr=>∃(r:Nat) (E:Dc.Doc) (ls:List (Dc.Op×Sl)) (G:Nat→Prop),s10= .int .i64 r∧ZX B a b D E ps ls [] (.slice a6 ps.length c6) s9 (.slice none 0 0) F G wr∧Hid (Dc.YC D E (ls.map (·.1)))∧Hid (∀p∈ls,ZB base w p)∧ls.length+r≤ps.length∧ps.length+1-r≤kx∧Aa (BN B) w4 wr)
    case atStart=>exact⟨0,_,ps,_,rfl,st12,Hx (by rw[HPS.out];exact Dc.YC.start),hpa,Ac _,Ac _,kr12⟩
    case round=>
     obtain⟨r,E,ls,G,rfl,st,htu,hla,hlr,hrx,kr⟩:=hrel
     obtain⟨w13,hw13⟩:∃y,y=wr:=⟨_,rfl⟩
     subst hw13
     obtain⟨a9,c9,rfl⟩:∃a c,u9= .slice a ls.length c:=by
      rcases st.rowL.form with⟨rfl,rfl⟩|⟨g',cap,_,rfl,_⟩<;>exact⟨_,_,rfl⟩
     have rI:(r:Int)≤(ps.length:Int):=by omega
     by_cases hne:0<ls.length
     ·have lI:(0:Int)<(ls.length:Int):=by omega
      have hlz:¬(ls.length:Int)=0:=by omega
      have hB13:=HBZ.out w13 kr
      go_upto_region 18 with(fail)
      have k14:Aa No w13 (w13.alloc (.cells #[] 29)):=(Aa.refl No w13).alloc _
      have st14:=st.fresh hB13 k14 (Ac _) (World.ownsRow_made w13 #[] 0 (Ah _) (Ah _) rfl)
      generalize w13.alloc (.cells #[] 29)=w14 at k14 st14⊢
      obtain⟨X,eX⟩:∃X,X=w13.heap.size:=⟨_,rfl⟩
      rw[←eX]at st14⊢
      have kr14:=kr.no k14
      clear eX st k14 kr
      go_upto_if 73 with(fail)
      go_cut[12] (fun s12 wx=>∃N:Nat,s12= .int .i64 N∧N<1024∧wx=w14)
      case first=>
       by_cases hrt:r<ts.length
       ·have rJ:(r:Int)<(ts.length:Int):=by omega
        have rJ0:(0:Int)≤(r:Int):=by omega
        obtain⟨_,ao',c',e,_,_,h3⟩:=HTG.out w14 (HLB.out w14 kr14)
        obtain⟨gt,ot,rfl,_,h5⟩:=h3 (by intro e;rw[e]at hrt;simp at hrt)
        injection e with e1 e2 e3
        subst e1
        have hz:w14.cell? ⟨gt,ot+r,none⟩=some (.int .i64 (ts[r]'hrt)):=by
         have:=h5 r hrt 0 (by decide)
         simpa[Zy]using this
        obtain⟨m,hm,hm2⟩:=ZI (ts[r]'hrt)
        have htm:=ZK m ls.length
        have hmm:m % ls.length<1024:=Nat.lt_of_le_of_lt (Nat.mod_le _ _) (by omega)
        generalize m % ls.length=mm at htm hmm
        generalize ts[r]'hrt=z at hz hm
        clear h3 h5 e2 e3 hm2
        go_wp2_with fail
        go_meet
        exact⟨mm,rfl,hmm,rfl⟩
       ·have rJ:¬(r:Int)<(ts.length:Int):=by omega
        go_wp2_with fail
        go_meet
        exact⟨0,rfl,by omega,rfl⟩
      case rest=>
       obtain⟨N,rfl,hN,hwx⟩:=hcut
       subst hwx
       obtain⟨S,hS0,hS1,hSb,hSt,hSl⟩:=ZO HBY.out.1 HBY.out.2 htu.out HOPL.out N hne
       have HS1:=Hx hS1
       have HSB:=Hx hSb
       have HST:=Hx hSt
       have HSL:=Hx hSl
       rw[show E=(S 0).1 by rw[hS0]]at st14
       have hR0:([]:List (Dc.Op×Sl)).map (·.1)=(S 0).2:=by rw[hS0];rfl
       clear hS0 hS1 hSb hSt hSl htu
       go_wp2_with fail
       go_loopg [11,13] ls.length (fun kx s11 s13 wi=>∃(k:Nat) (rs:List (Dc.Op×Sl)) (G':Nat→Prop),s13= .int .i64 k∧ZX B a b D (S k).1 ps ls rs (.slice a6 ps.length c6) (.slice a9 ls.length c9) s11 F G' wi∧rs.map (·.1)=(S k).2∧Hid (∀p∈rs,ZB base w p)∧k≤ls.length∧ls.length-k≤kx∧Aa (BN B) w4 wi)
       case atStart=>exact⟨0,[],_,rfl,st14,hR0,Hx (fun p hp=>by cases hp),Ah _,Ac _,kr14⟩
       case round=>
        obtain⟨k,rs,G',rfl,st,hrs,hra,hk,hkx,kr⟩:=hrel
        by_cases hlt:k<ls.length
        ·obtain⟨hj,hstep⟩:=HS1.out k hlt
         have htm:=ZK (k+N) ls.length
         rw[Int.natCast_add]at htm
         have hwr:IntKind.i64.wrap ((k:Int)+(N:Int))=(k:Int)+(N:Int):=by rw[IntKind.wrap_i64];omega
         obtain⟨g9,cap9,e1,hcap9,_⟩:=st.rowL.at (by omega)
         injection e1 with e1 e2 e3
         subst e1 e3
         have hrg:=st.rowL.opR hj
         have hya:=hla.out _ (AQ hj)
         obtain⟨hby',hn40,hrl⟩:=HSB.out k hk
         rw[←hrs,AM]at hrl
         generalize (k+N) % ls.length=J at hj hstep htm hrg hya
         obtain⟨⟨y,sl⟩,hy⟩:∃y,y=ls[J]'hj:=⟨_,rfl⟩
         rw[←hy]at hstep hrg hya
         have JI0:(0:Int)≤(J:Int):=by omega
         have JI1:(J:Int)<(ls.length:Int):=by omega
         have kI1:(k:Int)<(ls.length:Int):=by omega
         obtain⟨E',hE'⟩:∃E',E'=(S k).1:=⟨_,rfl⟩
         rw[←hE']at st hby' hn40
         have hst1:(S (k+1)).1=E'.act y:=by rw[hstep,hE'];rfl
         have hst2:(S (k+1)).2=if E'.err y=0 then rs.map (·.1)else rs.map (·.1)++[y]:=by rw[hstep,hE',hrs];rfl
         have HY1:=Hx hst1
         have HY2:=Hx hst2
         have HYA:=Hx hya
         have hBi:=HBZ.out wr kr
         clear e2 hy hstep hE' hst1 hst2 hya hrs
         go_upto_region 25 with(first
          |(refine wpList_load_mid rfl 29 _ rfl g9 (J*20) rfl (EN (y,sl)) _ hrg Tryz.underlying29 rfl Rx ?_)
          |(refine Bd rfl 29 _ _ rfl wr.heap.size _ _ 29 rfl rfl (Nx wr (.cells Be 29)) (by rfl) Rx (by rfl) ?_;intro w16 hO k16 hz16))
         have hO16:w16.heap[wr.heap.size]? =some (.cells (As y sl.v) 29 (0,0)):=hO
         have k06:Aa No wr w16:=((Aa.refl No wr).alloc (.cells Be 29)).step k16 fun g hg hl=>by unfold At1 at hg;omega
         have hGO:¬G' wr.heap.size:=fun e=>by have:=(st.footB _ e).2;omega
         have st16:=st.no k06
         have kr16:=kr.no k06
         have hB16:=HBZ.out w16 kr16
         have HD:=Hx (HDO.out y sl b E' G' w16 HYA.out st16.footB kr16 st16.docB hby'.full hn40)
         obtain⟨O,eO⟩:∃O,O=wr.heap.size:=⟨_,rfl⟩
         rw[←eO]at hO16 hGO⊢
         clear hO k16 hz16 eO hrg st k06 kr hby' hn40
         by_cases he:E'.err y=0
         ·rw[he]at HD
          have hs2:=HY2.out
          rw[Ak he]at hs2
          have HS2:=Hx hs2
          clear he hs2
          go_wp2_with(first
           |(refine An rfl 29 _ rfl O _ 29 _ rfl hO16 Tryz.underlying29 rfl Rx ?_)
           |(go_at_call 19;(with_reducible refine HD.out.mono ?_);rintro e w18 ⟨rfl,k18,hd18⟩))
          go_roundg (ls.length-(k+1))
          case measure=>omega
          case rel=>exact⟨k+1,rs,_,by go_num,by rw[HY1.out];exact st16.did hB16 k18 hd18,HS2.out.symm,hra,hlt,Ac _,kr16.step k18 fun g hg _=>(st16.footB g hg).1⟩
         ·have hne':(E'.err y==0)=false:=by simp[he]
          have hs2:=HY2.out
          rw[Ae he]at hs2
          have HS2:=Hx hs2
          clear he hs2
          go_upto_region 26 with(first
           |(refine An rfl 29 _ rfl O _ 29 _ rfl hO16 Tryz.underlying29 rfl Rx ?_)
           |(go_at_call 19;(with_reducible refine HD.out.mono ?_);rintro e w18 ⟨rfl,k18,hd18⟩))
          have st18:=st16.did hB16 k18 hd18
          have kr18:Aa (BN B) w4 w18:=kr16.step k18 fun g hg _=>(st16.footB g hg).1
          have hO18:=k18.heap hO16 hGO
          have hB18:=HBZ.out w18 kr18
          have hg19:=Nx w18 (.cells (As y sl.v) 29)
          have k19:Aa No w18 (w18.alloc (.cells (As y sl.v) 29)):=(Aa.refl No w18).alloc _
          have st19:=st18.no k19
          have HST9:=Hx st19
          have HAP:=Hx (fun ty=>WL.append st19.rowR ⟨w18.heap.size,0,none⟩ 1 1 [((y,sl):Dc.Op×Sl)] rfl (Ey (y:=((y,sl):Dc.Op×Sl)) hg19) (by omega) ty)
          clear hO16 st18 st19 hg19 hd18 st16
          go_wp2_with(first
           |(refine An rfl 29 _ rfl O _ 29 _ rfl hO18 Tryz.underlying29 rfl Rx ?_)
           |(at_builtin;obtain⟨v',w20,hr20,ho20,k20,hov20⟩:=HAP.out _;refine wpList_append_run rfl _ _ 22 22 rfl _ _ rfl rfl hr20 ?_))
          go_roundg (ls.length-(k+1))
          case measure=>omega
          case rel=>
           have hz19:=k19.size
           refine⟨k+1,rs++[(y,sl)],_,by go_num,by rw[HY1.out];exact HST9.out.push (AG hB18 hz19) k20 ho20 hov20,by rw[HS2.out,Bo];rfl,Hx fun p hp=>?_,hlt,Ac _,(kr18.no k19).step k20 fun x hx _=>(HST9.out.ownR x hx).1⟩
           rcases AC.1 hp with hp|hp
           ·exact hra.out p hp
           ·rw[AU]at hp;rw[hp];exact HYA.out
        ·obtain rfl:k=ls.length:=by omega
         have hsl:=HSL.out
         rw[←hrs,AM]at hsl
         have HSW:=Hx st.swap
         have HRS:=Hx hrs
         clear st hrs
         go_wp2_with fail
         go_roundg (ps.length+1-(r+1))
         case measure=>omega
         case rel=>exact⟨r+1,(S ls.length).1,rs,G',by go_num,HSW.out,Hx (by rw[HRS.out];exact HST.out),hra,by omega,Ac _,kr⟩
     ·obtain rfl:ls=[]:=LN (by omega)
      have hE:=htu.out
      obtain⟨hEl,_,hTx,hMs,hWo⟩:=Dc.YC.done HBY.out.1 hE
      have hEf:=hE.by'.full
      have hE40:E.ops.length≤40:=by have:=HOPL.out;omega
      have hEp:E.ops.length=ps.length:=by have:=HPL.out;omega
      have HOPS:=Hx (NQ st.docB hEf (by omega))
      rw[hEp]at HOPS
      have HEV13:=HEV.out w13 (HLB.out w13 kr)
      have kr13:Aa (BN base) w w13:=HLB.out w13 kr
      obtain⟨bxA,hA⟩:=ZP (D:=D) st.docA HBY.out.1.full (by have:=HOPL.out;omega) rfl rfl rfl
      obtain⟨bxB,hB'⟩:=ZP (D:=D) st.docB hEf (by omega) hTx hMs hWo
      have HA:=Hx hA
      have HB:=Hx hB'
      have HRD:=Hx (fun W (k:Aa No w13 W)=>st.rowD.no k)
      have HEW:=Hx (fun W (k:Aa No w13 W)=>HEV13.keeps k fun _ e=>e.elim)
      have HPW:Hid (∀W,Aa No w13 W→post (.returned (.bool true)) W):=Hx fun W k=>HPOST.out W (kr13.no k)
      have pI:((ps.length:Int) != (ps.length:Int))=false:=by simp
      clear hne hE hEl hTx hMs hWo hEf hE40 hEp HEV13 kr13 hA hB' st htu hla hlr hrx kr HDO HTG HEV HBS HAG HLB HBZ HPOST HBY HPS HOPL HPL H4 k03 k04 hBw
      go_upto_region 30 with(go_at_call 21;(with_reducible refine HOPS.out.mono ?_);rintro e w14 ⟨oa,oc,rfl,k14⟩)
      go_wp2_with fail
      go_loopg [15] ps.length (fun kx s15 wi=>∃i:Nat,s15= .int .i64 i∧i≤ps.length∧ps.length-i≤kx∧Aa No w13 wi)
      case atStart=>exact⟨0,rfl,Ah _,Ac _,k14⟩
      case round=>
       obtain⟨i,rfl,hi,hix,ki⟩:=hrel
       obtain⟨w20,hw20⟩:∃y,y=wr:=⟨_,rfl⟩
       subst hw20
       by_cases hlt:i<ps.length
       ·have row:=HRD.out w20 ki
        obtain⟨g6,cap6,e1,hcap6,_⟩:=row.at (by omega)
        injection e1 with e1 e2 e3
        subst e1 e3
        have x1:w20.cell? ⟨g6,i*20+1,none⟩=some (.int .i64 (ps[i]'hlt).1.id.R):=row.cell (fun _=>rfl) hlt (r:=1) (by decide)
        have x2:w20.cell? ⟨g6,i*20+2,none⟩=some (.int .i64 (ps[i]'hlt).1.id.N):=row.cell (fun _=>rfl) hlt (r:=2) (by decide)
        obtain⟨⟨R,N⟩,hid⟩:∃j,j=(ps[i]'hlt).1.id:=⟨_,rfl⟩
        rw[←hid]at x1 x2
        simp only at x1 x2
        have iI0:(0:Int)≤(i:Int):=by omega
        have iI1:(i:Int)<(ps.length:Int):=by omega
        obtain⟨p,hp⟩:∃p,p=pl D.places ⟨R,N⟩:=⟨_,rfl⟩
        obtain⟨pk,hpk⟩:∃pk,pk=(D.places ⟨R,N⟩).isSome:=⟨_,rfl⟩
        obtain⟨tt,htt⟩:∃tt,tt=Dc.Dp D.tx ⟨R,N⟩:=⟨_,rfl⟩
        obtain⟨tok,hto⟩:∃tok,tok=Dc.D3 D.tx ⟨R,N⟩:=⟨_,rfl⟩
        obtain⟨fo,hfo⟩:∃fo,fo=Dc.Hl D.words ⟨R,N⟩:=⟨_,rfl⟩
        obtain⟨L,hL⟩:∃L,L=Zv D.tx ⟨R,N⟩:=⟨_,rfl⟩
        have HPA:=Hx (fun W (k:Aa No w20 W)=>HA.out.place W (ki.trans k) ⟨R,N⟩)
        have HPB:=Hx (fun W (k:Aa No w20 W)=>HB.out.place W (ki.trans k) ⟨R,N⟩)
        have HFA:=Hx (fun W (k:Aa No w20 W)=>HA.out.fold W (ki.trans k) ⟨R,N⟩)
        have HFB:=Hx (fun W (k:Aa No w20 W)=>HB.out.fold W (ki.trans k) ⟨R,N⟩)
        have HXA:=Hx (fun W (k:Aa No w20 W)=>HA.out.texts W (ki.trans k))
        have HXB:=Hx (fun W (k:Aa No w20 W)=>HB.out.texts W (ki.trans k))
        have HTA:=Hx (fun W (k:Aa No w20 W)=>HA.out.text W (ki.trans k) ⟨R,N⟩)
        have HTB:=Hx (fun W (k:Aa No w20 W)=>HB.out.text W (ki.trans k) ⟨R,N⟩)
        have HRA:=Hx (fun W (k:Aa No w20 W)=>HA.out.runs W (ki.trans k) ⟨R,N⟩)
        have HRB:=Hx (fun W (k:Aa No w20 W)=>HB.out.runs W (ki.trans k) ⟨R,N⟩)
        rw[←hp,←hpk]at HPA HPB
        rw[←hfo]at HFA HFB
        rw[←htt,←hto]at HTA HTB
        rw[←hL]at HRA HRB
        clear e2 hid row hp hpk htt hto hfo hL hcap6
        go_upto_region 34 with(fail)
        have k21:Aa No w20 (w20.alloc (.cells #[.int .i64 R,.int .i64 N] 24)):=(Aa.refl No w20).alloc _
        have hI:=Nx w20 (.cells #[.int .i64 R,.int .i64 N] 24)
        clear x1 x2
        generalize w20.alloc (.cells #[.int .i64 R,.int .i64 N] 24)=w21 at k21 hI⊢
        obtain⟨I,eI⟩:∃I,I=w20.heap.size:=⟨_,rfl⟩
        rw[←eI]at hI⊢
        clear eI
        have i0:=Cx hI 0
        have i1:=Cx hI 1
        have HP1:=Hx (HPA.out w21 k21)
        go_upto_region 35 with(go_at_call 24;(with_reducible refine HP1.out.mono ?_);rintro e w22 ⟨rfl,k22⟩)
        have k23:Aa No w22 (w22.alloc (.cells #[.int .i64 p.parent.R,.int .i64 p.parent.N,.string ⟨p.key.toArray⟩] 45)):=(Aa.refl No w22).alloc _
        have hP:=Nx w22 (.cells #[.int .i64 p.parent.R,.int .i64 p.parent.N,.string ⟨p.key.toArray⟩] 45)
        generalize w22.alloc (.cells #[.int .i64 p.parent.R,.int .i64 p.parent.N,.string ⟨p.key.toArray⟩] 45)=w23 at k23 hP⊢
        obtain⟨P,eP⟩:∃P,P=w22.heap.size:=⟨_,rfl⟩
        rw[←eP]at hP⊢
        have k03:=(k21.trans k22).trans k23
        have hI3:=(k22.trans k23).heap hI id
        clear eP i0 i1 k22 k23 k21 hI
        have i0:=Cx hI3 0
        have i1:=Cx hI3 1
        have HP2:=Hx (HPB.out w23 k03)
        go_upto_region 36 with(go_at_call 24;(with_reducible refine HP2.out.mono ?_);rintro e w24 ⟨rfl,k24⟩)
        have k25:Aa No w24 (w24.alloc (.cells #[.int .i64 p.parent.R,.int .i64 p.parent.N,.string ⟨p.key.toArray⟩] 45)):=(Aa.refl No w24).alloc _
        have hQ:=Nx w24 (.cells #[.int .i64 p.parent.R,.int .i64 p.parent.N,.string ⟨p.key.toArray⟩] 45)
        generalize w24.alloc (.cells #[.int .i64 p.parent.R,.int .i64 p.parent.N,.string ⟨p.key.toArray⟩] 45)=w25 at k25 hQ⊢
        obtain⟨Q,eQ⟩:∃Q,Q=w24.heap.size:=⟨_,rfl⟩
        rw[←eQ]at hQ⊢
        have k05:=(k03.trans k24).trans k25
        have hI5:=(k24.trans k25).heap hI3 id
        have hP5:=(k24.trans k25).heap hP id
        clear eQ i0 i1 k24 k25 k03 hI3 hP
        have z0:=Ex (Cx hI5 0)
        have z1:=Ex (Cx hI5 1)
        have lkX:=fun d os=>BV (HXA.out _ (k05.trans (Ag w25 d os)))
        have lkT:=fun d os=>BV (HTA.out _ (k05.trans (Ag w25 d os)))
        refine wp_region_quiet_below Rx Rx ?_
        repeat(quiet_step(first|(with_reducible exact lkX _ _)|(with_reducible exact lkT _ _)))
        refine wpQuiet_nil ?_
        intro _ hw'
        obtain⟨⟨dq,osq⟩,hw''⟩:=hw'
        subst hw''
        have k26:Aa No w25 (Sort.grow (redrawn w25 dq) osq):=Ag w25 dq osq
        clear z0 z1 lkX lkT
        generalize Sort.grow (redrawn w25 dq) osq=w26 at k26⊢
        have k06:=k05.trans k26
        have hI6:=k26.heap hI5 id
        have hP6:=k26.heap hP5 id
        have hQ6:=k26.heap hQ id
        clear k05 k26 hI5 hP5 hQ
        go_upto_region 37 with(fail)
        have z0:=Ex (Cx hI6 0)
        have z1:=Ex (Cx hI6 1)
        have lkX:=fun d os=>BV (HXB.out _ (k06.trans (Ag w26 d os)))
        have lkT:=fun d os=>BV (HTB.out _ (k06.trans (Ag w26 d os)))
        refine wp_region_quiet_below Rx Rx ?_
        repeat(quiet_step(first|(with_reducible exact lkX _ _)|(with_reducible exact lkT _ _)))
        refine wpQuiet_nil ?_
        intro _ hw'
        obtain⟨⟨dq,osq⟩,hw''⟩:=hw'
        subst hw''
        have k27:Aa No w26 (Sort.grow (redrawn w26 dq) osq):=Ag w26 dq osq
        clear z0 z1 lkX lkT
        generalize Sort.grow (redrawn w26 dq) osq=w27 at k27⊢
        have k07:=k06.trans k27
        have hI7:=k27.heap hI6 id
        have hP7:=k27.heap hP6 id
        have hQ7:=k27.heap hQ6 id
        clear k06 k27 hI6 hP6 hQ6
        go_upto_region 38 with(fail)
        have kd:Aa No w27 w27.drew:=(Aa.refl No w27).drew
        have HSA:Hid (∀W:World,Aa No w27 W→W.cell? ⟨P,0,none⟩=some (.int .i64 p.parent.R)∧W.cell? ⟨P,1,none⟩=some (.int .i64 p.parent.N)∧W.cell? ⟨P,2,none⟩=some (.string ⟨p.key.toArray⟩)∧W.cell? ⟨Q,0,none⟩=some (.int .i64 p.parent.R)∧W.cell? ⟨Q,1,none⟩=some (.int .i64 p.parent.N)∧W.cell? ⟨Q,2,none⟩=some (.string ⟨p.key.toArray⟩)∧W.cell? ⟨I,0,none⟩=some (.int .i64 R)∧W.cell? ⟨I,1,none⟩=some (.int .i64 N)):=Hx fun W k=>
         ⟨Cx (k.heap hP7 id) 0,Cx (k.heap hP7 id) 1,Cx (k.heap hP7 id) 2,Cx (k.heap hQ7 id) 0,Cx (k.heap hQ7 id) 1,Cx (k.heap hQ7 id) 2,Cx (k.heap hI7 id) 0,Cx (k.heap hI7 id) 1⟩
        have HFA7:=Hx (fun W (k:Aa No w27 W)=>HFA.out W (k07.trans k))
        have HFB7:=Hx (fun W (k:Aa No w27 W)=>HFB.out W (k07.trans k))
        have HXA7:=Hx (fun W (k:Aa No w27 W)=>HXA.out W (k07.trans k))
        have HXB7:=Hx (fun W (k:Aa No w27 W)=>HXB.out W (k07.trans k))
        have HRA7:=Hx (fun W (k:Aa No w27 W)=>HRA.out W (k07.trans k))
        have HRB7:=Hx (fun W (k:Aa No w27 W)=>HRB.out W (k07.trans k))
        have HKI:Hid (∀W,Aa No w27 W→Aa No w13 W):=Hx fun W k=>(ki.trans k07).trans k
        clear hI7 hP7 hQ7 k07 ki HPA HPB HFA HFB HXA HXB HTA HTB HRA HRB HP1 HP2
        go_region_held3(fun W=>W.cell? ⟨P,0,none⟩=some (.int .i64 p.parent.R)∧W.cell? ⟨P,1,none⟩=some (.int .i64 p.parent.N)∧W.cell? ⟨P,2,none⟩=some (.string ⟨p.key.toArray⟩)∧W.cell? ⟨Q,0,none⟩=some (.int .i64 p.parent.R)∧W.cell? ⟨Q,1,none⟩=some (.int .i64 p.parent.N)∧W.cell? ⟨Q,2,none⟩=some (.string ⟨p.key.toArray⟩)∧W.cell? ⟨I,0,none⟩=some (.int .i64 R)∧W.cell? ⟨I,1,none⟩=some (.int .i64 N))
         (exact HSA.out _ (by assumption))
         (first
          |(go_at_call 27;(with_reducible refine(HFA7.out _ (by assumption)).mono ?_);rintro e wN ⟨rfl,kN'⟩;(try(replace hra:=hra.no kN'));(try(replace hrb:=hrb.no kN'));have kN:=Aa.trans (S:=No) (w:=w27) (by assumption) kN')
          |(go_at_call 27;(with_reducible refine(HFB7.out _ (by assumption)).mono ?_);rintro e wN ⟨rfl,kN'⟩;(try(replace hra:=hra.no kN'));(try(replace hrb:=hrb.no kN'));have kN:=Aa.trans (S:=No) (w:=w27) (by assumption) kN')
          |(go_at_call 28;(with_reducible refine(HXA7.out _ (by assumption)).mono ?_);rintro e wN ⟨rfl,kN'⟩;(try(replace hra:=hra.no kN'));(try(replace hrb:=hrb.no kN'));have kN:=Aa.trans (S:=No) (w:=w27) (by assumption) kN')
          |(go_at_call 28;(with_reducible refine(HXB7.out _ (by assumption)).mono ?_);rintro e wN ⟨rfl,kN'⟩;(try(replace hra:=hra.no kN'));(try(replace hrb:=hrb.no kN'));have kN:=Aa.trans (S:=No) (w:=w27) (by assumption) kN')
          |(go_at_call 31;(with_reducible refine(HRA7.out _ (by assumption)).mono ?_);rintro e wN ⟨va,rfl,hra,_,kN'⟩;(obtain⟨aA,nA,cA,rfl⟩:=hra.slice);(try(replace hrb:=hrb.no kN'));have kN:=Aa.trans (S:=No) (w:=w27) (by assumption) kN')
          |(go_at_call 31;(with_reducible refine(HRB7.out _ (by assumption)).mono ?_);rintro e wN ⟨vb,rfl,hrb,_,kN'⟩;(obtain⟨aB,nB,cB,rfl⟩:=hrb.slice);(try(replace hra:=hra.no kN'));have kN:=Aa.trans (S:=No) (w:=w27) (by assumption) kN')
          |(go_at_call 30;(with_reducible refine(ZC _ _ _ _ hra hrb).mono ?_);rintro e wN ⟨rfl,kN'⟩;have kN:=Aa.trans (S:=No) (w:=w27) (by assumption) kN'))
        all_goals
         go_wp2_with fail
         go_roundg (ps.length-(i+1))
         case measure=>omega
         case rel=>exact⟨i+1,by go_num,hlt,Ac _,HKI.out _ (by assumption)⟩
       ·obtain rfl:i=ps.length:=by omega
        have HEe:=Hx (fun W (k:Aa No w20 W)=>HEW.out W (ki.trans k))
        have kd:Aa No w20 w20.drew:=(Aa.refl No w20).drew
        have HOA0:Hid (∀W,Aa No w20 W→Calls Tryz.prog 20 #[.pointer (some ⟨a,0,none⟩),.agg #[.int .i64 0,.int .i64 0]] W (LV (Dc.Vs D .z) W)):=Hx fun W k=>HA.out.out W (ki.trans k) .z
        have HOB0:Hid (∀W,Aa No w20 W→Calls Tryz.prog 20 #[.pointer (some ⟨b,0,none⟩),.agg #[.int .i64 0,.int .i64 0]] W (LV (Dc.Vs D .z) W)):=Hx fun W k=>HB.out.out W (ki.trans k) .z
        have HOA1:Hid (∀W,Aa No w20 W→Calls Tryz.prog 20 #[.pointer (some ⟨a,0,none⟩),.agg #[.int .i64 1,.int .i64 0]] W (LV (Dc.Vs D .t) W)):=Hx fun W k=>HA.out.out W (ki.trans k) .t
        have HOB1:Hid (∀W,Aa No w20 W→Calls Tryz.prog 20 #[.pointer (some ⟨b,0,none⟩),.agg #[.int .i64 1,.int .i64 0]] W (LV (Dc.Vs D .t) W)):=Hx fun W k=>HB.out.out W (ki.trans k) .t
        have HSA:Hid (∀W:World,Aa No w20 W→W.cell? ⟨0,0,none⟩=some (.int .i64 0)∧W.cell? ⟨0,1,none⟩=some (.int .i64 0)∧W.cell? ⟨1,0,none⟩=some (.int .i64 1)∧W.cell? ⟨1,1,none⟩=some (.int .i64 0)):=Hx fun W k=>⟨(HEe.out W k).root0,(HEe.out W k).root1,(HEe.out W k).trash0,(HEe.out W k).trash1⟩
        have HPK:Hid (∀W,Aa No w20 W→post (.returned (.bool true)) W):=Hx fun W k=>HPW.out W (ki.trans k)
        have hE0:=(HEe.out w20 (Aa.refl _ _)).size
        clear HPW HA HB HEW HRD hlt hi hix ki
        go_upto_region 40 with(fail)
        go_region_held3(fun W=>W.cell? ⟨0,0,none⟩=some (.int .i64 0)∧W.cell? ⟨0,1,none⟩=some (.int .i64 0)∧W.cell? ⟨1,0,none⟩=some (.int .i64 1)∧W.cell? ⟨1,1,none⟩=some (.int .i64 0))
         (exact HSA.out _ (by assumption))
         (first
          |(go_at_call 20;(with_reducible refine(HOA0.out _ (by assumption)).mono ?_);rintro e wN ⟨va,rfl,hNa,_,kN'⟩;(obtain⟨aa,na,ca,rfl⟩:=hNa.slice);(try(replace hra:=hra.no kN'));(try(replace hrb:=hrb.no kN'));(try(replace hrc:=hrc.no kN'));(try(replace hrd:=hrd.no kN'));have hra:=hNa;have kN:=Aa.trans (S:=No) (w:=w20) (by assumption) kN')
          |(go_at_call 20;(with_reducible refine(HOB0.out _ (by assumption)).mono ?_);rintro e wN ⟨vb,rfl,hNb,_,kN'⟩;(obtain⟨ab,nb,cb,rfl⟩:=hNb.slice);(try(replace hra:=hra.no kN'));(try(replace hrb:=hrb.no kN'));(try(replace hrc:=hrc.no kN'));(try(replace hrd:=hrd.no kN'));have hrb:=hNb;have kN:=Aa.trans (S:=No) (w:=w20) (by assumption) kN')
          |(go_at_call 20;(with_reducible refine(HOA1.out _ (by assumption)).mono ?_);rintro e wN ⟨vc,rfl,hNc,_,kN'⟩;(obtain⟨ac,nc,cc,rfl⟩:=hNc.slice);(try(replace hra:=hra.no kN'));(try(replace hrb:=hrb.no kN'));(try(replace hrc:=hrc.no kN'));(try(replace hrd:=hrd.no kN'));have hrc:=hNc;have kN:=Aa.trans (S:=No) (w:=w20) (by assumption) kN')
          |(go_at_call 20;(with_reducible refine(HOB1.out _ (by assumption)).mono ?_);rintro e wN ⟨vd,rfl,hNd,_,kN'⟩;(obtain⟨ad,nd,cd,rfl⟩:=hNd.slice);(try(replace hra:=hra.no kN'));(try(replace hrb:=hrb.no kN'));(try(replace hrc:=hrc.no kN'));(try(replace hrd:=hrd.no kN'));have hrd:=hNd;have kN:=Aa.trans (S:=No) (w:=w20) (by assumption) kN')
          |(go_at_call 23;(with_reducible refine(ZL _ _ _ _ hra hrb).mono ?_);rintro e wN ⟨rfl,kN'⟩;(try(replace hra:=hra.no kN'));(try(replace hrb:=hrb.no kN'));(try(replace hrc:=hrc.no kN'));(try(replace hrd:=hrd.no kN'));have kN:=Aa.trans (S:=No) (w:=w20) (by assumption) kN')
          |(go_at_call 23;(with_reducible refine(ZL _ _ _ _ hrc hrd).mono ?_);rintro e wN ⟨rfl,kN'⟩;(try(replace hra:=hra.no kN'));(try(replace hrb:=hrb.no kN'));(try(replace hrc:=hrc.no kN'));(try(replace hrd:=hrd.no kN'));have kN:=Aa.trans (S:=No) (w:=w20) (by assumption) kN'))
        all_goals
         go_wp2_with fail
         exact HPK.out _ (by assumption)
end
end Go.Proofs.YthfjefcljeamgaaGreatDoor
