/- joined: Runs: one in two. Runs: what one says of itself and of another one. Rows of runs: how long, where a character stands; whether an item may be put. -/
import Derived.Test.YthfjefcljeamgaaGreatDoorApp
import Derived.Test.YthfjefcljeamgaaGreatDoorDcLaw
import Derived.Deep.DeepCutAuto
namespace Go.Proofs.YthfjefcljeamgaaGreatDoor
set_option maxRecDepth 100000
set_option maxHeartbeats 4000000
section
open Go.RowKit
open Dc (FC E7)
attribute [local go_sem ↓] Go.wp_at_zero Go.wp_at_succ
@[reducible] def BW(r:Dc.Run):Array Value:= #[.int .i64 r.op.R,.int .i64 r.op.N,.int .i64 r.fr,.int .i64 r.len,.int .i64 0,.int .i64 0,.int .i64 0,.int .i64 0,.int .i64 0,.int .i64 0,.bool r.gone,.bool r.mark,.string ⟨r.text.toArray⟩]
def CQ(b:Nat)(r:Dc.Run)(w:World):Prop:=w.heap[b]? =some (.cells (BW r) 285 (0,0))
def K5(b:Nat)(r:Dc.Run)(w:World):Prop:=
 w.cell? ⟨b,0,none⟩=some (.int .i64 r.op.R)∧w.cell? ⟨b,1,none⟩=some (.int .i64 r.op.N)∧w.cell? ⟨b,2,none⟩=some (.int .i64 r.fr)∧w.cell? ⟨b,3,none⟩=some (.int .i64 r.len)∧
 w.cell? ⟨b,4,none⟩=some (.int .i64 0)∧w.cell? ⟨b,5,none⟩=some (.int .i64 0)∧w.cell? ⟨b,6,none⟩=some (.int .i64 0)∧w.cell? ⟨b,7,none⟩=some (.int .i64 0)∧w.cell? ⟨b,8,none⟩=some (.int .i64 0)∧w.cell? ⟨b,9,none⟩=some (.int .i64 0)∧
 w.cell? ⟨b,10,none⟩=some (.bool r.gone)∧w.cell? ⟨b,11,none⟩=some (.bool r.mark)∧w.cell? ⟨b,12,none⟩=some (.string ⟨r.text.toArray⟩)
theorem CQ.c{b:Nat}{r:Dc.Run}{w:World}(h:CQ b r w):K5 b r w:=
 ⟨Cx h 0,Cx h 1,Cx h 2,Cx h 3,Cx h 4,Cx h 5,Cx h 6,Cx h 7,Cx h 8,Cx h 9,Cx h 10,Cx h 11,Cx h 12⟩
theorem Ri(l:List UInt8)(n:Nat):(ByteArray.mk l.toArray).extract 0 n=⟨(l.take n).toArray⟩:=by
 apply ByteArray.ext
 rw[ByteArray.data_extract]
 apply Array.ext'
 simp
theorem Rj(l:List UInt8)(n:Nat):(ByteArray.mk l.toArray).extract n l.length=⟨(l.drop n).toArray⟩:=by
 apply ByteArray.ext
 rw[ByteArray.data_extract]
 apply Array.ext'
 simp
 exact CB (by simp)
theorem NH{P:Program}{fn:Func}{tmps:Array Value}{w:World}{s r:Nat}{T:TypeId}{b b':Nat}{cs cs':Array Value}{T1 T2:TypeId}{d:TypeDesc}(hr:fn.results= #[.cell s T,.cell r T])
  (hp:tmps.getD s undef= .pointer (some ⟨b,0,none⟩))(hb:w.heap[b]? =some (.cells cs T1 (0,0)))(hp':tmps.getD r undef= .pointer (some ⟨b',0,none⟩))(hb':w.heap[b']? =some (.cells cs' T2 (0,0)))
  (hu:P.underlying T=some d)(hd:d.isRow=true)(hi:(P.info? T).map (·.size)=some cs.size)(hi':(P.info? T).map (·.size)=some cs'.size):
  (results fn tmps).run P w= .ok (.tuple #[.agg cs,.agg cs']) w:=by
 have h:=run_loadVar_mid (P:=P) w b 0 T cs.toList d (DL hb (by rw[JL,AH])) hu hd (by simpa using hi)
 rw[LO]at h
 have h':=run_loadVar_mid (P:=P) w b' 0 T cs'.toList d (DL hb' (by rw[JL,AH])) hu hd (by simpa using hi')
 rw[LO]at h'
 have hq:tmps[s]?.getD undef= .pointer (some ⟨b,0,none⟩):=by rw[←hp];simp
 have hq':tmps[r]?.getD undef= .pointer (some ⟨b',0,none⟩):=by rw[←hp'];simp
 simp[results,hr,hq,hq',asAddr,h,h',Result.andThen]
theorem KJ(r:Dc.Run)(n:Nat)(hn:n≤r.len)(hf:r.fr+r.len≤1000000)(w:World):
  Calls Tryz.prog 332 #[JE r,.int .i64 n] w fun e w'=>e= .returned (.tuple #[JE (r.left n),JE (r.right n)])∧Aa No w w':=by
 go_enter Tryz.func332,Tryz.ntmps332
 go_upto_region 1 with(fail)
 have kP:Aa No w (w.alloc (.cells (BW r) 285)):=(Aa.refl No w).alloc _
 have hP0:CQ w.heap.size r (w.alloc (.cells (BW r) 285)):=Nx w (.cells (BW r) 285)
 have hZ:∃z:Array Value,z= #[.int .i64 0,.int .i64 0,.int .i64 0,.int .i64 0,.int .i64 0,.int .i64 0,.int .i64 0,.int .i64 0,.int .i64 0,.int .i64 0,.bool false,.bool false,.string ⟨#[]⟩]:=⟨_,rfl⟩
 obtain⟨z,hz⟩:=hZ
 rw[←hz]
 have hzs:z.size=13:=by rw[hz];rfl
 have k0:Aa No w (((w.alloc (.cells (BW r) 285)).alloc (.cells z 285)).alloc (.cells z 285)):=(kP.alloc _).alloc _
 have hP:=Ab (Ab hP0 (.cells z 285)) (.cells z 285)
 have hQ:=Ab (Nx (w.alloc (.cells (BW r) 285)) (.cells z 285)) (.cells z 285)
 have hS:=Nx ((w.alloc (.cells (BW r) 285)).alloc (.cells z 285)) (.cells z 285)
 rw[World.size_alloc]at hQ
 rw[World.size_alloc,World.size_alloc]at hS
 clear kP hP0 hz
 generalize ((w.alloc (.cells (BW r) 285)).alloc (.cells z 285)).alloc (.cells z 285)=w1 at k0 hP hQ hS⊢
 have hsz1:=Ao hS
 obtain⟨S,eS⟩:∃S,S=w.heap.size+1+1:=⟨_,rfl⟩
 obtain⟨Q,eQ⟩:∃Q,Q=w.heap.size+1:=⟨_,rfl⟩
 obtain⟨P,eP⟩:∃P,P=w.heap.size:=⟨_,rfl⟩
 rw[←eS]at hS hsz1⊢
 rw[←eQ]at hQ⊢
 rw[←eP]at hP⊢
 have hne:P<Q∧Q<S∧w.heap.size≤P:=by omega
 clear eS eQ eP
 have hPr:CQ P r w1:=hP
 clear hP
 go_cut[6,7] (fun s6 s7 wx=>∃A B:Nat,s6= .pointer (some ⟨A,0,none⟩)∧s7= .pointer (some ⟨B,0,none⟩)∧CQ A r wx∧CQ B r wx∧A≠B∧w1.heap.size≤A∧w1.heap.size≤B∧Aa No w1 wx)
 case first=>
  have HS:Hid (∀W,Aa No w1 W→K5 P r W):=Hx fun W k=>CQ.c (k.heap hPr id)
  obtain⟨s0,s1,s2,s3,s4,s5,s6,s7,s8,s9,s10,s11,s12⟩:=HS.out w1 (Aa.refl _ _)
  go_region_held3(fun W=>W.cell? ⟨P,0,none⟩=some (.int .i64 r.op.R)∧W.cell? ⟨P,1,none⟩=some (.int .i64 r.op.N)∧W.cell? ⟨P,2,none⟩=some (.int .i64 r.fr)∧W.cell? ⟨P,3,none⟩=some (.int .i64 r.len)∧W.cell? ⟨P,4,none⟩=some (.int .i64 0)∧W.cell? ⟨P,5,none⟩=some (.int .i64 0)∧W.cell? ⟨P,6,none⟩=some (.int .i64 0)∧W.cell? ⟨P,7,none⟩=some (.int .i64 0)∧W.cell? ⟨P,8,none⟩=some (.int .i64 0)∧W.cell? ⟨P,9,none⟩=some (.int .i64 0)∧W.cell? ⟨P,10,none⟩=some (.bool r.gone)∧W.cell? ⟨P,11,none⟩=some (.bool r.mark)∧W.cell? ⟨P,12,none⟩=some (.string ⟨r.text.toArray⟩)) (exact HS.out _ (by repeat(first|exact Aa.refl _ _|assumption|refine Aa.alloc ?_ _|refine Aa.drew ?_ |refine Aa.setNew ?_ (by first|exact Ac _|(simp;done)|(simp;omega)) _))) (fail)
  all_goals
   go_wp2_with fail
   go_meet
   have e1:CQ w1.heap.size r ((w1.alloc (.cells (BW r) 285)).alloc (.cells (BW r) 285)).drew:=Ab (Nx w1 (.cells (BW r) 285)) (.cells (BW r) 285)
   have e2:CQ (w1.heap.size+1) r ((w1.alloc (.cells (BW r) 285)).alloc (.cells (BW r) 285)).drew:=by
    have h:=Nx (w1.alloc (.cells (BW r) 285)) (.cells (BW r) 285)
    rw[World.size_alloc]at h
    exact h
   have e3:Aa No w1 ((w1.alloc (.cells (BW r) 285)).alloc (.cells (BW r) 285)).drew:=(((Aa.refl No w1).alloc _).alloc _).drew
   first
    |exact⟨_,_,rfl,rfl,e1,e2,by omega,by omega,by omega,e3⟩
    |exact⟨_,_,rfl,rfl,e2,e1,by omega,by omega,by omega,e3⟩
 case rest=>
  obtain⟨A,B,rfl,rfl,hA,hB,hAB,hA1,hB1,kc⟩:=hcut
  obtain⟨w2,hw2⟩:∃x,x=wc:=⟨_,rfl⟩
  subst hw2
  have hPA:¬A=P:=by omega
  have hPB:¬B=P:=by omega
  have hPA':¬P=A:=by omega
  have hPB':¬P=B:=by omega
  have hBA:¬B=A:=fun e=>hAB e.symm
  have hPc:CQ P r w2:=kc.heap hPr id
  have hnI:(n:Int)≤(r.text.length:Int):=by have:n≤r.text.length:=hn;omega
  have hn0:(0:Int)≤(n:Int):=by omega
  have HP:=Hx hPc
  have HA:=Hx hA
  have HB:=Hx hB
  have HN:=Hx hn
  clear hPc hA hB hn
  go_upto_region 2 with(fail)
  go_cut[] (fun wx=>CQ A (r.left n) wx∧Aa (At1 A) w2 wx)
  case first=>
   have HS:Hid (∀W,Aa (At1 A) w2 W→W.cell? ⟨P,12,none⟩=some (.string ⟨r.text.toArray⟩)):=Hx fun W k=>Cx (k.heap HP.out hPA') 12
   have p12:=HS.out w2 (Aa.refl _ _)
   have cA:=Cx HA.out
   have fA:=Fx HA.out
   go_region_held3(fun W=>W.cell? ⟨P,12,none⟩=some (.string ⟨r.text.toArray⟩)) (exact HS.out _ Kx) (fail)
   all_goals
    go_wp2_with fail
    go_meet
    refine⟨?_,Kx⟩
    have h:=heap_set (heap_set HA.out 3 (.int .i64 n)) 12 (.string ((ByteArray.mk r.text.toArray).extract 0 n))
    rw[Ri]at h
    unfold CQ BW
    rw[FC HN.out]
    rw[Ri]
    exact h
  case rest=>
   obtain⟨hA2,k2⟩:=hcut
   have kd:Aa No w1 wc:=kc.step k2 fun g hg hl=>by unfold At1 at hg;omega
   have hP3:CQ P r wc:=kd.heap hPr id
   have hB3:CQ B r wc:=k2.heap HB.out hBA
   obtain⟨w3,hw3⟩:∃x,x=wc:=⟨_,rfl⟩
   subst hw3
   have HP3:=Hx hP3
   have HB3:=Hx hB3
   have HA3:=Hx hA2
   clear hP3 hB3 hA2
   go_upto_region 3 with(fail)
   go_cut[] (fun wx=>CQ B (r.right n) wx∧Aa (At1 B) w3 wx)
   case first=>
    have HS:Hid (∀W,Aa (At1 B) w3 W→W.cell? ⟨P,2,none⟩=some (.int .i64 r.fr)∧W.cell? ⟨P,3,none⟩=some (.int .i64 r.len)∧W.cell? ⟨P,12,none⟩=some (.string ⟨r.text.toArray⟩)):=Hx fun W k=>
     ⟨Cx (k.heap HP3.out hPB') 2,Cx (k.heap HP3.out hPB') 3,Cx (k.heap HP3.out hPB') 12⟩
    obtain⟨p2,p3,p12⟩:=HS.out w3 (Aa.refl _ _)
    have cB:=Cx HB3.out
    have fB:=Fx HB3.out
    have hw1:IntKind.i64.wrap ((r.fr:Int)+(n:Int))=(r.fr:Int)+(n:Int):=by have:=HN.out;rw[IntKind.wrap_i64];omega
    have hw2:IntKind.i64.wrap ((r.len:Int)-(n:Int))=(r.len:Int)-(n:Int):=by have:=HN.out;rw[IntKind.wrap_i64];omega
    go_region_held3(fun W=>W.cell? ⟨P,2,none⟩=some (.int .i64 r.fr)∧W.cell? ⟨P,3,none⟩=some (.int .i64 r.len)∧W.cell? ⟨P,12,none⟩=some (.string ⟨r.text.toArray⟩)) (exact HS.out _ Kx) (fail)
    all_goals
     go_wp2_with fail
     go_meet
     refine⟨?_,Kx⟩
     have h:=heap_set (heap_set (heap_set HB3.out 2 (.int .i64 ((r.fr:Int)+(n:Int)))) 3 (.int .i64 ((r.len:Int)-(n:Int)))) 12 (.string ((ByteArray.mk r.text.toArray).extract n r.text.length))
     rw[Rj]at h
     unfold CQ BW
     rw[E7,Int.ofNat_sub HN.out,Rj]
     exact h
   case rest=>
    obtain⟨hB4,k4⟩:=hcut
    have hA4:CQ A (r.left n) wc:=k4.heap HA3.out hAB
    have kd4:Aa No w1 wc:=kd.step k4 fun g hg hl=>by unfold At1 at hg;omega
    obtain⟨w4,hw4⟩:∃x,x=wc:=⟨_,rfl⟩
    subst hw4
    go_upto_region 4 with(fail)
    go_cut[] (fun wx=>CQ Q (r.left n) wx∧CQ S (r.right n) wx∧Aa (At2 Q S) w4 wx)
    case first=>
     have hQ4:=kd4.heap hQ id
     have hS4:=kd4.heap hS id
     have hAQ:A≠Q:=by omega
     have hAS:A≠S:=by omega
     have hBQ:B≠Q:=by omega
     have hBS:B≠S:=by omega
     have hQS:Q≠S:=by omega
     refine wp_region_held_drew (S:=fun w'=>Aa (At2 Q S) w4 w') Rx ((Aa.refl _ _).drew) (fun hH=>?_)
     have hQ5:w4.drew.heap[Q]? =_:=hQ4
     have hS5:w4.drew.heap[S]? =_:=hS4
     generalize w4.drew=W0 at hH hQ5 hS5⊢
     refine wpAnyH_take (i:=0) (v:= .agg (BW (r.left n))) rfl Rx Rx Rx (fun _ _ _ h=>h) (BA rfl _ _ rfl A _ 285 _ rfl (fun w h=>h.heap hA4 (by unfold At2;omega)) Tryz.underlying285 rfl Rx) hH ?_
     simp only[Gx,Act.put,Sx]
     refine wpAnyH_take (i:=1) (v:= .agg (BW (r.right n))) rfl Rx Rx Rx (fun _ _ _ h=>h) (BA rfl _ _ rfl B _ 285 _ rfl (fun w h=>h.heap hB4 (by unfold At2;omega)) Tryz.underlying285 rfl Rx) hH ?_
     simp only[Gx,Act.put,Sx]
     refine wpAnyH_ready (rs:=[2]) Rx (by simp) ?_
     refine AllReadyH.cons rfl (fun K hK=>?_) ?_
     ·refine Df rfl 285 _ _ rfl Q (BW (r.left n)) _ 285 rfl rfl hQ5 (by rw[hzs];rfl) Rx (by rfl) ?_
      intro W3 hx3 ks3
      have kk3:Aa (At2 Q S) w4 W3:=hH.step ks3 fun q hq _=> .inl hq
      have hy3:=ks3.heap hS5 (fun e=>hQS e.symm)
      refine hK.out _ _ kk3 (fun _=>?_)
      simp only[Gx,Act.put]
      clear hK
      refine wpAnyH_ready (rs:=[3]) Rx (by simp) ?_
      refine AllReadyH.cons rfl (fun K hK=>?_) ?_
      ·refine Df rfl 285 _ _ rfl S (BW (r.right n)) _ 285 rfl rfl hy3 (by rw[hzs];rfl) Rx (by rfl) ?_
       intro W4 hy4 ks4
       have kk4:Aa (At2 Q S) w4 W4:=kk3.step ks4 fun q hq _=> .inr hq
       have hx4:=ks4.heap hx3 (fun e=>hQS e)
       refine hK.out _ _ kk4 (fun _=>?_)
       simp only[Gx,Act.put]
       clear hK
       refine wpAnyH_done Rx ?_ _
       go_wp2_with fail
       go_meet
       exact⟨hx4,hy4,kk4⟩
      exact AllReadyH.nil
     exact AllReadyH.nil
    case rest=>
     obtain⟨hQ5,hS5,k5⟩:=hcut
     have kk:Aa No w wc:=(k0.trans kd4).step k5 fun g hg hl=>by unfold At2 at hg;omega
     go_wp2_with fail
     exact bodyPost_ret (NH rfl rfl hQ5 rfl hS5 Tryz.underlying285 rfl Rx Rx) rfl ⟨rfl,kk⟩
end
section
open Go.RowKit
attribute [local go_sem ↓] Go.wp_at_zero Go.wp_at_succ
theorem Aq.runO{l:List Dc.Run}{w:World}{g n cap:Nat}(h:Aq 285 13 Af (.slice (some ⟨g,0,none⟩) n cap) l w){k:Nat}(hk:k<l.length):
  w.cell? ⟨g,k*13,none⟩=some (.int .i64 (l[k]'hk).op.R)∧w.cell? ⟨g,k*13+1,none⟩=some (.int .i64 (l[k]'hk).op.N)∧w.cell? ⟨g,k*13+2,none⟩=some (.int .i64 (l[k]'hk).fr)∧w.cell? ⟨g,k*13+3,none⟩=some (.int .i64 (l[k]'hk).len)∧w.cell? ⟨g,k*13+4,none⟩=some (.int .i64 0)∧w.cell? ⟨g,k*13+5,none⟩=some (.int .i64 0)∧w.cell? ⟨g,k*13+6,none⟩=some (.int .i64 0)∧w.cell? ⟨g,k*13+7,none⟩=some (.int .i64 0)∧w.cell? ⟨g,k*13+8,none⟩=some (.int .i64 0)∧w.cell? ⟨g,k*13+9,none⟩=some (.int .i64 0)∧w.cell? ⟨g,k*13+10,none⟩=some (.bool (l[k]'hk).gone)∧w.cell? ⟨g,k*13+11,none⟩=some (.bool (l[k]'hk).mark)∧w.cell? ⟨g,k*13+12,none⟩=some (.string ⟨(l[k]'hk).text.toArray⟩):=by
 have hc:=fun r (hr:r<13)=>h.cell (fun _=>rfl) hk hr
 exact⟨hc 0 (by decide),hc 1 (by decide),hc 2 (by decide),hc 3 (by decide),hc 4 (by decide),hc 5 (by decide),hc 6 (by decide),hc 7 (by decide),hc 8 (by decide),hc 9 (by decide),hc 10 (by decide),hc 11 (by decide),hc 12 (by decide)⟩
@[reducible] def FU(R N:Int)(fr L:Nat)(gone mark:Bool)(tx:ByteArray):Array Value:= #[.int .i64 R,.int .i64 N,.int .i64 fr,.int .i64 L,.int .i64 0,.int .i64 0,.int .i64 0,.int .i64 0,.int .i64 0,.int .i64 0,.bool gone,.bool mark,.string tx]
theorem Ux(R N:Int)(fr L:Nat)(gone mark:Bool)(tx:ByteArray)(R' N':Int)(fr' L':Nat)(gone' mark':Bool)(tx':ByteArray)(h1:(fr:Int)+(L:Int)≤1000000)(w:World):
  Calls Tryz.prog 336 #[.agg (FU R N fr L gone mark tx),.agg (FU R' N' fr' L' gone' mark' tx')] w (Bj (decide (R=R')&&decide (N=N')&&decide ((fr:Int)+(L:Int)=(fr':Int))&&decide (gone=gone')&& !mark&& !mark') w):=by
 have h0:(0:Int)≤(fr:Int)+(L:Int):=by omega
 go_enter Tryz.func336,Tryz.ntmps336
 go_upto_region 1 with(fail)
 have k0:Aa No w ((w.alloc (.cells (FU R N fr L gone mark tx) 285)).alloc (.cells (FU R' N' fr' L' gone' mark' tx') 285)):=Kx
 have hA:=Ab (Nx w (.cells (FU R N fr L gone mark tx) 285)) (.cells (FU R' N' fr' L' gone' mark' tx') 285)
 have hB:=Nx (w.alloc (.cells (FU R N fr L gone mark tx) 285)) (.cells (FU R' N' fr' L' gone' mark' tx') 285)
 rw[World.size_alloc]at hB
 generalize (w.alloc (.cells (FU R N fr L gone mark tx) 285)).alloc (.cells (FU R' N' fr' L' gone' mark' tx') 285)=w1 at k0 hA hB⊢
 have a0:=Cx hA 0
 have a1:=Cx hA 1
 have a2:=Cx hA 2
 have a3:=Cx hA 3
 have a10:=Cx hA 10
 have a11:=Cx hA 11
 have b0:=Cx hB 0
 have b1:=Cx hB 1
 have b2:=Cx hB 2
 have b10:=Cx hB 10
 have b11:=Cx hB 11
 clear hA hB
 go_wp2_with fail
 all_goals
  go_ret
  refine⟨AY ?_,k0⟩
  clear a0 a1 a2 a3 a10 a11 b0 b1 b2 b10 b11
  simp[*]
theorem Uy(r b:Dc.Run)(hr:r.fr+r.len≤1000000)(w:World):
  Calls Tryz.prog 336 #[JE r,JE b] w (Bj (r.joins b) w):=by
 have h:=Ux r.op.R r.op.N r.fr r.len r.gone r.mark ⟨r.text.toArray⟩ b.op.R b.op.N b.fr b.len b.gone b.mark ⟨b.text.toArray⟩ (by omega) w
 have e:r.joins b=(decide (r.op.R=b.op.R)&&decide (r.op.N=b.op.N)&&decide ((r.fr:Int)+(r.len:Int)=(b.fr:Int))&&decide (r.gone=b.gone)&& !r.mark&& !b.mark):=by
  have hop:decide (r.op=b.op)=(decide (r.op.R=b.op.R)&&decide (r.op.N=b.op.N)):=by
   cases h1:r.op;cases h2:b.op
   simp
  have hfr:decide (r.fr+r.len=b.fr)=decide ((r.fr:Int)+(r.len:Int)=(b.fr:Int)):=by
   apply Bool.eq_iff_iff.2
   simp only[Au]
   omega
  unfold Dc.Run.joins
  rw[hop,hfr]
 rw[e]
 exact h
theorem Wj(R N:Int)(fr L:Nat)(gone mark:Bool)(tx:ByteArray)(R' N' ci:Int)(h1:(fr:Int)+(L:Int)≤1000000)(w:World):
  Calls Tryz.prog 357 #[.agg (FU R N fr L gone mark tx),.agg #[.int .i64 R',.int .i64 N',.int .i64 ci]] w (Bj (decide (R=R')&&decide (N=N')&&decide ((fr:Int)≤ci)&&decide (ci<(fr:Int)+(L:Int))) w):=by
 have h0:(0:Int)≤(fr:Int)+(L:Int):=by omega
 go_enter Tryz.func357,Tryz.ntmps357
 go_upto_region 1 with(fail)
 have k0:Aa No w ((w.alloc (.cells (FU R N fr L gone mark tx) 285)).alloc (.cells #[.int .i64 R',.int .i64 N',.int .i64 ci] 26)):=Kx
 have hA:=Ab (Nx w (.cells (FU R N fr L gone mark tx) 285)) (.cells #[.int .i64 R',.int .i64 N',.int .i64 ci] 26)
 have hB:=Nx (w.alloc (.cells (FU R N fr L gone mark tx) 285)) (.cells #[.int .i64 R',.int .i64 N',.int .i64 ci] 26)
 rw[World.size_alloc]at hB
 generalize (w.alloc (.cells (FU R N fr L gone mark tx) 285)).alloc (.cells #[.int .i64 R',.int .i64 N',.int .i64 ci] 26)=w1 at k0 hA hB⊢
 have a0:=Cx hA 0
 have a1:=Cx hA 1
 have a2:=Cx hA 2
 have a3:=Cx hA 3
 have b0:=Cx hB 0
 have b1:=Cx hB 1
 have b2:=Cx hB 2
 clear hA hB
 go_wp2_with fail
 all_goals
  go_ret
  refine⟨AY ?_,k0⟩
  clear a0 a1 a2 a3 b0 b1 b2
  first|(simp[*];done)|(simp[*];omega)
theorem Wl(r:Dc.Run)(c:Dc.Chr)(hr:r.fr+r.len≤1000000)(w:World):
  Calls Tryz.prog 357 #[JE r,CE c] w (Bj (r.has c) w):=by
 have h:=Wj r.op.R r.op.N r.fr r.len r.gone r.mark ⟨r.text.toArray⟩ c.op.R c.op.N c.i (by omega) w
 have e:r.has c=(decide (r.op.R=c.op.R)&&decide (r.op.N=c.op.N)&&decide ((r.fr:Int)≤c.i)&&decide (c.i<(r.fr:Int)+(r.len:Int))):=by
  have hop:decide (r.op=c.op)=(decide (r.op.R=c.op.R)&&decide (r.op.N=c.op.N)):=by
   cases h1:r.op;cases h2:c.op
   simp
  unfold Dc.Run.has
  rw[hop]
 rw[e]
 exact h
end
section
open Go.RowKit
attribute [local go_sem ↓] Go.wp_at_zero Go.wp_at_succ
theorem NF(R N:Int)(fr:Nat)(gone mark:Bool)(t:Dc.Bs)(hop:Off.AV ⟨R,N⟩=true)(h1:(1:Int)≤(t.length:Int))(h2:(t.length:Int)≤64)(h3:(fr:Int)≤64)(h4:(fr:Int)+(t.length:Int)≤64)(h5:mark=true→(t.length:Int)=1)(w:World):
  Calls Tryz.prog 295 #[.agg (FU R N fr t.length gone mark ⟨t.toArray⟩)] w (Bj true w):=by
 have h0:(0:Int)≤(fr:Int):=by omega
 have h6:(0:Int)≤(fr:Int)+(t.length:Int):=by omega
 have HOP:=Hx hop
 clear hop
 cases mark with
 |false=>
  clear h5
  go_enter Tryz.func295,Tryz.ntmps295
  go_upto_region 1 with(fail)
  have k0:Aa No w (w.alloc (.cells (FU R N fr t.length gone false ⟨t.toArray⟩) 127)):=Kx
  have hA:=Nx w (.cells (FU R N fr t.length gone false ⟨t.toArray⟩) 127)
  generalize w.alloc (.cells (FU R N fr t.length gone false ⟨t.toArray⟩) 127)=w1 at k0 hA⊢
  have a0:=Cx hA 0
  have a1:=Cx hA 1
  go_wp2_with(go_at_call 103;refine(BJ _ _ _).mono ?_;rw[HOP.out];rintro e w2 ⟨rfl,k2⟩;have hA2:=k2.heap hA id;have a2:=Cx hA2 2;have a3:=Cx hA2 3;have a11:=Cx hA2 11;have a12:=Cx hA2 12)
  go_ret
  exact⟨rfl,k0.trans k2⟩
 |true=>
  have h7:=h5 rfl
  clear h5
  obtain⟨x,rfl⟩:∃x,t=[x]:=by
   match t,h7 with
   |[x],_=>exact⟨x,rfl⟩
   |[],h=>simp at h
   |_::_::_,h=>simp only[BO]at h;omega
  clear h1 h2 h7
  have h9:(fr:Int)+1≤64:=by simpa using h4
  have h10:(0:Int)≤(fr:Int)+1:=by omega
  clear h4 h6
  go_enter Tryz.func295,Tryz.ntmps295
  go_upto_region 1 with(fail)
  have k0:Aa No w (w.alloc (.cells (FU R N fr 1 gone true ⟨#[x]⟩) 127)):=Kx
  have hA:=Nx w (.cells (FU R N fr 1 gone true ⟨#[x]⟩) 127)
  generalize w.alloc (.cells (FU R N fr 1 gone true ⟨#[x]⟩) 127)=w1 at k0 hA⊢
  have a0:=Cx hA 0
  have a1:=Cx hA 1
  go_wp2_with(go_at_call 103;refine(BJ _ _ _).mono ?_;rw[HOP.out];rintro e w2 ⟨rfl,k2⟩;have hA2:=k2.heap hA id;have a2:=Cx hA2 2;have a3:=Cx hA2 3;have a11:=Cx hA2 11;have a12:=Cx hA2 12)
  go_ret
  exact⟨rfl,k0.trans k2⟩
theorem NG(x:Dc.Run)(h:Dc.Dz x=true)(w:World):Calls Tryz.prog 295 #[JE x] w (Bj true w):=by
 unfold Dc.Dz at h
 simp only[AN,Au,Gz,JM]at h
 obtain⟨⟨⟨⟨⟨h1,h2⟩,h3⟩,h4⟩,h5⟩,h6⟩:=h
 unfold Dc.Run.len at*
 exact NF x.op.R x.op.N x.fr x.gone x.mark x.text h1 (by omega) (by omega) (by omega) (by omega) (fun hm=>by rcases h6 with h6|h6;rw[hm]at h6;cases h6;omega) w
/-- are characters of x there? -/
def ovl(r x:Dc.Run):Bool:=decide (r.op=x.op)&&decide (r.fr<x.fr+x.len)&&decide (x.fr<r.fr+r.len)
theorem Wa(X:Nat)(R N:Int)(fr L:Nat)(gone mark:Bool)(tx:ByteArray)(R' N':Int)(fr' L':Nat)(gone' mark':Bool)(tx':ByteArray)(h1:(fr:Int)+(L:Int)≤1000000)(h2:(fr':Int)+(L':Int)≤1000000)(w:World)
  (hX:w.heap[X]? =some (.cells (FU R' N' fr' L' gone' mark' tx') 127 (0,0))):
  Calls Tryz.prog 331 #[.agg (FU R N fr L gone mark tx),.pointer (some ⟨X,0,none⟩)] w (Bj (decide (R=R')&&decide (N=N')&&decide ((fr:Int)<(fr':Int)+(L':Int))&&decide ((fr':Int)<(fr:Int)+(L:Int))) w):=by
 have h0:(0:Int)≤(fr:Int)+(L:Int):=by omega
 have h3:(0:Int)≤(fr':Int)+(L':Int):=by omega
 go_enter Tryz.func331,Tryz.ntmps331
 go_upto_region 1 with(fail)
 have k0:Aa No w (w.alloc (.cells (FU R N fr L gone mark tx) 285)):=Kx
 have hA:=Nx w (.cells (FU R N fr L gone mark tx) 285)
 generalize w.alloc (.cells (FU R N fr L gone mark tx) 285)=w1 at k0 hA⊢
 have hB:=k0.heap hX id
 have a0:=Cx hA 0
 have a1:=Cx hA 1
 have a2:=Cx hA 2
 have a3:=Cx hA 3
 have b0:=Cx hB 0
 have b1:=Cx hB 1
 have b2:=Cx hB 2
 have b3:=Cx hB 3
 clear hA hB
 go_wp2_with fail
 all_goals
  go_ret
  refine⟨AY ?_,k0⟩
  clear a0 a1 a2 a3 b0 b1 b2 b3
  first|(simp[*];done)|(simp[*];omega)
theorem Wb(X:Nat)(r x:Dc.Run)(h1:r.fr+r.len≤1000000)(h2:x.fr+x.len≤1000000)(w:World)(hX:w.heap[X]? =some (.cells (BW x) 127 (0,0))):
  Calls Tryz.prog 331 #[JE r,.pointer (some ⟨X,0,none⟩)] w (Bj (ovl r x) w):=by
 have h:=Wa X r.op.R r.op.N r.fr r.len r.gone r.mark ⟨r.text.toArray⟩ x.op.R x.op.N x.fr x.len x.gone x.mark ⟨x.text.toArray⟩ (by omega) (by omega) w hX
 have e:ovl r x=(decide (r.op.R=x.op.R)&&decide (r.op.N=x.op.N)&&decide ((r.fr:Int)<(x.fr:Int)+(x.len:Int))&&decide ((x.fr:Int)<(r.fr:Int)+(r.len:Int))):=by
  have hop:decide (r.op=x.op)=(decide (r.op.R=x.op.R)&&decide (r.op.N=x.op.N)):=by
   cases h1:r.op;cases h2:x.op
   simp
  have e1:decide (r.fr<x.fr+x.len)=decide ((r.fr:Int)<(x.fr:Int)+(x.len:Int)):=by
   apply Bool.eq_iff_iff.2
   simp only[Au]
   omega
  have e2:decide (x.fr<r.fr+r.len)=decide ((x.fr:Int)<(r.fr:Int)+(r.len:Int)):=by
   apply Bool.eq_iff_iff.2
   simp only[Au]
   omega
  unfold ovl
  rw[hop,e1,e2]
 rw[e]
 exact h
theorem Q6(X:Nat)(x:Dc.Run)(v:Value)(l:List Dc.Run)(w:World)(h:Aq 285 13 Af v l w)(h1:∀r∈l,r.fr+r.len≤1000000)(h2:x.fr+x.len≤1000000)(hX:w.heap[X]? =some (.cells (BW x) 127 (0,0)))(hno:∀r∈l,ovl r x=false):
  Calls Tryz.prog 354 #[v,.func (.func 331) #[] #[.pointer (some ⟨X,0,none⟩)]] w fun e w'=>e= .returned (.int .i64 (-1))∧Aa No w w':=by
 have hlm:=h.len_le
 unfold maxLen at hlm
 obtain⟨ao,cp,rfl⟩:∃ao cp,v= .slice ao l.length cp:=by
  rcases h.form with⟨rfl,rfl⟩|⟨g',cap,_,rfl,_⟩
  ·exact⟨none,0,rfl⟩
  ·exact⟨_,cap,rfl⟩
 have H:=Hx h
 have H1:=Hx h1
 have HNO:=Hx hno
 have HX:=Hx hX
 clear h h1 hno hX
 go_enter Tryz.func354,Tryz.ntmps354
 go_wp2
 go_loopw [8] (fun i wr=>∃k:Nat,k≤l.length∧i= .int .i64 k∧Aa No w wr) (fun i _=>l.length-(intOf i).toNat)
 case atStart=>exact⟨0,Ah _,rfl,Aa.refl _ _⟩
 case round=>
  obtain⟨k,hk,rfl,kr⟩:=hrel
  by_cases hlt:k<l.length
  ·have hrow:=H.out.no kr
   obtain⟨g,cap,e1,hcap,_⟩:=hrow.at (by omega)
   injection e1 with e1 e2 e3
   subst e1 e3
   obtain⟨x0,x1,x2,x3,x4,x5,x6,x7,x8,x9,x10,x11,x12⟩:=hrow.runO hlt
   obtain⟨y,hy⟩:∃y,y=l[k]'hlt:=⟨_,rfl⟩
   rw[←hy]at x0 x1 x2 x3 x10 x11 x12
   have hc:=Wb X y x (H1.out y (by rw[hy];exact AQ hlt)) h2 wr (kr.heap HX.out id)
   rw[HNO.out y (by rw[hy];exact AQ hlt)]at hc
   have HC:=Hx hc
   clear hc hy hrow e2
   have kI0:(0:Int)≤(k:Int):=by omega
   have kI1:(k:Int)<(l.length:Int):=by omega
   go_wp2_with(go_at_call 331;refine HC.out.mono ?_;rintro e w2 ⟨rfl,k2⟩)
   go_roundw
   case rel=>exact⟨k+1,by omega,by go_num,kr.trans k2⟩
   case measure=>simp[intOf];omega
  ·obtain rfl:k=l.length:=by omega
   go_wp2
   go_ret
   exact⟨rfl,kr⟩
theorem PS(X:Nat)(x:Dc.Run)(v:Value)(l:List Dc.Run)(w:World)(h:Aq 285 13 Af v l w)(h1:∀r∈l,r.fr+r.len≤1000000)(h2:x.fr+x.len≤1000000)(hX:w.heap[X]? =some (.cells (BW x) 127 (0,0)))(hno:∀r∈l,ovl r x=false):
  Calls Tryz.prog 330 #[v,.func (.func 331) #[] #[.pointer (some ⟨X,0,none⟩)]] w (Bj false w):=by
 have hI:=Q6 X x v l w h h1 h2 hX hno
 obtain⟨ao,n,c,rfl⟩:=h.slice
 clear h h1 hX hno
 go_enter Tryz.func330,Tryz.ntmps330
 go_wp2_with(go_at_call 354;refine hI.mono ?_;rintro e w2 ⟨rfl,k2⟩)
 go_ret
 exact⟨rfl,k2⟩
end
end Go.Proofs.YthfjefcljeamgaaGreatDoor
