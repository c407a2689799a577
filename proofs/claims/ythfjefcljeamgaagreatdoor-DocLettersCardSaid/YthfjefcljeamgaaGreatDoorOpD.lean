/- joined: Ops: their fields, whether they are right, each by its contract. Ops: bare, Same, copies, Clone, each by its contract. Ops: a field copied; whether an op is right. -/
import Derived.Test.YthfjefcljeamgaaGreatDoorStruct
import Derived.Deep.RegionHeld3
import Derived.Deep.DrawnRows
import Derived.Deep.DeepCutAuto
namespace Go.Proofs.YthfjefcljeamgaaGreatDoor
set_option maxRecDepth 100000
set_option maxHeartbeats 4000000
section
open Go.RowKit
attribute [local go_sem ↓] Go.wp_at_zero Go.wp_at_succ
@[reducible] def As(o:Dc.Op)(cv:Value):Array Value:= #[.int .i64 o.kind,.int .i64 o.id.R,.int .i64 o.id.N,.int .i64 o.t,.int .i64 o.block.R,.int .i64 o.block.N,.int .i64 o.parent.R,.int .i64 o.parent.N,.string ⟨o.key.toArray⟩,
 .int .i64 o.seg.R,.int .i64 o.seg.N,.int .i64 o.left.op.R,.int .i64 o.left.op.N,.int .i64 o.left.i,.int .i64 o.right.op.R,.int .i64 o.right.op.N,.int .i64 o.right.i,.string ⟨o.text.toArray⟩,cv,.bool o.flag]
@[reducible] def opV(o:Dc.Op)(cv:Value):Value:= .agg (As o cv)
theorem JP(o:Dc.Op)(cv:Value)(w:World):
  Calls Tryz.prog 162 #[opV o cv] w fun e w'=>e= .returned (.int .i64 (o.size:Nat))∧Aa No w w':=by
 by_cases h3:o.kind=3
 ·have H:Hid ((o.size:Nat)=o.text.length):=Hx (by unfold Dc.Op.size;rw[Ak h3])
  have hk:(o.kind==3)=true:=by simp[h3]
  generalize o.size=sz at*
  clear h3
  go_enter Tryz.func162,Tryz.ntmps162
  go_wp2
  go_ret
  exact⟨F7 (by rw[H.out]),Kx⟩
 ·by_cases h5:o.kind=5
  ·have H:Hid ((o.size:Nat)=1):=Hx (by unfold Dc.Op.size;rw[Ae h3,Ak h5])
   have hk:(o.kind==3)=false:=by simp[h3]
   have hk5:(o.kind==5)=true:=by simp[h5]
   generalize o.size=sz at*
   clear h3 h5
   go_enter Tryz.func162,Tryz.ntmps162
   go_wp2
   go_ret
   exact⟨F7 (by rw[H.out];rfl),Kx⟩
  ·have H:Hid ((o.size:Nat)=0):=Hx (by unfold Dc.Op.size;rw[Ae h3,Ae h5])
   have hk:(o.kind==3)=false:=by simp[h3]
   have hk5:(o.kind==5)=false:=by simp[h5]
   generalize o.size=sz at*
   clear h3 h5
   go_enter Tryz.func162,Tryz.ntmps162
   go_wp2
   go_ret
   exact⟨F7 (by rw[H.out];rfl),Kx⟩
def BP(p:Int)(o:Dc.Op):Bool:=
 if p=0 then Off.AV o.block else if p=1 then Dc.WT o else if p=2 then Dc.KI o else if p=3 then Dc.Vo o else if p=4 then Dc.TN o else true
theorem Om(o:Dc.Op)(cv:Value)(w:World):
  Calls Tryz.prog 105 #[.int .i64 0,opV o cv] w (Bj (BP 0 o) w):=by
 have H:Hid (BP 0 o=Off.AV ⟨o.block.R,o.block.N⟩):=rfl
 generalize BP 0 o=r at*
 go_enter Tryz.func105,Tryz.ntmps105
 go_wp2_with(go_at_call 103;refine(BJ _ _ _).mono ?_;rintro e w1 ⟨rfl,k1⟩)
 go_ret
 exact⟨AY H.out.symm,Kx⟩
theorem Ol(o:Dc.Op)(cv:Value)(w:World):
  Calls Tryz.prog 105 #[.int .i64 1,opV o cv] w (Bj (BP 1 o) w):=by
 have H:Hid (BP 1 o=(Off.AV ⟨o.seg.R,o.seg.N⟩&&Dc.Hv ⟨⟨o.left.op.R,o.left.op.N⟩,o.left.i⟩&&Dc.Hv ⟨⟨o.right.op.R,o.right.op.N⟩,o.right.i⟩)):=rfl
 generalize BP 1 o=r at*
 go_enter Tryz.func105,Tryz.ntmps105
 go_wp2_with(first
  |(go_at_call 103;refine(BJ _ _ _).mono ?_;rintro e w1 ⟨rfl,k1⟩;have hb:=k1.own id;have hc:=Cx hb)
  |(go_at_call 156;refine(O3 _ _ _ _).mono ?_;rintro e w2 ⟨rfl,k2⟩;have hb:=k2.heap hb id;have hc:=Cx hb))
 all_goals
  go_ret
  refine⟨AY ?_,Kx⟩
  rw[H.out]
  simp_all
theorem KL(o:Dc.Op)(cv:Value)(w:World)(hE:Env w):
  Calls Tryz.prog 105 #[.int .i64 2,opV o cv] w (Bj (BP 2 o) w):=by
 have H:Hid (BP 2 o=(Off.Bn ⟨o.parent.R,o.parent.N⟩&&Dc.D4 o.key)):=rfl
 generalize BP 2 o=r at*
 go_enter Tryz.func105,Tryz.ntmps105
 go_wp2_with(first
  |(go_at_call 114;refine(Fq _ _ _ (hE.alloc _)).mono ?_;rintro e w1 ⟨rfl,k1⟩;have hb:=k1.own id;have hc:=Cx hb)
  |(go_at_call 157;refine(Hk _ _).mono ?_;rintro e w2 ⟨rfl,rfl⟩))
 all_goals
  go_ret
  refine⟨AY ?_,Kx⟩
  rw[H.out]
  simp_all
theorem Uo(o:Dc.Op)(cv:Value)(w:World)(hs:o.text.length≤1000000000):
  Calls Tryz.prog 105 #[.int .i64 3,opV o cv] w (Bj (BP 3 o) w):=by
 have H:Hid (BP 3 o=(decide (o.text≠ [])&&decide (o.text.length≤64))):=rfl
 generalize BP 3 o=r at*
 by_cases h1:o.text=[]
 ·have h1':o.text.length=0:=by rw[h1];rfl
  have hr:Hid (r=false):=Hx (by rw[H.out,h1];rfl)
  clear H h1'
  obtain⟨kd,⟨a1,a2⟩,t,⟨b1,b2⟩,⟨p1,p2⟩,key,⟨s1,s2⟩,⟨⟨l1,l2⟩,l3⟩,⟨⟨r1,r2⟩,r3⟩,text,cuts,flag⟩:=o
  simp at h1
  subst h1
  go_enter Tryz.func105,Tryz.ntmps105
  go_wp2
  go_ret
  exact⟨AY hr.out.symm,Kx⟩
 ·have h1':o.text.toArray.toList.isEmpty=false:=by simp[h1]
  by_cases h2:o.text.length≤64
  ·have hr:Hid (r=true):=Hx (by rw[H.out];simp[h1,h2])
   have h2':(o.text.length:Int)≤64:=by omega
   clear H
   go_enter Tryz.func105,Tryz.ntmps105
   go_wp2
   go_ret
   exact⟨AY hr.out.symm,Kx⟩
  ·have hr:Hid (r=false):=Hx (by rw[H.out];simp[h2])
   have h2':¬(o.text.length:Int)≤64:=by omega
   clear H
   go_enter Tryz.func105,Tryz.ntmps105
   go_wp2
   go_ret
   exact⟨AY hr.out.symm,Kx⟩
theorem Un(o:Dc.Op)(cv:Value)(w:World)(hcv:BI 4 AD cv o.cuts w):
  Calls Tryz.prog 105 #[.int .i64 4,opV o cv] w (Bj (BP 4 o) w):=by
 have H:Hid (BP 4 o=(decide (0<o.cuts.length)&&decide (o.cuts.length≤16)&&o.cuts.all Dc.CL)):=rfl
 generalize BP 4 o=r at*
 have hany:Hid ((o.cuts.any fun c=> !Dc.CL c)= !(o.cuts.all Dc.CL)):=Hx (by rw[List.not_all_eq_any_not])
 have hcc:=fun w1 h=>PT cv o.cuts w1 h
 have HC:=Hx hcv
 obtain⟨h0,ao,c,rfl,hc,hcm,-⟩:=hcv
 unfold maxLen at h0
 generalize (o.cuts.any fun c=> !Dc.CL c)=an at*
 by_cases h1:0<o.cuts.length
 ·have h1':(0:Int)<(o.cuts.length:Int):=by omega
  by_cases h2:o.cuts.length≤16
  ·have h2':(o.cuts.length:Int)≤16:=by omega
   have hr:Hid (r= !an):=Hx (by rw[H.out,hany.out];simp[h1,h2])
   clear H hany
   go_enter Tryz.func105,Tryz.ntmps105
   go_wp2_with(go_at_call 151;refine(hcc _ (HC.out.no ((Aa.refl _ _).alloc _))).mono ?_;rintro e w1 ⟨rfl,k1⟩)
   go_ret
   exact⟨AY hr.out.symm,Kx⟩
  ·have hr:Hid (r=false):=Hx (by rw[H.out];simp[h2])
   have h2':¬(o.cuts.length:Int)≤16:=by omega
   clear H hany
   go_enter Tryz.func105,Tryz.ntmps105
   go_wp2
   go_ret
   exact⟨AY hr.out.symm,Kx⟩
 ·have hr:Hid (r=false):=Hx (by rw[H.out];simp[h1])
  have h1':¬(0:Int)<(o.cuts.length:Int):=by omega
  clear H hany
  go_enter Tryz.func105,Tryz.ntmps105
  go_wp2
  go_ret
  exact⟨AY hr.out.symm,Kx⟩
theorem Um(o:Dc.Op)(cv:Value)(w:World):
  Calls Tryz.prog 105 #[.int .i64 5,opV o cv] w (Bj (BP 5 o) w):=by
 have H:Hid (BP 5 o=true):=rfl
 generalize BP 5 o=r at*
 go_enter Tryz.func105,Tryz.ntmps105
 go_wp2
 go_ret
 exact⟨AY H.out.symm,Kx⟩
end
section
open Go.RowKit
@[reducible] def Be:Array Value:= #[.int .i64 0,.int .i64 0,.int .i64 0,.int .i64 0,.int .i64 0,.int .i64 0,.int .i64 0,.int .i64 0,.string ⟨#[]⟩,.int .i64 0,.int .i64 0,.int .i64 0,.int .i64 0,.int .i64 0,.int .i64 0,.int .i64 0,.int .i64 0,.string ⟨#[]⟩,.slice none 0 0,.bool false]
theorem H9(o:Dc.Op)(cv:Value)(w:World):
  Calls Tryz.prog 104 #[opV o cv] w fun e w'=>e= .returned (opV o.bare (.slice none 0 0))∧Aa No w w':=by
 have H:Hid (opV o.bare (.slice none 0 0)= .agg #[.int .i64 o.kind,.int .i64 o.id.R,.int .i64 o.id.N,.int .i64 o.t,.int .i64 0,.int .i64 0,.int .i64 0,.int .i64 0,.string ⟨#[]⟩,
  .int .i64 0,.int .i64 0,.int .i64 0,.int .i64 0,.int .i64 0,.int .i64 0,.int .i64 0,.int .i64 0,.string ⟨#[]⟩,.slice none 0 0,.bool false]):=rfl
 rw[H.out]
 clear H
 go_enter Tryz.func104,Tryz.ntmps104
 go_upto_region 1 with(fail)
 have k0:Aa No w ((w.alloc (.cells (As o cv) 29)).alloc (.cells Be 29)):=Kx
 have hA:=Ab (Nx w (.cells (As o cv) 29)) (.cells Be 29)
 have hB:=Nx (w.alloc (.cells (As o cv) 29)) (.cells Be 29)
 rw[World.size_alloc]at hB
 generalize (w.alloc (.cells (As o cv) 29)).alloc (.cells Be 29)=w1 at k0 hA hB⊢
 have cA:=Cx hA
 go_wp2_with(refine Bd rfl 29 _ _ rfl (w.heap.size+1) _ _ 29 rfl rfl hB (by rfl) Rx (by rfl) ?_;intro w2 hb2 k2 hz2)
 refine bodyPost_ret (CX Tryz.results104 rfl hb2 Tryz.underlying29 rfl Rx) rfl ⟨rfl,k0.step k2 fun k hk hlt=>?_⟩
 unfold At1 at hk
 omega
/-- the block b holds the op o, its cuts in cv -/
def Eo(b:Nat)(o:Dc.Op)(cv:Value)(w:World):Prop:=w.heap[b]? =some (.cells (As o cv) 29 (0,0))
def RQ(o:Dc.Op)(w:World)(e:Ending)(w':World):Prop:=
 ∃v',e= .returned (opV o v')∧Aq 64 4 AD v' o.cuts w'∧(∀g,v'.ownBlock=some g→w.heap.size≤g)∧Aa No w w'
theorem LC(o:Dc.Op)(cv:Value)(w:World)(hcv:BI 4 AD cv o.cuts w)(hsz:o.cuts.length≤1000000):
  Calls Tryz.prog 72 #[opV o cv] w (RQ o w):=by
 go_enter Tryz.func72,Tryz.ntmps72
 go_upto_region 1 with(fail)
 have k0:Aa No w ((w.alloc (.cells (As o cv) 29)).alloc (.cells Be 29)):=Kx
 have hA:=Ab (Nx w (.cells (As o cv) 29)) (.cells Be 29)
 have hB:=Nx (w.alloc (.cells (As o cv) 29)) (.cells Be 29)
 rw[World.size_alloc]at hB
 generalize (w.alloc (.cells (As o cv) 29)).alloc (.cells Be 29)=w1 at k0 hA hB⊢
 have cA:=Cx hA
 have hC:=JB cv o.cuts w1 (hcv.no k0) hsz
 go_upto_region 2 with(go_at_call 116;refine hC.mono ?_;rintro e w2 ⟨v',rfl,hr,hg,k2⟩;obtain⟨ao,n,c,rfl⟩:=hr.slice;have hA2:=k2.heap hA id;have hB2:=k2.heap hB id;have cA:=Cx hA2;have fA:=Fx hA2)
 have hA3:=heap_set hA2 18 (.slice ao n c)
 have hB3:=AP (b':=w.heap.size) (j:=18) hB2 (by omega) (.slice ao n c)
 have k3:Aa (At1 w.heap.size) w2 (w2.setCell ⟨w.heap.size,18,none⟩ (.slice ao n c)):=(Aa.refl _ _).set1 _
 have hs3:(As o cv).setIfInBounds 18 (.slice ao n c)=As o (.slice ao n c):=rfl
 rw[hs3]at hA3
 clear cA fA hA2 hB2
 generalize w2.setCell ⟨w.heap.size,18,none⟩ (.slice ao n c)=w3 at hA3 hB3 k3⊢
 go_wp2_with(first
  |(refine An rfl 29 _ rfl w.heap.size _ 29 _ rfl hA3 Tryz.underlying29 rfl Rx ?_)
  |(refine Bd rfl 29 _ _ rfl (w.heap.size+1) _ _ 29 rfl rfl hB3 (by rfl) Rx (by rfl) ?_;intro w4 hb4 k4 hz4))
 have hlt1:=Ao hB
 have ho:∀g,(Value.slice ao n c).ownBlock=some g→w.heap.size+1<g:=fun g h=>by have:=hg g h;omega
 refine bodyPost_ret (CX Tryz.results72 rfl hb4 Tryz.underlying29 rfl Rx) rfl ⟨.slice ao n c,rfl,?_,fun g h=>by have:=ho g h;omega,?_⟩
 ·exact(hr.keeps k3 fun g h e=>by have:=ho g h;unfold At1 at e;omega).keeps k4 fun g h e=>by have:=ho g h;unfold At1 at e;omega
 ·refine((k0.trans k2).step k3 fun k hk hlt=>?_).step k4 fun k hk hlt=>?_ <;>(unfold At1 at hk;omega)
theorem FS(a b:Dc.Op)(ca cb:Value)(w:World)(ha:BI 4 AD ca a.cuts w)(hb:BI 4 AD cb b.cuts w):
  Calls Tryz.prog 107 #[opV a ca,opV b cb] w (Bj (decide (a=b)) w):=by
 generalize hq0:decide (a=b)=q0
 have HQ:=Hx hq0
 clear hq0
 obtain⟨a0,an,ac,rfl⟩:∃a0 an ac,ca= .slice a0 an ac:=by obtain⟨_,x,y,h,_⟩:=ha;exact⟨_,_,_,h⟩
 obtain⟨b0,bn,bc,rfl⟩:∃a0 an ac,cb= .slice a0 an ac:=by obtain⟨_,x,y,h,_⟩:=hb;exact⟨_,_,_,h⟩
 go_enter Tryz.func107,Tryz.ntmps107
 go_upto_region 1 with(fail)
 have k0:Aa No w ((w.alloc (.cells (As a (.slice a0 an ac)) 29)).alloc (.cells (As b (.slice b0 bn bc)) 29)):=Kx
 have hA:=Ab (Nx w (.cells (As a (.slice a0 an ac)) 29)) (.cells (As b (.slice b0 bn bc)) 29)
 have hB:=Nx (w.alloc (.cells (As a (.slice a0 an ac)) 29)) (.cells (As b (.slice b0 bn bc)) 29)
 rw[World.size_alloc]at hB
 generalize (w.alloc (.cells (As a (.slice a0 an ac)) 29)).alloc (.cells (As b (.slice b0 bn bc)) 29)=w1 at k0 hA hB⊢
 have cA:=Cx hA
 have cB:=Cx hB
 have hlA:=Ao hA
 have hlB:=Ao hB
 go_cut[5,6] (fun s5 s6 wx=>∃x y:Nat,s5= .pointer (some ⟨x,0,none⟩)∧s6= .pointer (some ⟨y,0,none⟩)∧x≠y∧w1.heap.size≤x∧w1.heap.size≤y∧wx.heap[x]? =some (.cells (As a (.slice a0 an ac)) 29 (0,0))∧wx.heap[y]? =some (.cells (As b (.slice b0 bn bc)) 29 (0,0))∧Aa No w1 wx)
 case first=>
  refine wp_region_held_drew (S:=fun w'=>Aa No w1 w') Rx ((Aa.refl _ _).drew) (fun hH=>?_)
  generalize w1.drew=W0 at hH⊢
  refine wpAnyH_take (i:=0) (v:= .agg (As a (.slice a0 an ac))) rfl Rx Rx Rx (fun _ _ _ h=>h) (BA rfl _ _ rfl w.heap.size _ 29 _ rfl (fun w h=>h.heap hA id) Tryz.underlying29 rfl Rx) hH ?_
  simp only[Gx,Act.put,Sx]
  refine wpAnyH_take (i:=1) (v:= .agg (As b (.slice b0 bn bc))) rfl Rx Rx Rx (fun _ _ _ h=>h) (BA rfl _ _ rfl (w.heap.size+1) _ 29 _ rfl (fun w h=>h.heap hB id) Tryz.underlying29 rfl Rx) hH ?_
  simp only[Gx,Act.put,Sx]
  refine wpAnyH_ready (rs:=[2,3]) Rx (by simp) ?_
  refine AllReadyH.cons rfl (fun K hK=>?_) ?_
  ·refine FR rfl 29 rfl (.agg Be) (fun w=>by kernel_rfl) ?_
   have kk1:Aa No w1 (W0.alloc (.cells (Value.cells (.agg Be)) 29)):=hH.alloc _
   have hx1:=Nx W0 (.cells (Value.cells (.agg Be)) 29)
   have gx1:=hH.size
   refine hK.out _ _ kk1 (fun _=>?_)
   simp only[Gx,Act.put,Sx]
   obtain⟨xb1,e1⟩:∃b,b=W0.heap.size:=⟨_,rfl⟩
   rw[←e1]at hx1 gx1⊢
   generalize W0.alloc (.cells (Value.cells (.agg Be)) 29)=W1 at kk1 hx1⊢
   clear hK e1
   refine wpAnyH_ready (rs:=[3]) Rx (by simp) ?_
   refine AllReadyH.cons rfl (fun K hK=>?_) ?_
   ·refine FR rfl 29 rfl (.agg Be) (fun w=>by kernel_rfl) ?_
    have kk2:Aa No w1 (W1.alloc (.cells (Value.cells (.agg Be)) 29)):=kk1.alloc _
    have hy2:=Nx W1 (.cells (Value.cells (.agg Be)) 29)
    have gy2:=kk1.size
    have hx2:=Ab hx1 (.cells (Value.cells (.agg Be)) 29)
    have lx2:=Ao hx1
    refine hK.out _ _ kk2 (fun _=>?_)
    simp only[Gx,Act.put,Sx]
    obtain⟨yb2,e2⟩:∃b,b=W1.heap.size:=⟨_,rfl⟩
    rw[←e2]at hy2 gy2 lx2⊢
    generalize W1.alloc (.cells (Value.cells (.agg Be)) 29)=W2 at kk2 hy2 hx2⊢
    clear hK e2
    refine wpAnyH_ready (rs:=[4]) Rx (by simp) ?_
    refine AllReadyH.cons rfl (fun K hK=>?_) ?_
    ·refine Df rfl 29 _ _ rfl xb1 (As a (.slice a0 an ac)) _ 29 rfl rfl hx2 (by rfl) Rx (by rfl) ?_
     intro W3 hx3 ks3
     have kk3:Aa No w1 W3:=kk2.step ks3 fun q hq hlt=>by unfold At1 at hq;omega
     have hy3:=ks3.heap hy2 (fun e=>by unfold At1 at e;omega)
     refine hK.out _ _ kk3 (fun _=>?_)
     simp only[Gx,Act.put]
     clear hK
     refine wpAnyH_ready (rs:=[5]) Rx (by simp) ?_
     refine AllReadyH.cons rfl (fun K hK=>?_) ?_
     ·refine Df rfl 29 _ _ rfl yb2 (As b (.slice b0 bn bc)) _ 29 rfl rfl hy3 (by rfl) Rx (by rfl) ?_
      intro W4 hy4 ks4
      have kk4:Aa No w1 W4:=kk3.step ks4 fun q hq hlt=>by unfold At1 at hq;omega
      have hx4:=ks4.heap hx3 (fun e=>by unfold At1 at e;omega)
      refine hK.out _ _ kk4 (fun _=>?_)
      simp only[Gx,Act.put]
      clear hK
      refine wpAnyH_done Rx ?_ _
      go_wp2_with fail
      go_meet
      exact⟨xb1,yb2,rfl,rfl,by omega,gx1,gy2,hx4,hy4,kk4⟩
     exact AllReadyH.nil
    exact AllReadyH.nil
   exact AllReadyH.nil
  refine AllReadyH.cons rfl (fun K hK=>?_) ?_
  ·refine FR rfl 29 rfl (.agg Be) (fun w=>by kernel_rfl) ?_
   have kk5:Aa No w1 (W0.alloc (.cells (Value.cells (.agg Be)) 29)):=hH.alloc _
   have hy5:=Nx W0 (.cells (Value.cells (.agg Be)) 29)
   have gy5:=hH.size
   refine hK.out _ _ kk5 (fun _=>?_)
   simp only[Gx,Act.put,Sx]
   obtain⟨yb5,e5⟩:∃b,b=W0.heap.size:=⟨_,rfl⟩
   rw[←e5]at hy5 gy5⊢
   generalize W0.alloc (.cells (Value.cells (.agg Be)) 29)=W5 at kk5 hy5⊢
   clear hK e5
   refine wpAnyH_ready (rs:=[2]) Rx (by simp) ?_
   refine AllReadyH.cons rfl (fun K hK=>?_) ?_
   ·refine FR rfl 29 rfl (.agg Be) (fun w=>by kernel_rfl) ?_
    have kk6:Aa No w1 (W5.alloc (.cells (Value.cells (.agg Be)) 29)):=kk5.alloc _
    have hx6:=Nx W5 (.cells (Value.cells (.agg Be)) 29)
    have gx6:=kk5.size
    have hy6:=Ab hy5 (.cells (Value.cells (.agg Be)) 29)
    have ly6:=Ao hy5
    refine hK.out _ _ kk6 (fun _=>?_)
    simp only[Gx,Act.put,Sx]
    obtain⟨xb6,e6⟩:∃b,b=W5.heap.size:=⟨_,rfl⟩
    rw[←e6]at hx6 gx6 ly6⊢
    generalize W5.alloc (.cells (Value.cells (.agg Be)) 29)=W6 at kk6 hx6 hy6⊢
    clear hK e6
    refine wpAnyH_ready (rs:=[4]) Rx (by simp) ?_
    refine AllReadyH.cons rfl (fun K hK=>?_) ?_
    ·refine Df rfl 29 _ _ rfl xb6 (As a (.slice a0 an ac)) _ 29 rfl rfl hx6 (by rfl) Rx (by rfl) ?_
     intro W7 hx7 ks7
     have kk7:Aa No w1 W7:=kk6.step ks7 fun q hq hlt=>by unfold At1 at hq;omega
     have hy7:=ks7.heap hy6 (fun e=>by unfold At1 at e;omega)
     refine hK.out _ _ kk7 (fun _=>?_)
     simp only[Gx,Act.put]
     clear hK
     refine wpAnyH_ready (rs:=[5]) Rx (by simp) ?_
     refine AllReadyH.cons rfl (fun K hK=>?_) ?_
     ·refine Df rfl 29 _ _ rfl yb5 (As b (.slice b0 bn bc)) _ 29 rfl rfl hy7 (by rfl) Rx (by rfl) ?_
      intro W8 hy8 ks8
      have kk8:Aa No w1 W8:=kk7.step ks8 fun q hq hlt=>by unfold At1 at hq;omega
      have hx8:=ks8.heap hx7 (fun e=>by unfold At1 at e;omega)
      refine hK.out _ _ kk8 (fun _=>?_)
      simp only[Gx,Act.put]
      clear hK
      refine wpAnyH_done Rx ?_ _
      go_wp2_with fail
      go_meet
      exact⟨xb6,yb5,rfl,rfl,by omega,gx6,gy5,hx8,hy8,kk8⟩
     exact AllReadyH.nil
    exact AllReadyH.nil
   exact AllReadyH.nil
  exact AllReadyH.nil
 case rest=>
  obtain⟨x,y,rfl,rfl,hxy,gx,gy,hx,hy,kc⟩:=hcut
  have hlX:=Ao hx
  have hlY:=Ao hy
  have cx:=Cx hx
  have cy:=Cx hy
  have fx:=Fx hx
  have fy:=Fx hy
  have hyx:¬y=x:=fun e=>hxy e.symm
  have KC:=(k0.trans kc)
  have hA2:=kc.heap hA id
  have hB2:=kc.heap hB id
  have ha2:=Hx (ha.no KC)
  have hb2:=Hx (hb.no KC)
  have hoa:∀g,(Value.slice a0 an ac).ownBlock=some g→a.cuts≠ []→g<w.heap.size:=fun g hg hne=>by
   obtain⟨_,ao,c,e,_,_,h⟩:=ha
   obtain⟨g',o,rfl,h1,_⟩:=h hne
   cases e
   cases hg
   exact h1
  have hob:∀g,(Value.slice b0 bn bc).ownBlock=some g→b.cuts≠ []→g<w.heap.size:=fun g hg hne=>by
   obtain⟨_,ao,c,e,_,_,h⟩:=hb
   obtain⟨g',o,rfl,h1,_⟩:=h hne
   cases e
   cases hg
   exact h1
  clear cA cB
  clear hoa hob
  go_upto_region 3 with(fail)
  have hx3:=AP (b':=y) (j:=18) (heap_set hx 18 (.slice none 0 0)) hxy (.slice none 0 0)
  have hy3:=heap_set (AP (b':=x) (j:=18) hy hyx (.slice none 0 0)) 18 (.slice none 0 0)
  have k3:Aa No w ((wc.setCell ⟨x,18,none⟩ (.slice none 0 0)).setCell ⟨y,18,none⟩ (.slice none 0 0)):=
   (KC.step ((Aa.refl (At1 x) wc).set1 (.slice none 0 0)) fun k hk hlt=>by unfold At1 at hk;omega).step ((Aa.refl (At1 y) _).set1 (.slice none 0 0)) fun k hk hlt=>by unfold At1 at hk;omega
  have hA3:=AP (b':=y) (j:=18) (AP (b':=x) (j:=18) hA2 (by omega) (.slice none 0 0)) (by omega) (.slice none 0 0)
  have hB3:=AP (b':=y) (j:=18) (AP (b':=x) (j:=18) hB2 (by omega) (.slice none 0 0)) (by omega) (.slice none 0 0)
  have ex:(As a (.slice a0 an ac)).setIfInBounds 18 (.slice none 0 0)=As a (.slice none 0 0):=rfl
  have ey:(As b (.slice b0 bn bc)).setIfInBounds 18 (.slice none 0 0)=As b (.slice none 0 0):=rfl
  rw[ex]at hx3
  rw[ey]at hy3
  have hLa:=Hx (ha.no k3)
  have hLb:=Hx (hb.no k3)
  clear ex ey hx hy cx cy fx fy kc KC hA hB hA2 hB2 ha2 hb2 k0 ha hb hlX hlY hlA hlB
  generalize (wc.setCell ⟨x,18,none⟩ (.slice none 0 0)).setCell ⟨y,18,none⟩ (.slice none 0 0)=W at*
  have cX:=Cx hx3
  have cY:=Cx hy3
  have cA:=Cx hA3
  have cB:=Cx hB3
  have hE:=NX (.slice a0 an ac) (.slice b0 bn bc) a.cuts b.cuts W hLa.out hLb.out
  clear hx3 hy3 hA3 hB3 hLa hLb
  obtain⟨kd,⟨i1,i2⟩,t,⟨b1,b2⟩,⟨p1,p2⟩,key,⟨s1,s2⟩,⟨⟨l1,l2⟩,l3⟩,⟨⟨r1,r2⟩,r3⟩,text,cuts,flag⟩:=a
  obtain⟨kd',⟨i1',i2'⟩,t',⟨b1',b2'⟩,⟨p1',p2'⟩,key',⟨s1',s2'⟩,⟨⟨l1',l2'⟩,l3'⟩,⟨⟨r1',r2'⟩,r3'⟩,text',cuts',flag'⟩:=b
  by_cases hall:(kd=kd'∧i1=i1'∧i2=i2'∧t=t'∧b1=b1'∧b2=b2'∧p1=p1'∧p2=p2'∧key=key')∧(s1=s1'∧s2=s2'∧l1=l1'∧l2=l2'∧l3=l3'∧r1=r1'∧r2=r2'∧r3=r3'∧text=text'∧flag=flag')
  ·obtain⟨⟨rfl,rfl,rfl,rfl,rfl,rfl,rfl,rfl,rfl⟩,rfl,rfl,rfl,rfl,rfl,rfl,rfl,rfl,rfl,rfl⟩:=hall
   have hd:Hid (decide (cuts=cuts')=q0):=Hx (by rw[←HQ.out];congr 1;simp)
   simp only at hE
   clear HQ
   generalize decide (cuts=cuts')=q at hE hd
   go_wp2_with(go_at_call 160;refine hE.mono ?_;rintro e w5 ⟨rfl,k5⟩)
   go_ret
   exact⟨AY hd.out,k3.trans k5⟩
  ·have hd:Hid (q0=false):=Hx (by
    rw[←HQ.out]
    refine Dn fun e=>hall ?_
    simp only[Dc.Op.mk.injEq,Off.Bid.mk.injEq,Dc.Chr.mk.injEq]at e
    obtain⟨e1,⟨e2,e3⟩,e4,⟨e5,e6⟩,⟨e7,e8⟩,e9,⟨e10,e11⟩,⟨⟨e12,e13⟩,e14⟩,⟨⟨e15,e16⟩,e17⟩,e18,e19,e20⟩:=e
    exact⟨⟨e1,e2,e3,e4,e5,e6,e7,e8,e9⟩,e10,e11,e12,e13,e14,e15,e16,e17,e18,e20⟩)
   simp only at hE
   clear HQ
   have HALL:=Hx hall
   clear hall
   go_wp2_with fail
   all_goals first
    |(go_ret
      exact⟨AY hd.out.symm,k3⟩)
    |(refine absurd ?_ HALL.out
      refine⟨⟨?_,?_,?_,?_,?_,?_,?_,?_,?_⟩,?_,?_,?_,?_,?_,?_,?_,?_,?_,?_⟩<;>first|rfl|assumption)
end
section
open Go.RowKit
attribute [local go_sem ↓] Go.wp_at_zero Go.wp_at_succ
def AL(p:Int)(tt o:Dc.Op):Dc.Op:=
 if p=0 then{tt with block:=o.block}else if p=1 then{tt with seg:=o.seg,left:=o.left,right:=o.right}else if p=2 then{tt with parent:=o.parent,key:=o.key}
 else if p=3 then{tt with text:=o.text}else if p=4 then{tt with cuts:=o.cuts}else{tt with flag:=o.flag}
def Ib(b:Nat)(r:Dc.Op)(cv:Value)(w:World)(e:Ending)(w':World):Prop:=e= .returned (.tuple #[])∧Eo b r cv w'∧Aa (At1 b) w w'
theorem Eo.drew{b:Nat}{o:Dc.Op}{cv:Value}{w:World}(h:Eo b o cv w):Eo b o cv w.drew:=h
theorem Ru{b:Nat}{r:Dc.Op}{cv:Value}{w w':World}(h1:Eo b r cv w')(h2:Aa (At1 b) w w'):Ib b r cv w (.returned (.tuple #[])) w'.drew:=⟨rfl,h1,h2.drew⟩
theorem Eo.lt{b:Nat}{o:Dc.Op}{cv:Value}{w:World}(h:Eo b o cv w):b<w.heap.size:=Ao h
theorem OO(b:Nat)(tt o:Dc.Op)(tv cv:Value)(w:World)(h:Eo b tt tv w):
  Calls Tryz.prog 106 #[.int .i64 0,.pointer (some ⟨b,0,none⟩),opV o cv] w (Ib b (AL 0 tt o) tv w):=by
 have hlt:=h.lt
 have hne:¬w.heap.size=b:=by omega
 have hne2:¬b=w.heap.size:=by omega
 go_enter Tryz.func106,Tryz.ntmps106
 go_upto_region 1 with(fail)
 have k0:Aa (At1 b) w (w.alloc (.cells (As o cv) 29)):=Kx
 have hA:=Nx w (.cells (As o cv) 29)
 have hB:=Ab h (.cells (As o cv) 29)
 generalize w.alloc (.cells (As o cv) 29)=w1 at k0 hA hB⊢
 have cA:=Cx hA
 have cB:=Cx hB
 have fB:=Fx hB
 go_wp2
 go_end0
 exact⟨rfl,heap_set (heap_set hB 4 _) 5 _,Kx⟩
theorem UO(b:Nat)(tt o:Dc.Op)(tv cv:Value)(w:World)(h:Eo b tt tv w):
  Calls Tryz.prog 106 #[.int .i64 3,.pointer (some ⟨b,0,none⟩),opV o cv] w (Ib b (AL 3 tt o) tv w):=by
 have hlt:=h.lt
 have hne:¬w.heap.size=b:=by omega
 have hne2:¬b=w.heap.size:=by omega
 go_enter Tryz.func106,Tryz.ntmps106
 go_upto_region 1 with(fail)
 have k0:Aa (At1 b) w (w.alloc (.cells (As o cv) 29)):=Kx
 have hA:=Nx w (.cells (As o cv) 29)
 have hB:=Ab h (.cells (As o cv) 29)
 generalize w.alloc (.cells (As o cv) 29)=w1 at k0 hA hB⊢
 have cA:=Cx hA
 have cB:=Cx hB
 have fB:=Fx hB
 go_wp2
 go_end0
 exact⟨rfl,heap_set hB 17 _,Kx⟩
theorem UM(b:Nat)(tt o:Dc.Op)(tv cv:Value)(w:World)(h:Eo b tt tv w):
  Calls Tryz.prog 106 #[.int .i64 5,.pointer (some ⟨b,0,none⟩),opV o cv] w (Ib b (AL 5 tt o) tv w):=by
 have hlt:=h.lt
 have hne:¬w.heap.size=b:=by omega
 have hne2:¬b=w.heap.size:=by omega
 go_enter Tryz.func106,Tryz.ntmps106
 go_upto_region 1 with(fail)
 have k0:Aa (At1 b) w (w.alloc (.cells (As o cv) 29)):=Kx
 have hA:=Nx w (.cells (As o cv) 29)
 have hB:=Ab h (.cells (As o cv) 29)
 generalize w.alloc (.cells (As o cv) 29)=w1 at k0 hA hB⊢
 have cA:=Cx hA
 have cB:=Cx hB
 have fB:=Fx hB
 go_wp2
 go_end0
 exact⟨rfl,heap_set hB 19 _,Kx⟩
theorem KZ(b:Nat)(tt o:Dc.Op)(tv cv:Value)(w:World)(h:Eo b tt tv w):
  Calls Tryz.prog 106 #[.int .i64 2,.pointer (some ⟨b,0,none⟩),opV o cv] w (Ib b (AL 2 tt o) tv w):=by
 have hlt:=h.lt
 have hne:¬w.heap.size=b:=by omega
 have hne2:¬b=w.heap.size:=by omega
 go_enter Tryz.func106,Tryz.ntmps106
 go_upto_region 1 with(fail)
 have k0:Aa (At1 b) w (w.alloc (.cells (As o cv) 29)):=Kx
 have hA:=Nx w (.cells (As o cv) 29)
 have hB:=Ab h (.cells (As o cv) 29)
 generalize w.alloc (.cells (As o cv) 29)=w1 at k0 hA hB⊢
 have cA:=Cx hA
 have cB:=Cx hB
 have fB:=Fx hB
 go_wp2
 go_region_held3(fun w'=>w'.cell? ⟨w.heap.size,6,none⟩=some (.int .i64 o.parent.R)∧w'.cell? ⟨w.heap.size,7,none⟩=some (.int .i64 o.parent.N)∧w'.cell? ⟨w.heap.size,8,none⟩=some (.string ⟨o.key.toArray⟩)) (go_keep) (fail)
 all_goals
  go_wp2
  go_end0
  exact⟨rfl,by first|exact heap_set (heap_set (heap_set hB 6 _) 7 _) 8 _|exact heap_set (heap_set (heap_set hB 8 _) 6 _) 7 _,Kx⟩
theorem UP(tt o:Dc.Op)(tv:Value):((((((((((As tt tv).setIfInBounds 9 (.int .i64 o.seg.R)).setIfInBounds 10 (.int .i64 o.seg.N)).setIfInBounds 11 (.int .i64 o.left.op.R)).setIfInBounds 12 (.int .i64 o.left.op.N)).setIfInBounds 13 (.int .i64 o.left.i)).setIfInBounds 14 (.int .i64 o.right.op.R)).setIfInBounds 15 (.int .i64 o.right.op.N)).setIfInBounds 16 (.int .i64 o.right.i)))=As (AL 1 tt o) tv:=by
 have hcp:AL 1 tt o={tt with seg:=o.seg,left:=o.left,right:=o.right}:=by
  unfold AL
  rw[Ae (by decide),Ak rfl]
 rw[hcp]
 simp only[As,List.setIfInBounds_toArray,List.set_cons_succ,List.set_cons_zero]
theorem ON(b:Nat)(tt o:Dc.Op)(tv cv:Value)(w:World)(h:Eo b tt tv w):
  Calls Tryz.prog 106 #[.int .i64 1,.pointer (some ⟨b,0,none⟩),opV o cv] w (Ib b (AL 1 tt o) tv w):=by
 have hlt:=h.lt
 have hne:¬w.heap.size=b:=by omega
 have hne2:¬b=w.heap.size:=by omega
 go_enter Tryz.func106,Tryz.ntmps106
 go_upto_region 1 with(fail)
 have k0:Aa (At1 b) w (w.alloc (.cells (As o cv) 29)):=Kx
 have hA:=Nx w (.cells (As o cv) 29)
 have hB:=Ab h (.cells (As o cv) 29)
 generalize w.alloc (.cells (As o cv) 29)=w1 at k0 hA hB⊢
 have cA:=Cx hA
 have cB:=Cx hB
 have fB:=Fx hB
 go_wp2
 go_region_held3(fun w'=>w'.cell? ⟨w.heap.size,9,none⟩=some (.int .i64 o.seg.R)∧w'.cell? ⟨w.heap.size,10,none⟩=some (.int .i64 o.seg.N)∧w'.cell? ⟨w.heap.size,11,none⟩=some (.int .i64 o.left.op.R)∧w'.cell? ⟨w.heap.size,12,none⟩=some (.int .i64 o.left.op.N)∧w'.cell? ⟨w.heap.size,13,none⟩=some (.int .i64 o.left.i)
   ∧w'.cell? ⟨w.heap.size,14,none⟩=some (.int .i64 o.right.op.R)∧w'.cell? ⟨w.heap.size,15,none⟩=some (.int .i64 o.right.op.N)∧w'.cell? ⟨w.heap.size,16,none⟩=some (.int .i64 o.right.i)) (go_keep) (fail)
 all_goals
  go_wp2
  go_end0
  have hs:=(heap_set (heap_set (heap_set (heap_set (heap_set (heap_set (heap_set (heap_set hB 9 (.int .i64 o.seg.R)) 10 (.int .i64 o.seg.N)) 11 (.int .i64 o.left.op.R)) 12 (.int .i64 o.left.op.N)) 13 (.int .i64 o.left.i)) 14 (.int .i64 o.right.op.R)) 15 (.int .i64 o.right.op.N)) 16 (.int .i64 o.right.i))
  have hk:=((((((((k0.set1 (o:=9) (.int .i64 o.seg.R)).set1 (o:=10) (.int .i64 o.seg.N)).set1 (o:=11) (.int .i64 o.left.op.R)).set1 (o:=12) (.int .i64 o.left.op.N)).set1 (o:=13) (.int .i64 o.left.i)).set1 (o:=14) (.int .i64 o.right.op.R)).set1 (o:=15) (.int .i64 o.right.op.N)).set1 (o:=16) (.int .i64 o.right.i))
  rw[UP]at hs
  exact Ru hs hk
def Qd(b:Nat)(r:Dc.Op)(w:World)(e:Ending)(w':World):Prop:=
 e= .returned (.tuple #[])∧∃cv,Eo b r cv w'∧BI 4 AD cv r.cuts w'∧Aa (At1 b) w w'
theorem UN(b:Nat)(tt o:Dc.Op)(tv cv:Value)(w:World)(h:Eo b tt tv w)(hcv:BI 4 AD cv o.cuts w)(hsz:o.cuts.length≤1000000):
  Calls Tryz.prog 106 #[.int .i64 4,.pointer (some ⟨b,0,none⟩),opV o cv] w (Qd b (AL 4 tt o) w):=by
 have hlt:=h.lt
 have hne:¬w.heap.size=b:=by omega
 have hne2:¬b=w.heap.size:=by omega
 go_enter Tryz.func106,Tryz.ntmps106
 go_upto_region 1 with(fail)
 have k0:Aa No w (w.alloc (.cells (As o cv) 29)):=Kx
 have hA:=Nx w (.cells (As o cv) 29)
 have hB:=Ab h (.cells (As o cv) 29)
 generalize w.alloc (.cells (As o cv) 29)=w1 at k0 hA hB⊢
 have cA:=Cx hA
 have hC:=JB cv o.cuts w1 (hcv.no k0) hsz
 go_wp2_with(go_at_call 116;refine hC.mono ?_;rintro e w2 ⟨v',rfl,hr,hg,k2⟩;obtain⟨ao,n,c,rfl⟩:=hr.slice;have hB2:=k2.heap hB id;have cB:=Cx hB2;have fB:=Fx hB2)
 go_end0
 have ks:Aa (At1 b) w (w2.setCell ⟨b,18,none⟩ (.slice ao n c)):=((k0.trans k2).any).set1 _
 have hlt1:=k0.size
 refine⟨rfl,.slice ao n c,heap_set hB2 18 _,?_,ks⟩
 have hl:BI 4 AD (.slice ao n c) o.cuts w2:=hr.lies Po
 exact hl.keeps (S:=At1 b) ((Aa.refl _ _).set1 _) fun g hg' e=>by have:=hg g hg';unfold At1 at e;omega
end
end Go.Proofs.YthfjefcljeamgaaGreatDoor
