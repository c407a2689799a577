/- joined: The texts of blocks: what lies on the heap; a new one. The texts of blocks: a text is opened. -/
import Derived.Test.YthfjefcljeamgaaGreatDoorYtI
import Derived.Test.YthfjefcljeamgaaGreatDoorKidsE
namespace Go.Proofs.YthfjefcljeamgaaGreatDoor
set_option maxRecDepth 100000
set_option maxHeartbeats 4000000
section
open Go.RowKit
attribute [local go_sem ↓] Go.wp_at_zero Go.wp_at_succ
attribute [local go_sem] run_makeMap
inductive WC where
 |self
 |texts
 |made
 |text (seg:Off.Bid)
 deriving DecidableEq
@[reducible] def Fp(s:Dc.Src):Value:= .agg #[.int .i64 s.seg.R,.int .i64 s.seg.N,.int .i64 s.size,.bool s.mark]
/-- the block b is the texts x -/
def Bg(F:Nat→Prop)(b:Nat)(x:Dc.TX)(w:World):Prop:=
 ∃(lab:Nat→Option WC) (bt bm:Nat) (tv:Off.Bid→Option Nat),(∀k,lab k≠none→F k∧k<w.heap.size)∧w.heap[b]? =some (.cells #[.map (some bt),.map (some bm)] 135 (0,0))∧lab b=some .self∧
  lab bt=some .texts∧A8 idV GQ bt tv w∧(∀seg,(tv seg).isSome=(x.texts seg).isSome)∧(∀seg k t,tv seg=some k→x.texts seg=some t→Dx (fun g=>lab g=some (.text seg)) k t w)∧
  lab bm=some .made∧A8 idV Fp bm x.made w
theorem Bg.keeps{F S:Nat→Prop}{b:Nat}{x:Dc.TX}{w w':World}(h:Bg F b x w)(kk:Aa S w w')(hn:∀g,F g→¬S g):Bg F b x w':=by
 obtain⟨lab,bt,bm,tv,h1,h2,h3,h4,h5,h6,h7,h8,h9⟩:=h
 have hl:∀g,lab g≠none→¬S g:=fun g hg=>hn g (h1 g hg).1
 exact⟨lab,bt,bm,tv,fun k hk=>⟨(h1 k hk).1,AK (h1 k hk).2 kk.size⟩,kk.heap h2 (hl _ (by rw[h3];simp)),h3,h4,h5.keeps kk (hl _ (by rw[h4];simp)),h6,
  fun seg k t e1 e2=>(h7 seg k t e1 e2).keeps kk fun g hg=>hl g (by rw[hg];simp),h8,h9.keeps kk (hl _ (by rw[h8];simp))⟩
theorem Bg.no{F:Nat→Prop}{b:Nat}{x:Dc.TX}{w w':World}(h:Bg F b x w)(kk:Aa No w w'):Bg F b x w':=h.keeps kk fun _ _ e=>e
theorem Bg.mono{F F':Nat→Prop}{b:Nat}{x:Dc.TX}{w:World}(h:Bg F b x w)(hF:∀g,F g→g<w.heap.size→F' g):Bg F' b x w:=by
 obtain⟨lab,bt,bm,tv,h1,h⟩:=h
 exact⟨lab,bt,bm,tv,fun k hk=>⟨hF k (h1 k hk).1 (h1 k hk).2,(h1 k hk).2⟩,h⟩
/-- a text (that was there or is new) is another one -/
theorem Bg.turn{F:Nat→Prop}{lab:Nat→Option WC}{b bt bm k:Nat}{tv tv':Off.Bid→Option Nat}{x:Dc.TX}{seg:Off.Bid}{t':Dc.YT}{w w':World}
  (hl1:∀k,lab k≠none→F k∧k<w.heap.size)(hl2:w.heap[b]? =some (.cells #[.map (some bt),.map (some bm)] 135 (0,0)))(hl3:lab b=some .self)(hl4:lab bt=some .texts)
  (hl6:∀s,(tv s).isSome=(x.texts s).isSome)(hl7:∀s k t,tv s=some k→x.texts s=some t→Dx (fun g=>lab g=some (.text s)) k t w)(hl8:lab bm=some .made)(hl9:A8 idV Fp bm x.made w)
  (kk:Aa (fun g=>lab g=some (.text seg)∨g=bt) w w')(hm:A8 idV GQ bt tv' w')(htv:tv' seg=some k)(hto:∀s,s≠seg→tv' s=tv s)
  (hy:Dx (Bv (fun g=>lab g=some (.text seg)) w) k t' w'):Bg (Bv F w) b ⟨Dc.EF x.texts seg t',x.made⟩ w':=by
 have hlab:∀y,lab y≠none→(if w.heap.size≤y∧y<w'.heap.size then some (WC.text seg)else lab y)=lab y:=fun y hy=>by
  have:=(hl1 y hy).2
  rw[Ae (by omega)]
 refine⟨fun y=>if w.heap.size≤y∧y<w'.heap.size then some (.text seg)else lab y,bt,bm,tv',fun y hy=>?_,kk.heap hl2 ?_,(hlab b (by rw[hl3];simp)).trans hl3,(hlab bt (by rw[hl4];simp)).trans hl4,hm,fun s=>?_,fun s k2 t e1 e2=>?_,(hlab bm (by rw[hl8];simp)).trans hl8,hl9.keeps kk ?_⟩
 ·simp only at hy
  by_cases e:w.heap.size≤y∧y<w'.heap.size
  ·exact⟨.inr e.1,e.2⟩
  ·rw[Ae e]at hy
   exact⟨.inl (hl1 y hy).1,AK (hl1 y hy).2 kk.size⟩
 ·rintro(e|e)
  ·rw[hl3]at e;cases e
  ·rw[e,hl4]at hl3;cases hl3
 ·show _=(Dc.EF x.texts seg t' s).isSome
  unfold Dc.EF
  by_cases e:s=seg
  ·rw[Ak e,e,htv];rfl
  ·rw[Ae e,hto s e];exact hl6 s
 ·replace e2:Dc.EF x.texts seg t' s=some t:=e2
  unfold Dc.EF at e2
  by_cases e:s=seg
  ·rw[Ak e]at e2
   rw[e,htv]at e1
   cases e1;cases e2
   refine hy.mono fun g hg hlt=>?_
   show(if w.heap.size≤g∧g<w'.heap.size then some (WC.text seg)else lab g)=_
   rw[e]
   rcases hg with hg|hg
   ·rw[hlab g (by rw[hg];simp)];exact hg
   ·rw[Ak ⟨hg,hlt⟩]
  ·rw[Ae e]at e2
   rw[hto s e]at e1
   refine((hl7 s k2 t e1 e2).keeps kk fun g hg h=>?_).mono fun g hg hlt=>(hlab g (by rw[hg];simp)).trans hg
   rcases h with h|h
   ·rw[hg]at h;cases h;exact e rfl
   ·rw[h,hl4]at hg;cases hg
 ·rintro(e|e)
  ·rw[hl8]at e;cases e
  ·rw[e,hl4]at hl8;cases hl8
def U3(w:World)(e:Ending)(w':World):Prop:=
 ∃b,e= .returned (.pointer (some ⟨b,0,none⟩))∧Bg (fun g=>w.heap.size≤g) b Dc.TX.new w'∧Aa No w w'
theorem Va{w w':World}{b bt bm:Nat}(hb:w'.heap[b]? =some (.cells #[.map (some bt),.map (some bm)] 135 (0,0)))
  (ht:A8 idV GQ bt (fun _=>none) w')(hm:A8 idV Fp bm (fun _=>none) w')(h1:w.heap.size≤b)(h2:w.heap.size≤bt)(h3:w.heap.size≤bm)(hne:bt≠bm):Bg (fun g=>w.heap.size≤g) b Dc.TX.new w':=by
 have e1:=AA ht hb
 have e2:=AA hm hb
 refine⟨fun g=>if g=b then some .self else if g=bt then some .texts else if g=bm then some .made else none,bt,bm,fun _=>none,fun g hg=>?_,hb,by simp,by simp[e1],ht,fun _=>rfl,(fun _ _ _ e=>by cases e),by simp[e2,Ne.symm hne],hm⟩
 simp only at hg
 by_cases q1:g=b
 ·rw[q1];exact⟨h1,Ao hb⟩
 ·by_cases q2:g=bt
  ·rw[q2];exact⟨h2,ht.lt⟩
  ·by_cases q3:g=bm
   ·rw[q3];exact⟨h3,hm.lt⟩
   ·simp[q1,q2,q3]at hg
theorem Uh(w:World):Calls Tryz.prog 62 #[] w (U3 w):=by
 go_enter Tryz.func62,Tryz.ntmps62
 go_wp2_with fail
 have m1:A8 idV GQ w.heap.size (fun _=>none) (w.alloc (.map #[] 0)):=A8.new w
 have m2:A8 idV Fp (w.heap.size+1) (fun _=>none) ((w.alloc (.map #[] 0)).alloc (.map #[] 0)):=by
  have h:=A8.new (kv:=idV) (ev:=Fp) (w.alloc (.map #[] 0))
  rw[World.size_alloc]at h
  exact h
 have hb:=Nx ((w.alloc (.map #[] 0)).alloc (.map #[] 0)) (.cells #[.map (some w.heap.size),.map (some (w.heap.size+1))] 135)
 rw[World.size_alloc,World.size_alloc]at hb
 have k:Aa No w (((w.alloc (.map #[] 0)).alloc (.map #[] 0)).alloc (.cells #[.map (some w.heap.size),.map (some (w.heap.size+1))] 135)):=((Aa.refl No w).alloc _ |>.alloc _ |>.alloc _)
 have m1':=(m1.alloc (.map #[] 0)).alloc (.cells #[.map (some w.heap.size),.map (some (w.heap.size+1))] 135)
 have m2':=m2.alloc (.cells #[.map (some w.heap.size),.map (some (w.heap.size+1))] 135)
 generalize ((w.alloc (.map #[] 0)).alloc (.map #[] 0)).alloc (.cells #[.map (some w.heap.size),.map (some (w.heap.size+1))] 135)=w1 at hb k m1' m2'⊢
 go_ret
 exact⟨w.heap.size+2,rfl,Va hb m1' m2' (by omega) (by omega) (by omega) (by omega),k⟩
theorem QM{bt:Nat}{tv:Off.Bid→Option Nat}{w:World}(h:A8 idV GQ bt tv w)(R N:Int)(c:Bool):
  (Instr.lookup 132 (.map (some bt)) (.agg #[.int .i64 R,.int .i64 N]) c).run Tryz.prog w= .ok (if c then .tuple #[D5 (tv ⟨R,N⟩),.bool (tv ⟨R,N⟩).isSome]else D5 (tv ⟨R,N⟩)) w:=by
 rw[h.look (z:= .pointer none) Eh Tryz.underlying132 Rx ⟨R,N⟩ c]
 unfold D5
 cases tv ⟨R,N⟩<;>rfl
theorem FB{bt:Nat}{tv:Off.Bid→Option Nat}{w:World}(h:A8 idV GQ bt tv w)(R N:Int):
  (Instr.lookup 132 (.map (some bt)) (.agg #[.int .i64 R,.int .i64 N]) true).run Tryz.prog w= .ok (.tuple #[D5 (tv ⟨R,N⟩),.bool (tv ⟨R,N⟩).isSome]) w:=QM h R N true
theorem NM{bt:Nat}{tv:Off.Bid→Option Nat}{w:World}(h:A8 idV GQ bt tv w)(R N:Int):
  (Instr.lookup 132 (.map (some bt)) (.agg #[.int .i64 R,.int .i64 N]) false).run Tryz.prog w= .ok (D5 (tv ⟨R,N⟩)) w:=QM h R N false
theorem IX{bm:Nat}{f:Off.Bid→Option Dc.Src}{w:World}(h:A8 idV Fp bm f w)(R N:Int)(c:Bool):
  (Instr.lookup 133 (.map (some bm)) (.agg #[.int .i64 R,.int .i64 N]) c).run Tryz.prog w= .ok (if c then .tuple #[Fp ((f ⟨R,N⟩).getD .z),.bool (f ⟨R,N⟩).isSome]else Fp ((f ⟨R,N⟩).getD .z)) w:=by
 rw[h.look (z:=Fp .z) Eh Tryz.underlying133 Rx ⟨R,N⟩ c]
 cases f ⟨R,N⟩<;>rfl
end
section
open Go.RowKit
attribute [local go_sem ↓] Go.wp_at_zero Go.wp_at_succ
def Ja(F:Nat→Prop)(b:Nat)(x:Dc.TX)(seg:Off.Bid)(w:World)(e:Ending)(w':World):Prop:=
 e= .returned (.int .i64 (Dc.DG x seg))∧(Dc.DG x seg≠0→Aa No w w')∧(Dc.DG x seg=0→Bg (Bv F w) b (Dc.Gn x seg) w'∧Aa (fun g=>F g∧g<w.heap.size) w w')
theorem R1{F:Nat→Prop}{b:Nat}{x:Dc.TX}{w:World}(h:Bg F b x w)(hE:Env w)(seg:Off.Bid):
  Calls Tryz.prog 108 #[.pointer (some ⟨b,0,none⟩),idV seg] w (Ja F b x seg w):=by
 obtain⟨R,N⟩:=seg
 by_cases hr:Off.AV ⟨R,N⟩=false
 ·have he:Dc.DG x ⟨R,N⟩=10:=by unfold Dc.DG;rw[Ak hr]
  have HP:Hid (∀w',Aa No w w'→Ja F b x ⟨R,N⟩ w (.returned (.int .i64 10)) w'):=Hx fun w' k=>⟨by rw[he],fun _=>k,fun e=>by rw[he]at e;cases e⟩
  generalize Ja F b x ⟨R,N⟩ w=post at HP⊢
  clear h he
  go_enter Tryz.func108,Tryz.ntmps108
  go_wp2_with(go_at_call 103;refine(BJ _ _ _).mono ?_;rw[hr];rintro e w1 ⟨rfl,k1⟩)
  exact HP.out _ (((Aa.refl No w).alloc _).trans k1)
 ·have hr1:Off.AV ⟨R,N⟩=true:=by simpa using hr
  obtain⟨lab,bt,bm,tv,h1,h2,h3,h4,h5,h6,h7,h8,h9⟩:=h
  have HLT:=Hx (fun W (k:Aa No w W)=>FB (h5.keeps k id) R N)
  have HLM:=Hx (fun W (k:Aa No w W)=>IX (h9.keeps k id) R N false)
  have HB:=Hx h2
  obtain⟨p,hp⟩:∃p,p=D5 (tv ⟨R,N⟩):=⟨_,rfl⟩
  have ho:(tv ⟨R,N⟩).isSome=(x.texts ⟨R,N⟩).isSome:=h6 _
  rw[←hp,ho]at HLT
  have HM:=Hx h5
  obtain⟨ok,hok⟩:∃ok,ok=(x.texts ⟨R,N⟩).isSome:=⟨_,rfl⟩
  obtain⟨src,hsrc⟩:∃src,src=(x.made ⟨R,N⟩).getD .z:=⟨_,rfl⟩
  rw[←hok]at HLT
  simp only[if_false,Gm,←hsrc]at HLM
  have herr:Dc.DG x ⟨R,N⟩=if ok=true∨src.mark=true then 12 else 0:=by
   unfold Dc.DG;rw[Ae (by simp[hr1]),hok,hsrc]
  have HTURN:Hid (∀k w',ok=false→Aa (fun g=>lab g=some (.text ⟨R,N⟩)∨g=bt) w w'→A8 idV GQ bt (Db tv ⟨R,N⟩ (some k)) w'→Dx (Bv (fun g=>lab g=some (.text ⟨R,N⟩)) w) k Dc.YT.new w'→Bg (Bv F w) b (Dc.Gn x ⟨R,N⟩) w'):=Hx fun k w' _ kk hm hy=>
   Bg.turn h1 h2 h3 h4 h6 h7 h8 h9 kk hm (by unfold Db;rw[Ak rfl]) (fun s hs=>by unfold Db;rw[Ae hs]) hy
  have HF:Hid (∀g,g=bt→F g∧g<w.heap.size):=Hx fun g e=>by rw[e];exact h1 _ (by rw[h4];simp)
  have HLAB:Hid (∀g,lab g=some (.text ⟨R,N⟩)→g<w.heap.size):=Hx fun g e=>(h1 g (by rw[e];simp)).2
  have hbb:=AA h5 h2
  have HPE:Hid (∀e w',(e=12∧(ok=true∨src.mark=true)∧Aa No w w')∨(e=0∧ok=false∧src.mark=false∧Bg (Bv F w) b (Dc.Gn x ⟨R,N⟩) w'∧Aa (fun g=>F g∧g<w.heap.size) w w')→Ja F b x ⟨R,N⟩ w (.returned (.int .i64 e)) w'):=Hx fun e w' h=>by
   rcases h with⟨rfl,h1,h2⟩|⟨rfl,h1,h2,h3,h4⟩
   ·have he:Dc.DG x ⟨R,N⟩=12:=by rw[herr,Ak h1]
    exact⟨by rw[he],fun _=>h2,fun e=>by rw[he]at e;cases e⟩
   ·have he:Dc.DG x ⟨R,N⟩=0:=by rw[herr,Ae (by simp[h1,h2])]
    exact⟨by rw[he],fun e=>absurd he e,fun _=>⟨h3,h4⟩⟩
  generalize Ja F b x ⟨R,N⟩ w=post at HPE⊢
  obtain⟨⟨sR,sN⟩,ssz,mk⟩:=src
  simp only at HPE
  have hfd:∀w:World,(Instr.field 251 (.agg #[.int .i64 sR,.int .i64 sN,.int .i64 ssz,.bool mk]) 2).run Tryz.prog w= .ok (.bool mk) w:=fun _=>by kernel_rfl
  clear h1 h2 h3 h4 h5 h6 h7 h8 h9 hp ho hok hsrc herr hr
  go_enter Tryz.func108,Tryz.ntmps108
  go_upto_region 1 with(fail)
  have k0:Aa No w (w.alloc (.cells #[.int .i64 R,.int .i64 N] 24)):=(Aa.refl No w).alloc _
  have hA:=Nx w (.cells #[.int .i64 R,.int .i64 N] 24)
  generalize w.alloc (.cells #[.int .i64 R,.int .i64 N] 24)=w1 at k0 hA⊢
  obtain⟨A,eA⟩:∃A,A=w.heap.size:=⟨_,rfl⟩
  rw[←eA]at hA⊢
  clear eA
  have a0:=Cx hA 0
  have a1:=Cx hA 1
  go_upto_region 3 with(go_at_call 103;refine(BJ _ _ _).mono ?_;rw[hr1];rintro e w2 ⟨rfl,k2⟩)
  have hA2:=k2.heap hA id
  have kw2:=k0.trans k2
  clear a0 a1 hA
  have z1:=Ex (Cx (kw2.heap HB.out id) 0)
  have z2:=Ex (Cx hA2 0)
  have z3:=Ex (Cx hA2 1)
  have lk:=fun d os=>HLT.out _ (kw2.trans (Ag w2 d os))
  refine wp_region_quiet_below Rx Rx ?_
  repeat(quiet_step(fail))
  refine wpQuiet_nil ?_
  intro _ hw'
  obtain⟨⟨dq,osq⟩,hw''⟩:=hw'
  subst hw''
  have k3:Aa No w2 (Sort.grow (redrawn w2 dq) osq):=Ag w2 dq osq
  clear z1 z2 z3 lk
  generalize Sort.grow (redrawn w2 dq) osq=w3 at k3⊢
  have hA3:=k3.heap hA2 id
  have kw3:=kw2.trans k3
  clear hA2
  have hE3:=hE.no kw3
  go_upto_region 4 with(fail)
  cases ok with
  |true=>
   refine wp_region_quiet_below Rx Rx ?_
   repeat(quiet_step(fail))
   refine wpQuiet_nil ?_
   intro _ hw'
   obtain⟨⟨dq,osq⟩,hw''⟩:=hw'
   subst hw''
   have k4:Aa No w3 (Sort.grow (redrawn w3 dq) osq):=Ag w3 dq osq
   clear HLT
   generalize Sort.grow (redrawn w3 dq) osq=w4 at k4⊢
   go_wp2_with fail
   exact HPE.out _ _ (.inl ⟨rfl,by simp,kw3.trans k4⟩)
  |false=>
   have z1:=Ex (Cx (kw3.heap HB.out id) 1)
   have z2:=Ex (Cx hA3 0)
   have z3:=Ex (Cx hA3 1)
   have lk:=fun d os=>HLM.out _ (kw3.trans (Ag w3 d os))
   refine wp_region_quiet_below Rx Rx ?_
   repeat(quiet_step(fail))
   refine wpQuiet_nil ?_
   intro _ hw'
   obtain⟨⟨dq,osq⟩,hw''⟩:=hw'
   subst hw''
   have k4:Aa No w3 (Sort.grow (redrawn w3 dq) osq):=Ag w3 dq osq
   clear z1 z2 z3 lk
   generalize Sort.grow (redrawn w3 dq) osq=w4 at k4⊢
   have hA4:=k4.heap hA3 id
   have kw4:=kw3.trans k4
   have hE4:=hE.no kw4
   clear hA3
   cases mk with
   |true=>
    go_wp2_with fail
    exact HPE.out _ _ (.inl ⟨rfl,by simp,kw4⟩)
   |false=>
    go_upto_region 6 with(fail)
    have hb4:=kw4.heap HB.out id
    have kd:Aa No w4 w4.drew:=(Aa.refl No w4).drew
    have HSA:Hid (∀W:World,Aa No w4 W→W.cell? ⟨b,0,none⟩=some (.map (some bt))∧W.cell? ⟨A,0,none⟩=some (.int .i64 R)∧W.cell? ⟨A,1,none⟩=some (.int .i64 N)):=Hx fun W k=>
     ⟨Cx (k.heap hb4 id) 0,Cx (k.heap hA4 id) 0,Cx (k.heap hA4 id) 1⟩
    have HS0:=HSA.out _ kd
    have HNEW:=Hx (Ub (w:=w4.drew) (hE4.no kd))
    have HMK:=Hx (fun W (k:Aa No w W) kk=>(HM.out.keeps k id).put Eh Tryz.underlying132 ⟨R,N⟩ kk)
    have hbtA:bt≠A:=AA (HM.out.keeps kw4 id) hA4
    go_region_held3(fun W=>W.cell? ⟨b,0,none⟩=some (.map (some bt))∧W.cell? ⟨A,0,none⟩=some (.int .i64 R)∧W.cell? ⟨A,1,none⟩=some (.int .i64 N))
     (first|exact HS0|exact HS5|exact HS6)
     (first
      |(go_at_call 161;(with_reducible refine HNEW.out.mono ?_);rintro e w5 ⟨kn,rfl,hy5,k5⟩;have kw5:=(kw4.trans kd).trans k5;obtain⟨w6,hrun,hm6,k6,hs6⟩:=HMK.out w5 kw5 kn
        have HS5:=HSA.out _ (kd.trans k5)
        have HS6:w6.cell? ⟨b,0,none⟩=some (.map (some bt))∧w6.cell? ⟨A,0,none⟩=some (.int .i64 R)∧w6.cell? ⟨A,1,none⟩=some (.int .i64 N):=⟨Cx (k6.heap (kw5.heap HB.out id) (Ne.symm hbb)) 0,Cx (k6.heap ((kd.trans k5).heap hA4 id) (Ne.symm hbtA)) 0,Cx (k6.heap ((kd.trans k5).heap hA4 id) (Ne.symm hbtA)) 1⟩))
    all_goals
     go_wp2_with fail
     have hsz:w.heap.size≤w4.drew.heap.size:=(kw4.trans kd).size
     have hbt:=HM.out.lt
     have hy6:Dx (Bv (fun g=>lab g=some (.text ⟨R,N⟩)) w) kn Dc.YT.new w6:=(hy5.keeps k6 fun g hg e=>by unfold At1 at e;omega).mono fun g hg _=> .inr (by omega)
     have kk:Aa (fun g=>lab g=some (.text ⟨R,N⟩)∨g=bt) w w6:=kw5.any.step k6 fun y hy _=> .inr hy
     exact HPE.out _ _ (.inr ⟨rfl,by simp,by simp,HTURN.out kn w6 (by simp) kk hm6 hy6,kw5.any.step k6 fun y hy _=>HF.out y hy⟩)
end
end Go.Proofs.YthfjefcljeamgaaGreatDoor
