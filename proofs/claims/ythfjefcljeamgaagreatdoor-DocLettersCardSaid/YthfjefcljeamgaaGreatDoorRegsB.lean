/- joined: Switches of which the latest word counts. A word said for a switch. -/
import Derived.Test.YthfjefcljeamgaaGreatDoorKidsE
namespace Go.Proofs.YthfjefcljeamgaaGreatDoor
set_option maxRecDepth 100000
set_option maxHeartbeats 4000000
section
open Go.RowKit
attribute [local go_sem ↓] Go.wp_at_zero Go.wp_at_succ
attribute [local go_sem] run_makeMap
theorem Uw(x y:Dc.I7)(w:World):
  Calls Tryz.prog 115 #[GX x,GX y] w fun e w'=>e= .returned (.bool (x.later y))∧Aa No w w':=by
 obtain⟨p,t,r,⟨R,N⟩⟩:=x
 obtain⟨p',t',r',⟨R',N'⟩⟩:=y
 have H:Hid (Dc.I7.later ⟨p,t,r,⟨R,N⟩⟩ ⟨p',t',r',⟨R',N'⟩⟩=decide (0<Dc.or2 (Dc.Fv t r t' r') (Dc.BD ⟨R,N⟩ ⟨R',N'⟩))):=rfl
 generalize hr:Dc.I7.later ⟨p,t,r,⟨R,N⟩⟩ ⟨p',t',r',⟨R',N'⟩⟩=res at H⊢
 clear hr
 go_enter Tryz.func115,Tryz.ntmps115
 go_wp2
 obtain⟨oA,hoA⟩:∃o,o=Obj.cells #[.bool p,.int .i64 t,.int .i64 r,.int .i64 R,.int .i64 N] 215:=⟨_,rfl⟩
 obtain⟨oB,hoB⟩:∃o,o=Obj.cells #[.bool p',.int .i64 t',.int .i64 r',.int .i64 R',.int .i64 N'] 215:=⟨_,rfl⟩
 rw[←hoA,←hoB]
 have k0:Aa No w ((w.alloc oA).alloc oB):=Kx
 have hA:=Ab (Nx w oA) oB
 have hB:=Nx (w.alloc oA) oB
 have hB':(w.alloc oA).heap.size=w.heap.size+1:=by simp
 rw[hB']at hB
 generalize (w.alloc oA).alloc oB=w1 at k0 hA hB⊢
 subst hoA hoB
 have cA:=Cx hA
 have cB:=Cx hB
 have a0:=cA 1
 have a1:=cA 2
 have a2:=cA 3
 have a3:=cA 4
 have b0:=cB 1
 have b1:=cB 2
 have b2:=cB 3
 have b3:=cB 4
 clear hB' cA cB hA hB
 go_region_held3(fun w'=>w'.cell? ⟨w.heap.size,1,none⟩=some (.int .i64 t)∧w'.cell? ⟨w.heap.size,2,none⟩=some (.int .i64 r)∧w'.cell? ⟨w.heap.size,3,none⟩=some (.int .i64 R)∧w'.cell? ⟨w.heap.size,4,none⟩=some (.int .i64 N)∧
   w'.cell? ⟨w.heap.size+1,1,none⟩=some (.int .i64 t')∧w'.cell? ⟨w.heap.size+1,2,none⟩=some (.int .i64 r')∧w'.cell? ⟨w.heap.size+1,3,none⟩=some (.int .i64 R')∧w'.cell? ⟨w.heap.size+1,4,none⟩=some (.int .i64 N')) (go_keep)
  (first
   |(go_at_call 178;refine(Iz _ _ _ _ _).mono ?_;rintro e w2 ⟨rfl,k2⟩
     have q0:=k2.cellOf (by assumption:_=some (.int .i64 t)) id
     have q1:=k2.cellOf (by assumption:_=some (.int .i64 r)) id
     have q2:=k2.cellOf (by assumption:_=some (.int .i64 R)) id
     have q3:=k2.cellOf (by assumption:_=some (.int .i64 N)) id
     have q4:=k2.cellOf (by assumption:_=some (.int .i64 t')) id
     have q5:=k2.cellOf (by assumption:_=some (.int .i64 r')) id
     have q6:=k2.cellOf (by assumption:_=some (.int .i64 R')) id
     have q7:=k2.cellOf (by assumption:_=some (.int .i64 N')) id)
   |(go_at_call 155;refine(Gt _ _ _ _ _).mono ?_;rintro e w3 ⟨rfl,k3⟩
     have q0:=k3.cellOf (by assumption:_=some (.int .i64 t)) id
     have q1:=k3.cellOf (by assumption:_=some (.int .i64 r)) id
     have q2:=k3.cellOf (by assumption:_=some (.int .i64 R)) id
     have q3:=k3.cellOf (by assumption:_=some (.int .i64 N)) id
     have q4:=k3.cellOf (by assumption:_=some (.int .i64 t')) id
     have q5:=k3.cellOf (by assumption:_=some (.int .i64 r')) id
     have q6:=k3.cellOf (by assumption:_=some (.int .i64 R')) id
     have q7:=k3.cellOf (by assumption:_=some (.int .i64 N')) id)
   |(go_at_call 154;refine(KP _ _ _ _ (by exact Nx w3 _)).mono ?_;rintro e w4 ⟨rfl,rfl⟩))
 go_wp2
 go_ret
 exact⟨AY H.out.symm,Kx⟩
@[reducible] def VY(s:Dc.I7):Array Value:= #[.bool s.on,.int .i64 s.t,.int .i64 s.r,.int .i64 s.from'.R,.int .i64 s.from'.N]
def DJ(F:Nat→Prop)(b:Nat)(g:Dc.FM)(w:World):Prop:=
 ∃bm,w.heap[b]? =some (.cells #[.map (some bm)] 200 (0,0))∧A8 idV GX bm g w∧F b∧F bm
theorem DJ.keeps{F S:Nat→Prop}{b:Nat}{g:Dc.FM}{w w':World}(h:DJ F b g w)(k:Aa S w w')(hn:∀x,F x→¬S x):DJ F b g w':=by
 obtain⟨bm,h1,h2,f1,f2⟩:=h
 exact⟨bm,k.heap h1 (hn _ f1),h2.keeps k (hn _ f2),f1,f2⟩
theorem DJ.mono{F F':Nat→Prop}{b:Nat}{g:Dc.FM}{w:World}(h:DJ F b g w)(hF:∀x,F x→F' x):DJ F' b g w:=by
 obtain⟨bm,h1,h2,f1,f2⟩:=h
 exact⟨bm,h1,h2,hF _ f1,hF _ f2⟩
def wd(g:Dc.FM)(x:Off.Bid):Dc.I7:=(g x).getD .z
theorem QL{bm:Nat}{g:Dc.FM}{w:World}(h:A8 idV GX bm g w)(R N:Int)(c:Bool):
  (Instr.lookup 198 (.map (some bm)) (.agg #[.int .i64 R,.int .i64 N]) c).run Tryz.prog w= .ok (if c then .tuple #[GX (wd g ⟨R,N⟩),.bool (g ⟨R,N⟩).isSome]else GX (wd g ⟨R,N⟩)) w:=by
 rw[h.look (z:=GX .z) Eh Tryz.underlying198 Rx ⟨R,N⟩ c]
 unfold wd
 cases g ⟨R,N⟩<;>rfl
theorem Pj{bm:Nat}{g:Dc.FM}{w:World}(h:A8 idV GX bm g w)(R N:Int):
  (Instr.lookup 198 (.map (some bm)) (.agg #[.int .i64 R,.int .i64 N]) true).run Tryz.prog w= .ok (.tuple #[GX (wd g ⟨R,N⟩),.bool (g ⟨R,N⟩).isSome]) w:=QL h R N true
theorem Qz(w:World):Calls Tryz.prog 65 #[] w (Qb (fun F b w=>DJ F b (fun _=>none) w) () w):=by
 go_enter Tryz.func65,Tryz.ntmps65
 go_wp2_with fail
 have m1:A8 idV GX w.heap.size (fun _=>none) (w.alloc (.map #[] 0)):=A8.new w
 have hb:=Nx (w.alloc (.map #[] 0)) (.cells #[.map (some w.heap.size)] 200)
 rw[World.size_alloc]at hb
 have k:Aa No w ((w.alloc (.map #[] 0)).alloc (.cells #[.map (some w.heap.size)] 200)):=((Aa.refl No w).alloc _ |>.alloc _)
 have m1':=m1.alloc (.cells #[.map (some w.heap.size)] 200)
 have hsz:((w.alloc (.map #[] 0)).alloc (.cells #[.map (some w.heap.size)] 200)).heap.size=w.heap.size+2:=by
  rw[World.size_alloc,World.size_alloc]
 generalize (w.alloc (.map #[] 0)).alloc (.cells #[.map (some w.heap.size)] 200)=w1 at hb k m1' hsz⊢
 go_ret
 exact⟨w.heap.size+1,rfl,⟨w.heap.size,hb,m1',⟨by omega,by omega⟩,⟨by omega,by omega⟩⟩,k⟩
theorem SI{F:Nat→Prop}{b:Nat}{g:Dc.FM}{w:World}(h:DJ F b g w)(a:Off.Bid):
  Calls Tryz.prog 77 #[.pointer (some ⟨b,0,none⟩),idV a] w fun e w'=>e= .returned (.bool (Dc.Hl g a))∧Aa No w w':=by
 obtain⟨bm,h1,h2,f1,f2⟩:=h
 obtain⟨aR,aN⟩:=a
 have HL:=Hx (fun W (k:Aa No w W)=>QL (h2.keeps k id) aR aN false)
 have hfo:Dc.Hl g ⟨aR,aN⟩=(wd g ⟨aR,aN⟩).on:=rfl
 obtain⟨q,hq⟩:∃q,q=wd g ⟨aR,aN⟩:=⟨_,rfl⟩
 rw[hfo,←hq]
 rw[←hq]at HL
 clear hfo hq
 have hfd:∀w:World,(Instr.field 215 (GX q) 0).run Tryz.prog w= .ok (.bool q.on) w:=fun _=>by kernel_rfl
 go_enter Tryz.func77,Tryz.ntmps77
 go_upto_region 1 with(fail)
 have k0:Aa No w (w.alloc (.cells #[.int .i64 aR,.int .i64 aN] 24)):=Kx
 have hA:=Nx w (.cells #[.int .i64 aR,.int .i64 aN] 24)
 generalize w.alloc (.cells #[.int .i64 aR,.int .i64 aN] 24)=w1 at k0 hA⊢
 have z1:∀d os,(Sort.grow (redrawn w1 d) os).cell? ⟨b,0,none⟩=some (.map (some bm)):=Ex (Cx (k0.heap h1 id) 0)
 have z2:∀d os,(Sort.grow (redrawn w1 d) os).cell? ⟨w.heap.size,0,none⟩=some (.int .i64 aR):=Ex (Cx hA 0)
 have z3:∀d os,(Sort.grow (redrawn w1 d) os).cell? ⟨w.heap.size,1,none⟩=some (.int .i64 aN):=Ex (Cx hA 1)
 have lk:∀d os,(Instr.lookup 198 (.map (some bm)) (.agg #[.int .i64 aR,.int .i64 aN]) false).run Tryz.prog (Sort.grow (redrawn w1 d) os)= .ok (GX q) (Sort.grow (redrawn w1 d) os):=fun d os=>HL.out _ (k0.trans (Ag w1 d os))
 refine wp_region_quiet_below Rx Rx ?_
 repeat(quiet_step(fail))
 refine wpQuiet_nil ?_
 intro _ hw'
 obtain⟨⟨dq,osq⟩,hw''⟩:=hw'
 subst hw''
 have k3:Aa No w1 (Sort.grow (redrawn w1 dq) osq):=Ag w1 dq osq
 clear z1 z2 z3 lk
 generalize Sort.grow (redrawn w1 dq) osq=w3 at k3⊢
 go_wp2_with fail
 go_ret
 exact⟨rfl,k0.trans k3⟩
end
section
open Go.RowKit
attribute [local go_sem ↓] Go.wp_at_zero Go.wp_at_succ
def Kw(F:Nat→Prop)(b:Nat)(g:Dc.FM)(a:Off.Bid)(x:Dc.I7)(w:World)(e:Ending)(w':World):Prop:=
 ∃ok:Bool,e= .returned (.tuple #[.bool ok,.int .i64 0])∧Aa F w w'∧DJ F b (Dc.KD g a x) w'
theorem Vl{g:Dc.FM}{a:Off.Bid}{x:Dc.I7}(h:(g a).isSome=false∨x.later (wd g a)=true):Dc.KD g a x=Db g a (some x):=by
 unfold Dc.KD
 cases hg:g a with
 |none=>rfl
 |some old=>
  rcases h with h|h
  ·rw[hg]at h;cases h
  ·have e:wd g a=old:=by unfold wd;rw[hg];rfl
   rw[e]at h
   simp only[h,if_true]
   rfl
theorem Uk{g:Dc.FM}{a:Off.Bid}{x:Dc.I7}(h:(g a).isSome=true)(h2:x.later (wd g a)=false):Dc.KD g a x=g:=by
 unfold Dc.KD
 cases hg:g a with
 |none=>rw[hg]at h;cases h
 |some old=>
  have e:wd g a=old:=by unfold wd;rw[hg];rfl
  rw[e]at h2
  simp only[h2]
  rfl
theorem Qy{F:Nat→Prop}{b:Nat}{g:Dc.FM}{w:World}(h:DJ F b g w)(hE:Env w)(a:Off.Bid)(x:Dc.I7)(r1:Off.Bn a=true)(r2:Dc.Bm x.t x.r=true)(r3:Off.AV x.from'=true):
  Calls Tryz.prog 70 #[.pointer (some ⟨b,0,none⟩),idV a,.bool x.on,.agg #[.int .i64 x.t,.int .i64 x.r],idV x.from'] w (Kw F b g a x w):=by
 obtain⟨bm,h1,h2,f1,f2⟩:=h
 obtain⟨aR,aN⟩:=a
 have HL:=Hx (fun W (k:Aa No w W)=>Pj (h2.keeps k id) aR aN)
 have HPUT:=Hx (fun h=>Vl (g:=g) (a:=⟨aR,aN⟩) (x:=x) h)
 have HKEEP:=Hx (fun h h2=>Uk (g:=g) (a:=⟨aR,aN⟩) (x:=x) h h2)
 obtain⟨q,hq⟩:∃q,q=wd g ⟨aR,aN⟩:=⟨_,rfl⟩
 obtain⟨ok,hok⟩:∃ok,ok=(g ⟨aR,aN⟩).isSome:=⟨_,rfl⟩
 rw[←hq,←hok]at HL HPUT HKEEP
 obtain⟨SW,hSW⟩:∃SW,SW=Dc.KD g ⟨aR,aN⟩ x:=⟨_,rfl⟩
 rw[←hSW]at HPUT HKEEP
 have HSW:=Hx (show∀(Z:Dc.FM) (e:Ending) (w':World),Z=SW→(∃ok:Bool,e= .returned (.tuple #[.bool ok,.int .i64 0])∧Aa F w w'∧DJ F b Z w')→Kw F b g ⟨aR,aN⟩ x w e w' from fun Z e w' hz h=>by
  unfold Kw
  rw[←hSW,←hz];exact h)
 clear hSW hq hok
 obtain⟨on,t,r,⟨R,N⟩⟩:=x
 have HR1:=Hx r1
 have HR2:=Hx r2
 have HR3:=Hx r3
 clear r1 r2 r3
 generalize Kw F b g ⟨aR,aN⟩ ⟨on,t,r,⟨R,N⟩⟩ w=POST at HSW⊢
 go_enter Tryz.func70,Tryz.ntmps70
 go_upto_region 1 with(fail)
 have k0:Aa No w (((w.alloc (.cells #[.int .i64 aR,.int .i64 aN] 24)).alloc (.cells #[.int .i64 t,.int .i64 r] 119)).alloc (.cells #[.int .i64 R,.int .i64 N] 24)):=(((Aa.refl No w).alloc _).alloc _).alloc _
 have hA:=Ab (Ab (Nx w (.cells #[.int .i64 aR,.int .i64 aN] 24)) (.cells #[.int .i64 t,.int .i64 r] 119)) (.cells #[.int .i64 R,.int .i64 N] 24)
 have hT:=Ab (Nx (w.alloc (.cells #[.int .i64 aR,.int .i64 aN] 24)) (.cells #[.int .i64 t,.int .i64 r] 119)) (.cells #[.int .i64 R,.int .i64 N] 24)
 have hI:=Nx ((w.alloc (.cells #[.int .i64 aR,.int .i64 aN] 24)).alloc (.cells #[.int .i64 t,.int .i64 r] 119)) (.cells #[.int .i64 R,.int .i64 N] 24)
 rw[World.size_alloc]at hT
 rw[World.size_alloc,World.size_alloc]at hI
 generalize ((w.alloc (.cells #[.int .i64 aR,.int .i64 aN] 24)).alloc (.cells #[.int .i64 t,.int .i64 r] 119)).alloc (.cells #[.int .i64 R,.int .i64 N] 24)=w1 at k0 hA hT hI⊢
 obtain⟨I,eI⟩:∃I,I=w.heap.size+1+1:=⟨_,rfl⟩
 obtain⟨T,eT⟩:∃T,T=w.heap.size+1:=⟨_,rfl⟩
 obtain⟨A,eA⟩:∃A,A=w.heap.size:=⟨_,rfl⟩
 rw[←eI]at hI⊢
 rw[←eT]at hT⊢
 rw[←eA]at hA⊢
 clear eI eT eA
 have hE1:=hE.no k0
 have HA:=Hx hA
 have HT:=Hx hT
 have HI:=Hx hI
 have cA0:=Cx hA 0
 have cA1:=Cx hA 1
 clear hA hT hI
 go_upto_region 4 with(first
  |(go_at_call 114;refine(Fq _ _ _ hE1).mono ?_;rw[HR1.out];rintro e w2 ⟨rfl,k2⟩
    have cT0:=Cx (k2.heap HT.out id) 0
    have cT1:=Cx (k2.heap HT.out id) 1)
  |(go_at_call 102;refine(Dh _ _ _).mono ?_;rw[HR2.out];rintro e w3 ⟨rfl,k3⟩
    have cI0:=Cx ((k2.trans k3).heap HI.out id) 0
    have cI1:=Cx ((k2.trans k3).heap HI.out id) 1)
  |(go_at_call 103;refine(BJ _ _ _).mono ?_;rw[HR3.out];rintro e w4 ⟨rfl,k4⟩
    have k24:=(k2.trans k3).trans k4
    have dT0:=Cx (k24.heap HT.out id) 0
    have dT1:=Cx (k24.heap HT.out id) 1
    have dI0:=Cx (k24.heap HI.out id) 0
    have dI1:=Cx (k24.heap HI.out id) 1))
 have k5:Aa No w1 (w4.alloc (.cells #[.bool on,.int .i64 t,.int .i64 r,.int .i64 R,.int .i64 N] 215)):=k24.alloc _
 have hX:=Nx w4 (.cells #[.bool on,.int .i64 t,.int .i64 r,.int .i64 R,.int .i64 N] 215)
 generalize w4.alloc (.cells #[.bool on,.int .i64 t,.int .i64 r,.int .i64 R,.int .i64 N] 215)=w5 at k5 hX⊢
 obtain⟨X,eX⟩:∃X,X=w4.heap.size:=⟨_,rfl⟩
 rw[←eX]at hX⊢
 clear eX cA0 cA1 cT0 cT1 cI0 cI1 dT0 dT1 dI0 dI1
 have kw5:=k0.trans k5
 have HB:=Hx (kw5.heap h1 id)
 have HA5:=Hx (k5.heap HA.out id)
 have HX:=Hx hX
 clear hX
 go_cut[13,14] (fun s13 s14 wx=>∃G:Nat,s13= .pointer (some ⟨G,0,none⟩)∧s14= .bool ok∧wx.heap[G]? =some (.cells (VY q) 215 (0,0))∧Aa No w5 wx)
 case first=>
  have HS:Hid (∀W,Aa No w5 W→Aa No w5 W∧W.cell? ⟨b,0,none⟩=some (.map (some bm))∧W.cell? ⟨A,0,none⟩=some (.int .i64 aR)∧W.cell? ⟨A,1,none⟩=some (.int .i64 aN)∧
    (Instr.lookup 198 (.map (some bm)) (.agg #[.int .i64 aR,.int .i64 aN]) true).run Tryz.prog W= .ok (.tuple #[GX q,.bool ok]) W):=Hx fun W k=>
   ⟨k,Cx (k.heap HB.out id) 0,Cx (k.heap HA5.out id) 0,Cx (k.heap HA5.out id) 1,HL.out _ (kw5.trans k)⟩
  obtain⟨_,s2,s3,s4,s5⟩:=HS.out w5 (Aa.refl _ _)
  go_region_held3(fun W=>Aa No w5 W∧W.cell? ⟨b,0,none⟩=some (.map (some bm))∧W.cell? ⟨A,0,none⟩=some (.int .i64 aR)∧W.cell? ⟨A,1,none⟩=some (.int .i64 aN)∧
   (Instr.lookup 198 (.map (some bm)) (.agg #[.int .i64 aR,.int .i64 aN]) true).run Tryz.prog W= .ok (.tuple #[GX q,.bool ok]) W) (exact HS.out _ Kx) (fail)
  all_goals
   go_wp2_with fail
   go_meet
   exact⟨w5.heap.size,rfl,rfl,by first|exact Nx w5 _|exact Nx w5.drew _,Kx⟩
 case rest=>
  obtain⟨G,rfl,rfl,hG,kc⟩:=hcut
  have kwc:=kw5.trans kc
  cases ok with
  |false=>
   have hSW:=HPUT.out (.inl rfl)
   go_upto_region 7 with(fail)
   have b0:=Cx (kc.heap HB.out id) 0
   have a0:=Cx (kc.heap HA5.out id) 0
   have a1:=Cx (kc.heap HA5.out id) 1
   have hX:=kc.heap HX.out id
   have x0:=Cx hX 0
   have x1:=Cx hX 1
   have x2:=Cx hX 2
   have x3:=Cx hX 3
   have x4:=Cx hX 4
   have HSW2:=Hx hSW
   clear hSW
   go_still_tail 6,Rx
   change wpList _ _ _ _ _ wc.drew
   refine EJ rfl Eh Tryz.underlying198 (h2.keeps kwc.drew id) _ _ _ rfl rfl ⟨aR,aN⟩ rfl ⟨on,t,r,⟨R,N⟩⟩ rfl ?_
   intro w9 m9 k9 hz9
   clear hz9
   have hb9:=k9.heap (kwc.drew.heap h1 id) (Ne.symm (AA h2 h1))
   go_wp2_with fail
   exact HSW.out _ _ _ HSW2.out.symm ⟨true,rfl,(kwc.drew.any).step k9 fun k hk _=>by unfold At1 at hk;subst hk;exact f2,⟨bm,hb9,m9,f1,f2⟩⟩
  |true=>
   have b0:=Cx (kc.heap HB.out id) 0
   have a0:=Cx (kc.heap HA5.out id) 0
   have a1:=Cx (kc.heap HA5.out id) 1
   have hX:=kc.heap HX.out id
   have x0:=Cx hX 0
   have x1:=Cx hX 1
   have x2:=Cx hX 2
   have x3:=Cx hX 3
   have x4:=Cx hX 4
   have g0:=Cx hG 0
   have g1:=Cx hG 1
   have g2:=Cx hG 2
   have g3:=Cx hG 3
   have g4:=Cx hG 4
   have hlt:=Uw ⟨on,t,r,⟨R,N⟩⟩ q wc
   obtain⟨lt,hl⟩:∃lt,lt=Dc.I7.later ⟨on,t,r,⟨R,N⟩⟩ q:=⟨_,rfl⟩
   rw[←hl]at hlt HPUT HKEEP
   have HLT:=Hx hlt
   clear hlt hl
   cases lt with
   |false=>
    have hSW:=HKEEP.out rfl rfl
    have HSW2:=Hx hSW
    clear hSW
    go_wp2_with(go_at_call 115;refine HLT.out.mono ?_;rintro e w6 ⟨rfl,k6⟩)
    exact HSW.out g _ _ HSW2.out.symm ⟨false,rfl,(kwc.trans k6).any,⟨bm,(kwc.trans k6).heap h1 id,h2.keeps (kwc.trans k6) id,f1,f2⟩⟩
   |true=>
    have hSW:=HPUT.out (.inr rfl)
    have HSW2:=Hx hSW
    clear hSW
    go_upto_region 7 with(go_at_call 115;refine HLT.out.mono ?_;rintro e w6 ⟨rfl,k6⟩)
    have kc6:=kc.trans k6
    have kw6:=kwc.trans k6
    clear b0 a0 a1 x0 x1 x2 x3 x4 g0 g1 g2 g3 g4 hX
    have b0:=Cx (kc6.heap HB.out id) 0
    have a0:=Cx (kc6.heap HA5.out id) 0
    have a1:=Cx (kc6.heap HA5.out id) 1
    have hX:=kc6.heap HX.out id
    have x0:=Cx hX 0
    have x1:=Cx hX 1
    have x2:=Cx hX 2
    have x3:=Cx hX 3
    have x4:=Cx hX 4
    go_still_tail 6,Rx
    change wpList _ _ _ _ _ w6.drew
    refine EJ rfl Eh Tryz.underlying198 (h2.keeps kw6.drew id) _ _ _ rfl rfl ⟨aR,aN⟩ rfl ⟨on,t,r,⟨R,N⟩⟩ rfl ?_
    intro w9 m9 k9 hz9
    clear hz9
    have hb9:=k9.heap (kw6.drew.heap h1 id) (Ne.symm (AA h2 h1))
    go_wp2_with fail
    exact HSW.out _ _ _ HSW2.out.symm ⟨true,rfl,(kw6.drew.any).step k9 fun k hk _=>by unfold At1 at hk;subst hk;exact f2,⟨bm,hb9,m9,f1,f2⟩⟩
end
end Go.Proofs.YthfjefcljeamgaaGreatDoor
