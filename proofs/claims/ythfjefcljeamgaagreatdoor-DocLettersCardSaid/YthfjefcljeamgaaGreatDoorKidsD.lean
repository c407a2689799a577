/- joined: The children of blocks: one dropped. The children of blocks: one set. -/
import Derived.Test.YthfjefcljeamgaaGreatDoorKidsB
import Derived.Test.YthfjefcljeamgaaGreatDoorApp
import Derived.Deep.DeepCutAuto
namespace Go.Proofs.YthfjefcljeamgaaGreatDoor
set_option maxRecDepth 100000
set_option maxHeartbeats 4000000
section
open Go.RowKit
attribute [local go_sem ↓] Go.wp_at_zero Go.wp_at_succ
def VX(F:Nat→Prop)(b:Nat)(f:Dc.AB)(a:Off.Bid)(w:World)(e:Ending)(w':World):Prop:=
 ∃ok:Bool,e= .returned (.bool ok)∧Aa F w w'∧∃L',Di (Bv F w) b (Dc.EG f a none) L' w'∧Dc.CH (Dc.EG f a none) L'
theorem Of{f:Dc.AB}{a:Off.Bid}(h:f a=none):Dc.EG f a none=f:=by
 funext y
 unfold Dc.EG
 split
 ·rename_i e;rw[e,h]
 ·rfl
theorem Di.grow{F:Nat→Prop}{b:Nat}{f:Dc.AB}{L:Dc.CZ}{w':World}(h:Di F b f L w')(w:World):Di (Bv F w) b f L w':=by
 obtain⟨bp,bl,lv,h1,h2,h3,h4,f1,f2,f3,f4,f5,f6⟩:=h
 exact⟨bp,bl,lv,h1,h2,h3,h4,.inl f1,.inl f2,.inl f3,fun p g hg=> .inl (f4 p g hg),f5,f6⟩
theorem Ww{f:Dc.AB}{L:Dc.CZ}(hk:Dc.CH f L){a:Off.Bid}{p:Dc.Dt}(ha:f a=some p):Dc.K0 (L p.parent) ⟨p.key,a⟩<(L p.parent).length:=
 (Dc.RB (hk.sorted _) ((hk.mem p.parent ⟨p.key,a⟩).2 ha)).1
/-- a parent's row has turned -/
theorem KG(lv:Off.Bid→Option Value)(x:Off.Bid)(v:Value)(q:Off.Bid):DV (Db lv x (some v)) q=if q=x then v else DV lv q:=by
 unfold DV Db
 split<;>simp[*]
/-- one parent's row, and the places, have turned -/
theorem Oy{F:Nat→Prop}{b bp bl:Nat}{lv:Off.Bid→Option Value}{f f':Dc.AB}{L:Dc.CZ}{x:Off.Bid}{l':List Dc.C0}{v7:Value}{w w9:World}
  (h2:A8 idV Bt bp f w)(h3:A8 idV asV bl lv w)(h4:∀p,Aq 278 3 Ar (DV lv p) (L p) w)(f1:F b)(f2:F bp)(f3:F bl)(f4:∀p,OT F (DV lv p))
  (f5:∀p q g,(DV lv p).ownBlock=some g→(DV lv q).ownBlock=some g→p=q)(f6:bp≠bl)
  (hb9:w9.heap[b]? =some (.cells #[.map (some bp),.map (some bl)] 197 (0,0)))(hp9:A8 idV Bt bp f' w9)(hl9:A8 idV asV bl (Db lv x (some v7)) w9)
  (hrow9:Aq 278 3 Ar v7 l' w9)(k:Aa (fun k=>(DV lv x).ownBlock=some k∨k=bp∨k=bl) w w9)(ho:∀g,v7.ownBlock=some g→(DV lv x).ownBlock=some g∨w.heap.size≤g):
  Di (Bv F w) b f' (fun q=>if q=x then l' else L q) w9:=by
 refine⟨bp,bl,Db lv x (some v7),hb9,hp9,hl9,fun q=>?_,.inl f1,.inl f2,.inl f3,fun q g hg=>?_,fun p q g hg hg'=>?_,f6⟩
 ·rw[KG]
  show Aq _ _ _ _ (if q=x then l' else L q) w9
  by_cases hq:q=x
  ·rw[Ak hq,Ak hq];exact hrow9
  ·rw[Ae hq,Ae hq]
   refine(h4 q).keeps k fun g hg=>?_
   rintro(e|rfl|rfl)
   ·exact hq (f5 q x g hg e)
   ·exact BH (h4 q) h2 hg
   ·exact BH (h4 q) h3 hg
 ·rw[KG]at hg
  by_cases hq:q=x
  ·rw[Ak hq]at hg
   rcases ho g hg with e|e
   ·exact .inl (f4 x g e)
   ·exact .inr e
  ·rw[Ae hq]at hg;exact .inl (f4 q g hg)
 ·rw[KG]at hg hg'
  by_cases hp:p=x
  ·by_cases hq:q=x
   ·rw[hp,hq]
   ·rw[Ak hp]at hg
    rw[Ae hq]at hg'
    rcases ho g hg with e|e
    ·rw[hp];exact f5 x q g e hg'
    ·have:=(h4 q).own_lt hg';omega
  ·rw[Ae hp]at hg
   by_cases hq:q=x
   ·rw[Ak hq]at hg'
    rcases ho g hg' with e|e
    ·rw[hq];exact f5 p x g hg e
    ·have:=(h4 p).own_lt hg;omega
   ·rw[Ae hq]at hg';exact f5 p q g hg hg'
theorem J6{F:Nat→Prop}{b:Nat}{f:Dc.AB}{L:Dc.CZ}{w:World}(h:Di F b f L w)(hk:Dc.CH f L)(a:Off.Bid)(hsz:∀p,(L p).length≤1000000):
  Calls Tryz.prog 113 #[.pointer (some ⟨b,0,none⟩),idV a] w (VX F b f a w):=by
 have hall:=h
 obtain⟨bp,bl,lv,h1,h2,h3,h4,f1,f2,f3,f4,f5,f6⟩:=h
 obtain⟨aR,aN⟩:=a
 have HALL:=Hx hall
 have HK:=Hx hk
 have HSZ:=Hx hsz
 clear hall hk hsz
 go_enter Tryz.func113,Tryz.ntmps113
 go_upto_region 1 with(fail)
 have k0:Aa No w (w.alloc (.cells #[.int .i64 aR,.int .i64 aN] 24)):=Kx
 have hA:=Nx w (.cells #[.int .i64 aR,.int .i64 aN] 24)
 generalize w.alloc (.cells #[.int .i64 aR,.int .i64 aN] 24)=w1 at k0 hA⊢
 obtain⟨A,eA⟩:∃A,A=w.heap.size:=⟨_,rfl⟩
 rw[←eA]at hA⊢
 have hb1:=k0.heap h1 id
 have hp1:=h2.keeps k0 id
 have HA:=Hx hA
 have HB1:=Hx hb1
 have EA:=Hx eA
 clear eA
 go_cut[5,6] (fun s5 s6 wx=>∃g:Nat,s5= .pointer (some ⟨g,0,none⟩)∧s6= .bool (f ⟨aR,aN⟩).isSome∧It g (pl f ⟨aR,aN⟩) wx∧Aa No w1 wx∧w1.heap.size≤g)
 case first=>
  have HS:Hid (∀W,Aa No w1 W→Aa No w1 W∧W.cell? ⟨b,0,none⟩=some (.map (some bp))∧W.cell? ⟨A,0,none⟩=some (.int .i64 aR)∧W.cell? ⟨A,1,none⟩=some (.int .i64 aN)∧
    (Instr.lookup 191 (.map (some bp)) (.agg #[.int .i64 aR,.int .i64 aN]) true).run Tryz.prog W= .ok (.tuple #[Bt (pl f ⟨aR,aN⟩),.bool (f ⟨aR,aN⟩).isSome]) W):=Hx fun W k=>
   ⟨k,Cx (k.heap HB1.out id) 0,Cx (k.heap HA.out id) 0,Cx (k.heap HA.out id) 1,DN (hp1.keeps k id) aR aN⟩
  obtain⟨_,s2,s3,s4,s5⟩:=HS.out w1 (Aa.refl _ _)
  generalize pl f ⟨aR,aN⟩=p at*
  generalize (f ⟨aR,aN⟩).isSome=ok at*
  go_region_held3(fun W=>Aa No w1 W∧W.cell? ⟨b,0,none⟩=some (.map (some bp))∧W.cell? ⟨A,0,none⟩=some (.int .i64 aR)∧W.cell? ⟨A,1,none⟩=some (.int .i64 aN)∧
   (Instr.lookup 191 (.map (some bp)) (.agg #[.int .i64 aR,.int .i64 aN]) true).run Tryz.prog W= .ok (.tuple #[Bt p,.bool ok]) W) (exact HS.out _ Kx) (fail)
  all_goals
   go_wp2_with fail
   go_meet
   exact⟨w1.heap.size,rfl,rfl,by first|exact Nx w1 _|exact Nx w1.drew _,Kx,Ac _⟩
 case rest=>
  obtain⟨g,rfl,rfl,hg,kc,hge⟩:=hcut
  have kw:=k0.trans kc
  cases hf:f ⟨aR,aN⟩with
  |none=>
   have HF:=Hx hf
   clear hf
   go_wp2_with fail
   go_ret
   refine⟨false,rfl,kw.any,L,?_,?_⟩
   ·rw[Of HF.out];exact(HALL.out.keeps kw fun _ _ e=>e).grow w
   ·rw[Of HF.out];exact HK.out
  |some p=>
   have hpl:pl f ⟨aR,aN⟩=p:=by unfold pl;rw[hf];rfl
   rw[hpl]at hg
   obtain⟨⟨pR,pN⟩,pk⟩:=p
   have hci:=Ww HK.out hf
   have HF:=Hx hf
   have hfind:=fun W (k:Aa No w W)=>J5 (HALL.out.keeps k fun _ _ e=>e) HK.out.sorted ⟨aR,aN⟩ ⟨⟨pR,pN⟩,pk⟩ (HSZ.out _)
   obtain⟨i,hi⟩:∃i,i=Dc.K0 (L ⟨pR,pN⟩) ⟨pk,⟨aR,aN⟩⟩:=⟨_,rfl⟩
   simp only at hfind hci
   rw[←hi]at hfind hci
   have HI:=Hx hi
   have HCI:=Hx hci
   have HFD:=Hx hfind
   clear hf hpl hi hci hfind
   have cA0:=Cx (kc.heap HA.out id) 0
   have cA1:=Cx (kc.heap HA.out id) 1
   have g0:=Cx hg 0
   have g1:=Cx hg 1
   have g2:=Cx hg 2
   go_upto_region 5 with(go_at_call 175;refine(HFD.out _ kw).mono ?_;rintro e w2 ⟨bb,rfl,k2⟩)
   have kw2:=kw.trans k2
   have kd:Aa No w w2.drew:=kw2.drew
   have hgd:w2.drew.heap[g]? =some (.cells (D6 ⟨⟨pR,pN⟩,pk⟩) 45 (0,0)):=(k2.drew).heap hg id
   have hAd:=(kc.trans k2.drew).heap HA.out id
   have hb3:=kd.heap h1 id
   have hl3:=h3.keeps kd id
   have hp3:=h2.keeps kd id
   have lk:=J0 hl3 pR pN
   have hrow:=(h4 ⟨pR,pN⟩).no kd
   obtain⟨v,hv⟩:∃v,v=DV lv ⟨pR,pN⟩:=⟨_,rfl⟩
   rw[←hv]at lk hrow
   have hbv:v.ownBlock≠some b:=Bh hrow hb3 (by decide)
   have hgv:v.ownBlock≠some g:=Bh hrow hgd (by decide)
   have hAv:v.ownBlock≠some A:=Bh hrow hAd (by decide)
   have hlv:=BH hrow hl3
   have hlb:=AA hl3 hb3
   have hlg:=AA hl3 hgd
   have hlA:=AA hl3 hAd
   have HC:=Hx (PQ v (L ⟨pR,pN⟩) i w2.drew hrow HCI.out)
   have HHR:=Hx (fun w7 (k7:Aa (fun k=>v.ownBlock=some k) w2.drew w7) v7=>(hl3.keeps k7 hlv).put Eh Tryz.underlying195 ⟨pR,pN⟩ v7)
   have HV:=Hx hv
   have HR:=Hx hrow
   clear hrow hv g0 g1 g2 cA0 cA1
   have x1:w2.drew.cell? ⟨b,1,none⟩=some (.map (some bl)):=Cx hb3 1
   have y0:w2.drew.cell? ⟨g,0,none⟩=some (.int .i64 pR):=Cx hgd 0
   have y1:w2.drew.cell? ⟨g,1,none⟩=some (.int .i64 pN):=Cx hgd 1
   have HS0:=And.intro x1 (And.intro y0 y1)
   have hwi:IntKind.i64.wrap ((i:Int)+1)=(i:Int)+1:=by have:=HCI.out;have:=HSZ.out ⟨pR,pN⟩;rw[IntKind.wrap_i64];omega
   go_region_held3(fun W=>W.cell? ⟨b,1,none⟩=some (.map (some bl))∧W.cell? ⟨g,0,none⟩=some (.int .i64 pR)∧W.cell? ⟨g,1,none⟩=some (.int .i64 pN))
    (first|exact HS0|exact HS7|exact HS8)
    (first
     |(go_at_call 177;refine HC.out.mono ?_;rintro e w7 ⟨v7,rfl,hrow7,k7,ho7⟩;obtain⟨w8,hrun8,hl8,k8,hs8⟩:=HHR.out w7 k7 v7
       have hb7:=k7.heap hb3 hbv;have hg7:=k7.heap hgd hgv;have hA7:=k7.heap hAd hAv;have hb8:=k8.heap hb7 (Ne.symm hlb);have hg8:=k8.heap hg7 (Ne.symm hlg);have hA8:=k8.heap hA7 (Ne.symm hlA)
       have HS7:=And.intro (Cx hb7 1) (And.intro (Cx hg7 0) (Cx hg7 1));have HS8:=And.intro (Cx hb8 1) (And.intro (Cx hg8 0) (Cx hg8 1))))
   clear HS7 HS8 HS0 x1 y0 y1 lk hwi
   have x0:=Cx hb8 0
   have z0:=Cx hA8 0
   have z1:=Cx hA8 1
   go_upto_region 6 with(fail)
   go_still_tail 5,Rx
   change wpList _ _ _ _ _ w8.drew
   have hbpl:bp≠bl:=f6
   have hpv:v.ownBlock≠some bp:=BH HR.out hp3
   have hp8:A8 idV Bt bp f w8.drew:=((hp3.keeps k7 hpv).keeps k8 hbpl).keeps (Aa.refl No w8).drew id
   refine N6 rfl Eh Tryz.underlying191 hp8 _ _ rfl rfl ⟨aR,aN⟩ rfl ?_
   intro w9 hp9 k9 _
   go_wp2_with fail
   go_ret
   have hl7:=hl3.keeps k7 hlv
   have hp7:=hp3.keeps k7 hpv
   have hpb:=AA hp3 hb3
   have hvl:v7.ownBlock≠some bl:=BH hrow7 hl7
   have hvp:v7.ownBlock≠some bp:=BH hrow7 hp7
   have hb9:=k9.heap (show w8.drew.heap[b]? =_ from hb8) (Ne.symm hpb)
   have hl9:=(hl8.keeps (Aa.refl No w8).drew id).keeps k9 (Ne.symm hbpl)
   have hrow9:=((hrow7.keeps k8 fun g hg e=>hvl (by rw[hg,e])).no (Aa.refl No w8).drew).keeps k9 fun g hg e=>hvp (by rw[hg,e])
   have kk:Aa (fun k=>(DV lv ⟨pR,pN⟩).ownBlock=some k∨k=bp∨k=bl) w w9:=
    (((kd.any.step k7 fun k hk _=> .inl (by rw[←HV.out];exact hk)).step k8 fun k hk _=> .inr (.inr hk)).drew).step k9 fun k hk _=> .inr (.inl hk)
   have hsz:w.heap.size≤w2.drew.heap.size:=kd.size
   refine⟨true,rfl,kk.mono fun k hk _=>?_,_,Oy h2 h3 h4 f1 f2 f3 f4 f5 f6 hb9 hp9 hl9 hrow9 kk (fun g hg=>?_),?_⟩
   ·rcases hk with hk|rfl|rfl
    ·exact f4 _ _ hk
    ·exact f2
    ·exact f3
   ·rcases ho7 g hg with e|e
    ·exact .inl (by rw[←HV.out];exact e)
    ·exact .inr (by omega)
   ·have hd:=Dc.Wp HK.out HF.out
    have e:Dc.Rm L ⟨⟨pR,pN⟩,pk⟩ ⟨aR,aN⟩=fun q=>if q=⟨pR,pN⟩then(L ⟨pR,pN⟩).eraseIdx i else L q:=by
     funext q
     unfold Dc.Rm
     simp only
     by_cases hq:q=⟨pR,pN⟩
     ·rw[Ak hq,Ak hq,hq,HI.out]
     ·rw[Ae hq,Ae hq]
    rw[e]at hd
    exact hd
end
section
open Go.RowKit
attribute [local go_sem ↓] Go.wp_at_zero Go.wp_at_succ
def WE(F:Nat→Prop)(b:Nat)(f:Dc.AB)(a:Off.Bid)(p:Dc.Dt)(w:World)(e:Ending)(w':World):Prop:=
 e= .returned (.int .i64 0)∧Aa F w w'∧∃L',Di (Bv F w) b (Dc.EG f a (some p)) L' w'∧Dc.CH (Dc.EG f a (some p)) L'
theorem Di.mono{F F':Nat→Prop}{b:Nat}{f:Dc.AB}{L:Dc.CZ}{w:World}(h:Di F b f L w)(hF:∀g,F g→F' g):Di F' b f L w:=by
 obtain⟨bp,bl,lv,h1,h2,h3,h4,f1,f2,f3,f4,f5,f6⟩:=h
 exact⟨bp,bl,lv,h1,h2,h3,h4,hF _ f1,hF _ f2,hF _ f3,fun p g hg=>hF _ (f4 p g hg),f5,f6⟩
theorem Di.low{F:Nat→Prop}{b:Nat}{f:Dc.AB}{L:Dc.CZ}{w:World}(h:Di F b f L w):Di (fun g=>F g∧g<w.heap.size) b f L w:=by
 obtain⟨bp,bl,lv,h1,h2,h3,h4,f1,f2,f3,f4,f5,f6⟩:=h
 exact⟨bp,bl,lv,h1,h2,h3,h4,⟨f1,Ao h1⟩,⟨f2,h2.lt⟩,⟨f3,h3.lt⟩,fun p g hg=>⟨f4 p g hg,(h4 p).own_lt hg⟩,f5,f6⟩
theorem Oe(f:Dc.AB)(a:Off.Bid)(p q:Option Dc.Dt):Dc.EG (Dc.EG f a p) a q=Dc.EG f a q:=by
 funext y
 unfold Dc.EG
 split<;>rfl
theorem QX{F:Nat→Prop}{b:Nat}{f:Dc.AB}{L:Dc.CZ}{w:World}(h:Di F b f L w)(hk:Dc.CH f L)(hE:Env w)(a:Off.Bid)(p:Dc.Dt)(dom:List Off.Bid)(hd:∀x,f x≠none→x∈dom)(hn:dom.length≤1000000)
  (r1:Off.AV a=true)(r2:Off.Bn p.parent=true)(r3:Dc.D4 p.key=true)(r4:a≠p.parent):
  Calls Tryz.prog 112 #[.pointer (some ⟨b,0,none⟩),idV a,Bt p] w (WE F b f a p w):=by
 obtain⟨aR,aN⟩:=a
 obtain⟨⟨pR,pN⟩,pk⟩:=p
 have HALL:=Hx h.low
 have HK:=Hx hk
 have HD:=Hx hd
 have hdis:(¬aR=pR)∨(aR=pR∧¬aN=pN):=by
  by_cases a1:aR=pR
  ·exact .inr ⟨a1,fun a2=>r4 (by rw[a1,a2])⟩
  ·exact .inl a1
 have HR1:=Hx r1
 have HR2:=Hx r2
 have HR3:=Hx r3
 clear h hk hd r1 r2 r3 r4
 go_enter Tryz.func112,Tryz.ntmps112
 go_upto_region 1 with(fail)
 have k0:Aa No w ((w.alloc (.cells #[.int .i64 aR,.int .i64 aN] 24)).alloc (.cells #[.int .i64 pR,.int .i64 pN,.string ⟨pk.toArray⟩] 45)):=Kx
 have hA:=Ab (Nx w (.cells #[.int .i64 aR,.int .i64 aN] 24)) (.cells #[.int .i64 pR,.int .i64 pN,.string ⟨pk.toArray⟩] 45)
 have hB:=Nx (w.alloc (.cells #[.int .i64 aR,.int .i64 aN] 24)) (.cells #[.int .i64 pR,.int .i64 pN,.string ⟨pk.toArray⟩] 45)
 rw[World.size_alloc]at hB
 generalize (w.alloc (.cells #[.int .i64 aR,.int .i64 aN] 24)).alloc (.cells #[.int .i64 pR,.int .i64 pN,.string ⟨pk.toArray⟩] 45)=w1 at k0 hA hB⊢
 obtain⟨A,eA⟩:∃A,A=w.heap.size:=⟨_,rfl⟩
 obtain⟨B,eB⟩:∃B,B=w.heap.size+1:=⟨_,rfl⟩
 rw[←eB]
 rw[←eB]at hB
 rw[←eA]at hA⊢
 have hAw:w.heap.size≤A:=by omega
 have hBw:w.heap.size≤B:=by omega
 clear eA eB
 have HC:Hid (∀W,Aa No w1 W→(∀r,r<2→W.cell? ⟨A,r,none⟩=(Bf ⟨aR,aN⟩)[r]?)∧(∀r,r<3→W.cell? ⟨B,r,none⟩=(#[Value.int .i64 pR,.int .i64 pN,.string ⟨pk.toArray⟩]:Array Value)[r]?)):=Hx fun W k=>
  ⟨fun r _=>(Cx (k.heap hA id) r).trans (by simp[Bf]),fun r _=>Cx (k.heap hB id) r⟩
 have hE1:=hE.no k0
 have cA0:=Cx hA 0
 have cA1:=Cx hA 1
 have HA:=Hx hA
 have HB:=Hx hB
 clear hA hB HC
 have HDIS:=Hx hdis
 clear hdis
 go_cut[29] (fun s29 wx=>s29= .bool false∧Aa No w1 wx)
 case first=>
  rcases HDIS.out with a1|⟨a1,a2⟩
  rotate_left
  subst a1
  rotate_left
  all_goals
   go_wp2_with(first
    |(go_at_call 103;refine(BJ _ _ _).mono ?_;rw[HR1.out];rintro e w2 ⟨rfl,k2⟩
      have hE2:=hE1.no k2
      have cB0:=Cx (k2.heap HB.out id) 0
      have cB1:=Cx (k2.heap HB.out id) 1)
    |(go_at_call 114;refine(Fq _ _ _ hE2).mono ?_;rw[HR2.out];rintro e w3 ⟨rfl,k3⟩
      have cB2:=Cx ((k2.trans k3).heap HB.out id) 2
      have dB0:=Cx ((k2.trans k3).heap HB.out id) 0
      have dB1:=Cx ((k2.trans k3).heap HB.out id) 1
      have dA0:=Cx ((k2.trans k3).heap HA.out id) 0
      have dA1:=Cx ((k2.trans k3).heap HA.out id) 1)
    |(go_at_call 157;refine(Hk _ _).mono ?_;rw[HR3.out];rintro e w4 ⟨rfl,rfl⟩))
   go_meet
   exact⟨rfl,k2.trans k3⟩
 case rest=>
  obtain⟨rfl,kc⟩:=hcut
  have kw3:Aa No w wc:=k0.trans kc
  have hA3:=kc.heap HA.out id
  have hB3:=kc.heap HB.out id
  have hlen0:∀q,(L q).length≤1000000:=fun q=>AG (Dc.J4 HK.out HD.out q) hn
  have HDR:=Hx (J6 (HALL.out.keeps kw3 fun _ _ e=>e) HK.out ⟨aR,aN⟩ hlen0)
  clear hlen0
  have cA0:=Cx hA3 0
  have cA1:=Cx hA3 1
  go_upto_region 4 with(go_at_call 113;refine HDR.out.mono ?_;rintro e w4 ⟨ok,rfl,k4,L4,h4,hk4⟩)
  have hA4:=k4.heap hA3 (fun e=>by have:=e.2;omega)
  have hB4:=k4.heap hB3 (fun e=>by have:=e.2;omega)
  have kw4:Aa (fun g=>F g∧g<w.heap.size) w w4:=kw3.any.step k4 fun k hk _=>hk
  have hd4:∀x,Dc.EG f ⟨aR,aN⟩ none x≠none→x∈dom:=fun x hx=>by
   refine HD.out x fun e=>hx ?_
   unfold Dc.EG
   split
   ·rfl
   ·exact e
  have hlen4:∀q,(L4 q).length≤1000000:=fun q=>AG (Dc.J4 hk4 hd4 q) hn
  have HFD:=Hx (J5 h4 hk4.sorted ⟨aR,aN⟩ ⟨⟨pR,pN⟩,pk⟩ (hlen4 _))
  have a0:=Cx hA4 0
  have a1:=Cx hA4 1
  have b0:=Cx hB4 0
  have b1:=Cx hB4 1
  have b2:=Cx hB4 2
  obtain⟨i,hi⟩:∃i,i=Dc.K0 (L4 ⟨pR,pN⟩) ⟨pk,⟨aR,aN⟩⟩:=⟨_,rfl⟩
  simp only at HFD
  rw[←hi]at HFD
  have hile:i≤(L4 ⟨pR,pN⟩).length:=by rw[hi];exact Dc.PW _ _
  have HI:=Hx hi
  have HIL:=Hx hile
  have HLN:=Hx hlen4
  clear hi hile hlen4 hd4 cA0 cA1
  go_upto_region 5 with(go_at_call 175;refine HFD.out.mono ?_;rintro e w5 ⟨bb,rfl,k5⟩)
  clear a0 a1 b0 b1 b2
  have H5:=h4.keeps k5 fun _ _ e=>e
  obtain⟨bp,bl,lv,h1,h2,h3,h4,f1,f2,f3,f4,f5,f6⟩:=H5
  have hA5:=k5.heap hA4 id
  have hB5:=k5.heap hB4 id
  have kw5:=kw4.no k5
  have x0:=Cx h1 0
  have a0:=Cx hA5 0
  have a1:=Cx hA5 1
  have b0:=Cx hB5 0
  have b1:=Cx hB5 1
  have b2:=Cx hB5 2
  go_still_tail 6,Rx
  change wpList _ _ _ _ _ w5.drew
  refine EJ rfl Eh Tryz.underlying191 (h2.keeps (Aa.refl No w5).drew id) _ _ _ rfl rfl ⟨aR,aN⟩ rfl ⟨⟨pR,pN⟩,pk⟩ rfl ?_
  intro w6 hp6 k6 hs6
  clear hs6
  have hbpl:bp≠bl:=f6
  have hpA:=AA h2 hA5
  have hpB:=AA h2 hB5
  have hpb:=AA h2 h1
  have hA6:=k6.heap (show w5.drew.heap[A]? =_ from hA5) (Ne.symm hpA)
  have hB6:=k6.heap (show w5.drew.heap[B]? =_ from hB5) (Ne.symm hpB)
  have hb6:=k6.heap (show w5.drew.heap[b]? =_ from h1) (Ne.symm hpb)
  have hl6:=(h3.keeps (Aa.refl No w5).drew id).keeps k6 (Ne.symm hbpl)
  have hr6:=fun q=>((h4 q).no (Aa.refl No w5).drew).keeps k6 fun g hg e=>BH (h4 q) h2 (by rw[hg,e])
  clear x0 a0 a1 b0 b1 b2 hA5 hB5
  go_upto_region 6 with(fail)
  have kd:Aa No w6 w6.drew:=(Aa.refl No w6).drew
  have lk:=J0 (hl6.keeps kd id) pR pN
  obtain⟨v,hv⟩:∃v,v=DV lv ⟨pR,pN⟩:=⟨_,rfl⟩
  have hrow:=(hr6 ⟨pR,pN⟩).no kd
  have hrow0:=hr6 ⟨pR,pN⟩
  rw[←hv]at lk hrow hrow0
  have lk2:=J0 (hl6.keeps (((Aa.refl No w6).alloc (.cells #[.string ⟨pk.toArray⟩,.int .i64 aR,.int .i64 aN] 278)).drew) id) pR pN
  rw[←hv]at lk2
  have hlb:=AA hl6 hb6
  have hlB:=AA hl6 hB6
  have hbv:v.ownBlock≠some b:=Bh hrow (kd.heap hb6 id) (by decide)
  have hBv:v.ownBlock≠some B:=Bh hrow (kd.heap hB6 id) (by decide)
  have hlv:v.ownBlock≠some bl:=BH hrow (hl6.keeps kd id)
  have hpv:v.ownBlock≠some bp:=BH hrow (hp6.keeps kd id)
  have hszv:v.ownBlock≠some w6.heap.size:=fun e=>GB _ (hrow.own_lt e)
  have ka:Aa No w6 ((w6.alloc (.cells #[.string ⟨pk.toArray⟩,.int .i64 aR,.int .i64 aN] 278)).drew):=((Aa.refl No w6).alloc _).drew
  have HC:=Hx (fun vb (hvb:vb=w6.heap.size)=>PG v (L4 ⟨pR,pN⟩) ⟨pk,⟨aR,aN⟩⟩ i vb _ (hrow0.no ((Aa.refl No w6).alloc (.cells #[.string ⟨pk.toArray⟩,.int .i64 aR,.int .i64 aN] 278)).drew) (by subst hvb;exact Nx w6 _) (by subst hvb;exact hszv) (by have:=HLN.out ⟨pR,pN⟩;omega) HIL.out)
  have HHR:=Hx (fun w7 (k7:Aa (fun k=>v.ownBlock=some k) ((w6.alloc (.cells #[.string ⟨pk.toArray⟩,.int .i64 aR,.int .i64 aN] 278)).drew) w7) v7=>((hl6.keeps ka id).keeps k7 hlv).put Eh Tryz.underlying195 ⟨pR,pN⟩ v7)
  have HV:=Hx hv
  have HR:=Hx hrow
  clear hrow hrow0 hv
  have x1:w6.drew.cell? ⟨b,1,none⟩=some (.map (some bl)):=Cx hb6 1
  have y0:w6.drew.cell? ⟨B,0,none⟩=some (.int .i64 pR):=Cx hB6 0
  have y1:w6.drew.cell? ⟨B,1,none⟩=some (.int .i64 pN):=Cx hB6 1
  have y2:w6.drew.cell? ⟨B,2,none⟩=some (.string ⟨pk.toArray⟩):=Cx hB6 2
  have u0:w6.drew.cell? ⟨A,0,none⟩=some (.int .i64 aR):=Cx hA6 0
  have u1:w6.drew.cell? ⟨A,1,none⟩=some (.int .i64 aN):=Cx hA6 1
  have HS0:=And.intro x1 (And.intro y0 (And.intro y1 (And.intro y2 (And.intro u0 u1))))
  have HSA:Hid (∀W:World,W.heap[b]? =some (.cells #[.map (some bp),.map (some bl)] 197 (0,0))→W.heap[A]? =some (.cells #[.int .i64 aR,.int .i64 aN] 24 (0,0))→W.heap[B]? =some (.cells #[.int .i64 pR,.int .i64 pN,.string ⟨pk.toArray⟩] 45 (0,0))→
    W.cell? ⟨b,1,none⟩=some (.map (some bl))∧W.cell? ⟨B,0,none⟩=some (.int .i64 pR)∧W.cell? ⟨B,1,none⟩=some (.int .i64 pN)∧W.cell? ⟨B,2,none⟩=some (.string ⟨pk.toArray⟩)∧W.cell? ⟨A,0,none⟩=some (.int .i64 aR)∧W.cell? ⟨A,1,none⟩=some (.int .i64 aN)):=Hx fun W e1 e2 e3=>
   ⟨Cx e1 1,Cx e3 0,Cx e3 1,Cx e3 2,Cx e2 0,Cx e2 1⟩
  have HS1:=HSA.out _ (ka.heap hb6 id) (ka.heap hA6 id) (ka.heap hB6 id)
  have hAv:v.ownBlock≠some A:=Bh HR.out (kd.heap hA6 id) (by decide)
  have hlA:=AA hl6 hA6
  go_region_held3(fun W=>W.cell? ⟨b,1,none⟩=some (.map (some bl))∧W.cell? ⟨B,0,none⟩=some (.int .i64 pR)∧W.cell? ⟨B,1,none⟩=some (.int .i64 pN)∧W.cell? ⟨B,2,none⟩=some (.string ⟨pk.toArray⟩)∧W.cell? ⟨A,0,none⟩=some (.int .i64 aR)∧W.cell? ⟨A,1,none⟩=some (.int .i64 aN))
   (first|exact HS0|exact HS1|exact HS7|exact HS8)
   (first
    |(go_at_call 176;(with_reducible refine(HC.out _ rfl).mono ?_);rintro e w7 ⟨v7,rfl,hrow7,k7,ho7⟩;obtain⟨w8,hrun8,hl8,k8,hs8⟩:=HHR.out w7 k7 v7
      have hb7:=k7.heap (ka.heap hb6 id) hbv;have hB7:=k7.heap (ka.heap hB6 id) hBv;have hA7:=k7.heap (ka.heap hA6 id) hAv;have hb8:=k8.heap hb7 (Ne.symm hlb);have hB8:=k8.heap hB7 (Ne.symm hlB);have hA8:=k8.heap hA7 (Ne.symm hlA)
      have HS7:=HSA.out _ hb7 hA7 hB7;have HS8:=HSA.out _ hb8 hA8 hB8))
  all_goals
   go_wp2_with fail
   go_ret
   have hl7:=(hl6.keeps ka id).keeps k7 hlv
   have hp7:=(hp6.keeps ka id).keeps k7 hpv
   have hvl:v7.ownBlock≠some bl:=BH hrow7 hl7
   have hp8:A8 idV Bt bp (Dc.EG f ⟨aR,aN⟩ (some ⟨⟨pR,pN⟩,pk⟩)) w8:=by
    have h:=hp7.keeps k8 hbpl
    have e2:Db (Dc.EG f ⟨aR,aN⟩ none) ⟨aR,aN⟩ (some ⟨⟨pR,pN⟩,pk⟩)=Dc.EG f ⟨aR,aN⟩ (some ⟨⟨pR,pN⟩,pk⟩):=Oe _ _ _ _
    rw[e2]at h
    exact h
   have hrow8:=hrow7.keeps k8 fun g hg e=>hvl (by rw[hg,e])
   have kk:Aa (fun k=>(DV lv ⟨pR,pN⟩).ownBlock=some k∨k=bp∨k=bl) w5 w8:=
    (((((Aa.refl (fun k=>(DV lv ⟨pR,pN⟩).ownBlock=some k∨k=bp∨k=bl) w5).drew.step k6 fun k hk _=> .inr (.inl hk)).no ka).step k7 fun k hk _=> .inl (by rw[←HV.out];exact hk)).step k8 fun k hk _=> .inr (.inr hk))
   have hsz:w5.heap.size≤((w6.alloc (.cells #[.string ⟨pk.toArray⟩,.int .i64 aR,.int .i64 aN] 278)).drew).heap.size:=by
    have:=k6.size
    have:=ka.size
    exact AG ‹_› ‹_›
   have hG:∀g,Bv (fun g=>F g∧g<w.heap.size) wc g→g<w.heap.size→F g:=fun g hg hl=>by
    rcases hg with hg|hg
    ·exact hg.1
    ·have:=kw3.size;omega
   refine⟨rfl,(kw5.mono fun k hk _=>hk.1).step kk fun k hk hl=>?_,_,(Oy h2 h3 h4 f1 f2 f3 f4 f5 f6 hb8 hp8 hl8 hrow8 kk fun g hg=>?_).mono fun g hg=>?_,?_⟩
   ·rcases hk with hk|rfl|rfl
    ·exact hG _ (f4 _ _ hk) hl
    ·exact hG _ f2 hl
    ·exact hG _ f3 hl
   ·rcases ho7 g hg with e|e
    ·exact .inl (by rw[←HV.out];exact e)
    ·exact .inr (by omega)
   ·rcases hg with(hg|hg)|hg
    ·exact .inl hg.1
    ·exact .inr (by have:=kw3.size;omega)
    ·exact .inr (by have:=kw5.size;omega)
   ·have hadd:=Dc.VP (b:=⟨aR,aN⟩) (p:=⟨⟨pR,pN⟩,pk⟩) hk4 (by unfold Dc.EG;rw[Ak rfl])
    rw[Oe]at hadd
    have e:Dc.VQ L4 ⟨⟨pR,pN⟩,pk⟩ ⟨aR,aN⟩=fun q=>if q=⟨pR,pN⟩then Dc.Ax (L4 ⟨pR,pN⟩) i ⟨pk,⟨aR,aN⟩⟩else L4 q:=by
     funext q
     unfold Dc.VQ
     simp only
     by_cases hq:q=⟨pR,pN⟩
     ·rw[Ak hq,Ak hq,hq,HI.out]
     ·rw[Ae hq,Ae hq]
    rw[e]at hadd
    exact hadd
end
end Go.Proofs.YthfjefcljeamgaaGreatDoor
