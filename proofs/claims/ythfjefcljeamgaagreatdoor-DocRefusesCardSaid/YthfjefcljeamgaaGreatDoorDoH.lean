/- The document: what an op tells of texts is written. -/
import Derived.Test.YthfjefcljeamgaaGreatDoorDoG
namespace Go.Proofs.YthfjefcljeamgaaGreatDoor
set_option maxRecDepth 100000
set_option maxHeartbeats 4000000
open Go.RowKit
attribute [local go_sem ↓] Go.wp_at_zero Go.wp_at_succ
def Gw(F:Nat→Prop)(b:Nat)(s:DSt)(o:Dc.Op)(w:World)(e:Ending)(w':World):Prop:=
 e= .returned (.int .i64 (Dc.D2 s.tx o))∧(Dc.D2 s.tx o≠0→Aa No w w')∧
 (Dc.D2 s.tx o=0→Eu (Bv F w) b {s with tx:=Dc.Gh s.tx o} w'∧Aa (fun g=>F g∧g<w.heap.size) w w')
theorem PN{F:Nat→Prop}{b:Nat}{s:DSt}{w:World}(h:Eu F b s w)(hE:Env w){n:Nat}(hx:Dc.DT s.tx n)(hn:n≤15000)(hfull:∀seg t,s.tx.texts seg=some t→Dc.Dm t)(o:Dc.Op)(cv:Value)(hcv:BI 4 AD cv o.cuts w)(hcF:o.cuts≠ []→∀g,cv.ownBlock=some g→¬F g)(hcz:o.cuts.length≤1000000)(hok:o.ok=true)(hsz:o.text.length≤1000000000):
  Calls Tryz.prog 68 #[.pointer (some ⟨b,0,none⟩),opV o cv] w (Gw F b s o w):=by
 have h0:=h
 obtain⟨lab,vo,bk,bx,bt,bc,bw,h⟩:=h
 have hb:=h.cells
 have hcl:o.cuts≠ []→∀g,cv.ownBlock=some g→¬lab g=some .tx:=fun hne g hg e=>hcF hne g hg (h.own g (by rw[e];simp)).1
 have HOP:=Hx (fun W (k:Aa No w W)=>R1 (h.tx.no k) (hE.no k) o.id)
 have HDO:=Hx (fun W (k:Aa No w W)=>Vb (h.tx.no k) (hE.no k) hx hn hfull o cv (hcv.no k) hcl hcz hok hsz)
 have HLT:Hid (∀g,lab g=some Nu.tx→g<w.heap.size):=Hx fun g hg=>(h.own g (by rw[hg];simp)).2
 have HB:Hid (¬lab b=some .tx):=Hx (by rw[h.self];simp)
 have HW:Hid (∀W W' x' er,Aa No w W→(er≠0→Aa No W W')→(er=(0:Int)→Bg (Bv (fun g=>lab g=some .tx) W) bx x' W'∧Aa (fun g=>lab g=some .tx∧g<W.heap.size) W W')→
   Aa (fun g=>lab g=some .tx∧g<W.heap.size) W W'∧(er≠0→Aa No w W')∧(er=0→Eu (Bv F w) b {s with tx:=x'} W'∧Aa (fun g=>F g∧g<w.heap.size) w W')):=Hx fun W W' x' er k h1 h2=>by
  by_cases e:er=0
  ·obtain⟨g1,g2⟩:=h2 e
   refine⟨g2,fun e1=>absurd e e1,fun _=>⟨?_,k.any.step g2 fun g hg hl=>⟨(h.own g (by rw[hg.1];simp)).1,hl⟩⟩⟩
   have hD:=(h.no k).turnTx (g2.mono fun g hg _=>hg.1) g1
   have hD':Eu (Bv F W) b {s with tx:=x'} W':=⟨_,_,_,_,_,_,_,hD⟩
   exact hD'.mono fun g hg _=>hg.imp_right fun e=>AG k.size e
  ·exact⟨(h1 e).any,fun _=>k.trans (h1 e),fun e1=>absurd e1 e⟩
 have HK0:Hid (∀W,Aa No w W→Eu (Bv F w) b s W):=Hx fun W k=>(h0.no k).mono fun g hg _=> .inl hg
 have hwe:Dc.D2 s.tx o=if o.kind=1 then Dc.DG s.tx o.id else if o.kind=3∨o.kind=5∨o.kind=4 then Dc.E4 s.tx o else 0:=rfl
 have hwx:Dc.Gh s.tx o=if o.kind=1 then Dc.Gn s.tx o.id else if o.kind=3∨o.kind=5∨o.kind=4 then Dc.doX s.tx o else s.tx:=rfl
 have HPOST:Hid (∀e er x' w',er=Dc.D2 s.tx o→x'=Dc.Gh s.tx o→e= .returned (.int .i64 er)→(er≠0→Aa No w w')→(er=0→Eu (Bv F w) b {s with tx:=x'} w'∧Aa (fun g=>F g∧g<w.heap.size) w w')→Gw F b s o w e w'):=Hx fun e er x' w' e1 e2 e3 h1 h2=>by
  subst e1 e2 e3
  exact⟨rfl,h1,h2⟩
 have HWE:=Hx hwe
 have HWX:=Hx hwx
 generalize Gw F b s o w=post at HPOST⊢
 clear h h0 hE hx hfull hcv hcF hcl hwe hwx hok
 by_cases h1:o.kind=1
 ·have he:=HWE.out
  have hd:=HWX.out
  rw[Ak h1]at he hd
  have HF:Hid (∀W',(Dc.DG s.tx o.id≠0→Aa No w W')→(Dc.DG s.tx o.id=0→Eu (Bv F w) b {s with tx:=Dc.Gn s.tx o.id} W'∧Aa (fun g=>F g∧g<w.heap.size) w W')→post (.returned (.int .i64 (Dc.DG s.tx o.id))) W'):=Hx fun W' h1 h2=>HPOST.out _ _ _ _ he.symm hd.symm rfl h1 h2
  have b1:(o.kind==1)=true:=by simp[h1]
  clear h1 he hd HWE HWX HPOST HDO HK0
  go_enter Tryz.func68,Tryz.ntmps68
  go_upto_region 1 with(fail)
  have k0:Aa No w (w.alloc (.cells (As o cv) 29)):=(Aa.refl No w).alloc _
  have hP:=Nx w (.cells (As o cv) 29)
  generalize w.alloc (.cells (As o cv) 29)=w1 at k0 hP⊢
  obtain⟨P,eP⟩:∃P,P=w.heap.size:=⟨_,rfl⟩
  rw[←eP]at hP⊢
  have hPw:w.heap.size≤P:=by omega
  clear eP
  have p0:=Cx hP 0
  go_upto_region 3 with(fail)
  have kd:Aa No w1 w1.drew:=(Aa.refl No w1).drew
  have hb1:=k0.heap hb id
  have HSA:Hid (∀W:World,W.heap[b]? =some (.cells (Il vo bk bx bt bc bw) 113 (0,0))→W.heap[P]? =some (.cells (As o cv) 29 (0,0))→W.cell? ⟨b,2,none⟩=some (.pointer (some ⟨bx,0,none⟩))∧W.cell? ⟨P,1,none⟩=some (.int .i64 o.id.R)∧W.cell? ⟨P,2,none⟩=some (.int .i64 o.id.N)):=Hx fun W e0 e1=>
   ⟨Cx e0 2,Cx e1 1,Cx e1 2⟩
  have hb1d:=kd.heap hb1 id
  have hPd:=kd.heap hP id
  have HS0:=HSA.out _ hb1d hPd
  have HO1:=Hx (HOP.out _ (k0.trans kd))
  have HW1:=Hx (fun W'=>HW.out _ W' (Dc.Gn s.tx o.id) (Dc.DG s.tx o.id) (k0.trans kd))
  clear hP hb1 HOP HW
  go_region_held3(fun W=>W.cell? ⟨b,2,none⟩=some (.pointer (some ⟨bx,0,none⟩))∧W.cell? ⟨P,1,none⟩=some (.int .i64 o.id.R)∧W.cell? ⟨P,2,none⟩=some (.int .i64 o.id.N))
   (first|exact HS0|exact HS1)
   (first
    |(go_at_call 108;(with_reducible refine HO1.out.mono ?_);rintro e w2 ⟨rfl,g1,g2⟩;obtain⟨k2,q1,q2⟩:=HW1.out w2 g1 g2;have HS1:=HSA.out _ (k2.heap hb1d (fun e=>HB.out e.1)) (k2.heap hPd (fun e=>by have:=HLT.out _ e.1;omega))))
  all_goals
   have HFIN:=Hx (HF.out w2 q1 q2)
   go_wp2_with fail
   exact HFIN.out
 ·by_cases hw:o.kind=3∨o.kind=5∨o.kind=4
  ·have he:=HWE.out
   have hd:=HWX.out
   rw[Ae h1,Ak hw]at he hd
   have HF:Hid (∀W',(Dc.E4 s.tx o≠0→Aa No w W')→(Dc.E4 s.tx o=0→Eu (Bv F w) b {s with tx:=Dc.doX s.tx o} W'∧Aa (fun g=>F g∧g<w.heap.size) w W')→post (.returned (.int .i64 (Dc.E4 s.tx o))) W'):=Hx fun W' h1 h2=>HPOST.out _ _ _ _ he.symm hd.symm rfl h1 h2
   clear he hd HWE HWX HPOST HOP HK0
   have b1:(o.kind==1)=false:=by simp[h1]
   rcases hw with h3|h5|h4
   ·have b3:(o.kind==3)=true:=by simp[h3]
    clear h1 h3
    go_enter Tryz.func68,Tryz.ntmps68
    go_upto_region 1 with(fail)
    have k0:Aa No w (w.alloc (.cells (As o cv) 29)):=(Aa.refl No w).alloc _
    have hP:=Nx w (.cells (As o cv) 29)
    generalize w.alloc (.cells (As o cv) 29)=w1 at k0 hP⊢
    obtain⟨P,eP⟩:∃P,P=w.heap.size:=⟨_,rfl⟩
    rw[←eP]at hP⊢
    have hPw:w.heap.size≤P:=by omega
    clear eP
    have p0:=Cx hP 0
    go_upto_region 7 with(fail)
    have kd:Aa No w1 w1.drew:=(Aa.refl No w1).drew
    have hb1:=k0.heap hb id
    have hb1d:=kd.heap hb1 id
    have hPd:=kd.heap hP id
    have HO1:=Hx (HDO.out _ (k0.trans kd))
    have HW1:=Hx (fun W'=>HW.out _ W' (Dc.doX s.tx o) (Dc.E4 s.tx o) (k0.trans kd))
    clear hP hb1 HDO HW p0
    refine wp_region_held_drew (S:=fun W=>W.cell? ⟨b,2,none⟩=some (.pointer (some ⟨bx,0,none⟩))∧W.heap[P]? =some (.cells (As o cv) 29 (0,0))) Rx ⟨Cx hb1d 2,hPd⟩ (fun HS5=>?_)
    generalize w1.drew=w1d at kd hb1d hPd HO1 HW1 HS5⊢
    refine Tx 0 ?_ ?_ ?_
    rotate_left
    focus
     intro wH hSw
     try simp only[Gx]
     try dsimp only at hSw
     go_simp
     try with_reducible rfl
    try simp only[Gx,Act.put,Sx]
    refine Tx 1 ?_ ?_ ?_
    rotate_left
    focus
     intro wH hSw
     try simp only[Gx]
     try dsimp only at hSw
     go_simp
     try with_reducible rfl
    try simp only[Gx,Act.put,Sx]
    refine Tx 2 ?_ ?_ ?_
    rotate_left
    focus
     intro wH hSw
     try simp only[Gx]
     try dsimp only at hSw
     go_simp
     try with_reducible rfl
    try simp only[Gx,Act.put,Sx]
    refine Tx 3 ?_ ?_ ?_
    rotate_left
    focus
     intro wH hSw
     try simp only[Gx]
     try dsimp only at hSw
     go_simp
     try with_reducible rfl
    try simp only[Gx,Act.put,Sx]
    refine wpAnyH_take (i:=4) (v:= .agg (As o cv)) rfl Rx Rx Rx (fun _ _ _ h=>h) (BA rfl _ _ rfl P _ 29 _ rfl (fun W h=>h.2) Tryz.underlying29 rfl Rx) HS5 ?_
    simp only[Gx,Act.put,Sx]
    refine wpAnyH_ready (rs:=[5]) Rx (by simp) ?_
    refine AllReadyH.cons rfl (fun K hK=>?_) ?_
    try simp only[Gx]at hK⊢
    rotate_left
    exact AllReadyH.nil
    go_simp
    go_at_call 109
    (with_reducible refine HO1.out.mono ?_)
    rintro e w2 ⟨rfl,g1,g2⟩
    obtain⟨k2,q1,q2⟩:=HW1.out w2 g1 g2
    have HFIN:=Hx (HF.out w2 q1 q2)
    refine hK.out _ _ ⟨Cx (k2.heap hb1d (fun e=>HB.out e.1)) 2,k2.heap hPd (fun e=>by have:=HLT.out _ e.1;omega)⟩ (fun HS6=>?_)
    clear hK
    try simp only[Act.put,Sx]
    refine Tx 6 ?_ ?_ ?_
    rotate_left
    focus
     intro wH hSw
     try simp only[Gx]
     try dsimp only at hSw
     go_simp
     try with_reducible rfl
    try simp only[Gx,Act.put,Sx]
    refine wpAnyH_done Rx ?_ _
    go_wp2_with fail
    exact HFIN.out
   ·have b3:(o.kind==3)=false:=by simp[h5]
    have b5:(o.kind==5)=true:=by simp[h5]
    clear h1 h5
    go_enter Tryz.func68,Tryz.ntmps68
    go_upto_region 1 with(fail)
    have k0:Aa No w (w.alloc (.cells (As o cv) 29)):=(Aa.refl No w).alloc _
    have hP:=Nx w (.cells (As o cv) 29)
    generalize w.alloc (.cells (As o cv) 29)=w1 at k0 hP⊢
    obtain⟨P,eP⟩:∃P,P=w.heap.size:=⟨_,rfl⟩
    rw[←eP]at hP⊢
    have hPw:w.heap.size≤P:=by omega
    clear eP
    have p0:=Cx hP 0
    go_upto_region 7 with(fail)
    have kd:Aa No w1 w1.drew:=(Aa.refl No w1).drew
    have hb1:=k0.heap hb id
    have hb1d:=kd.heap hb1 id
    have hPd:=kd.heap hP id
    have HO1:=Hx (HDO.out _ (k0.trans kd))
    have HW1:=Hx (fun W'=>HW.out _ W' (Dc.doX s.tx o) (Dc.E4 s.tx o) (k0.trans kd))
    clear hP hb1 HDO HW p0
    refine wp_region_held_drew (S:=fun W=>W.cell? ⟨b,2,none⟩=some (.pointer (some ⟨bx,0,none⟩))∧W.heap[P]? =some (.cells (As o cv) 29 (0,0))) Rx ⟨Cx hb1d 2,hPd⟩ (fun HS5=>?_)
    generalize w1.drew=w1d at kd hb1d hPd HO1 HW1 HS5⊢
    refine Tx 0 ?_ ?_ ?_
    rotate_left
    focus
     intro wH hSw
     try simp only[Gx]
     try dsimp only at hSw
     go_simp
     try with_reducible rfl
    try simp only[Gx,Act.put,Sx]
    refine Tx 1 ?_ ?_ ?_
    rotate_left
    focus
     intro wH hSw
     try simp only[Gx]
     try dsimp only at hSw
     go_simp
     try with_reducible rfl
    try simp only[Gx,Act.put,Sx]
    refine Tx 2 ?_ ?_ ?_
    rotate_left
    focus
     intro wH hSw
     try simp only[Gx]
     try dsimp only at hSw
     go_simp
     try with_reducible rfl
    try simp only[Gx,Act.put,Sx]
    refine Tx 3 ?_ ?_ ?_
    rotate_left
    focus
     intro wH hSw
     try simp only[Gx]
     try dsimp only at hSw
     go_simp
     try with_reducible rfl
    try simp only[Gx,Act.put,Sx]
    refine wpAnyH_take (i:=4) (v:= .agg (As o cv)) rfl Rx Rx Rx (fun _ _ _ h=>h) (BA rfl _ _ rfl P _ 29 _ rfl (fun W h=>h.2) Tryz.underlying29 rfl Rx) HS5 ?_
    simp only[Gx,Act.put,Sx]
    refine wpAnyH_ready (rs:=[5]) Rx (by simp) ?_
    refine AllReadyH.cons rfl (fun K hK=>?_) ?_
    try simp only[Gx]at hK⊢
    rotate_left
    exact AllReadyH.nil
    go_simp
    go_at_call 109
    (with_reducible refine HO1.out.mono ?_)
    rintro e w2 ⟨rfl,g1,g2⟩
    obtain⟨k2,q1,q2⟩:=HW1.out w2 g1 g2
    have HFIN:=Hx (HF.out w2 q1 q2)
    refine hK.out _ _ ⟨Cx (k2.heap hb1d (fun e=>HB.out e.1)) 2,k2.heap hPd (fun e=>by have:=HLT.out _ e.1;omega)⟩ (fun HS6=>?_)
    clear hK
    try simp only[Act.put,Sx]
    refine Tx 6 ?_ ?_ ?_
    rotate_left
    focus
     intro wH hSw
     try simp only[Gx]
     try dsimp only at hSw
     go_simp
     try with_reducible rfl
    try simp only[Gx,Act.put,Sx]
    refine wpAnyH_done Rx ?_ _
    go_wp2_with fail
    exact HFIN.out
   ·have b3:(o.kind==3)=false:=by simp[h4]
    have b5:(o.kind==5)=false:=by simp[h4]
    have b4:(o.kind==4)=true:=by simp[h4]
    clear h1 h4
    go_enter Tryz.func68,Tryz.ntmps68
    go_upto_region 1 with(fail)
    have k0:Aa No w (w.alloc (.cells (As o cv) 29)):=(Aa.refl No w).alloc _
    have hP:=Nx w (.cells (As o cv) 29)
    generalize w.alloc (.cells (As o cv) 29)=w1 at k0 hP⊢
    obtain⟨P,eP⟩:∃P,P=w.heap.size:=⟨_,rfl⟩
    rw[←eP]at hP⊢
    have hPw:w.heap.size≤P:=by omega
    clear eP
    have p0:=Cx hP 0
    go_upto_region 7 with(fail)
    have kd:Aa No w1 w1.drew:=(Aa.refl No w1).drew
    have hb1:=k0.heap hb id
    have hb1d:=kd.heap hb1 id
    have hPd:=kd.heap hP id
    have HO1:=Hx (HDO.out _ (k0.trans kd))
    have HW1:=Hx (fun W'=>HW.out _ W' (Dc.doX s.tx o) (Dc.E4 s.tx o) (k0.trans kd))
    clear hP hb1 HDO HW p0
    refine wp_region_held_drew (S:=fun W=>W.cell? ⟨b,2,none⟩=some (.pointer (some ⟨bx,0,none⟩))∧W.heap[P]? =some (.cells (As o cv) 29 (0,0))) Rx ⟨Cx hb1d 2,hPd⟩ (fun HS5=>?_)
    generalize w1.drew=w1d at kd hb1d hPd HO1 HW1 HS5⊢
    refine Tx 0 ?_ ?_ ?_
    rotate_left
    focus
     intro wH hSw
     try simp only[Gx]
     try dsimp only at hSw
     go_simp
     try with_reducible rfl
    try simp only[Gx,Act.put,Sx]
    refine Tx 1 ?_ ?_ ?_
    rotate_left
    focus
     intro wH hSw
     try simp only[Gx]
     try dsimp only at hSw
     go_simp
     try with_reducible rfl
    try simp only[Gx,Act.put,Sx]
    refine Tx 2 ?_ ?_ ?_
    rotate_left
    focus
     intro wH hSw
     try simp only[Gx]
     try dsimp only at hSw
     go_simp
     try with_reducible rfl
    try simp only[Gx,Act.put,Sx]
    refine Tx 3 ?_ ?_ ?_
    rotate_left
    focus
     intro wH hSw
     try simp only[Gx]
     try dsimp only at hSw
     go_simp
     try with_reducible rfl
    try simp only[Gx,Act.put,Sx]
    refine wpAnyH_take (i:=4) (v:= .agg (As o cv)) rfl Rx Rx Rx (fun _ _ _ h=>h) (BA rfl _ _ rfl P _ 29 _ rfl (fun W h=>h.2) Tryz.underlying29 rfl Rx) HS5 ?_
    simp only[Gx,Act.put,Sx]
    refine wpAnyH_ready (rs:=[5]) Rx (by simp) ?_
    refine AllReadyH.cons rfl (fun K hK=>?_) ?_
    try simp only[Gx]at hK⊢
    rotate_left
    exact AllReadyH.nil
    go_simp
    go_at_call 109
    (with_reducible refine HO1.out.mono ?_)
    rintro e w2 ⟨rfl,g1,g2⟩
    obtain⟨k2,q1,q2⟩:=HW1.out w2 g1 g2
    have HFIN:=Hx (HF.out w2 q1 q2)
    refine hK.out _ _ ⟨Cx (k2.heap hb1d (fun e=>HB.out e.1)) 2,k2.heap hPd (fun e=>by have:=HLT.out _ e.1;omega)⟩ (fun HS6=>?_)
    clear hK
    try simp only[Act.put,Sx]
    refine Tx 6 ?_ ?_ ?_
    rotate_left
    focus
     intro wH hSw
     try simp only[Gx]
     try dsimp only at hSw
     go_simp
     try with_reducible rfl
    try simp only[Gx,Act.put,Sx]
    refine wpAnyH_done Rx ?_ _
    go_wp2_with fail
    exact HFIN.out
  ·have he:=HWE.out
   have hd:=HWX.out
   rw[Ae h1,Ae hw]at he hd
   have HF:Hid (∀W',Aa No w W'→post (.returned (.int .i64 0)) W'):=Hx fun W' k=>HPOST.out _ _ _ _ he.symm hd.symm rfl (fun e=>absurd rfl e) (fun _=>⟨HK0.out W' k,k.any⟩)
   have b1:(o.kind==1)=false:=by simp[h1]
   have b3:(o.kind==3)=false:=by simp;omega
   have b5:(o.kind==5)=false:=by simp;omega
   have b4:(o.kind==4)=false:=by simp;omega
   clear h1 hw he hd HWE HWX HPOST HDO HOP HK0 HW
   go_enter Tryz.func68,Tryz.ntmps68
   go_upto_region 1 with(fail)
   have k0:Aa No w (w.alloc (.cells (As o cv) 29)):=(Aa.refl No w).alloc _
   have hP:=Nx w (.cells (As o cv) 29)
   generalize w.alloc (.cells (As o cv) 29)=w1 at k0 hP⊢
   obtain⟨P,eP⟩:∃P,P=w.heap.size:=⟨_,rfl⟩
   rw[←eP]at hP⊢
   have hPw:w.heap.size≤P:=by omega
   clear eP
   have p0:=Cx hP 0
   go_wp2_with fail
   exact HF.out _ k0
end Go.Proofs.YthfjefcljeamgaaGreatDoor
