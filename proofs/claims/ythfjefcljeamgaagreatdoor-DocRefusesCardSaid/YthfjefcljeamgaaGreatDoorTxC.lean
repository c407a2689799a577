/- The texts of blocks: an op's characters join a text. -/
import Derived.Test.YthfjefcljeamgaaGreatDoorTxB
namespace Go.Proofs.YthfjefcljeamgaaGreatDoor
set_option maxRecDepth 100000
set_option maxHeartbeats 4000000
open Go.RowKit
attribute [local go_sem ↓] Go.wp_at_zero Go.wp_at_succ
def GN(F:Nat→Prop)(b:Nat)(x:Dc.TX)(o:Dc.Op)(w:World)(e:Ending)(w':World):Prop:=
 e= .returned (.int .i64 (Dc.FG x o))∧(Dc.FG x o≠0→Aa No w w')∧(Dc.FG x o=0→Bg (Bv F w) b (Dc.LI x o) w'∧Aa (fun g=>F g∧g<w.heap.size) w w')
/-- the map of what was made is another one -/
theorem Bg.turnMade{F:Nat→Prop}{b:Nat}{x:Dc.TX}{w:World}(h:Bg F b x w):∃bt bm,w.heap[b]? =some (.cells #[.map (some bt),.map (some bm)] 135 (0,0))∧A8 idV Fp bm x.made w∧F bm∧bm<w.heap.size∧
  ∀m' w',Aa (At1 bm) w w'→A8 idV Fp bm m' w'→Bg F b ⟨x.texts,m'⟩ w':=by
 obtain⟨lab,bt,bm,tv,h1,h2,h3,h4,h5,h6,h7,h8,h9⟩:=h
 have hm:=h1 bm (by rw[h8];simp)
 refine⟨bt,bm,h2,h9,hm.1,hm.2,fun m' w' kk hm'=>⟨lab,bt,bm,tv,fun k hk=>⟨(h1 k hk).1,AK (h1 k hk).2 kk.size⟩,kk.heap h2 fun e=>?_,h3,h4,h5.keeps kk fun e=>?_,h6,fun seg k t e1 e2=>(h7 seg k t e1 e2).keeps kk fun g hg e=>?_,h8,hm'⟩⟩
 ·unfold At1 at e;rw[e,h8]at h3;cases h3
 ·unfold At1 at e;rw[e,h8]at h4;cases h4
 ·unfold At1 at e;rw[e,h8]at hg;cases hg
theorem VC{x:Dc.TX}{n:Nat}(hx:Dc.DT x n){o:Dc.Op}(hok:o.ok=true)(hs:0<o.size):
  Dc.FG x o=if(x.texts o.id).isSome=true∨(x.made o.id).isSome=true then 12 else match x.texts o.seg with
   |none=>13
   |some t=>if t.nodes o.left=none∨t.nodes o.right=none then 13 else 0:=by
 unfold Dc.FG
 split
 ·rfl
 ·rename_i hne
  cases ht:x.texts o.seg with
  |none=>rfl
  |some t=>
   simp only
   unfold Dc.PD
   rw[Ae (by simp[hok];omega),Ae]
   ·simp only[Option.isNone_iff_eq_none]
   ·intro e
    have h1:=(hx.chars _ t ⟨o.id,0⟩ ht).1 (by intro e2;rw[e2]at e;cases e)
    rcases h1 with h1|⟨s,h1,_⟩
    ·exact Dc.QH hok (congrArg Dc.Chr.op h1)
    ·exact hne (.inr (by rw[h1];rfl))
theorem OX{F:Nat→Prop}{b:Nat}{x:Dc.TX}{w:World}(h:Bg F b x w)(hE:Env w){n:Nat}(hx:Dc.DT x n)(hn:n≤15000)(hfull:∀seg t,x.texts seg=some t→Dc.Dm t)(o:Dc.Op)(cv:Value)(hcv:BI 4 AD cv o.cuts w)(hcz:o.cuts.length≤1000000)(hok:o.ok=true)(hs:0<o.size)(hsz:o.text.length≤1000000000):
  Calls Tryz.prog 163 #[.pointer (some ⟨b,0,none⟩),opV o cv] w (GN F b x o w):=by
 have HX:=Hx h
 have herr:=VC hx hok hs
 obtain⟨lab,bt,bm,tv,h1,h2,h3,h4,h5,h6,h7,h8,h9⟩:=h
 have HLT:=Hx (fun W (k:Aa No w W)=>FB (h5.keeps k id) o.id.R o.id.N)
 have HLM:=Hx (fun W (k:Aa No w W)=>IX (h9.keeps k id) o.id.R o.id.N true)
 have HLS:=Hx (fun W (k:Aa No w W)=>FB (h5.keeps k id) o.seg.R o.seg.N)
 have HB:=Hx h2
 have e1:(tv ⟨o.id.R,o.id.N⟩).isSome=(x.texts o.id).isSome:=h6 _
 have e2:(tv ⟨o.seg.R,o.seg.N⟩).isSome=(x.texts o.seg).isSome:=h6 _
 rw[e1]at HLT
 rw[e2]at HLS
 simp only[if_true]at HLM
 obtain⟨p1,hp1⟩:∃p,p=D5 (tv ⟨o.id.R,o.id.N⟩):=⟨_,rfl⟩
 obtain⟨p2,hp2⟩:∃p,p=D5 (tv ⟨o.seg.R,o.seg.N⟩):=⟨_,rfl⟩
 obtain⟨ok1,hok1⟩:∃ok,ok=(x.texts o.id).isSome:=⟨_,rfl⟩
 obtain⟨ok2,hok2⟩:∃ok,ok=(x.made o.id).isSome:=⟨_,rfl⟩
 obtain⟨ok3,hok3⟩:∃ok,ok=(x.texts o.seg).isSome:=⟨_,rfl⟩
 have hmm:(x.made ⟨o.id.R,o.id.N⟩)=x.made o.id:=rfl
 rw[hmm]at HLM
 rw[←hp1,←hok1]at HLT
 rw[←hp2,←hok3]at HLS
 rw[←hok2]at HLM
 rw[←hok1,←hok2]at herr
 obtain⟨⟨⟨sR,sN⟩,ssz,mk⟩,hsrc⟩:∃src,src=(x.made o.id).getD .z:=⟨_,rfl⟩
 rw[←hsrc]at HLM
 have HTURN:Hid (∀W W' t' kt,Aa No w W→tv o.seg=some kt→Aa (fun g=>lab g=some (.text o.seg)) W W'→Dx (Bv (fun g=>lab g=some (.text o.seg)) W) kt t' W'→Bg (Bv F W) b ⟨Dc.EF x.texts o.seg t',x.made⟩ W'∧W'.heap[b]? =some (.cells #[.map (some bt),.map (some bm)] 135 (0,0))):=Hx fun W W' t' kt k htv kk hy=>
  ⟨Bg.turn (fun g hg=>⟨(h1 g hg).1,AK (h1 g hg).2 k.size⟩) (k.heap h2 id) h3 h4 h6 (fun s k2 t e1 e2=>(h7 s k2 t e1 e2).no k) h8 (h9.keeps k id) (kk.mono fun y hy _=> .inl hy) ((h5.keeps k id).keeps kk (by rw[h4];simp)) htv (fun _ _=>rfl) hy,
   kk.heap (k.heap h2 id) (by rw[h3];simp)⟩
 have HLAB:Hid (∀g,lab g=some (.text o.seg)→F g∧g<w.heap.size):=Hx fun g hg=>h1 g (by rw[hg];simp)
 have HP2:=Hx hp2
 have HOK3:=Hx hok3
 have HOK2:=Hx hok2
 have HTV:Hid ((tv ⟨o.seg.R,o.seg.N⟩).isSome=(x.texts o.seg).isSome):=Hx e2
 have HERR:=Hx herr
 have H7:=Hx h7
 clear h1 h2 h3 h4 h5 h6 h7 h8 h9 e1 e2 hmm hsrc hp1 hp2 hok1 hok2 hok3 herr
 go_enter Tryz.func163,Tryz.ntmps163
 go_upto_region 1 with(fail)
 have k0:Aa No w (w.alloc (.cells (As o cv) 29)):=(Aa.refl No w).alloc _
 have hP:=Nx w (.cells (As o cv) 29)
 generalize w.alloc (.cells (As o cv) 29)=w1 at k0 hP⊢
 obtain⟨P,eP⟩:∃P,P=w.heap.size:=⟨_,rfl⟩
 rw[←eP]at hP⊢
 have hPw:w.heap.size≤P:=by omega
 clear eP
 have z1:=Ex (Cx (k0.heap HB.out id) 0)
 have z2:=Ex (Cx hP 1)
 have z3:=Ex (Cx hP 2)
 have lk:=fun d os=>HLT.out _ (k0.trans (Ag w1 d os))
 refine wp_region_quiet_below Rx Rx ?_
 repeat(quiet_step(fail))
 refine wpQuiet_nil ?_
 intro _ hw'
 obtain⟨⟨dq,osq⟩,hw''⟩:=hw'
 subst hw''
 have k2:Aa No w1 (Sort.grow (redrawn w1 dq) osq):=Ag w1 dq osq
 clear z1 z2 z3 lk
 generalize Sort.grow (redrawn w1 dq) osq=w2 at k2⊢
 have hP2:=k2.heap hP id
 have kw2:=k0.trans k2
 clear hP
 go_upto_region 2 with(fail)
 have hb2:=kw2.heap HB.out id
 have kd:Aa No w2 w2.drew:=(Aa.refl No w2).drew
 have HSA:Hid (∀W:World,Aa No w2 W→W.cell? ⟨b,1,none⟩=some (.map (some bm))∧W.cell? ⟨P,1,none⟩=some (.int .i64 o.id.R)∧W.cell? ⟨P,2,none⟩=some (.int .i64 o.id.N)):=Hx fun W k=>
  ⟨Cx (k.heap hb2 id) 1,Cx (k.heap hP2 id) 1,Cx (k.heap hP2 id) 2⟩
 have lk:=HLM.out _ (kw2.trans kd)
 have lk2:=HLM.out _ ((kw2.alloc (.cells #[.int .i64 0,.int .i64 0,.int .i64 0,.bool false] 251)).drew)
 go_cut[8] (fun s8 wx=>s8= .bool ok2∧Aa No w2 wx)
 case first=>
  go_region_held3(fun W=>W.cell? ⟨b,1,none⟩=some (.map (some bm))∧W.cell? ⟨P,1,none⟩=some (.int .i64 o.id.R)∧W.cell? ⟨P,2,none⟩=some (.int .i64 o.id.N))
   (first|exact HSA.out _ Kx)
   (first|fail)
  all_goals
   go_wp2_with fail
   go_meet
   exact⟨rfl,Kx⟩
 case rest=>
  obtain⟨rfl,k3⟩:=hcut
  obtain⟨w3,hw3⟩:∃y,y=wc:=⟨_,rfl⟩
  subst hw3
  have kw3:=kw2.trans k3
  have hP3:=k3.heap hP2 id
  clear hP2 hb2 lk lk2
  go_upto_region 3 with(fail)
  have z1:=Ex (Cx (kw3.heap HB.out id) 0)
  have z2:=Ex (Cx hP3 9)
  have z3:=Ex (Cx hP3 10)
  have lk:=fun d os=>HLS.out _ (kw3.trans (Ag w3 d os))
  refine wp_region_quiet_below Rx Rx ?_
  repeat(quiet_step(fail))
  refine wpQuiet_nil ?_
  intro _ hw'
  obtain⟨⟨dq,osq⟩,hw''⟩:=hw'
  subst hw''
  have k4:Aa No w3 (Sort.grow (redrawn w3 dq) osq):=Ag w3 dq osq
  clear z1 z2 z3 lk
  generalize Sort.grow (redrawn w3 dq) osq=w4 at k4⊢
  have hP4:=k4.heap hP3 id
  have kw4:=kw3.trans k4
  clear hP3
  by_cases h12:ok1=true∨ok2=true
  ·have he:=HERR.out
   rw[Ak h12]at he
   have HQ:Hid (GN F b x o w (.returned (.int .i64 12)) w4):=Hx ⟨by rw[he],fun _=>kw4,fun e=>by rw[he]at e;cases e⟩
   clear he HLT HLM HLS
   cases ok1
   ·obtain rfl:ok2=true:=by simpa using h12
    clear h12
    go_wp2_with fail
    go_ret
    exact HQ.out
   ·clear h12
    cases ok2
    all_goals
     go_wp2_with fail
     go_ret
     exact HQ.out
  ·obtain⟨rfl,rfl⟩:ok1=false∧ok2=false:=by
    cases ok1<;>cases ok2<;>simp_all
   clear h12
   cases ok3 with
   |false=>
    have ht:x.texts o.seg=none:=by
     have:=HOK3.out
     cases h:x.texts o.seg with
     |none=>rfl
     |some t=>rw[h]at this;cases this
    have he:=HERR.out
    rw[Ae (by simp),ht]at he
    have HQ:Hid (GN F b x o w (.returned (.int .i64 13)) w4):=Hx ⟨by rw[he],fun _=>kw4,fun e=>by rw[he]at e;cases e⟩
    clear he ht HLT HLM HLS
    go_wp2_with fail
    go_ret
    exact HQ.out
   |true=>
    obtain⟨t,ht⟩:∃t,x.texts o.seg=some t:=D8.1 HOK3.out.symm
    obtain⟨kt,hkt⟩:∃kt,tv ⟨o.seg.R,o.seg.N⟩=some kt:=by
     cases h:tv ⟨o.seg.R,o.seg.N⟩with
     |none=>have:=HTV.out;rw[h,ht]at this;cases this
     |some k=>exact⟨k,rfl⟩
    have hp:=HP2.out
    rw[hkt]at hp
    obtain rfl:p2= .pointer (some ⟨kt,0,none⟩):=hp
    have hY:=(H7.out o.seg kt t hkt ht).no kw4
    have hE4:=hE.no kw4
    have hcv4:=hcv.no kw4
    obtain⟨rk,hnd⟩:=hx.nodes _ t ht
    have hro:=hx.row _ t ht
    have hmade:x.made o.id=none:=by
     cases h:x.made o.id with
     |none=>rfl
     |some s=>have:=HOK2.out;rw[h]at this;cases this
    have hf:∀c:Dc.Chr,c.op=o.id→t.nodes c=none:=fun c hc=>by
     cases hcn:t.nodes c with
     |none=>rfl
     |some m=>
      rcases(hx.chars _ t c ht).1 (by rw[hcn];simp)with e|⟨s,e,_⟩
      ·exact absurd (by rw[←hc,e];rfl) (Dc.QH hok)
      ·rw[hc,hmade]at e;cases e
    have hsize:=Dc.O7 hok
    by_cases hlr:t.nodes o.left=none∨t.nodes o.right=none
    ·have he:=HERR.out
     rw[Ae (by simp),ht]at he
     simp only at he
     rw[Ak hlr]at he
     have HQ:Hid (∀w5,Aa No w4 w5→GN F b x o w (.returned (.int .i64 13)) w5):=Hx fun w5 k5=>⟨by rw[he],fun _=>kw4.trans k5,fun e=>by rw[he]at e;cases e⟩
     have HI:=Hx (Nz hY hE4 o cv hcv4 hsz hcz hok hs (hf _ rfl) hlr)
     clear he HLT HLM HLS ht hkt hY hE4 hcv4 hnd hro hmade hf hlr hsize
     go_wp2_with(first
      |(refine An rfl 29 _ rfl P _ 29 _ rfl hP4 Tryz.underlying29 rfl Rx ?_)
      |(go_at_call 220;(with_reducible refine HI.out.mono ?_);rintro e w5 ⟨rfl,k5⟩))
     go_ret
     exact HQ.out _ k5
    ·have hl:t.nodes o.left≠none:=fun e=>hlr (.inl e)
     have hr:t.nodes o.right≠none:=fun e=>hlr (.inr e)
     have he:=HERR.out
     rw[Ae (by simp),ht]at he
     simp only at he
     rw[Ae hlr]at he
     have hix:Dc.LI x o=⟨Dc.EF x.texts o.seg (Dc.Gv t o),Dc.Mc x.made o.id ⟨o.seg,o.size,decide (o.kind=5)⟩⟩:=by unfold Dc.LI;rw[ht]
     have HQ:Hid (∀w6,Bg (Bv F w) b (Dc.LI x o) w6→Aa (fun g=>F g∧g<w.heap.size) w w6→GN F b x o w (.returned (.int .i64 0)) w6):=Hx fun w6 h6 k6=>⟨by rw[he],fun e=>absurd he e,fun _=>⟨h6,k6⟩⟩
     rw[hix]at HQ
     have HI:=Hx (Ny hY hE4 hnd (by omega) ⟨hro.1,by omega⟩ (hfull _ t ht) o cv hcv4 hsz hcz hok hs (by omega) hf hl hr)
     have HKT:=Hx hkt
     obtain⟨ty,hty⟩:∃ty,ty=Dc.Gv t o:=⟨_,rfl⟩
     rw[←hty]at HI HQ
     obtain⟨sz,hsz'⟩:∃sz,sz=o.size:=⟨_,rfl⟩
     rw[←hsz']at HQ
     have HZ:Hid (∀W,Calls Tryz.prog 162 #[opV o cv] W fun e w'=>e= .returned (.int .i64 (sz:Nat))∧Aa No W w'):=Hx (hsz'▸fun W=>JP o cv W)
     clear he hix HLT HLM HLS ht hkt hY hE4 hcv4 hnd hro hmade hf hlr hsize hl hr hty hsz' hx hE hcv hok hs
     go_upto_region 11 with(first
      |(refine An rfl 29 _ rfl P _ 29 _ rfl hP4 Tryz.underlying29 rfl Rx ?_)
      |(go_at_call 220;(with_reducible refine HI.out.mono ?_);rintro e w5 ⟨rfl,hY5,k5⟩))
     have hP5:=k5.heap hP4 (fun e=>by have:=(HLAB.out P e.1).2;omega)
     have k5':Aa (fun g=>lab g=some (.text o.seg)) w4 w5:=k5.mono fun y hy _=>hy.1
     obtain⟨hT5,hb5⟩:=HTURN.out w4 w5 ty kt kw4 HKT.out k5' hY5
     obtain⟨bt',bm',hb5',hm5,hF5,hlt5,hTM⟩:=hT5.turnMade
     obtain⟨e1,e2⟩:bt'=bt∧bm'=bm:=by
      rw[hb5]at hb5'
      simp only[AZ,Obj.cells.injEq,Array.mk.injEq,List.cons.injEq,Value.map.injEq,DX]at hb5'
      exact⟨hb5'.1.symm,hb5'.2.symm⟩
     subst e1 e2
     have HTM:=Hx hTM
     have HM5:=Hx hm5
     have HF5:=Hx hF5
     have kw5:Aa (fun g=>F g∧g<w.heap.size) w w5:=kw4.any.step k5' fun y hy _=>HLAB.out y hy
     clear hTM hm5 hb5' hT5 hF5 hP4 hY5
     have kd:Aa No w5 w5.drew:=(Aa.refl No w5).drew
     have HSA:Hid (∀W:World,W.heap[b]? =w5.heap[b]? →W.heap[P]? =w5.heap[P]? →W.cell? ⟨b,1,none⟩=some (.map (some bm'))∧W.cell? ⟨P,0,none⟩=some (.int .i64 o.kind)∧W.cell? ⟨P,1,none⟩=some (.int .i64 o.id.R)∧W.cell? ⟨P,2,none⟩=some (.int .i64 o.id.N)∧W.cell? ⟨P,9,none⟩=some (.int .i64 o.seg.R)∧W.cell? ⟨P,10,none⟩=some (.int .i64 o.seg.N)):=Hx fun W e1 e2=>
      ⟨Cx (e1.trans hb5) 1,Cx (e2.trans hP5) 0,Cx (e2.trans hP5) 1,Cx (e2.trans hP5) 2,Cx (e2.trans hP5) 9,Cx (e2.trans hP5) 10⟩
     have hbl:=Ao hb5
     have hPl:=Ao hP5
     have hmb:bm'≠b:=AA HM5.out hb5
     have hmP:bm'≠P:=AA HM5.out hP5
     refine wp_region_held_drew (S:=fun W=>(W.cell? ⟨b,1,none⟩=some (.map (some bm'))∧W.cell? ⟨P,0,none⟩=some (.int .i64 o.kind)∧W.cell? ⟨P,1,none⟩=some (.int .i64 o.id.R)∧W.cell? ⟨P,2,none⟩=some (.int .i64 o.id.N)∧W.cell? ⟨P,9,none⟩=some (.int .i64 o.seg.R)∧W.cell? ⟨P,10,none⟩=some (.int .i64 o.seg.N))∧W.heap[P]? =w5.heap[P]?) Rx ⟨HSA.out _ (kd.block b hbl id) (kd.block P hPl id),kd.block P hPl id⟩ (fun HS5=>?_)
     generalize w5.drew=w5d at kd HS5⊢
     refine Tx 0 ?_ ?_ ?_
     rotate_left
     focus
      intro wH hSw
      try simp only[Gx]
      try dsimp only at hSw
      go_simp
      try with_reducible rfl
     try simp only[Gx,Act.put,Sx]
     refine Tx 1 ?_ ?_ ?_
     rotate_left
     focus
      intro wH hSw
      try simp only[Gx]
      try dsimp only at hSw
      go_simp
      try with_reducible rfl
     try simp only[Gx,Act.put,Sx]
     refine Tx 2 ?_ ?_ ?_
     rotate_left
     focus
      intro wH hSw
      try simp only[Gx]
      try dsimp only at hSw
      go_simp
      try with_reducible rfl
     try simp only[Gx,Act.put,Sx]
     refine Tx 3 ?_ ?_ ?_
     rotate_left
     focus
      intro wH hSw
      try simp only[Gx]
      try dsimp only at hSw
      go_simp
      try with_reducible rfl
     try simp only[Gx,Act.put,Sx]
     refine Tx 4 ?_ ?_ ?_
     rotate_left
     focus
      intro wH hSw
      try simp only[Gx]
      try dsimp only at hSw
      go_simp
      try with_reducible rfl
     try simp only[Gx,Act.put,Sx]
     refine Tx 5 ?_ ?_ ?_
     rotate_left
     focus
      intro wH hSw
      try simp only[Gx]
      try dsimp only at hSw
      go_simp
      try with_reducible rfl
     try simp only[Gx,Act.put,Sx]
     refine Tx 6 ?_ ?_ ?_
     rotate_left
     focus
      intro wH hSw
      try simp only[Gx]
      try dsimp only at hSw
      go_simp
      try with_reducible rfl
     try simp only[Gx,Act.put,Sx]
     refine Tx 7 ?_ ?_ ?_
     rotate_left
     focus
      intro wH hSw
      try simp only[Gx]
      try dsimp only at hSw
      go_simp
      try with_reducible rfl
     try simp only[Gx,Act.put,Sx]
     refine wpAnyH_take (i:=8) (v:= .agg (As o cv)) rfl Rx Rx Rx (fun _ _ _ h=>h) (BA rfl _ _ rfl P _ 29 _ rfl (fun W h=>h.2.trans hP5) Tryz.underlying29 rfl Rx) HS5 ?_
     simp only[Gx,Act.put,Sx]
     refine Tx 10 ?_ ?_ ?_
     rotate_left
     focus
      intro wH hSw
      try simp only[Gx]
      try dsimp only at hSw
      go_simp
      try with_reducible rfl
     try simp only[Gx,Act.put,Sx]
     refine Tx 11 ?_ ?_ ?_
     rotate_left
     focus
      intro wH hSw
      try simp only[Gx]
      try dsimp only at hSw
      go_simp
      try with_reducible rfl
     try simp only[Gx,Act.put,Sx]
     refine Tx 12 ?_ ?_ ?_
     rotate_left
     focus
      intro wH hSw
      try simp only[Gx]
      try dsimp only at hSw
      go_simp
      try with_reducible rfl
     try simp only[Gx,Act.put,Sx]
     refine wpAnyH_ready (rs:=[9]) Rx (by simp) ?_
     refine AllReadyH.cons rfl (fun K hK=>?_) ?_
     try simp only[Gx]at hK⊢
     rotate_left
     exact AllReadyH.nil
     go_simp
     go_at_call 162
     (with_reducible refine(HZ.out _).mono ?_)
     rintro e w6 ⟨rfl,k6⟩
     have k56:=kd.trans k6
     refine hK.out _ _ ⟨HSA.out _ (k56.block b hbl id) (k56.block P hPl id),k56.block P hPl id⟩ (fun HS6=>?_)
     clear hK
     try simp only[Act.put,Sx]
     refine Tx 13 ?_ ?_ ?_
     rotate_left
     focus
      intro wH hSw
      try simp only[Gx]
      try dsimp only at hSw
      go_simp
      try with_reducible rfl
     try simp only[Gx,Act.put,Sx]
     obtain⟨w7,hrun0,hm7,k7,hs7⟩:=(HM5.out.keeps k56 id).put Eh Tryz.underlying133 o.id ⟨o.seg,sz,decide (o.kind=5)⟩
     clear hs7
     have hrun:(Instr.mapUpdate 133 (.map (some bm')) (.agg #[.int .i64 o.id.R,.int .i64 o.id.N]) (.agg #[.int .i64 o.seg.R,.int .i64 o.seg.N,.int .i64 sz,.bool (o.kind==5)])).run Tryz.prog w6= .ok () w7:=hrun0
     clear hrun0
     refine wpAnyH_ready (rs:=[14]) Rx (by simp) ?_
     refine AllReadyH.cons rfl (fun K hK=>?_) ?_
     try simp only[Gx]at hK⊢
     rotate_left
     exact AllReadyH.nil
     go_simp
     refine hK.out _ _ ⟨HSA.out _ ((k7.block b (AK hbl k56.size) (Ne.symm hmb)).trans (k56.block b hbl id)) ((k7.block P (AK hPl k56.size) (Ne.symm hmP)).trans (k56.block P hPl id)),(k7.block P (AK hPl k56.size) (Ne.symm hmP)).trans (k56.block P hPl id)⟩ (fun HS7=>?_)
     clear hK hrun
     try simp only[Act.put,Sx]
     refine wpAnyH_done Rx ?_ _
     have k57:Aa (At1 bm') w5 w7:=k56.any.step k7 fun y hy _=>hy
     have hT7:=HTM.out (Dc.Mc x.made o.id ⟨o.seg,sz,decide (o.kind=5)⟩) w7 k57 hm7
     have hz4:=kw4.size
     have HFIN:=Hx (HQ.out w7 (hT7.mono fun g hg _=>hg.imp_right fun h=>by omega) (kw5.step k57 fun y hy hl=>by
      unfold At1 at hy
      subst hy
      exact⟨HF5.out.resolve_right (by omega),hl⟩))
     clear hT7 hm7
     go_wp2_with fail
     go_ret
     exact HFIN.out
end Go.Proofs.YthfjefcljeamgaaGreatDoor
