/- A text that many write at once: a character is put to its seat. -/
import Derived.Test.YthfjefcljeamgaaGreatDoorYtE
namespace Go.Proofs.YthfjefcljeamgaaGreatDoor
set_option maxRecDepth 100000
set_option maxHeartbeats 4000000
open Go.RowKit
attribute [local go_sem ↓] Go.wp_at_zero Go.wp_at_succ
theorem F4.lab{lab lab':Nat→Option Is}{w:World}{c:Dc.Chr}{k:Nat}{n:Dc.CP}(h:F4 lab w c k n)(hl:∀y,lab y≠none→lab' y=lab y):F4 lab' w c k n:=by
 obtain⟨h1,vl,vr,h2,h3,h4,h5,h6⟩:=h
 exact⟨by rw[hl k (by rw[h1];simp)];exact h1,vl,vr,h2,h3,h4,fun x hx=>by rw[hl x (by rw[h5 x hx];simp)];exact h5 x hx,fun x hx=>by rw[hl x (by rw[h6 x hx];simp)];exact h6 x hx⟩
theorem F4.keepsL{lab:Nat→Option Is}{S:Nat→Prop}{w w':World}{c:Dc.Chr}{k:Nat}{n:Dc.CP}(h:F4 lab w c k n)(kk:Aa S w w')(hn:∀g,(lab g=some (.node c)∨∃s,lab g=some (.side c s))→¬S g):F4 lab w' c k n:=by
 obtain⟨h1,vl,vr,h2,h3,h4,h5,h6⟩:=h
 exact⟨h1,vl,vr,kk.heap h2 (hn _ (.inl h1)),h3.keeps kk fun g hg=>hn g (.inr ⟨_,h5 g hg⟩),h4.keeps kk fun g hg=>hn g (.inr ⟨_,h6 g hg⟩),h5,h6⟩
def Jo(F:Nat→Prop)(b:Nat)(t:Dc.YT)(c:Dc.Chr)(s:Dc.Kv)(w:World)(e:Ending)(w':World):Prop:=
 e= .returned (.tuple #[])∧Dx (Bv F w) b ⟨t.row,Dc.sit t.nodes c s⟩ w'∧Aa (fun g=>F g∧g<w.heap.size) w w'
@[reducible] def Fz(u:Dc.Chr)(vl vr:Value):Array Value:= #[.int .i64 u.op.R,.int .i64 u.op.N,.int .i64 u.i,vl,vr]
theorem Vh{F:Nat→Prop}{lab:Nat→Option Is}{b br bn k0 K:Nat}{nv:Dc.Chr→Option Nat}{t:Dc.YT}{w w':World}{c up:Dc.Chr}{pos:Nat}{n:Dc.CP}{vl vr vn:Value}
  (hl1:∀k,lab k≠none→F k∧k<w.heap.size)(hl2:w.heap[b]? =some (.cells #[.pointer (some ⟨br,0,none⟩),.map (some bn)] 226 (0,0)))(hl3:lab b=some .self)
  (hl4:Ec (fun k=>lab k=some .row) br t.row w)(hl5:lab bn=some .nmap)(hl6:ET lab bn nv t.nodes w)
  (hn:t.nodes up=some n)(hk:nv up=some k0)(hc:t.nodes c=none)(hK:w.heap.size≤K)
  (hkk:w.heap[k0]? =some (.cells (Fz n.up vl vr) 331 (0,0)))(hvr:Aq 26 3 AE vr n.r w)
  (hlk:lab k0=some (.node up))(hol:∀x,vl.ownBlock=some x→lab x=some (.side up false))(hor:∀x,vr.ownBlock=some x→lab x=some (.side up true))
  (kk:Aa (fun g=>g=k0∨vl.ownBlock=some g∨g=bn) w w')
  (hk0:w'.heap[k0]? =some (.cells (Fz n.up vn vr) 331 (0,0)))(hvn:Aq 26 3 AE vn (Dc.Ax n.l pos c) w')
  (hon:∀g,vn.ownBlock=some g→vl.ownBlock=some g∨w.heap.size≤g)(hKn:vn.ownBlock≠some K)
  (hKc:w'.heap[K]? =some (.cells (Fz up (.slice none 0 0) (.slice none 0 0)) 331 (0,0)))
  (hm:A8 CE GQ bn (Db nv c (some K)) w'):Dx (Bv F w) b ⟨t.row,Dc.sit t.nodes c ⟨up,false,pos⟩⟩ w':=by
 have hup:up≠c:=fun e=>by rw[e,hc]at hn;cases hn
 have hold:∀y,(y=k0∨vl.ownBlock=some y∨y=bn)→lab y=some (.node up)∨lab y=some (.side up false)∨lab y=some .nmap:=fun y hy=>by
  rcases hy with rfl|hy|rfl
  ·exact .inl hlk
  ·exact .inr (.inl (hol y hy))
  ·exact .inr (.inr hl5)
 have hlab:∀y,lab y≠none→(if y=K then some (Is.node c)else if vn.ownBlock=some y then some (.side up false)else lab y)=lab y:=by
  intro y hl
  have hy:=(hl1 y hl).2
  rw[Ae (by omega)]
  by_cases e2:vn.ownBlock=some y
  ·rw[Ak e2]
   rcases hon y e2 with e3|e3
   ·exact(hol y e3).symm
   ·omega
  ·rw[Ae e2]
 have hsit:∀x,Dc.sit t.nodes c ⟨up,false,pos⟩ x=if x=c then some ⟨up,[],[]⟩else if x=up then some (n.put false pos c)else t.nodes x:=fun x=>Dc.G9 (s:=⟨up,false,pos⟩) hn x
 refine⟨fun k=>if k=K then some (.node c)else if vn.ownBlock=some k then some (.side up false)else lab k,br,bn,Db nv c (some K),?_,?_,?_,?_,?_,hm,?_,?_⟩
 ·intro k h
  simp only at h
  by_cases e1:k=K
  ·rw[e1];exact⟨.inr hK,Ao hKc⟩
  ·rw[Ae e1]at h
   by_cases e2:vn.ownBlock=some k
   ·refine⟨?_,hvn.own_lt e2⟩
    rcases hon k e2 with e3|e3
    ·exact .inl (hl1 k (by rw[hol k e3];simp)).1
    ·exact .inr e3
   ·rw[Ae e2]at h
    exact⟨.inl (hl1 k h).1,AK (hl1 k h).2 kk.size⟩
 ·refine kk.heap hl2 fun h=>?_
  rcases hold b h with h|h|h<;>rw[hl3]at h<;>cases h
 ·show(if b=K then _ else if vn.ownBlock=some b then _ else lab b)=_
  rw[hlab b (by rw[hl3];simp)];exact hl3
 ·refine Ec.mono (hl4.keeps kk fun g hg h=>?_) fun g hg=>?_
  ·rcases hold g h with h|h|h<;>rw[hg]at h<;>cases h
  ·show(if g=K then _ else if vn.ownBlock=some g then _ else lab g)=_
   rw[hlab g (by rw[hg];simp)];exact hg
 ·show(if bn=K then _ else if vn.ownBlock=some bn then _ else lab bn)=_
  rw[hlab bn (by rw[hl5];simp)];exact hl5
 ·intro x
  show _=(Dc.sit t.nodes c ⟨up,false,pos⟩ x).isSome
  rw[hsit]
  unfold Db
  by_cases e1:x=c
  ·rw[Ak e1,Ak e1];rfl
  ·rw[Ae e1,Ae e1]
   by_cases e2:x=up
   ·rw[Ak e2,e2,hk];rfl
   ·rw[Ae e2];exact hl6.2.1 x
 ·intro x k m h1 h2
  replace h2:Dc.sit t.nodes c ⟨up,false,pos⟩ x=some m:=h2
  rw[hsit]at h2
  unfold Db at h1
  by_cases e1:x=c
  ·rw[Ak e1]at h1 h2
   cases h1;cases h2
   exact⟨by show(if K=K then _ else _)=_;rw[Ak rfl,e1],.slice none 0 0,.slice none 0 0,hKc,Aq.nil,Aq.nil,fun _ e=>(by cases e),fun _ e=>(by cases e)⟩
  ·rw[Ae e1]at h1 h2
   by_cases e2:x=up
   ·rw[Ak e2]at h2
    rw[e2,hk]at h1
    cases h1;cases h2
    have hother:Aq 26 3 AE vr n.r w':=hvr.keeps kk fun g hg h=>by
     rcases hold g h with h|h|h<;>rw[hor g hg]at h<;>cases h
    refine⟨?_,vn,vr,hk0,?_⟩
    ·show(if k0=K then _ else if vn.ownBlock=some k0 then _ else lab k0)=_
     rw[hlab k0 (by rw[hlk];simp),hlk,e2]
    ·have ha:∀y,vn.ownBlock=some y→(if y=K then some (Is.node c)else if vn.ownBlock=some y then some (.side up false)else lab y)=some (.side x false):=fun y hy=>by
      rw[Ae (fun e=>hKn (by rw[hy,e])),Ak hy,e2]
     have hb2:∀y,vr.ownBlock=some y→(if y=K then some (Is.node c)else if vn.ownBlock=some y then some (.side up false)else lab y)=some (.side x true):=fun y hy=>by
      rw[hlab y (by rw[hor y hy];simp),hor y hy,e2]
     exact⟨hvn,hother,ha,hb2⟩
   ·rw[Ae e2]at h2
    have hno:=hl6.2.2 x k m h1 h2
    refine(hno.keepsL kk ?_).lab hlab
    rintro g hg h
    rcases hg with hg|⟨s,hg⟩<;>rcases hold g h with h|h|h<;>rw[hg]at h<;>first|(cases h;done)|(cases h;exact e2 rfl)
theorem Vj{F:Nat→Prop}{b:Nat}{t:Dc.YT}{w:World}(h:Dx F b t w)(c:Dc.Chr)(up:Dc.Chr)(p:Nat)(n:Dc.CP)(hn:t.nodes up=some n)(hc:t.nodes c=none)(hp:p≤(n.side false).length)(hbig:(n.side false).length≤1000000):
  Calls Tryz.prog 270 #[.pointer (some ⟨b,0,none⟩),CE c,Me ⟨up,false,p⟩] w (Jo F b t c ⟨up,false,p⟩ w):=by
 obtain⟨lab,br,bn,nv,hl1,hl2,hl3,hl4,hl5,hl6⟩:=h
 obtain⟨k,hk,hnode⟩:=hl6.get hn
 obtain⟨hlk,vl,vr,hkk,hvl,hvr,hol,hor⟩:=hnode
 have HT:=Hx (fun K w' vn (hK:w.heap.size≤K)=>Vh (K:=K) (w':=w') (vn:=vn) (pos:=p) hl1 hl2 hl3 hl4 hl5 hl6 hn hk hc hK hkk hvr hlk hol hor)
 have hp':p≤n.l.length:=hp
 have hbig':n.l.length≤1000000:=hbig
 have HF:Hid (∀g,(g=k∨vl.ownBlock=some g∨g=bn)→F g∧g<w.heap.size):=Hx fun g hg=>by
  rcases hg with rfl|hg|rfl
  ·exact hl1 _ (by rw[hlk];simp)
  ·exact hl1 _ (by rw[hol g hg];simp)
  ·exact hl1 _ (by rw[hl5];simp)
 obtain⟨l,hl⟩:∃l,l=n.l:=⟨_,rfl⟩
 rw[←hl]at hvl hp' hbig' HT
 have HL:=Hx (fun W (kk:Aa No w W)=>C7 (hl6.1.keeps kk id) up.op.R up.op.N up.i)
 have hpp:D5 (nv ⟨⟨up.op.R,up.op.N⟩,up.i⟩)= .pointer (some ⟨k,0,none⟩):=by rw[show(⟨⟨up.op.R,up.op.N⟩,up.i⟩:Dc.Chr)=up from rfl,hk];rfl
 rw[hpp]at HL
 obtain⟨ao,cp,rfl⟩:∃ao cp,vl= .slice ao l.length cp:=by
  rcases hvl.form with⟨rfl,e⟩|⟨g',cap,_,rfl,_⟩
  ·rw[e];exact⟨none,0,rfl⟩
  ·exact⟨_,cap,rfl⟩
 have HROW:=Hx hvl
 have HN3:=Hx hkk
 have HB:=Hx hl2
 have HM:=Hx hl6.1
 obtain⟨⟨cR,cN⟩,cI⟩:=c
 clear hl1 hl2 hl3 hl4 hl5 hl6 hn hk hvl hvr hkk hol hor hpp hl hlk hp hbig hc
 go_enter Tryz.func270,Tryz.ntmps270
 go_upto_region 1 with(fail)
 have k1:Aa No w ((w.alloc (.cells #[.int .i64 cR,.int .i64 cN,.int .i64 cI] 26)).alloc (.cells #[.int .i64 up.op.R,.int .i64 up.op.N,.int .i64 up.i,.int .i64 0,.int .i64 p] 377)):=((Aa.refl No w).alloc _).alloc _
 have hC:=Ab (Nx w (.cells #[.int .i64 cR,.int .i64 cN,.int .i64 cI] 26)) (.cells #[.int .i64 up.op.R,.int .i64 up.op.N,.int .i64 up.i,.int .i64 0,.int .i64 p] 377)
 have hS:=Nx (w.alloc (.cells #[.int .i64 cR,.int .i64 cN,.int .i64 cI] 26)) (.cells #[.int .i64 up.op.R,.int .i64 up.op.N,.int .i64 up.i,.int .i64 0,.int .i64 p] 377)
 rw[World.size_alloc]at hS
 generalize hww:(w.alloc (.cells #[.int .i64 cR,.int .i64 cN,.int .i64 cI] 26)).alloc (.cells #[.int .i64 up.op.R,.int .i64 up.op.N,.int .i64 up.i,.int .i64 0,.int .i64 p] 377)=w1 at k1 hC hS
 rw[show Ld false=0 from rfl,hww]
 clear hww
 obtain⟨S,eS⟩:∃S,S=w.heap.size+1:=⟨_,rfl⟩
 obtain⟨C,eC⟩:∃C,C=w.heap.size:=⟨_,rfl⟩
 rw[←eS]at hS⊢
 rw[←eC]at hC⊢
 have hCw:w.heap.size≤C:=by omega
 clear eS eC
 have S0:=Ex (Cx hS 0)
 have S1:=Ex (Cx hS 1)
 have S2:=Ex (Cx hS 2)
 have B1:=Ex (Cx (k1.heap HB.out id) 1)
 have lk:=fun d os=>HL.out _ (k1.trans (Ag w1 d os))
 refine wp_region_quiet_below Rx Rx ?_
 repeat(quiet_step(fail))
 refine wpQuiet_nil ?_
 intro _ hw'
 obtain⟨⟨dq,osq⟩,hw''⟩:=hw'
 subst hw''
 have k2:Aa No w1 (Sort.grow (redrawn w1 dq) osq):=Ag w1 dq osq
 clear S0 S1 S2 B1 lk
 generalize Sort.grow (redrawn w1 dq) osq=w2 at k2⊢
 have kw2:=k1.trans k2
 have hS2:=k2.heap hS id
 have hC2:=k2.heap hC id
 clear hS hC k1 k2
 have hmk:bn≠k:=AA HM.out HN3.out
 have hmv:=BH HROW.out HM.out
 have kd:Aa No w2 w2.drew:=(Aa.refl No w2).drew
 generalize hw3:w2.drew=w3 at kd
 have kw3:=kw2.trans kd
 have hS3:=kd.heap hS2 id
 have hC3:=kd.heap hC2 id
 have hN3:=kw3.heap HN3.out id
 have hb3:=kw3.heap HB.out id
 have hrow3:=HROW.out.no kw3
 have hvk:(Value.slice ao l.length cp).ownBlock≠some k:=Bh hrow3 hN3 (by decide)
 have hvS:(Value.slice ao l.length cp).ownBlock≠some S:=Bh hrow3 hS3 (by decide)
 have hvb:(Value.slice ao l.length cp).ownBlock≠some b:=Bh hrow3 hb3 (by decide)
 have hvC:(Value.slice ao l.length cp).ownBlock≠some C:=fun e=>by have:=HROW.out.own_lt e;omega
 have hgs:(Value.slice ao l.length cp).ownBlock≠some w3.heap.size:=fun e=>GB _ (hrow3.own_lt e)
 have hkS:k≠S:=EM hN3 hS3 (by decide)
 have hkC:k≠C:=EM hN3 hC3 (by decide)
 have hkb:k≠b:=EM hN3 hb3 (by decide)
 have n3:=Cx hN3 3
 have s3:=Cx hS3 3
 have s4:=Cx hS3 4
 have c0:=Cx hC3 0
 have c1:=Cx hC3 1
 have c2:=Cx hC3 2
 have hlS:=Ao hS3
 have hlC:=Ao hC3
 have hlN:=Ao hN3
 have ka:Aa No w3 (w3.alloc (.cells #[.int .i64 cR,.int .i64 cN,.int .i64 cI] 26)):=(Aa.refl No w3).alloc _
 have na:=Cx (ka.heap hN3 id) 3
 have HC:Hid (∀vb,vb=w3.heap.size→Calls Tryz.prog 303 #[.slice ao l.length cp,.int .i64 p,.slice (some ⟨vb,0,none⟩) 1 1] (w3.alloc (.cells #[.int .i64 cR,.int .i64 cN,.int .i64 cI] 26))
   (A6 26 3 AE (.slice ao l.length cp) (Dc.Ax l p ⟨⟨cR,cN⟩,cI⟩) (w3.alloc (.cells #[.int .i64 cR,.int .i64 cN,.int .i64 cI] 26)))):=Hx fun vb hvb=>
  M3 _ l ⟨⟨cR,cN⟩,cI⟩ p vb _ (hrow3.no ka) (by subst hvb;exact Nx w3 _) (by subst hvb;exact hgs) (by omega) hp'
 clear hrow3 hS2 hC2
 go_upto_region 2 with(fail)
 go_cut[] (fun wx=>∃v8,wx.heap[k]? =some (.cells (Fz n.up v8 vr) 331 (0,0))∧Aq 26 3 AE v8 (Dc.Ax l p ⟨⟨cR,cN⟩,cI⟩) wx∧(∀g,v8.ownBlock=some g→(Value.slice ao l.length cp).ownBlock=some g∨w.heap.size≤g)∧
   wx.heap[S]? =some (.cells #[.int .i64 up.op.R,.int .i64 up.op.N,.int .i64 up.i,.int .i64 0,.int .i64 p] 377 (0,0))∧wx.heap[C]? =some (.cells #[.int .i64 cR,.int .i64 cN,.int .i64 cI] 26 (0,0))∧Aa (fun g=>g=k∨(Value.slice ao l.length cp).ownBlock=some g) w wx)
 case first=>
  have HSA:Hid (∀W:World,W.heap[S]? =some (.cells #[.int .i64 up.op.R,.int .i64 up.op.N,.int .i64 up.i,.int .i64 0,.int .i64 p] 377 (0,0))→W.heap[C]? =some (.cells #[.int .i64 cR,.int .i64 cN,.int .i64 cI] 26 (0,0))→
    W.cell? ⟨S,3,none⟩=some (.int .i64 0)∧W.cell? ⟨S,4,none⟩=some (.int .i64 p)∧W.cell? ⟨C,0,none⟩=some (.int .i64 cR)∧W.cell? ⟨C,1,none⟩=some (.int .i64 cN)∧W.cell? ⟨C,2,none⟩=some (.int .i64 cI)):=Hx fun W e1 e2=>
   ⟨Cx e1 3,Cx e1 4,Cx e2 0,Cx e2 1,Cx e2 2⟩
  refine wp_region_held_drew (S:=fun W=>W.cell? ⟨S,3,none⟩=some (.int .i64 0)∧W.cell? ⟨S,4,none⟩=some (.int .i64 p)∧W.cell? ⟨C,0,none⟩=some (.int .i64 cR)∧W.cell? ⟨C,1,none⟩=some (.int .i64 cN)∧W.cell? ⟨C,2,none⟩=some (.int .i64 cI)) Rx (by rw[hw3];exact HSA.out _ hS3 hC3) (fun HS3=>?_)
  rw[hw3]at HS3⊢
  clear s3 s4 c0 c1 c2
  refine Tx 0 ?_ ?_ ?_
  rotate_left
  focus
   intro wH hSw
   try simp only[Gx]
   try dsimp only at hSw
   go_simp
   try with_reducible rfl
  try simp only[Gx,Act.put,Sx]
  refine Tx 1 ?_ ?_ ?_
  rotate_left
  focus
   intro wH hSw
   try simp only[Gx]
   try dsimp only at hSw
   go_simp
   try with_reducible rfl
  try simp only[Gx,Act.put,Sx]
  refine Tx 2 ?_ ?_ ?_
  rotate_left
  focus
   intro wH hSw
   try simp only[Gx]
   try dsimp only at hSw
   go_simp
   try with_reducible rfl
  try simp only[Gx,Act.put,Sx]
  refine Tx 3 ?_ ?_ ?_
  rotate_left
  focus
   intro wH hSw
   try simp only[Gx]
   try dsimp only at hSw
   go_simp
   try with_reducible rfl
  try simp only[Gx,Act.put,Sx]
  refine Tx 4 ?_ ?_ ?_
  rotate_left
  focus
   intro wH hSw
   try simp only[Gx]
   try dsimp only at hSw
   go_simp
   try with_reducible rfl
  try simp only[Gx,Act.put,Sx]
  refine Tx 5 ?_ ?_ ?_
  rotate_left
  focus
   intro wH hSw
   try simp only[Gx]
   try dsimp only at hSw
   go_simp
   try with_reducible rfl
  try simp only[Gx,Act.put,Sx]
  refine Tx 6 ?_ ?_ ?_
  rotate_left
  focus
   intro wH hSw
   try simp only[Gx]
   try dsimp only at hSw
   go_simp
   try with_reducible rfl
  try simp only[Gx,Act.put,Sx]
  refine Tx 7 ?_ ?_ ?_
  rotate_left
  focus
   intro wH hSw
   try simp only[Gx]
   try dsimp only at hSw
   go_simp
   try with_reducible rfl
  try simp only[Gx,Act.put,Sx]
  refine Tx 8 ?_ ?_ ?_
  rotate_left
  focus
   intro wH hSw
   try simp only[Gx]
   try dsimp only at hSw
   go_simp
   try with_reducible rfl
  try simp only[Gx,Act.put,Sx]
  refine Tx 10 ?_ ?_ ?_
  rotate_left
  focus
   intro wH hSw
   try simp only[Gx]
   try dsimp only at hSw
   go_simp
   try with_reducible rfl
  try simp only[Gx,Act.put,Sx]
  refine Tx 11 ?_ ?_ ?_
  rotate_left
  focus
   intro wH hSw
   try simp only[Gx]
   try dsimp only at hSw
   go_simp
   try with_reducible rfl
  try simp only[Gx,Act.put,Sx]
  refine Tx 12 ?_ ?_ ?_
  rotate_left
  focus
   intro wH hSw
   try simp only[Gx]
   try dsimp only at hSw
   go_simp
   try with_reducible rfl
  try simp only[Gx,Act.put,Sx]
  refine Tx 15 ?_ ?_ ?_
  rotate_left
  focus
   intro wH hSw
   try simp only[Gx]
   try dsimp only at hSw
   go_simp
   try with_reducible rfl
  try simp only[Gx,Act.put,Sx]
  refine Tx 16 ?_ ?_ ?_
  rotate_left
  focus
   intro wH hSw
   try simp only[Gx]
   try dsimp only at hSw
   go_simp
   try with_reducible rfl
  try simp only[Gx,Act.put,Sx]
  refine wpAnyH_ready (rs:=[9,13]) Rx (by simp) ?_
  refine AllReadyH.cons rfl (fun K hK=>?_) ?_
  try simp only[Gx]at hK⊢
  focus
   go_simp
   refine hK.out _ _ HS3 (fun _=>?_)
   clear hK
   try simp only[Act.put,Sx]
   refine wpAnyH_ready (rs:=[13]) Rx (by simp) ?_
   refine AllReadyH.cons rfl (fun K hK=>?_) ?_
   try simp only[Gx]at hK⊢
   rotate_left
   exact AllReadyH.nil
   go_simp
   refine hK.out _ _ (HSA.out _ (ka.heap hS3 id) (ka.heap hC3 id)) (fun HSa=>?_)
   clear hK
   try simp only[Act.put,Sx]
   refine wpAnyH_ready (rs:=[14]) Rx (by simp) ?_
   refine AllReadyH.cons rfl (fun K hK=>?_) ?_
   try simp only[Gx]at hK⊢
   rotate_left
   exact AllReadyH.nil
   go_simp
   go_at_call 303
   (with_reducible refine(HC.out _ rfl).mono ?_)
   rintro e w8 ⟨v8,rfl,hrow8,k8,ho8⟩
   have hN8:=k8.heap (ka.heap hN3 id) hvk
   have hS8:=k8.heap (ka.heap hS3 id) hvS
   have hC8:=k8.heap (ka.heap hC3 id) hvC
   have y0:=Cx hN8 3
   have u0:=Fx hN8 3
   obtain⟨ao8,n8,c8,rfl⟩:=hrow8.slice
   refine hK.out _ _ (HSA.out _ hS8 hC8) (fun HS8=>?_)
   clear hK
   try simp only[Act.put,Sx]
   refine Tx 17 ?_ ?_ ?_
   rotate_left
   focus
    intro wH hSw
    try simp only[Gx]
    try dsimp only at hSw
    go_simp
    try with_reducible rfl
   try simp only[Gx,Act.put,Sx]
   refine wpAnyH_ready (rs:=[18]) Rx (by simp) ?_
   refine AllReadyH.cons rfl (fun K hK=>?_) ?_
   try simp only[Gx]at hK⊢
   rotate_left
   exact AllReadyH.nil
   go_simp
   have hS9:=AP hS8 (j:=3) (Ne.symm hkS) (.slice ao8 n8 c8)
   have hC9:=AP hC8 (j:=3) (Ne.symm hkC) (.slice ao8 n8 c8)
   refine hK.out _ _ (HSA.out _ hS9 hC9) (fun HS9=>?_)
   clear hK
   try simp only[Act.put,Sx]
   refine wpAnyH_done Rx ?_ _
  rotate_left
  refine AllReadyH.cons rfl (fun K hK=>?_) ?_
  try simp only[Gx]at hK⊢
  rotate_left
  exact AllReadyH.nil
  rotate_left
  focus
   go_simp
   refine hK.out _ _ (HSA.out _ (ka.heap hS3 id) (ka.heap hC3 id)) (fun HSa=>?_)
   clear hK
   try simp only[Act.put,Sx]
   refine wpAnyH_ready (rs:=[9]) Rx (by simp) ?_
   refine AllReadyH.cons rfl (fun K hK=>?_) ?_
   try simp only[Gx]at hK⊢
   rotate_left
   exact AllReadyH.nil
   go_simp
   refine hK.out _ _ HSa (fun _=>?_)
   clear hK
   try simp only[Act.put,Sx]
   refine wpAnyH_ready (rs:=[14]) Rx (by simp) ?_
   refine AllReadyH.cons rfl (fun K hK=>?_) ?_
   try simp only[Gx]at hK⊢
   rotate_left
   exact AllReadyH.nil
   go_simp
   go_at_call 303
   (with_reducible refine(HC.out _ rfl).mono ?_)
   rintro e w8 ⟨v8,rfl,hrow8,k8,ho8⟩
   have hN8:=k8.heap (ka.heap hN3 id) hvk
   have hS8:=k8.heap (ka.heap hS3 id) hvS
   have hC8:=k8.heap (ka.heap hC3 id) hvC
   have y0:=Cx hN8 3
   have u0:=Fx hN8 3
   obtain⟨ao8,n8,c8,rfl⟩:=hrow8.slice
   refine hK.out _ _ (HSA.out _ hS8 hC8) (fun HS8=>?_)
   clear hK
   try simp only[Act.put,Sx]
   refine Tx 17 ?_ ?_ ?_
   rotate_left
   focus
    intro wH hSw
    try simp only[Gx]
    try dsimp only at hSw
    go_simp
    try with_reducible rfl
   try simp only[Gx,Act.put,Sx]
   refine wpAnyH_ready (rs:=[18]) Rx (by simp) ?_
   refine AllReadyH.cons rfl (fun K hK=>?_) ?_
   try simp only[Gx]at hK⊢
   rotate_left
   exact AllReadyH.nil
   go_simp
   have hS9:=AP hS8 (j:=3) (Ne.symm hkS) (.slice ao8 n8 c8)
   have hC9:=AP hC8 (j:=3) (Ne.symm hkC) (.slice ao8 n8 c8)
   refine hK.out _ _ (HSA.out _ hS9 hC9) (fun HS9=>?_)
   clear hK
   try simp only[Act.put,Sx]
   refine wpAnyH_done Rx ?_ _
  all_goals
   go_wp2_with fail
   go_meet
   refine⟨_,heap_set hN8 3 _,hrow8.keeps ((Aa.refl (At1 k) w8).set1 (o:=3) _) (fun y hy e=>Bh hrow8 hN8 (by decide) (by rw[hy];exact congrArg some e)),fun y hy=>?_,hS9,hC9,((((kw3.any (S:=fun g=>g=k∨(Value.slice ao l.length cp).ownBlock=some g)).no ka).step k8 fun y hy _=> .inr hy).setCell (a:=⟨k,3,none⟩) (fun _=> .inl rfl) _)⟩
   rcases ho8 y hy with e|e
   ·exact .inl e
   ·exact .inr (by have:=kw3.size;have:=ka.size;omega)
 case rest=>
  obtain⟨v8,hN8,hrow8,ho8,hS8,hC8,k8⟩:=hcut
  obtain⟨w8,hw8⟩:∃y,y=wc:=⟨_,rfl⟩
  subst hw8
  have hm8:A8 CE GQ bn nv w8:=HM.out.keeps k8 (fun e=>e.elim hmk hmv)
  have hb8:=k8.heap HB.out (fun e=>e.elim (fun e=>hkb e.symm) hvb)
  have ka8:Aa No w8 ((w8.alloc (.cells #[.int .i64 up.op.R,.int .i64 up.op.N,.int .i64 up.i,.slice none 0 0,.slice none 0 0] 331)).drew):=((Aa.refl No w8).alloc _).drew
  have hK8:((w8.alloc (.cells #[.int .i64 up.op.R,.int .i64 up.op.N,.int .i64 up.i,.slice none 0 0,.slice none 0 0] 331)).drew).heap[w8.heap.size]? =some (.cells (Fz up (.slice none 0 0) (.slice none 0 0)) 331 (0,0)):=Nx w8 _
  obtain⟨w9,hrun,hm9,k9,hs9⟩:=(hm8.keeps ka8 id).put Eb Tryz.underlying224 ⟨⟨cR,cN⟩,cI⟩ w8.heap.size
  clear hs9
  have hmb:=AA hm8 hb8
  have hmS:=AA hm8 hS8
  have hmC:=AA hm8 hC8
  have HSA:Hid (∀W:World,W.heap[b]? =some (.cells #[.pointer (some ⟨br,0,none⟩),.map (some bn)] 226 (0,0))→W.heap[S]? =some (.cells #[.int .i64 up.op.R,.int .i64 up.op.N,.int .i64 up.i,.int .i64 0,.int .i64 p] 377 (0,0))→W.heap[C]? =some (.cells #[.int .i64 cR,.int .i64 cN,.int .i64 cI] 26 (0,0))→
    W.cell? ⟨b,1,none⟩=some (.map (some bn))∧W.cell? ⟨S,0,none⟩=some (.int .i64 up.op.R)∧W.cell? ⟨S,1,none⟩=some (.int .i64 up.op.N)∧W.cell? ⟨S,2,none⟩=some (.int .i64 up.i)∧W.cell? ⟨C,0,none⟩=some (.int .i64 cR)∧W.cell? ⟨C,1,none⟩=some (.int .i64 cN)∧W.cell? ⟨C,2,none⟩=some (.int .i64 cI)):=Hx fun W e0 e1 e2=>
   ⟨Cx e0 1,Cx e1 0,Cx e1 1,Cx e1 2,Cx e2 0,Cx e2 1,Cx e2 2⟩
  have kd8:Aa No w8 w8.drew:=(Aa.refl No w8).drew
  have HS0:=HSA.out _ (kd8.heap hb8 id) (kd8.heap hS8 id) (kd8.heap hC8 id)
  have HS1:=HSA.out _ (ka8.heap hb8 id) (ka8.heap hS8 id) (ka8.heap hC8 id)
  have HS9:=HSA.out _ (k9.heap (ka8.heap hb8 id) (Ne.symm hmb)) (k9.heap (ka8.heap hS8 id) (Ne.symm hmS)) (k9.heap (ka8.heap hC8 id) (Ne.symm hmC))
  have hN9:=k9.heap (ka8.heap hN8 id) (Ne.symm hmk)
  have hr9:=(hrow8.no ka8).keeps k9 fun g hg e=>BH hrow8 hm8 (by rw[hg];exact congrArg some e)
  have hK9:=k9.heap hK8 (fun e=>by have:=hm8.lt;unfold At1 at e;omega)
  have kk:Aa (fun g=>g=k∨(Value.slice ao l.length cp).ownBlock=some g∨g=bn) w w9:=((k8.mono (fun y hy _=>hy.elim .inl (fun e=> .inr (.inl e)))).no ka8).step k9 fun y hy _=> .inr (.inr hy)
  have hsz:=k8.size
  have HFIN:=Hx (HT.out w8.heap.size w9 v8 hsz kk hN9 hr9 ho8 (fun e=>GB _ (hrow8.own_lt e)) hK9 hm9)
  have HKK:=Hx kk
  clear kk hN9 hr9 hK9 hN8 hrow8 ho8 hK8 hm9 hm8 n3 s3 s4 c0 c1 c2 hS3 hC3 hN3 hb3 ka na HC
  go_upto_region 3 with(fail)
  go_region_held3(fun W=>W.cell? ⟨b,1,none⟩=some (.map (some bn))∧W.cell? ⟨S,0,none⟩=some (.int .i64 up.op.R)∧W.cell? ⟨S,1,none⟩=some (.int .i64 up.op.N)∧W.cell? ⟨S,2,none⟩=some (.int .i64 up.i)∧W.cell? ⟨C,0,none⟩=some (.int .i64 cR)∧W.cell? ⟨C,1,none⟩=some (.int .i64 cN)∧W.cell? ⟨C,2,none⟩=some (.int .i64 cI))
   (first|exact HS0|exact HS1|exact HS9)
   (first|fail)
  all_goals
   go_wp2_with fail
   go_end0
   exact⟨rfl,HFIN.out,HKK.out.mono fun y hy _=>HF.out y hy⟩
theorem Vg{F:Nat→Prop}{lab:Nat→Option Is}{b br bn k0 K:Nat}{nv:Dc.Chr→Option Nat}{t:Dc.YT}{w w':World}{c up:Dc.Chr}{pos:Nat}{n:Dc.CP}{vl vr vn:Value}
  (hl1:∀k,lab k≠none→F k∧k<w.heap.size)(hl2:w.heap[b]? =some (.cells #[.pointer (some ⟨br,0,none⟩),.map (some bn)] 226 (0,0)))(hl3:lab b=some .self)
  (hl4:Ec (fun k=>lab k=some .row) br t.row w)(hl5:lab bn=some .nmap)(hl6:ET lab bn nv t.nodes w)
  (hn:t.nodes up=some n)(hk:nv up=some k0)(hc:t.nodes c=none)(hK:w.heap.size≤K)
  (hkk:w.heap[k0]? =some (.cells (Fz n.up vl vr) 331 (0,0)))(hvl:Aq 26 3 AE vl n.l w)
  (hlk:lab k0=some (.node up))(hol:∀x,vl.ownBlock=some x→lab x=some (.side up false))(hor:∀x,vr.ownBlock=some x→lab x=some (.side up true))
  (kk:Aa (fun g=>g=k0∨vr.ownBlock=some g∨g=bn) w w')
  (hk0:w'.heap[k0]? =some (.cells (Fz n.up vl vn) 331 (0,0)))(hvn:Aq 26 3 AE vn (Dc.Ax n.r pos c) w')
  (hon:∀g,vn.ownBlock=some g→vr.ownBlock=some g∨w.heap.size≤g)(hKn:vn.ownBlock≠some K)
  (hKc:w'.heap[K]? =some (.cells (Fz up (.slice none 0 0) (.slice none 0 0)) 331 (0,0)))
  (hm:A8 CE GQ bn (Db nv c (some K)) w'):Dx (Bv F w) b ⟨t.row,Dc.sit t.nodes c ⟨up,true,pos⟩⟩ w':=by
 have hup:up≠c:=fun e=>by rw[e,hc]at hn;cases hn
 have hold:∀y,(y=k0∨vr.ownBlock=some y∨y=bn)→lab y=some (.node up)∨lab y=some (.side up true)∨lab y=some .nmap:=fun y hy=>by
  rcases hy with rfl|hy|rfl
  ·exact .inl hlk
  ·exact .inr (.inl (hor y hy))
  ·exact .inr (.inr hl5)
 have hlab:∀y,lab y≠none→(if y=K then some (Is.node c)else if vn.ownBlock=some y then some (.side up true)else lab y)=lab y:=by
  intro y hl
  have hy:=(hl1 y hl).2
  rw[Ae (by omega)]
  by_cases e2:vn.ownBlock=some y
  ·rw[Ak e2]
   rcases hon y e2 with e3|e3
   ·exact(hor y e3).symm
   ·omega
  ·rw[Ae e2]
 have hsit:∀x,Dc.sit t.nodes c ⟨up,true,pos⟩ x=if x=c then some ⟨up,[],[]⟩else if x=up then some (n.put true pos c)else t.nodes x:=fun x=>Dc.G9 (s:=⟨up,true,pos⟩) hn x
 refine⟨fun k=>if k=K then some (.node c)else if vn.ownBlock=some k then some (.side up true)else lab k,br,bn,Db nv c (some K),?_,?_,?_,?_,?_,hm,?_,?_⟩
 ·intro k h
  simp only at h
  by_cases e1:k=K
  ·rw[e1];exact⟨.inr hK,Ao hKc⟩
  ·rw[Ae e1]at h
   by_cases e2:vn.ownBlock=some k
   ·refine⟨?_,hvn.own_lt e2⟩
    rcases hon k e2 with e3|e3
    ·exact .inl (hl1 k (by rw[hor k e3];simp)).1
    ·exact .inr e3
   ·rw[Ae e2]at h
    exact⟨.inl (hl1 k h).1,AK (hl1 k h).2 kk.size⟩
 ·refine kk.heap hl2 fun h=>?_
  rcases hold b h with h|h|h<;>rw[hl3]at h<;>cases h
 ·show(if b=K then _ else if vn.ownBlock=some b then _ else lab b)=_
  rw[hlab b (by rw[hl3];simp)];exact hl3
 ·refine Ec.mono (hl4.keeps kk fun g hg h=>?_) fun g hg=>?_
  ·rcases hold g h with h|h|h<;>rw[hg]at h<;>cases h
  ·show(if g=K then _ else if vn.ownBlock=some g then _ else lab g)=_
   rw[hlab g (by rw[hg];simp)];exact hg
 ·show(if bn=K then _ else if vn.ownBlock=some bn then _ else lab bn)=_
  rw[hlab bn (by rw[hl5];simp)];exact hl5
 ·intro x
  show _=(Dc.sit t.nodes c ⟨up,true,pos⟩ x).isSome
  rw[hsit]
  unfold Db
  by_cases e1:x=c
  ·rw[Ak e1,Ak e1];rfl
  ·rw[Ae e1,Ae e1]
   by_cases e2:x=up
   ·rw[Ak e2,e2,hk];rfl
   ·rw[Ae e2];exact hl6.2.1 x
 ·intro x k m h1 h2
  replace h2:Dc.sit t.nodes c ⟨up,true,pos⟩ x=some m:=h2
  rw[hsit]at h2
  unfold Db at h1
  by_cases e1:x=c
  ·rw[Ak e1]at h1 h2
   cases h1;cases h2
   exact⟨by show(if K=K then _ else _)=_;rw[Ak rfl,e1],.slice none 0 0,.slice none 0 0,hKc,Aq.nil,Aq.nil,fun _ e=>(by cases e),fun _ e=>(by cases e)⟩
  ·rw[Ae e1]at h1 h2
   by_cases e2:x=up
   ·rw[Ak e2]at h2
    rw[e2,hk]at h1
    cases h1;cases h2
    have hother:Aq 26 3 AE vl n.l w':=hvl.keeps kk fun g hg h=>by
     rcases hold g h with h|h|h<;>rw[hol g hg]at h<;>cases h
    refine⟨?_,vl,vn,hk0,?_⟩
    ·show(if k0=K then _ else if vn.ownBlock=some k0 then _ else lab k0)=_
     rw[hlab k0 (by rw[hlk];simp),hlk,e2]
    ·have ha:∀y,vn.ownBlock=some y→(if y=K then some (Is.node c)else if vn.ownBlock=some y then some (.side up true)else lab y)=some (.side x true):=fun y hy=>by
      rw[Ae (fun e=>hKn (by rw[hy,e])),Ak hy,e2]
     have hb2:∀y,vl.ownBlock=some y→(if y=K then some (Is.node c)else if vn.ownBlock=some y then some (.side up true)else lab y)=some (.side x false):=fun y hy=>by
      rw[hlab y (by rw[hol y hy];simp),hol y hy,e2]
     exact⟨hother,hvn,hb2,ha⟩
   ·rw[Ae e2]at h2
    have hno:=hl6.2.2 x k m h1 h2
    refine(hno.keepsL kk ?_).lab hlab
    rintro g hg h
    rcases hg with hg|⟨s,hg⟩<;>rcases hold g h with h|h|h<;>rw[hg]at h<;>first|(cases h;done)|(cases h;exact e2 rfl)
theorem Vi{F:Nat→Prop}{b:Nat}{t:Dc.YT}{w:World}(h:Dx F b t w)(c:Dc.Chr)(up:Dc.Chr)(p:Nat)(n:Dc.CP)(hn:t.nodes up=some n)(hc:t.nodes c=none)(hp:p≤(n.side true).length)(hbig:(n.side true).length≤1000000):
  Calls Tryz.prog 270 #[.pointer (some ⟨b,0,none⟩),CE c,Me ⟨up,true,p⟩] w (Jo F b t c ⟨up,true,p⟩ w):=by
 obtain⟨lab,br,bn,nv,hl1,hl2,hl3,hl4,hl5,hl6⟩:=h
 obtain⟨k,hk,hnode⟩:=hl6.get hn
 obtain⟨hlk,vl,vr,hkk,hvl,hvr,hol,hor⟩:=hnode
 have HT:=Hx (fun K w' vn (hK:w.heap.size≤K)=>Vg (K:=K) (w':=w') (vn:=vn) (pos:=p) hl1 hl2 hl3 hl4 hl5 hl6 hn hk hc hK hkk hvl hlk hol hor)
 have hp':p≤n.r.length:=hp
 have hbig':n.r.length≤1000000:=hbig
 have HF:Hid (∀g,(g=k∨vr.ownBlock=some g∨g=bn)→F g∧g<w.heap.size):=Hx fun g hg=>by
  rcases hg with rfl|hg|rfl
  ·exact hl1 _ (by rw[hlk];simp)
  ·exact hl1 _ (by rw[hor g hg];simp)
  ·exact hl1 _ (by rw[hl5];simp)
 obtain⟨l,hl⟩:∃l,l=n.r:=⟨_,rfl⟩
 rw[←hl]at hvr hp' hbig' HT
 have HL:=Hx (fun W (kk:Aa No w W)=>C7 (hl6.1.keeps kk id) up.op.R up.op.N up.i)
 have hpp:D5 (nv ⟨⟨up.op.R,up.op.N⟩,up.i⟩)= .pointer (some ⟨k,0,none⟩):=by rw[show(⟨⟨up.op.R,up.op.N⟩,up.i⟩:Dc.Chr)=up from rfl,hk];rfl
 rw[hpp]at HL
 obtain⟨ao,cp,rfl⟩:∃ao cp,vr= .slice ao l.length cp:=by
  rcases hvr.form with⟨rfl,e⟩|⟨g',cap,_,rfl,_⟩
  ·rw[e];exact⟨none,0,rfl⟩
  ·exact⟨_,cap,rfl⟩
 have HROW:=Hx hvr
 have HN3:=Hx hkk
 have HB:=Hx hl2
 have HM:=Hx hl6.1
 obtain⟨⟨cR,cN⟩,cI⟩:=c
 clear hl1 hl2 hl3 hl4 hl5 hl6 hn hk hvl hvr hkk hol hor hpp hl hlk hp hbig hc
 go_enter Tryz.func270,Tryz.ntmps270
 go_upto_region 1 with(fail)
 have k1:Aa No w ((w.alloc (.cells #[.int .i64 cR,.int .i64 cN,.int .i64 cI] 26)).alloc (.cells #[.int .i64 up.op.R,.int .i64 up.op.N,.int .i64 up.i,.int .i64 1,.int .i64 p] 377)):=((Aa.refl No w).alloc _).alloc _
 have hC:=Ab (Nx w (.cells #[.int .i64 cR,.int .i64 cN,.int .i64 cI] 26)) (.cells #[.int .i64 up.op.R,.int .i64 up.op.N,.int .i64 up.i,.int .i64 1,.int .i64 p] 377)
 have hS:=Nx (w.alloc (.cells #[.int .i64 cR,.int .i64 cN,.int .i64 cI] 26)) (.cells #[.int .i64 up.op.R,.int .i64 up.op.N,.int .i64 up.i,.int .i64 1,.int .i64 p] 377)
 rw[World.size_alloc]at hS
 generalize hww:(w.alloc (.cells #[.int .i64 cR,.int .i64 cN,.int .i64 cI] 26)).alloc (.cells #[.int .i64 up.op.R,.int .i64 up.op.N,.int .i64 up.i,.int .i64 1,.int .i64 p] 377)=w1 at k1 hC hS
 rw[show Ld true=1 from rfl,hww]
 clear hww
 obtain⟨S,eS⟩:∃S,S=w.heap.size+1:=⟨_,rfl⟩
 obtain⟨C,eC⟩:∃C,C=w.heap.size:=⟨_,rfl⟩
 rw[←eS]at hS⊢
 rw[←eC]at hC⊢
 have hCw:w.heap.size≤C:=by omega
 clear eS eC
 have S0:=Ex (Cx hS 0)
 have S1:=Ex (Cx hS 1)
 have S2:=Ex (Cx hS 2)
 have B1:=Ex (Cx (k1.heap HB.out id) 1)
 have lk:=fun d os=>HL.out _ (k1.trans (Ag w1 d os))
 refine wp_region_quiet_below Rx Rx ?_
 repeat(quiet_step(fail))
 refine wpQuiet_nil ?_
 intro _ hw'
 obtain⟨⟨dq,osq⟩,hw''⟩:=hw'
 subst hw''
 have k2:Aa No w1 (Sort.grow (redrawn w1 dq) osq):=Ag w1 dq osq
 clear S0 S1 S2 B1 lk
 generalize Sort.grow (redrawn w1 dq) osq=w2 at k2⊢
 have kw2:=k1.trans k2
 have hS2:=k2.heap hS id
 have hC2:=k2.heap hC id
 clear hS hC k1 k2
 have hmk:bn≠k:=AA HM.out HN3.out
 have hmv:=BH HROW.out HM.out
 have kd:Aa No w2 w2.drew:=(Aa.refl No w2).drew
 generalize hw3:w2.drew=w3 at kd
 have kw3:=kw2.trans kd
 have hS3:=kd.heap hS2 id
 have hC3:=kd.heap hC2 id
 have hN3:=kw3.heap HN3.out id
 have hb3:=kw3.heap HB.out id
 have hrow3:=HROW.out.no kw3
 have hvk:(Value.slice ao l.length cp).ownBlock≠some k:=Bh hrow3 hN3 (by decide)
 have hvS:(Value.slice ao l.length cp).ownBlock≠some S:=Bh hrow3 hS3 (by decide)
 have hvb:(Value.slice ao l.length cp).ownBlock≠some b:=Bh hrow3 hb3 (by decide)
 have hvC:(Value.slice ao l.length cp).ownBlock≠some C:=fun e=>by have:=HROW.out.own_lt e;omega
 have hgs:(Value.slice ao l.length cp).ownBlock≠some w3.heap.size:=fun e=>GB _ (hrow3.own_lt e)
 have hkS:k≠S:=EM hN3 hS3 (by decide)
 have hkC:k≠C:=EM hN3 hC3 (by decide)
 have hkb:k≠b:=EM hN3 hb3 (by decide)
 have n3:=Cx hN3 4
 have s3:=Cx hS3 3
 have s4:=Cx hS3 4
 have c0:=Cx hC3 0
 have c1:=Cx hC3 1
 have c2:=Cx hC3 2
 have hlS:=Ao hS3
 have hlC:=Ao hC3
 have hlN:=Ao hN3
 have ka:Aa No w3 (w3.alloc (.cells #[.int .i64 cR,.int .i64 cN,.int .i64 cI] 26)):=(Aa.refl No w3).alloc _
 have na:=Cx (ka.heap hN3 id) 4
 have HC:Hid (∀vb,vb=w3.heap.size→Calls Tryz.prog 303 #[.slice ao l.length cp,.int .i64 p,.slice (some ⟨vb,0,none⟩) 1 1] (w3.alloc (.cells #[.int .i64 cR,.int .i64 cN,.int .i64 cI] 26))
   (A6 26 3 AE (.slice ao l.length cp) (Dc.Ax l p ⟨⟨cR,cN⟩,cI⟩) (w3.alloc (.cells #[.int .i64 cR,.int .i64 cN,.int .i64 cI] 26)))):=Hx fun vb hvb=>
  M3 _ l ⟨⟨cR,cN⟩,cI⟩ p vb _ (hrow3.no ka) (by subst hvb;exact Nx w3 _) (by subst hvb;exact hgs) (by omega) hp'
 clear hrow3 hS2 hC2
 go_upto_region 2 with(fail)
 go_cut[] (fun wx=>∃v8,wx.heap[k]? =some (.cells (Fz n.up vl v8) 331 (0,0))∧Aq 26 3 AE v8 (Dc.Ax l p ⟨⟨cR,cN⟩,cI⟩) wx∧(∀g,v8.ownBlock=some g→(Value.slice ao l.length cp).ownBlock=some g∨w.heap.size≤g)∧
   wx.heap[S]? =some (.cells #[.int .i64 up.op.R,.int .i64 up.op.N,.int .i64 up.i,.int .i64 1,.int .i64 p] 377 (0,0))∧wx.heap[C]? =some (.cells #[.int .i64 cR,.int .i64 cN,.int .i64 cI] 26 (0,0))∧Aa (fun g=>g=k∨(Value.slice ao l.length cp).ownBlock=some g) w wx)
 case first=>
  have HSA:Hid (∀W:World,W.heap[S]? =some (.cells #[.int .i64 up.op.R,.int .i64 up.op.N,.int .i64 up.i,.int .i64 1,.int .i64 p] 377 (0,0))→W.heap[C]? =some (.cells #[.int .i64 cR,.int .i64 cN,.int .i64 cI] 26 (0,0))→
    W.cell? ⟨S,3,none⟩=some (.int .i64 1)∧W.cell? ⟨S,4,none⟩=some (.int .i64 p)∧W.cell? ⟨C,0,none⟩=some (.int .i64 cR)∧W.cell? ⟨C,1,none⟩=some (.int .i64 cN)∧W.cell? ⟨C,2,none⟩=some (.int .i64 cI)):=Hx fun W e1 e2=>
   ⟨Cx e1 3,Cx e1 4,Cx e2 0,Cx e2 1,Cx e2 2⟩
  refine wp_region_held_drew (S:=fun W=>W.cell? ⟨S,3,none⟩=some (.int .i64 1)∧W.cell? ⟨S,4,none⟩=some (.int .i64 p)∧W.cell? ⟨C,0,none⟩=some (.int .i64 cR)∧W.cell? ⟨C,1,none⟩=some (.int .i64 cN)∧W.cell? ⟨C,2,none⟩=some (.int .i64 cI)) Rx (by rw[hw3];exact HSA.out _ hS3 hC3) (fun HS3=>?_)
  rw[hw3]at HS3⊢
  clear s3 s4 c0 c1 c2
  refine Tx 0 ?_ ?_ ?_
  rotate_left
  focus
   intro wH hSw
   try simp only[Gx]
   try dsimp only at hSw
   go_simp
   try with_reducible rfl
  try simp only[Gx,Act.put,Sx]
  refine Tx 1 ?_ ?_ ?_
  rotate_left
  focus
   intro wH hSw
   try simp only[Gx]
   try dsimp only at hSw
   go_simp
   try with_reducible rfl
  try simp only[Gx,Act.put,Sx]
  refine Tx 2 ?_ ?_ ?_
  rotate_left
  focus
   intro wH hSw
   try simp only[Gx]
   try dsimp only at hSw
   go_simp
   try with_reducible rfl
  try simp only[Gx,Act.put,Sx]
  refine Tx 3 ?_ ?_ ?_
  rotate_left
  focus
   intro wH hSw
   try simp only[Gx]
   try dsimp only at hSw
   go_simp
   try with_reducible rfl
  try simp only[Gx,Act.put,Sx]
  refine Tx 4 ?_ ?_ ?_
  rotate_left
  focus
   intro wH hSw
   try simp only[Gx]
   try dsimp only at hSw
   go_simp
   try with_reducible rfl
  try simp only[Gx,Act.put,Sx]
  refine Tx 5 ?_ ?_ ?_
  rotate_left
  focus
   intro wH hSw
   try simp only[Gx]
   try dsimp only at hSw
   go_simp
   try with_reducible rfl
  try simp only[Gx,Act.put,Sx]
  refine Tx 6 ?_ ?_ ?_
  rotate_left
  focus
   intro wH hSw
   try simp only[Gx]
   try dsimp only at hSw
   go_simp
   try with_reducible rfl
  try simp only[Gx,Act.put,Sx]
  refine Tx 7 ?_ ?_ ?_
  rotate_left
  focus
   intro wH hSw
   try simp only[Gx]
   try dsimp only at hSw
   go_simp
   try with_reducible rfl
  try simp only[Gx,Act.put,Sx]
  refine Tx 8 ?_ ?_ ?_
  rotate_left
  focus
   intro wH hSw
   try simp only[Gx]
   try dsimp only at hSw
   go_simp
   try with_reducible rfl
  try simp only[Gx,Act.put,Sx]
  refine Tx 10 ?_ ?_ ?_
  rotate_left
  focus
   intro wH hSw
   try simp only[Gx]
   try dsimp only at hSw
   go_simp
   try with_reducible rfl
  try simp only[Gx,Act.put,Sx]
  refine Tx 11 ?_ ?_ ?_
  rotate_left
  focus
   intro wH hSw
   try simp only[Gx]
   try dsimp only at hSw
   go_simp
   try with_reducible rfl
  try simp only[Gx,Act.put,Sx]
  refine Tx 12 ?_ ?_ ?_
  rotate_left
  focus
   intro wH hSw
   try simp only[Gx]
   try dsimp only at hSw
   go_simp
   try with_reducible rfl
  try simp only[Gx,Act.put,Sx]
  refine Tx 15 ?_ ?_ ?_
  rotate_left
  focus
   intro wH hSw
   try simp only[Gx]
   try dsimp only at hSw
   go_simp
   try with_reducible rfl
  try simp only[Gx,Act.put,Sx]
  refine Tx 16 ?_ ?_ ?_
  rotate_left
  focus
   intro wH hSw
   try simp only[Gx]
   try dsimp only at hSw
   go_simp
   try with_reducible rfl
  try simp only[Gx,Act.put,Sx]
  refine wpAnyH_ready (rs:=[9,13]) Rx (by simp) ?_
  refine AllReadyH.cons rfl (fun K hK=>?_) ?_
  try simp only[Gx]at hK⊢
  focus
   go_simp
   refine hK.out _ _ HS3 (fun _=>?_)
   clear hK
   try simp only[Act.put,Sx]
   refine wpAnyH_ready (rs:=[13]) Rx (by simp) ?_
   refine AllReadyH.cons rfl (fun K hK=>?_) ?_
   try simp only[Gx]at hK⊢
   rotate_left
   exact AllReadyH.nil
   go_simp
   refine hK.out _ _ (HSA.out _ (ka.heap hS3 id) (ka.heap hC3 id)) (fun HSa=>?_)
   clear hK
   try simp only[Act.put,Sx]
   refine wpAnyH_ready (rs:=[14]) Rx (by simp) ?_
   refine AllReadyH.cons rfl (fun K hK=>?_) ?_
   try simp only[Gx]at hK⊢
   rotate_left
   exact AllReadyH.nil
   go_simp
   go_at_call 303
   (with_reducible refine(HC.out _ rfl).mono ?_)
   rintro e w8 ⟨v8,rfl,hrow8,k8,ho8⟩
   have hN8:=k8.heap (ka.heap hN3 id) hvk
   have hS8:=k8.heap (ka.heap hS3 id) hvS
   have hC8:=k8.heap (ka.heap hC3 id) hvC
   have y0:=Cx hN8 4
   have u0:=Fx hN8 4
   obtain⟨ao8,n8,c8,rfl⟩:=hrow8.slice
   refine hK.out _ _ (HSA.out _ hS8 hC8) (fun HS8=>?_)
   clear hK
   try simp only[Act.put,Sx]
   refine Tx 17 ?_ ?_ ?_
   rotate_left
   focus
    intro wH hSw
    try simp only[Gx]
    try dsimp only at hSw
    go_simp
    try with_reducible rfl
   try simp only[Gx,Act.put,Sx]
   refine wpAnyH_ready (rs:=[18]) Rx (by simp) ?_
   refine AllReadyH.cons rfl (fun K hK=>?_) ?_
   try simp only[Gx]at hK⊢
   rotate_left
   exact AllReadyH.nil
   go_simp
   have hS9:=AP hS8 (j:=4) (Ne.symm hkS) (.slice ao8 n8 c8)
   have hC9:=AP hC8 (j:=4) (Ne.symm hkC) (.slice ao8 n8 c8)
   refine hK.out _ _ (HSA.out _ hS9 hC9) (fun HS9=>?_)
   clear hK
   try simp only[Act.put,Sx]
   refine wpAnyH_done Rx ?_ _
  rotate_left
  refine AllReadyH.cons rfl (fun K hK=>?_) ?_
  try simp only[Gx]at hK⊢
  rotate_left
  exact AllReadyH.nil
  rotate_left
  focus
   go_simp
   refine hK.out _ _ (HSA.out _ (ka.heap hS3 id) (ka.heap hC3 id)) (fun HSa=>?_)
   clear hK
   try simp only[Act.put,Sx]
   refine wpAnyH_ready (rs:=[9]) Rx (by simp) ?_
   refine AllReadyH.cons rfl (fun K hK=>?_) ?_
   try simp only[Gx]at hK⊢
   rotate_left
   exact AllReadyH.nil
   go_simp
   refine hK.out _ _ HSa (fun _=>?_)
   clear hK
   try simp only[Act.put,Sx]
   refine wpAnyH_ready (rs:=[14]) Rx (by simp) ?_
   refine AllReadyH.cons rfl (fun K hK=>?_) ?_
   try simp only[Gx]at hK⊢
   rotate_left
   exact AllReadyH.nil
   go_simp
   go_at_call 303
   (with_reducible refine(HC.out _ rfl).mono ?_)
   rintro e w8 ⟨v8,rfl,hrow8,k8,ho8⟩
   have hN8:=k8.heap (ka.heap hN3 id) hvk
   have hS8:=k8.heap (ka.heap hS3 id) hvS
   have hC8:=k8.heap (ka.heap hC3 id) hvC
   have y0:=Cx hN8 4
   have u0:=Fx hN8 4
   obtain⟨ao8,n8,c8,rfl⟩:=hrow8.slice
   refine hK.out _ _ (HSA.out _ hS8 hC8) (fun HS8=>?_)
   clear hK
   try simp only[Act.put,Sx]
   refine Tx 17 ?_ ?_ ?_
   rotate_left
   focus
    intro wH hSw
    try simp only[Gx]
    try dsimp only at hSw
    go_simp
    try with_reducible rfl
   try simp only[Gx,Act.put,Sx]
   refine wpAnyH_ready (rs:=[18]) Rx (by simp) ?_
   refine AllReadyH.cons rfl (fun K hK=>?_) ?_
   try simp only[Gx]at hK⊢
   rotate_left
   exact AllReadyH.nil
   go_simp
   have hS9:=AP hS8 (j:=4) (Ne.symm hkS) (.slice ao8 n8 c8)
   have hC9:=AP hC8 (j:=4) (Ne.symm hkC) (.slice ao8 n8 c8)
   refine hK.out _ _ (HSA.out _ hS9 hC9) (fun HS9=>?_)
   clear hK
   try simp only[Act.put,Sx]
   refine wpAnyH_done Rx ?_ _
  all_goals
   go_wp2_with fail
   go_meet
   refine⟨_,heap_set hN8 4 _,hrow8.keeps ((Aa.refl (At1 k) w8).set1 (o:=4) _) (fun y hy e=>Bh hrow8 hN8 (by decide) (by rw[hy];exact congrArg some e)),fun y hy=>?_,hS9,hC9,((((kw3.any (S:=fun g=>g=k∨(Value.slice ao l.length cp).ownBlock=some g)).no ka).step k8 fun y hy _=> .inr hy).setCell (a:=⟨k,4,none⟩) (fun _=> .inl rfl) _)⟩
   rcases ho8 y hy with e|e
   ·exact .inl e
   ·exact .inr (by have:=kw3.size;have:=ka.size;omega)
 case rest=>
  obtain⟨v8,hN8,hrow8,ho8,hS8,hC8,k8⟩:=hcut
  obtain⟨w8,hw8⟩:∃y,y=wc:=⟨_,rfl⟩
  subst hw8
  have hm8:A8 CE GQ bn nv w8:=HM.out.keeps k8 (fun e=>e.elim hmk hmv)
  have hb8:=k8.heap HB.out (fun e=>e.elim (fun e=>hkb e.symm) hvb)
  have ka8:Aa No w8 ((w8.alloc (.cells #[.int .i64 up.op.R,.int .i64 up.op.N,.int .i64 up.i,.slice none 0 0,.slice none 0 0] 331)).drew):=((Aa.refl No w8).alloc _).drew
  have hK8:((w8.alloc (.cells #[.int .i64 up.op.R,.int .i64 up.op.N,.int .i64 up.i,.slice none 0 0,.slice none 0 0] 331)).drew).heap[w8.heap.size]? =some (.cells (Fz up (.slice none 0 0) (.slice none 0 0)) 331 (0,0)):=Nx w8 _
  obtain⟨w9,hrun,hm9,k9,hs9⟩:=(hm8.keeps ka8 id).put Eb Tryz.underlying224 ⟨⟨cR,cN⟩,cI⟩ w8.heap.size
  clear hs9
  have hmb:=AA hm8 hb8
  have hmS:=AA hm8 hS8
  have hmC:=AA hm8 hC8
  have HSA:Hid (∀W:World,W.heap[b]? =some (.cells #[.pointer (some ⟨br,0,none⟩),.map (some bn)] 226 (0,0))→W.heap[S]? =some (.cells #[.int .i64 up.op.R,.int .i64 up.op.N,.int .i64 up.i,.int .i64 1,.int .i64 p] 377 (0,0))→W.heap[C]? =some (.cells #[.int .i64 cR,.int .i64 cN,.int .i64 cI] 26 (0,0))→
    W.cell? ⟨b,1,none⟩=some (.map (some bn))∧W.cell? ⟨S,0,none⟩=some (.int .i64 up.op.R)∧W.cell? ⟨S,1,none⟩=some (.int .i64 up.op.N)∧W.cell? ⟨S,2,none⟩=some (.int .i64 up.i)∧W.cell? ⟨C,0,none⟩=some (.int .i64 cR)∧W.cell? ⟨C,1,none⟩=some (.int .i64 cN)∧W.cell? ⟨C,2,none⟩=some (.int .i64 cI)):=Hx fun W e0 e1 e2=>
   ⟨Cx e0 1,Cx e1 0,Cx e1 1,Cx e1 2,Cx e2 0,Cx e2 1,Cx e2 2⟩
  have kd8:Aa No w8 w8.drew:=(Aa.refl No w8).drew
  have HS0:=HSA.out _ (kd8.heap hb8 id) (kd8.heap hS8 id) (kd8.heap hC8 id)
  have HS1:=HSA.out _ (ka8.heap hb8 id) (ka8.heap hS8 id) (ka8.heap hC8 id)
  have HS9:=HSA.out _ (k9.heap (ka8.heap hb8 id) (Ne.symm hmb)) (k9.heap (ka8.heap hS8 id) (Ne.symm hmS)) (k9.heap (ka8.heap hC8 id) (Ne.symm hmC))
  have hN9:=k9.heap (ka8.heap hN8 id) (Ne.symm hmk)
  have hr9:=(hrow8.no ka8).keeps k9 fun g hg e=>BH hrow8 hm8 (by rw[hg];exact congrArg some e)
  have hK9:=k9.heap hK8 (fun e=>by have:=hm8.lt;unfold At1 at e;omega)
  have kk:Aa (fun g=>g=k∨(Value.slice ao l.length cp).ownBlock=some g∨g=bn) w w9:=((k8.mono (fun y hy _=>hy.elim .inl (fun e=> .inr (.inl e)))).no ka8).step k9 fun y hy _=> .inr (.inr hy)
  have hsz:=k8.size
  have HFIN:=Hx (HT.out w8.heap.size w9 v8 hsz kk hN9 hr9 ho8 (fun e=>GB _ (hrow8.own_lt e)) hK9 hm9)
  have HKK:=Hx kk
  clear kk hN9 hr9 hK9 hN8 hrow8 ho8 hK8 hm9 hm8 n3 s3 s4 c0 c1 c2 hS3 hC3 hN3 hb3 ka na HC
  go_upto_region 3 with(fail)
  go_region_held3(fun W=>W.cell? ⟨b,1,none⟩=some (.map (some bn))∧W.cell? ⟨S,0,none⟩=some (.int .i64 up.op.R)∧W.cell? ⟨S,1,none⟩=some (.int .i64 up.op.N)∧W.cell? ⟨S,2,none⟩=some (.int .i64 up.i)∧W.cell? ⟨C,0,none⟩=some (.int .i64 cR)∧W.cell? ⟨C,1,none⟩=some (.int .i64 cN)∧W.cell? ⟨C,2,none⟩=some (.int .i64 cI))
   (first|exact HS0|exact HS1|exact HS9)
   (first|fail)
  all_goals
   go_wp2_with fail
   go_end0
   exact⟨rfl,HFIN.out,HKK.out.mono fun y hy _=>HF.out y hy⟩
theorem TM{F:Nat→Prop}{b:Nat}{t:Dc.YT}{w:World}(h:Dx F b t w)(c:Dc.Chr)(s:Dc.Kv)(n:Dc.CP)(hn:t.nodes s.up=some n)(hc:t.nodes c=none)(hp:s.pos≤(n.side s.side).length)(hbig:(n.side s.side).length≤1000000):
  Calls Tryz.prog 270 #[.pointer (some ⟨b,0,none⟩),CE c,Me s] w (Jo F b t c s w):=by
 obtain⟨up,sd,p⟩:=s
 cases sd
 ·exact Vj h c up p n hn hc hp hbig
 ·exact Vi h c up p n hn hc hp hbig
end Go.Proofs.YthfjefcljeamgaaGreatDoor
