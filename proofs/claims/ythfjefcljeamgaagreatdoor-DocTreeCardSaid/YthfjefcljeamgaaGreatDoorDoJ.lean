/- The document: an op is done. -/
import Derived.Test.YthfjefcljeamgaaGreatDoorDoI
namespace Go.Proofs.YthfjefcljeamgaaGreatDoor
set_option maxRecDepth 100000
set_option maxHeartbeats 4000000
open Go.RowKit
attribute [local go_sem ↓] Go.wp_at_zero Go.wp_at_succ
theorem E6.turnOps{F:Nat→Prop}{lab:Nat→Option Nu}{vo v':Value}{bk bx bt bc bw b:Nat}{s:DSt}{w w':World}{l':List Dc.Op}(h:E6 F lab vo bk bx bt bc bw b s w)(k:Aa (fun g=>lab g=some .ops∨g=b) w w')
  (hb:w'.heap[b]? =some (.cells (Il v' bk bx bt bc bw) 113 (0,0)))(ho:FO (Bv (fun g=>lab g=some .ops) w) v' l' w'):
  E6 (Bv F w) (Ee lab .ops w.heap.size w'.heap.size) v' bk bx bt bc bw b {s with ops:=l'} w':=by
 have h1:∀y,lab y≠none→Ee lab .ops w.heap.size w'.heap.size y=lab y:=fun y hy=>by
  have:=(h.own y hy).2
  unfold Ee
  rw[Ae (by omega)]
 have h2:∀x,x≠ .ops→x≠ .self→∀y,lab y=some x→Ee lab .ops w.heap.size w'.heap.size y=some x∧¬(lab y=some .ops∨y=b):=fun x hx hs y hy=>⟨(h1 y (by rw[hy];simp)).trans hy,fun e=>by
  rcases e with e|e
  ·rw[hy]at e;cases e;exact hx rfl
  ·rw[e,h.self]at hy;cases hy;exact hs rfl⟩
 refine⟨fun y hy=>?_,hb,(h1 b (by rw[h.self];simp)).trans h.self,ho.mono fun g hg hl=>?_,(h2 _ (by decide) (by decide) _ h.kindsL).1,h.kinds.keeps k (h2 _ (by decide) (by decide) _ h.kindsL).2,
  (h.tx.keeps k fun g hg=>(h2 _ (by decide) (by decide) g hg).2).mono fun g hg _=>(h2 _ (by decide) (by decide) g hg).1,(h.tree.keeps k fun g hg=>(h2 _ (by decide) (by decide) g hg).2).mono fun g hg _=>(h2 _ (by decide) (by decide) g hg).1,
  (h.kids.keeps k fun g hg=>(h2 _ (by decide) (by decide) g hg).2).mono' fun g hg _=>(h2 _ (by decide) (by decide) g hg).1,(h.words.keeps k fun g hg=>(h2 _ (by decide) (by decide) g hg).2).mono' fun g hg _=>(h2 _ (by decide) (by decide) g hg).1⟩
 ·unfold Ee at hy
  by_cases e:w.heap.size≤y∧y<w'.heap.size
  ·exact⟨.inr e.1,e.2⟩
  ·rw[Ae e]at hy
   exact⟨.inl (h.own y hy).1,AK (h.own y hy).2 k.size⟩
 ·rcases hg with hg|hg
  ·exact(h1 g (by rw[hg];simp)).trans hg
  ·unfold Ee
   rw[Ak ⟨hg,hl⟩]
theorem BI.keepsE{α:Type}{m:Nat}{f:α→List Value}{v:Value}{l:List α}{S:Nat→Prop}{w w':World}(h:BI m f v l w)(k:Aa S w w')(hn:l≠ []→∀g,v.ownBlock=some g→¬S g):BI m f v l w':=by
 rcases Classical.em (l=[])with e|e
 ·obtain⟨h0,ao,c,e1,h1,h2,_⟩:=h
  exact⟨h0,ao,c,e1,h1,h2,fun hne=>absurd e hne⟩
 ·exact h.keeps k (hn e)
/-- block b is the document d -/
def C6(F:Nat→Prop)(b:Nat)(d:Dc.Doc)(w:World):Prop:=
 ∃s,Eu F b s w∧FN s∧s.ops=d.ops∧s.kinds=d.kinds∧s.tx=d.tx∧s.ss.map (·.m)=d.ms∧s.words=d.words
theorem C6.no{F:Nat→Prop}{b:Nat}{d:Dc.Doc}{w w':World}(h:C6 F b d w)(k:Aa No w w'):C6 F b d w':=by
 obtain⟨s,h1,h2⟩:=h
 exact⟨s,h1.no k,h2⟩
theorem C6.mono{F F':Nat→Prop}{b:Nat}{d:Dc.Doc}{w:World}(h:C6 F b d w)(hF:∀g,F g→g<w.heap.size→F' g):C6 F' b d w:=by
 obtain⟨s,h1,h2⟩:=h
 exact⟨s,h1.mono hF,h2⟩
theorem C6.keeps{F S:Nat→Prop}{b:Nat}{d:Dc.Doc}{w w':World}(h:C6 F b d w)(k:Aa S w w')(hn:∀g,F g→¬S g):C6 F b d w':=by
 obtain⟨s,h1,h2⟩:=h
 exact⟨s,h1.keeps k hn,h2⟩
theorem O9{o:Dc.Op}(h:o.kind=1∨o.kind=5):o.mv=some (Dc.CN o o.id):=by unfold Dc.Op.mv;rw[Ak h]
theorem TO{o:Dc.Op}(h:o.kind=2):o.mv=some (Dc.CN o o.block):=by unfold Dc.Op.mv;rw[Ae (by omega),Ak h]
theorem O8{o:Dc.Op}(h1:o.kind≠1)(h5:o.kind≠5)(h2:o.kind≠2):o.mv=none:=by unfold Dc.Op.mv;rw[Ae (by omega),Ae h2]
theorem Pe{d:Dc.Doc}{o:Dc.Op}{m:Dc.C2}(h:o.mv=some m):(d.apply o).ms=Dc.DI d.ms m:=by rw[Dc.Kr,h]
theorem Pg{d:Dc.Doc}{o:Dc.Op}(h:o.mv=none):(d.apply o).ms=d.ms:=by rw[Dc.Kr,h]
theorem Uc{d:Dc.Doc}{o:Dc.Op}(h:o.kind=6):(d.apply o).words=Dc.KD d.words o.block ⟨o.flag,o.t,o.id.R,o.id⟩:=by
 show(if o.kind=6 then _ else _)=_
 rw[Ak h]
theorem Ht{d:Dc.Doc}{o:Dc.Op}(h:o.kind≠6):(d.apply o).words=d.words:=by
 show(if o.kind=6 then _ else _)=_
 rw[Ae h]
theorem Tn{o:Dc.Op}(hok:o.ok=true)(h:o.kind=6):Off.Bn o.block=true:=by
 have hp:=(Dc.Eg hok).2.2.1
 unfold Dc.Op.parts at hp
 rw[Ae (by omega),Ae (by omega),Ae (by omega),Ae (by omega),Ae (by omega),Ak h]at hp
 unfold Off.Bn
 simp[hp]
def Jp(F:Nat→Prop)(b:Nat)(d:Dc.Doc)(o:Dc.Op)(w:World)(e:Ending)(w':World):Prop:=
 e= .returned (.int .i64 (d.err o))∧Aa (fun g=>F g∧g<w.heap.size) w w'∧C6 (Bv F w) b (d.act o) w'
theorem OH{F:Nat→Prop}{b:Nat}{d:Dc.Doc}{w:World}(h:C6 F b d w)(hf:Dc.BS d)(hn:d.ops.length≤14000)(hF4:∀g,F g→4≤g∧g<w.heap.size)(hE:Env w)(o:Dc.Op)(cv:Value)(hcv:BI 4 AD cv o.cuts w)(hcF:o.cuts≠ []→∀g,cv.ownBlock=some g→¬F g∧g<w.heap.size)(hcz:o.cuts.length≤1000000)(hsz:o.text.length≤1000000000):
  Calls Tryz.prog 19 #[.pointer (some ⟨b,0,none⟩),opV o cv] w (Jp F b d o w):=by
 obtain⟨s,hC,hT,hops,hkinds,htx,hms,hwords⟩:=h
 have HRT:=Hx (fun W (k:Aa No w W)=>Je o cv W (hE.no k) (hcv.no k) hsz hcz)
 have HHAS:=Hx (fun W (k:Aa No w W)=>Nj (hC.no k) o.id)
 have HKN:=Hx (fun W (k:Aa No w W)=>PO (hC.no k) (hE.no k) o cv)
 rw[hkinds]at HHAS HKN
 have hkn:Px d.kinds o=d.known o:=rfl
 have hhs:(d.kinds o.id).isSome=d.has o.id:=rfl
 rw[hkn]at HKN
 rw[hhs]at HHAS
 have hTX:Dc.DT s.tx d.ops.length:=htx▸hf.tx
 have hRF:∀seg t,s.tx.texts seg=some t→Dc.Dm t:=htx▸hf.full.row
 have HWR:=Hx (fun W (k:Aa No w W) hok=>PN (hC.no k) (hE.no k) hTX (by omega) hRF o cv (hcv.no k) (fun hne g hg=>(hcF hne g hg).1) hcz hok hsz)
 have herr:d.err o=if o.ok=false then 10 else if d.has o.id then 12 else if d.known o=false then 13 else Dc.D2 d.tx o:=rfl
 have HREF:Hid (∀W er,d.err o=er→er≠0→Aa No w W→Jp F b d o w (.returned (.int .i64 er)) W):=Hx fun W er e1 e2 k=>by
  refine⟨by rw[e1],k.any,?_⟩
  have hact:d.act o=d:=by unfold Dc.Doc.act;rw[Ae (by rw[e1];exact e2)]
  rw[hact]
  exact⟨s,(hC.no k).mono fun g hg _=> .inl hg,hT,hops,hkinds,htx,hms,hwords⟩
 have HDON:Hid (∀W s',d.err o=0→Aa (fun g=>F g∧g<w.heap.size) w W→Eu (Bv F w) b s' W→FN s'→s'.ops=(d.apply o).ops→s'.kinds=(d.apply o).kinds→s'.tx=(d.apply o).tx→s'.ss.map (·.m)=(d.apply o).ms→s'.words=(d.apply o).words→Jp F b d o w (.returned (.int .i64 0)) W):=Hx fun W s' e1 k h1 h2 h3 h4 h5 h6 h7=>by
  refine⟨by rw[e1],k,?_⟩
  have hact:d.act o=d.apply o:=by unfold Dc.Doc.act;rw[Ak e1]
  rw[hact]
  exact⟨s',h1,h2,h3,h4,h5,h6,h7⟩
 have hlen:=hf.len
 have hdl:d.ops.length≤14000:=hn
 have HERR:=Hx herr
 generalize Jp F b d o w=post at HREF HDON⊢
 have HT:=Hx hT
 have HF:=Hx hf
 have HE:=Hx hE
 have HFF:=Hx hF4
 have HCV:=Hx hcv
 have HCF:=Hx hcF
 have HO:=Hx hops
 have HK:=Hx hkinds
 have HX:=Hx htx
 have HM:=Hx hms
 have HWD:=Hx hwords
 clear hC hT hops hkinds htx hms hwords hf hF4 hE hcv hcF hsz herr hkn hhs hTX hRF
 go_enter Tryz.func19,Tryz.ntmps19
 go_upto_region 1 with(fail)
 have k0:Aa No w (w.alloc (.cells (As o cv) 29)):=(Aa.refl No w).alloc _
 have hP:=Nx w (.cells (As o cv) 29)
 generalize w.alloc (.cells (As o cv) 29)=w1 at k0 hP⊢
 obtain⟨P,eP⟩:∃P,P=w.heap.size:=⟨_,rfl⟩
 rw[←eP]at hP⊢
 have hPw:w.heap.size≤P:=by omega
 clear eP
 by_cases hok:o.ok=true
 rotate_left
 ·have hok':o.ok=false:=by simpa using hok
  have he:=HERR.out
  rw[Ak hok']at he
  rw[hok']at HRT
  have HQ:=Hx (fun W k=>HREF.out W 10 he (by decide) k)
  clear he hok hok' HERR HWR
  go_wp2_with(first
   |(refine An rfl 29 _ rfl P _ 29 _ rfl hP Tryz.underlying29 rfl Rx ?_)
   |(go_at_call 66;(with_reducible refine(HRT.out _ k0).mono ?_);rintro e w2 ⟨rfl,k2⟩))
  exact HQ.out _ (k0.trans k2)
 have he:=HERR.out
 rw[Ae (by simp[hok])]at he
 rw[hok]at HRT
 go_upto_region 3 with(first
  |(refine An rfl 29 _ rfl P _ 29 _ rfl hP Tryz.underlying29 rfl Rx ?_)
  |(go_at_call 66;(with_reducible refine(HRT.out _ k0).mono ?_);rintro e w2 ⟨rfl,k2⟩))
 have hP2:=k2.heap hP id
 have k02:=k0.trans k2
 have p1:=Cx hP2 1
 have p2:=Cx hP2 2
 clear hP k0 k2 HRT
 cases hhas:d.has o.id with
 |true=>
  rw[hhas,Ak rfl]at he
  rw[hhas]at HHAS
  have HQ:=Hx (fun W k=>HREF.out W 12 he (by decide) k)
  clear he HERR HWR hhas
  go_wp2_with(go_at_call 22;(with_reducible refine(HHAS.out _ k02).mono ?_);rintro e w3 ⟨rfl,k3⟩)
  exact HQ.out _ (k02.trans k3)
 |false=>
  rw[hhas,Ae (by decide)]at he
  rw[hhas]at HHAS
  have HNH:=Hx hhas
  clear hhas
  go_upto_region 5 with(go_at_call 22;(with_reducible refine(HHAS.out _ k02).mono ?_);rintro e w3 ⟨rfl,k3⟩)
  have hP3:=k3.heap hP2 id
  have k03:=k02.trans k3
  clear hP2 k02 k3 HHAS p1 p2
  cases hkno:d.known o with
  |false=>
   rw[Ak hkno]at he
   rw[hkno]at HKN
   have HQ:=Hx (fun W k=>HREF.out W 13 he (by decide) k)
   clear he HERR HWR hkno
   go_wp2_with(first
    |(refine An rfl 29 _ rfl P _ 29 _ rfl hP3 Tryz.underlying29 rfl Rx ?_)
    |(go_at_call 67;(with_reducible refine(HKN.out _ k03).mono ?_);rintro e w4 ⟨rfl,k4⟩))
   exact HQ.out _ (k03.trans k4)
  |true=>
   rw[Ae (by simp[hkno])]at he
   rw[hkno]at HKN
   clear hkno
   go_upto_region 7 with(first
    |(refine An rfl 29 _ rfl P _ 29 _ rfl hP3 Tryz.underlying29 rfl Rx ?_)
    |(go_at_call 67;(with_reducible refine(HKN.out _ k03).mono ?_);rintro e w4 ⟨rfl,k4⟩))
   have hP4:=k4.heap hP3 id
   have k04:=k03.trans k4
   clear hP3 k03 k4 HKN
   rw[←HX.out]at he
   have HW4:=Hx (HWR.out _ k04 hok)
   obtain⟨er,her⟩:∃er,er=Dc.D2 s.tx o:=⟨_,rfl⟩
   unfold Gw at HW4
   rw[←her]at HW4 he
   by_cases hz:er=0
   rotate_left
   ·have HQ:=Hx (fun W k=>HREF.out W er he hz k)
    have hb:(er==0)=false:=by simp[hz]
    have HW5:Hid (∀P:World→Prop,(∀W,Aa No w4 W→P W)→True):=Hx fun _ _=>trivial
    have HZ:=Hx hz
    clear he HERR HWR HW5 her
    go_wp2_with(first
     |(refine An rfl 29 _ rfl P _ 29 _ rfl hP4 Tryz.underlying29 rfl Rx ?_)
     |(go_at_call 68;(with_reducible refine HW4.out.mono ?_);rintro e w5 ⟨rfl,g1,_⟩;have k5:=g1 HZ.out))
    exact HQ.out _ (k04.trans k5)
   subst hz
   have HE0:=Hx he
   clear he HERR HWR her
   go_upto_region 10 with(first
    |(refine An rfl 29 _ rfl P _ 29 _ rfl hP4 Tryz.underlying29 rfl Rx ?_)
    |(go_at_call 68;(with_reducible refine HW4.out.mono ?_);rintro e w5 ⟨rfl,_,g2⟩;obtain⟨hC5,k5⟩:=g2 rfl))
   obtain⟨s1,hs1⟩:∃s1:DSt,s1={s with tx:=Dc.Gh s.tx o}:=⟨_,rfl⟩
   rw[←hs1]at hC5
   have hP1:=Ao hP4
   obtain⟨G,hG⟩:∃G,G=Bv F w4:=⟨_,rfl⟩
   rw[←hG]at hC5
   have hw4:=k04.size
   have HGP:Hid (¬G P):=Hx fun e=>by
    rw[hG]at e
    rcases e with e|e
    ·have:=(HFF.out P e).2;omega
    ·omega
   have HGC:Hid (o.cuts≠ []→∀g,cv.ownBlock=some g→¬G g):=Hx fun hne g hg e=>by
    rw[hG]at e
    rcases e with e|e
    ·exact(HCF.out hne g hg).1 e
    ·have:=(HCF.out hne g hg).2;omega
   have HG4:Hid (∀g,G g→4≤g):=Hx fun g hg=>by
    rw[hG]at hg
    rcases hg with e|e
    ·exact(HFF.out g e).1
    ·have:=HE.out.size;omega
   have HGW:Hid (∀g,G g→Bv F w g):=Hx fun g hg=>by
    rw[hG]at hg
    exact hg.imp_right fun e=>by omega
   have k05:Aa (fun g=>F g∧g<w.heap.size) w w5:=k04.any.step k5 fun g hg hl=>⟨hg.1,hl⟩
   have hP5:=k5.heap hP4 fun e=>by have:=(HFF.out P e.1).2;omega
   have hE5:Env w5:=HE.out.keeps k05 fun g hg=>(HFF.out g hg.1).1
   have hT5:FN s1:=by rw[hs1];exact⟨HT.out.same,HT.out.kids,HT.out.ids,HT.out.chain,HT.out.sorted,HT.out.right⟩
   have ho1:s1.ops=d.ops:=by rw[hs1];exact HO.out
   have hk1:s1.kinds=d.kinds:=by rw[hs1];exact HK.out
   have hx1:s1.tx=(d.apply o).tx:=by rw[hs1];show Dc.Gh s.tx o=Dc.Gh d.tx o;rw[HX.out]
   have hm1:s1.ss.map (·.m)=d.ms:=by rw[hs1];exact HM.out
   have hw1:s1.words=d.words:=by rw[hs1];exact HWD.out
   have hlm:s1.ss.length≤900000:=by
    have e1:=congrArg List.length hm1
    rw[AM]at e1
    omega
   have hid:s1.ids o.id=none:=by
    cases hi:s1.ids o.id with
    |none=>rfl
    |some n=>
     obtain⟨t,t1,t2⟩:=(hT5.ids.1 o.id).1 (by rw[hi];simp)
     have t3:=HF.out.ids t.m (hm1▸A5.2 ⟨t,t1,rfl⟩)
     rw[t2]at t3
     have t4:=HNH.out
     unfold Dc.Doc.has at t4
     cases hk:d.kinds o.id with
     |none=>exact absurd hk t3
     |some k=>rw[hk]at t4;cases t4
   have HC5:=Hx hC5
   have HT5:=Hx hT5
   have HO1:=Hx ho1
   have HK1:=Hx hk1
   have HX1:=Hx hx1
   have HM1:=Hx hm1
   have HW1:=Hx hw1
   have HID:=Hx hid
   have HE5:=Hx hE5
   have hkin:=Dc.Wh hok
   have HPA:=Hx (Dc.Eg hok)
   have HOK:=Hx hok
   have HP5:=Hx hP5
   have p0:=Cx hP5 0
   clear hC5 hT5 hE5 ho1 hk1 hx1 hm1 hw1 hid hs1 g2 HW4 hP4 k5 hok hG hP1
   rcases hkin with h1|h2|h3|h4|h5|h6
   focus
    have b1:(o.kind==1)=true:=by simp[h1]
    have HMV:=Hx (I2 HC5.out HG4.out HE5.out HT5.out hlm o cv o.id (Dc.JZ HOK.out (O9 (.inl h1))) HID.out)
    have HMS:Hid (Dc.DI d.ms (Dc.CN o o.id)=(d.apply o).ms):=Hx (Pe (O9 (.inl h1))).symm
    have HWS:Hid (d.words=(d.apply o).words):=Hx (Ht (by omega)).symm
    have pa:=Cx hP5 1
    have pb:=Cx hP5 2
    clear h1
    go_upto_region 18 with(first
     |(refine An rfl 29 _ rfl P _ 29 _ rfl hP5 Tryz.underlying29 rfl Rx ?_)
     |(go_at_call 69;(with_reducible refine HMV.out.mono ?_);rintro e w6 ⟨rfl,k56,s2,hC6,hT6,hm6,ho6,hk6,hx6,hw6⟩))
    have q1:s2.ops=d.ops:=ho6.trans HO1.out
    have q2:s2.kinds=d.kinds:=hk6.trans HK1.out
    have q3:s2.tx=(d.apply o).tx:=hx6.trans HX1.out
    have q4:s2.ss.map (·.m)=(d.apply o).ms:=by rw[hm6,HM1.out];exact HMS.out
    have q5:s2.words=(d.apply o).words:=hw6.trans (HW1.out.trans HWS.out)
    have k06:Aa (fun g=>F g∧g<w.heap.size) w w6:=k05.step k56 fun g hg hl=>⟨(HGW.out g hg.1).elim id fun e=>absurd hl (Nat.not_lt.2 e),hl⟩
    have hP6:=k56.heap HP5.out fun e=>HGP.out e.1
    have hP5l:=Ao hP5
    have h5z:=k05.size
    obtain⟨G6,hG6⟩:∃G6,G6=Bv G w5:=⟨_,rfl⟩
    rw[←hG6]at hC6
    have HGP6:Hid (¬G6 P):=Hx fun e=>by rw[hG6]at e;exact e.elim HGP.out fun e=>by omega
    have HGW6:Hid (∀g,G6 g→Bv F w g):=Hx fun g e=>by rw[hG6]at e;exact e.elim (HGW.out g) fun e=> .inr (by omega)
    have HGC6:Hid (o.cuts≠ []→∀g,cv.ownBlock=some g→¬G6 g):=Hx fun hne g hg e=>by rw[hG6]at e;exact e.elim (HGC.out hne g hg) fun e=>by have:=(HCF.out hne g hg).2;omega
    clear hG6 hP5l h5z k56 p0
    clear pa pb hm6 ho6 hk6 hx6 hw6 HMV
   rotate_left
   focus
    have b1:(o.kind==1)=false:=by simp[h2]
    have b5:(o.kind==5)=false:=by simp[h2]
    have b2:(o.kind==2)=true:=by simp[h2]
    have HMV:=Hx (I2 HC5.out HG4.out HE5.out HT5.out hlm o cv o.block (Dc.JZ HOK.out (TO h2)) HID.out)
    have HMS:Hid (Dc.DI d.ms (Dc.CN o o.block)=(d.apply o).ms):=Hx (Pe (TO h2)).symm
    have HWS:Hid (d.words=(d.apply o).words):=Hx (Ht (by omega)).symm
    have pa:=Cx hP5 4
    have pb:=Cx hP5 5
    clear h2
    go_upto_region 18 with(first
     |(refine An rfl 29 _ rfl P _ 29 _ rfl hP5 Tryz.underlying29 rfl Rx ?_)
     |(go_at_call 69;(with_reducible refine HMV.out.mono ?_);rintro e w6 ⟨rfl,k56,s2,hC6,hT6,hm6,ho6,hk6,hx6,hw6⟩))
    have q1:s2.ops=d.ops:=ho6.trans HO1.out
    have q2:s2.kinds=d.kinds:=hk6.trans HK1.out
    have q3:s2.tx=(d.apply o).tx:=hx6.trans HX1.out
    have q4:s2.ss.map (·.m)=(d.apply o).ms:=by rw[hm6,HM1.out];exact HMS.out
    have q5:s2.words=(d.apply o).words:=hw6.trans (HW1.out.trans HWS.out)
    have k06:Aa (fun g=>F g∧g<w.heap.size) w w6:=k05.step k56 fun g hg hl=>⟨(HGW.out g hg.1).elim id fun e=>absurd hl (Nat.not_lt.2 e),hl⟩
    have hP6:=k56.heap HP5.out fun e=>HGP.out e.1
    have hP5l:=Ao hP5
    have h5z:=k05.size
    obtain⟨G6,hG6⟩:∃G6,G6=Bv G w5:=⟨_,rfl⟩
    rw[←hG6]at hC6
    have HGP6:Hid (¬G6 P):=Hx fun e=>by rw[hG6]at e;exact e.elim HGP.out fun e=>by omega
    have HGW6:Hid (∀g,G6 g→Bv F w g):=Hx fun g e=>by rw[hG6]at e;exact e.elim (HGW.out g) fun e=> .inr (by omega)
    have HGC6:Hid (o.cuts≠ []→∀g,cv.ownBlock=some g→¬G6 g):=Hx fun hne g hg e=>by rw[hG6]at e;exact e.elim (HGC.out hne g hg) fun e=>by have:=(HCF.out hne g hg).2;omega
    clear hG6 hP5l h5z k56 p0
    clear pa pb hm6 ho6 hk6 hx6 hw6 HMV
   rotate_left
   focus
    have b1:(o.kind==1)=false:=by simp[h3]
    have b5:(o.kind==5)=false:=by simp[h3]
    have b2:(o.kind==2)=false:=by simp[h3]
    have b6:(o.kind==6)=false:=by simp[h3]
    have HMS:Hid (d.ms=(d.apply o).ms):=Hx (Pg (O8 (by omega) (by omega) (by omega))).symm
    have HWS:Hid (d.words=(d.apply o).words):=Hx (Ht (by omega)).symm
    clear h3
    go_upto_region 18 with(fail)
    obtain⟨w6,hw6⟩:∃y,y=w5:=⟨_,rfl⟩
    subst hw6
    have hC6:=HC5.out
    have k06:Aa (fun g=>F g∧g<w.heap.size) w w6:=k05
    obtain⟨G6,hG6⟩:∃G6,G6=G:=⟨_,rfl⟩
    rw[←hG6]at hC6 HGP HGC HGW
    obtain⟨s2,hs2⟩:∃s2,s2=s1:=⟨_,rfl⟩
    rw[←hs2]at hC6
    have hT6:FN s2:=hs2▸HT5.out
    have q1:s2.ops=d.ops:=hs2▸HO1.out
    have q2:s2.kinds=d.kinds:=hs2▸HK1.out
    have q3:s2.tx=(d.apply o).tx:=hs2▸HX1.out
    have q4:s2.ss.map (·.m)=(d.apply o).ms:=hs2▸(HM1.out.trans HMS.out)
    have q5:s2.words=(d.apply o).words:=hs2▸(HW1.out.trans HWS.out)
    have hP6:=HP5.out
    have HGP6:Hid (¬G6 P):=HGP
    have HGW6:Hid (∀g,G6 g→Bv F w g):=HGW
    have HGC6:Hid (o.cuts≠ []→∀g,cv.ownBlock=some g→¬G6 g):=HGC
    clear hs2 hG6 p0
   rotate_left
   focus
    have b1:(o.kind==1)=false:=by simp[h4]
    have b5:(o.kind==5)=false:=by simp[h4]
    have b2:(o.kind==2)=false:=by simp[h4]
    have b6:(o.kind==6)=false:=by simp[h4]
    have HMS:Hid (d.ms=(d.apply o).ms):=Hx (Pg (O8 (by omega) (by omega) (by omega))).symm
    have HWS:Hid (d.words=(d.apply o).words):=Hx (Ht (by omega)).symm
    clear h4
    go_upto_region 18 with(fail)
    obtain⟨w6,hw6⟩:∃y,y=w5:=⟨_,rfl⟩
    subst hw6
    have hC6:=HC5.out
    have k06:Aa (fun g=>F g∧g<w.heap.size) w w6:=k05
    obtain⟨G6,hG6⟩:∃G6,G6=G:=⟨_,rfl⟩
    rw[←hG6]at hC6 HGP HGC HGW
    obtain⟨s2,hs2⟩:∃s2,s2=s1:=⟨_,rfl⟩
    rw[←hs2]at hC6
    have hT6:FN s2:=hs2▸HT5.out
    have q1:s2.ops=d.ops:=hs2▸HO1.out
    have q2:s2.kinds=d.kinds:=hs2▸HK1.out
    have q3:s2.tx=(d.apply o).tx:=hs2▸HX1.out
    have q4:s2.ss.map (·.m)=(d.apply o).ms:=hs2▸(HM1.out.trans HMS.out)
    have q5:s2.words=(d.apply o).words:=hs2▸(HW1.out.trans HWS.out)
    have hP6:=HP5.out
    have HGP6:Hid (¬G6 P):=HGP
    have HGW6:Hid (∀g,G6 g→Bv F w g):=HGW
    have HGC6:Hid (o.cuts≠ []→∀g,cv.ownBlock=some g→¬G6 g):=HGC
    clear hs2 hG6 p0
   rotate_left
   focus
    have b1:(o.kind==1)=false:=by simp[h5]
    have b5:(o.kind==5)=true:=by simp[h5]
    have HMV:=Hx (I2 HC5.out HG4.out HE5.out HT5.out hlm o cv o.id (Dc.JZ HOK.out (O9 (.inr h5))) HID.out)
    have HMS:Hid (Dc.DI d.ms (Dc.CN o o.id)=(d.apply o).ms):=Hx (Pe (O9 (.inr h5))).symm
    have HWS:Hid (d.words=(d.apply o).words):=Hx (Ht (by omega)).symm
    have pa:=Cx hP5 1
    have pb:=Cx hP5 2
    clear h5
    go_upto_region 18 with(first
     |(refine An rfl 29 _ rfl P _ 29 _ rfl hP5 Tryz.underlying29 rfl Rx ?_)
     |(go_at_call 69;(with_reducible refine HMV.out.mono ?_);rintro e w6 ⟨rfl,k56,s2,hC6,hT6,hm6,ho6,hk6,hx6,hw6⟩))
    have q1:s2.ops=d.ops:=ho6.trans HO1.out
    have q2:s2.kinds=d.kinds:=hk6.trans HK1.out
    have q3:s2.tx=(d.apply o).tx:=hx6.trans HX1.out
    have q4:s2.ss.map (·.m)=(d.apply o).ms:=by rw[hm6,HM1.out];exact HMS.out
    have q5:s2.words=(d.apply o).words:=hw6.trans (HW1.out.trans HWS.out)
    have k06:Aa (fun g=>F g∧g<w.heap.size) w w6:=k05.step k56 fun g hg hl=>⟨(HGW.out g hg.1).elim id fun e=>absurd hl (Nat.not_lt.2 e),hl⟩
    have hP6:=k56.heap HP5.out fun e=>HGP.out e.1
    have hP5l:=Ao hP5
    have h5z:=k05.size
    obtain⟨G6,hG6⟩:∃G6,G6=Bv G w5:=⟨_,rfl⟩
    rw[←hG6]at hC6
    have HGP6:Hid (¬G6 P):=Hx fun e=>by rw[hG6]at e;exact e.elim HGP.out fun e=>by omega
    have HGW6:Hid (∀g,G6 g→Bv F w g):=Hx fun g e=>by rw[hG6]at e;exact e.elim (HGW.out g) fun e=> .inr (by omega)
    have HGC6:Hid (o.cuts≠ []→∀g,cv.ownBlock=some g→¬G6 g):=Hx fun hne g hg e=>by rw[hG6]at e;exact e.elim (HGC.out hne g hg) fun e=>by have:=(HCF.out hne g hg).2;omega
    clear hG6 hP5l h5z k56 p0
    clear pa pb hm6 ho6 hk6 hx6 hw6 HMV
   rotate_left
   focus
    have b1:(o.kind==1)=false:=by simp[h6]
    have b5:(o.kind==5)=false:=by simp[h6]
    have b2:(o.kind==2)=false:=by simp[h6]
    have b6:(o.kind==6)=true:=by simp[h6]
    have HMS:Hid (d.ms=(d.apply o).ms):=Hx (Pg (O8 (by omega) (by omega) (by omega))).symm
    have HWS:Hid (Dc.KD d.words o.block ⟨o.flag,o.t,o.id.R,o.id⟩=(d.apply o).words):=Hx (Uc h6).symm
    have HRB:=Hx (Tn HOK.out h6)
    clear h6
    go_upto_region 17 with(fail)
    obtain⟨lab,vo,bk,bx,bt,bc,bw,hD5⟩:=HC5.out
    have HSY:=Hx (fun W (k:Aa No w5 W)=>Qy (hD5.words.keeps k fun _ _ e=>e) (HE5.out.no k) o.block ⟨o.flag,o.t,o.id.R,o.id⟩ HRB.out HPA.out.1 HPA.out.2.1)
    have hb5:=hD5.cells
    have hnb:¬lab b=some .words:=by rw[hD5.self];simp
    have hnP:¬lab P=some .words:=fun e=>HGP.out (hD5.own P (by rw[e];simp)).1
    have HD5:=Hx hD5
    have kd:Aa No w5 w5.drew:=(Aa.refl No w5).drew
    have hb5d:=kd.heap hb5 id
    have hP5d:=kd.heap hP5 id
    clear hD5
    refine wp_region_held_drew (S:=fun W=>W.cell? ⟨b,5,none⟩=some (.pointer (some ⟨bw,0,none⟩))∧W.cell? ⟨P,4,none⟩=some (.int .i64 o.block.R)∧W.cell? ⟨P,5,none⟩=some (.int .i64 o.block.N)∧W.cell? ⟨P,19,none⟩=some (.bool o.flag)∧W.cell? ⟨P,1,none⟩=some (.int .i64 o.id.R)∧W.cell? ⟨P,2,none⟩=some (.int .i64 o.id.N)∧W.heap[P]? =some (.cells (As o cv) 29 (0,0))) Rx
     ⟨Cx hb5d 5,Cx hP5d 4,Cx hP5d 5,Cx hP5d 19,Cx hP5d 1,Cx hP5d 2,hP5d⟩ (fun HS5=>?_)
    generalize w5.drew=w5d at kd hb5d hP5d HS5⊢
    refine Tx 0 ?_ ?_ ?_
    rotate_left
    focus
     intro wH hSw
     try simp only[Gx]
     try dsimp only at hSw
     go_simp
     try with_reducible rfl
    try simp only[Gx,Act.put,Sx]
    refine Tx 1 ?_ ?_ ?_
    rotate_left
    focus
     intro wH hSw
     try simp only[Gx]
     try dsimp only at hSw
     go_simp
     try with_reducible rfl
    try simp only[Gx,Act.put,Sx]
    refine Tx 2 ?_ ?_ ?_
    rotate_left
    focus
     intro wH hSw
     try simp only[Gx]
     try dsimp only at hSw
     go_simp
     try with_reducible rfl
    try simp only[Gx,Act.put,Sx]
    refine Tx 3 ?_ ?_ ?_
    rotate_left
    focus
     intro wH hSw
     try simp only[Gx]
     try dsimp only at hSw
     go_simp
     try with_reducible rfl
    try simp only[Gx,Act.put,Sx]
    refine Tx 4 ?_ ?_ ?_
    rotate_left
    focus
     intro wH hSw
     try simp only[Gx]
     try dsimp only at hSw
     go_simp
     try with_reducible rfl
    try simp only[Gx,Act.put,Sx]
    refine Tx 5 ?_ ?_ ?_
    rotate_left
    focus
     intro wH hSw
     try simp only[Gx]
     try dsimp only at hSw
     go_simp
     try with_reducible rfl
    try simp only[Gx,Act.put,Sx]
    refine Tx 6 ?_ ?_ ?_
    rotate_left
    focus
     intro wH hSw
     try simp only[Gx]
     try dsimp only at hSw
     go_simp
     try with_reducible rfl
    try simp only[Gx,Act.put,Sx]
    refine Tx 7 ?_ ?_ ?_
    rotate_left
    focus
     intro wH hSw
     try simp only[Gx]
     try dsimp only at hSw
     go_simp
     try with_reducible rfl
    try simp only[Gx,Act.put,Sx]
    refine wpAnyH_take (i:=8) (v:= .agg (As o cv)) rfl Rx Rx Rx (fun _ _ _ h=>h) (BA rfl _ _ rfl P _ 29 _ rfl (fun W h=>h.2.2.2.2.2.2) Tryz.underlying29 rfl Rx) HS5 ?_
    simp only[Gx,Act.put,Sx]
    refine Tx 10 ?_ ?_ ?_
    rotate_left
    focus
     intro wH hSw
     try simp only[Gx]
     try dsimp only at hSw
     go_simp
     try with_reducible rfl
    try simp only[Gx,Act.put,Sx]
    refine Tx 11 ?_ ?_ ?_
    rotate_left
    focus
     intro wH hSw
     try simp only[Gx]
     try dsimp only at hSw
     go_simp
     try with_reducible rfl
    try simp only[Gx,Act.put,Sx]
    refine wpAnyH_ready (rs:=[9]) Rx (by simp) ?_
    refine AllReadyH.cons rfl (fun K hK=>?_) ?_
    try simp only[Gx]at hK⊢
    rotate_left
    exact AllReadyH.nil
    go_simp
    go_at_call 71
    (with_reducible refine(Ko o cv _).mono ?_)
    rintro e w5e ⟨rfl,k5e⟩
    have k55:=kd.trans k5e
    have hb5e:=k55.heap hb5 id
    have hP5e:=k55.heap hP5 id
    refine hK.out _ _ ⟨Cx hb5e 5,Cx hP5e 4,Cx hP5e 5,Cx hP5e 19,Cx hP5e 1,Cx hP5e 2,hP5e⟩ (fun HS6=>?_)
    clear hK
    try simp only[Act.put,Sx]
    have HSY2:Hid (Calls Tryz.prog 70 #[.pointer (some ⟨bw,0,none⟩),.agg #[.int .i64 o.block.R,.int .i64 o.block.N],.bool o.flag,.agg #[.int .i64 o.t,.int .i64 o.id.R],.agg #[.int .i64 o.id.R,.int .i64 o.id.N]] w5e (Kw (fun g=>lab g=some .words) bw s1.words o.block ⟨o.flag,o.t,o.id.R,o.id⟩ w5e)):=Hx (HSY.out _ k55)
    refine wpAnyH_ready (rs:=[12]) Rx (by simp) ?_
    refine AllReadyH.cons rfl (fun K hK=>?_) ?_
    try simp only[Gx]at hK⊢
    rotate_left
    exact AllReadyH.nil
    go_simp
    go_at_call 70
    (with_reducible refine HSY2.out.mono ?_)
    rintro e w6 ⟨okw,rfl,k6w,hwd6⟩
    have hb6e:=k6w.heap hb5e hnb
    have hP6e:=k6w.heap hP5e hnP
    refine hK.out _ _ ⟨Cx hb6e 5,Cx hP6e 4,Cx hP6e 5,Cx hP6e 19,Cx hP6e 1,Cx hP6e 2,hP6e⟩ (fun HS7=>?_)
    clear hK
    try simp only[Act.put,Sx]
    refine wpAnyH_done Rx ?_ _
    have hD6:=(HD5.out.no k55).turnWords k6w hwd6
    have k56:Aa (fun g=>G g∧g<w5.heap.size) w5 w6:=k55.any.step k6w fun g hg hl=>⟨(HD5.out.own g (by rw[hg];simp)).1,hl⟩
    have hC6':Eu (Bv G w5e) b {s1 with words:=Dc.KD s1.words o.block ⟨o.flag,o.t,o.id.R,o.id⟩} w6:=⟨_,_,_,_,_,_,_,hD6⟩
    have hC6:Eu (Bv G w5) b {s1 with words:=Dc.KD s1.words o.block ⟨o.flag,o.t,o.id.R,o.id⟩} w6:=hC6'.mono fun g hg _=>hg.imp_right fun e=>AG k55.size e
    obtain⟨s2,hs2⟩:∃s2:DSt,s2={s1 with words:=Dc.KD s1.words o.block ⟨o.flag,o.t,o.id.R,o.id⟩}:=⟨_,rfl⟩
    rw[←hs2]at hC6
    have hT6:FN s2:=by rw[hs2];exact⟨HT5.out.same,HT5.out.kids,HT5.out.ids,HT5.out.chain,HT5.out.sorted,HT5.out.right⟩
    have q1:s2.ops=d.ops:=by rw[hs2];exact HO1.out
    have q2:s2.kinds=d.kinds:=by rw[hs2];exact HK1.out
    have q3:s2.tx=(d.apply o).tx:=by rw[hs2];exact HX1.out
    have q4:s2.ss.map (·.m)=(d.apply o).ms:=by rw[hs2];exact HM1.out.trans HMS.out
    have q5:s2.words=(d.apply o).words:=by rw[hs2];show Dc.KD s1.words _ _=_;rw[HW1.out];exact HWS.out
    have k06:Aa (fun g=>F g∧g<w.heap.size) w w6:=k05.step k56 fun g hg hl=>⟨(HGW.out g hg.1).elim id fun e=>absurd hl (Nat.not_lt.2 e),hl⟩
    have hP6:=k56.heap HP5.out fun e=>HGP.out e.1
    have hP5l:=Ao hP5
    have h5z:=k05.size
    obtain⟨G6,hG6⟩:∃G6,G6=Bv G w5:=⟨_,rfl⟩
    rw[←hG6]at hC6
    have HGP6:Hid (¬G6 P):=Hx fun e=>by rw[hG6]at e;exact e.elim HGP.out fun e=>by omega
    have HGW6:Hid (∀g,G6 g→Bv F w g):=Hx fun g e=>by rw[hG6]at e;exact e.elim (HGW.out g) fun e=> .inr (by omega)
    have HGC6:Hid (o.cuts≠ []→∀g,cv.ownBlock=some g→¬G6 g):=Hx fun hne g hg e=>by rw[hG6]at e;exact e.elim (HGC.out hne g hg) fun e=>by have:=(HCF.out hne g hg).2;omega
    clear hG6 hP5l h5z k56 p0
    clear hs2 hC6' hD6 hwd6 HS5 HS6 HS7 HSY HSY2 HD5 k6w k5e k55 kd hb5 hb5d hb5e hb6e hP5d hP5e hP6e hnb hnP
    go_upto_region 18 with(fail)
   all_goals
    clear hP5 HC5 HT5 HO1 HK1 HX1 HM1 HW1 HID HE5 HMS HWS HP5 HGP HGC HGW HG4 k05
    have HCV6:Hid (BI 4 AD cv o.cuts w6):=Hx (HCV.out.keepsE k06 fun hne g hg e=>(HCF.out hne g hg).1 e.1)
    obtain⟨lab,vo,bk,bx,bt,bc,bw,hD6⟩:=hC6
    have hb6:=hD6.cells
    have hPl:=Ao hP6
    have kd:Aa No w6 w6.drew:=(Aa.refl No w6).drew
    have hkm:=hD6.kinds
    have hkb:bk≠b:=AA hkm hb6
    have hkP:bk≠P:=AA hkm hP6
    have HD6:=Hx hD6
    have hb6d:=kd.heap hb6 id
    have hP6d:=kd.heap hP6 id
    clear hD6
    refine wp_region_held_drew (S:=fun W=>W.cell? ⟨b,1,none⟩=some (.map (some bk))∧W.cell? ⟨P,1,none⟩=some (.int .i64 o.id.R)∧W.cell? ⟨P,2,none⟩=some (.int .i64 o.id.N)∧W.cell? ⟨P,0,none⟩=some (.int .i64 o.kind)) Rx
     ⟨Cx hb6d 1,Cx hP6d 1,Cx hP6d 2,Cx hP6d 0⟩ (fun HS5=>?_)
    generalize w6.drew=w6d at kd hb6d hP6d HS5⊢
    refine Tx 0 ?_ ?_ ?_
    rotate_left
    focus
     intro wH hSw
     try simp only[Gx]
     try dsimp only at hSw
     go_simp
     try with_reducible rfl
    try simp only[Gx,Act.put,Sx]
    refine Tx 1 ?_ ?_ ?_
    rotate_left
    focus
     intro wH hSw
     try simp only[Gx]
     try dsimp only at hSw
     go_simp
     try with_reducible rfl
    try simp only[Gx,Act.put,Sx]
    refine Tx 2 ?_ ?_ ?_
    rotate_left
    focus
     intro wH hSw
     try simp only[Gx]
     try dsimp only at hSw
     go_simp
     try with_reducible rfl
    try simp only[Gx,Act.put,Sx]
    refine Tx 3 ?_ ?_ ?_
    rotate_left
    focus
     intro wH hSw
     try simp only[Gx]
     try dsimp only at hSw
     go_simp
     try with_reducible rfl
    try simp only[Gx,Act.put,Sx]
    refine Tx 4 ?_ ?_ ?_
    rotate_left
    focus
     intro wH hSw
     try simp only[Gx]
     try dsimp only at hSw
     go_simp
     try with_reducible rfl
    try simp only[Gx,Act.put,Sx]
    refine Tx 5 ?_ ?_ ?_
    rotate_left
    focus
     intro wH hSw
     try simp only[Gx]
     try dsimp only at hSw
     go_simp
     try with_reducible rfl
    try simp only[Gx,Act.put,Sx]
    refine Tx 6 ?_ ?_ ?_
    rotate_left
    focus
     intro wH hSw
     try simp only[Gx]
     try dsimp only at hSw
     go_simp
     try with_reducible rfl
    try simp only[Gx,Act.put,Sx]
    refine Tx 7 ?_ ?_ ?_
    rotate_left
    focus
     intro wH hSw
     try simp only[Gx]
     try dsimp only at hSw
     go_simp
     try with_reducible rfl
    try simp only[Gx,Act.put,Sx]
    obtain⟨w7,hrun0,hm7,k7,hs7⟩:=(hkm.keeps kd id).put Eh Tryz.underlying43 o.id o.kind
    have hrun:(Instr.mapUpdate 43 (.map (some bk)) (.agg #[.int .i64 o.id.R,.int .i64 o.id.N]) (.int .i64 o.kind)).run Tryz.prog w6d= .ok () w7:=hrun0
    clear hs7 hrun0
    have hb7:=k7.heap hb6d (Ne.symm hkb)
    have hP7:=k7.heap hP6d (Ne.symm hkP)
    refine wpAnyH_ready (rs:=[8]) Rx (by simp) ?_
    refine AllReadyH.cons rfl (fun K hK=>?_) ?_
    try simp only[Gx]at hK⊢
    rotate_left
    exact AllReadyH.nil
    go_simp
    refine hK.out _ _ ⟨Cx hb7 1,Cx hP7 1,Cx hP7 2,Cx hP7 0⟩ (fun HS6=>?_)
    clear hK hrun
    try simp only[Act.put]
    refine wpAnyH_done Rx ?_ _
    have hD7:=(HD6.out.no kd).turnKinds (k7.mono fun y hy _=>by unfold At1 at hy;rw[hy];exact HD6.out.kindsL) hm7
    have hbkG:=(HD6.out.own bk (by rw[HD6.out.kindsL];simp)).1
    have k07:Aa (fun g=>F g∧g<w.heap.size) w w7:=(k06.no kd).step k7 fun y hy hl=>by
     unfold At1 at hy
     subst hy
     exact⟨(HGW6.out _ hbkG).elim id fun e=>absurd hl (Nat.not_lt.2 e),hl⟩
    have HCV7:Hid (BI 4 AD cv o.cuts w7):=Hx ((HCV6.out.no kd).keepsE k7 fun hne g hg e=>HGC6.out hne g hg (by unfold At1 at e;rw[e];exact hbkG))
    have hz6:=kd.size
    have hwz:=k06.size
    obtain⟨G7,hG7⟩:∃G7,G7=Bv G6 w6d:=⟨_,rfl⟩
    rw[←hG7]at hD7
    have HGW7:Hid (∀g,G7 g→Bv F w g):=Hx fun g e=>by rw[hG7]at e;exact e.elim (HGW6.out g) fun e=> .inr (by omega)
    have HGP7:Hid (¬G7 P):=Hx fun e=>by rw[hG7]at e;exact e.elim HGP6.out fun e=>by omega
    generalize Ee lab .kinds w6d.heap.size w7.heap.size=lab7 at hD7
    clear hG7 hbkG hm7 k7 HCV6 HGW6 HGP6 HGC6 k06 HD6 HS5 HS6 hb6 hb6d hP6 hP6d hkm hkb hkP hPl hz6 hwz kd
    go_upto_region 19 with(fail)
    have kd7:Aa No w7 w7.drew:=(Aa.refl No w7).drew
    have hb7d:=kd7.heap hb7 id
    have hP7d:=kd7.heap hP7 id
    have hD7d:=hD7.no kd7
    have HOPS:=Hx hD7d.ops
    have HLP:Hid (∀g,lab7 g=some .ops→g≠b∧g≠P):=Hx fun g hg=>⟨fun e=>(by rw[e,hD7.self]at hg;cases hg),fun e=>HGP7.out (e▸(hD7.own g (by rw[hg];simp)).1)⟩
    have HOW:Hid (∀g,Gp vo g→lab7 g=some .ops):=Hx fun g hg=>by
     obtain⟨_,_,_,h3,_⟩:=HOPS.out
     exact h3 g hg
    have HCL:=Hx (fun W (k:Aa No w7.drew W)=>LC o cv W ((HCV7.out.no kd7).no k) hcz)
    have hol:s2.ops.length≤1000000:=by rw[q1];omega
    have HD7:=Hx hD7d
    have hbl:=Ao hb7d
    have hPl:=Ao hP7d
    have hbP:b≠P:=fun e=>HGP7.out (e▸(hD7.own b (by rw[hD7.self];simp)).1)
    have k07d:=k07.no kd7
    obtain⟨vao,vc0,hvo,_⟩:=HOPS.out.form
    have HVO:=Hx hvo
    clear hvo
    have HFIN:Hid (∀v' w10,Aa (fun g=>lab7 g=some .ops∨g=b) w7.drew w10→w10.heap[b]? =some (.cells (Il v' bk bx bt bc bw) 113 (0,0))→FO (Bv (fun g=>lab7 g=some .ops) w7.drew) v' (s2.ops++[o]) w10→post (.returned (.int .i64 0)) w10):=Hx fun v' w10 k10 hb10 ho10=>by
     have hD10:=HD7.out.turnOps k10 hb10 ho10
     refine HDON.out w10 {s2 with kinds:=Db s2.kinds o.id (some o.kind),ops:=s2.ops++[o]} HE0.out (k07d.step k10 fun g hg hl=>⟨?_,hl⟩) ?_ ⟨hT6.same,hT6.kids,hT6.ids,hT6.chain,hT6.sorted,hT6.right⟩ ?_ ?_ q3 q4 q5
     ·have hG:G7 g:=by
       rcases hg with hg|hg
       ·exact(HD7.out.own g (by rw[hg];simp)).1
       ·rw[hg];exact(HD7.out.own b (by rw[HD7.out.self];simp)).1
      exact(HGW7.out g hG).elim id fun e=>absurd hl (Nat.not_lt.2 e)
     ·have hC10:Eu (Bv G7 w7.drew) b {s2 with kinds:=Db s2.kinds o.id (some o.kind),ops:=s2.ops++[o]} w10:=⟨_,_,_,_,_,_,_,hD10⟩
      exact hC10.mono fun g hg _=>hg.elim (HGW7.out g) fun e=> .inr (AG k07d.size e)
     ·show s2.ops++[o]=d.ops++[o]
      rw[q1]
     ·show Db s2.kinds o.id (some o.kind)=Dc.Sj d.kinds o.id o.kind
      rw[q2]
      rfl
    clear hD7 hD7d hT6 q1 q2 q3 q4 q5 hb7 hP7 k07 k07d
    refine wp_region_held_drew (S:=fun W=>W.heap[P]? =some (.cells (As o cv) 29 (0,0))) Rx hP7d (fun HS5=>?_)
    generalize w7.drew=w7d at HOPS HCL hb7d hP7d HS5 hbl hPl HFIN⊢
    refine Tx 0 ?_ ?_ ?_
    rotate_left
    focus
     intro wH hSw
     try simp only[Gx]
     try dsimp only at hSw
     go_simp
     try with_reducible rfl
    try simp only[Gx,Act.put,Sx]
    refine Tx 1 ?_ ?_ ?_
    rotate_left
    focus
     intro wH hSw
     try simp only[Gx]
     try dsimp only at hSw
     go_simp
     try with_reducible rfl
    try simp only[Gx,Act.put,Sx]
    refine Tx 2 ?_ ?_ ?_
    rotate_left
    focus
     intro wH hSw
     try simp only[Gx]
     try dsimp only at hSw
     go_simp
     try with_reducible rfl
    try simp only[Gx,Act.put,Sx]
    refine Tx 3 ?_ ?_ ?_
    rotate_left
    focus
     intro wH hSw
     try simp only[Gx]
     try dsimp only at hSw
     go_simp
     try with_reducible rfl
    try simp only[Gx,Act.put,Sx]
    refine wpAnyH_take (i:=5) (v:= .agg (As o cv)) rfl Rx Rx Rx (fun _ _ _ h=>h) (BA rfl _ _ rfl P _ 29 _ rfl (fun W h=>h) Tryz.underlying29 rfl Rx) HS5 ?_
    simp only[Gx,Act.put,Sx]
    have kX:Aa No w7d w7d:=Aa.refl _ _
    refine wpAnyH_ready (rs:=[4,6]) Rx (by simp) ?_
    refine AllReadyH.cons rfl (fun K hK=>?_) ?_
    try simp only[Gx]at hK⊢
    focus
     have y0:=Cx hb7d 0
     go_simp
     refine hK.out _ _ hP7d (fun _=>?_)
     clear hK y0
     try simp only[Act.put,Sx]
     refine wpAnyH_ready (rs:=[6]) Rx (by simp) ?_
     refine AllReadyH.cons rfl (fun K hK=>?_) ?_
     try simp only[Gx]at hK⊢
     rotate_left
     exact AllReadyH.nil
     go_simp
     go_at_call 72
     (with_reducible refine(HCL.out _ kX).mono ?_)
     rintro e w8 ⟨v8,rfl,hr8,ho8,k8⟩
     obtain⟨va,vn,vc,rfl⟩:=hr8.slice
     have k78:=(kX).trans k8
     have hb8:=k8.heap hb7d id
     have hP8:=k8.heap hP7d id
     have ho8':∀g,(Value.slice va vn vc).ownBlock=some g→w7d.heap.size≤g:=fun g hg=>AG (kX).size (ho8 g hg)
     refine hK.out _ _ hP8 (fun _=>?_)
     clear hK
     try simp only[Act.put,Sx]
     refine wpAnyH_ready (rs:=[7]) Rx (by simp) ?_
     refine AllReadyH.cons rfl (fun K hK=>?_) ?_
     try simp only[Gx]at hK⊢
     rotate_left
     exact AllReadyH.nil
     go_simp
     have hb8a:=Ab hb8 (.cells (As o (.slice va vn vc)) 29)
     have hP8a:=Ab hP8 (.cells (As o (.slice va vn vc)) 29)
     refine hK.out _ _ hP8a (fun _=>?_)
     clear hK
     try simp only[Act.put,Sx]
     refine wpAnyH_ready (rs:=[8]) Rx (by simp) ?_
     refine AllReadyH.cons rfl (fun K hK=>?_) ?_
     try simp only[Gx]at hK⊢
     rotate_left
     exact AllReadyH.nil
     obtain⟨v',w9,hr9,ho9,k9,hov9⟩:=HOPS.out.append hol k78 hr8 ho8' 22
     have hb9:=k9.heap hb7d fun e=>(HLP.out _ (HOW.out _ e)).1 rfl
     have hP9:=k9.heap hP7d fun e=>(HLP.out _ (HOW.out _ e)).2 rfl
     obtain⟨ao9,c9,hv9,_⟩:=ho9.form
     generalize (s2.ops++[o]).length=n9 at hv9
     subst hv9
     refine CW (a:={tmps:=_,defers:=_}) rfl _ _ 22 22 rfl _ _ (by simp[Act.eval]) (by simp[Act.eval]) hr9 ?_
     refine hK.out _ _ hP9 (fun _=>?_)
     clear hK
     try simp only[Act.put,Sx]
     refine Tx 9 ?_ ?_ ?_
     rotate_left
     focus
      intro wH hSw
      try simp only[Gx]
      try dsimp only at hSw
      go_simp
      try with_reducible rfl
     try simp only[Gx,Act.put,Sx]
     refine Tx 10 ?_ ?_ ?_
     rotate_left
     focus
      intro wH hSw
      try simp only[Gx]
      try dsimp only at hSw
      go_simp
      try with_reducible rfl
     try simp only[Gx,Act.put,Sx]
     refine wpAnyH_ready (rs:=[11]) Rx (by simp) ?_
     refine AllReadyH.cons rfl (fun K hK=>?_) ?_
     try simp only[Gx]at hK⊢
     rotate_left
     exact AllReadyH.nil
     have y0:=Cx hb9 0
     have u0:=Fx hb9 0
     go_simp
     have hb10:=heap_set hb9 0 (.slice ao9 n9 c9)
     have hP10:=AP hP9 (b':=b) (j:=0) (Ne.symm hbP) (.slice ao9 n9 c9)
     have k10:Aa (At1 b) w9 (w9.setCell ⟨b,0,none⟩ (.slice ao9 n9 c9)):=(Aa.refl _ _).set1 _
     refine hK.out _ _ hP10 (fun _=>?_)
     clear hK
     try simp only[Act.put]
     refine wpAnyH_done Rx ?_ _
     have HQ:=Hx (HFIN.out _ _ ((k9.mono fun g hg _=>Or.inl (HOW.out g hg)).step k10 fun g hg _=>Or.inr hg) hb10 (ho9.keeps k10 fun g hg e=>by
      unfold At1 at e
      subst e
      rcases hg with hg|hg
      ·exact(HLP.out _ hg).1 rfl
      ·omega))
     go_wp2_with fail
     exact HQ.out
    refine AllReadyH.cons rfl (fun K hK=>?_) ?_
    try simp only[Gx]at hK⊢
    focus
     go_simp
     go_at_call 72
     (with_reducible refine(HCL.out _ kX).mono ?_)
     rintro e w8 ⟨v8,rfl,hr8,ho8,k8⟩
     obtain⟨va,vn,vc,rfl⟩:=hr8.slice
     have k78:=(kX).trans k8
     have hb8:=k8.heap hb7d id
     have hP8:=k8.heap hP7d id
     have ho8':∀g,(Value.slice va vn vc).ownBlock=some g→w7d.heap.size≤g:=fun g hg=>AG (kX).size (ho8 g hg)
     refine hK.out _ _ hP8 (fun _=>?_)
     clear hK
     try simp only[Act.put,Sx]
     refine wpAnyH_ready (rs:=[4,7]) Rx (by simp) ?_
     refine AllReadyH.cons rfl (fun K hK=>?_) ?_
     try simp only[Gx]at hK⊢
     focus
      have y0:=Cx hb8 0
      go_simp
      refine hK.out _ _ hP8 (fun _=>?_)
      clear hK y0
      try simp only[Act.put,Sx]
      refine wpAnyH_ready (rs:=[7]) Rx (by simp) ?_
      refine AllReadyH.cons rfl (fun K hK=>?_) ?_
      try simp only[Gx]at hK⊢
      rotate_left
      exact AllReadyH.nil
      go_simp
      have hb8a:=Ab hb8 (.cells (As o (.slice va vn vc)) 29)
      have hP8a:=Ab hP8 (.cells (As o (.slice va vn vc)) 29)
      refine hK.out _ _ hP8a (fun _=>?_)
      clear hK
      try simp only[Act.put,Sx]
      refine wpAnyH_ready (rs:=[8]) Rx (by simp) ?_
      refine AllReadyH.cons rfl (fun K hK=>?_) ?_
      try simp only[Gx]at hK⊢
      rotate_left
      exact AllReadyH.nil
      obtain⟨v',w9,hr9,ho9,k9,hov9⟩:=HOPS.out.append hol k78 hr8 ho8' 22
      have hb9:=k9.heap hb7d fun e=>(HLP.out _ (HOW.out _ e)).1 rfl
      have hP9:=k9.heap hP7d fun e=>(HLP.out _ (HOW.out _ e)).2 rfl
      obtain⟨ao9,c9,hv9,_⟩:=ho9.form
      generalize (s2.ops++[o]).length=n9 at hv9
      subst hv9
      refine CW (a:={tmps:=_,defers:=_}) rfl _ _ 22 22 rfl _ _ (by simp[Act.eval]) (by simp[Act.eval]) hr9 ?_
      refine hK.out _ _ hP9 (fun _=>?_)
      clear hK
      try simp only[Act.put,Sx]
      refine Tx 9 ?_ ?_ ?_
      rotate_left
      focus
       intro wH hSw
       try simp only[Gx]
       try dsimp only at hSw
       go_simp
       try with_reducible rfl
      try simp only[Gx,Act.put,Sx]
      refine Tx 10 ?_ ?_ ?_
      rotate_left
      focus
       intro wH hSw
       try simp only[Gx]
       try dsimp only at hSw
       go_simp
       try with_reducible rfl
      try simp only[Gx,Act.put,Sx]
      refine wpAnyH_ready (rs:=[11]) Rx (by simp) ?_
      refine AllReadyH.cons rfl (fun K hK=>?_) ?_
      try simp only[Gx]at hK⊢
      rotate_left
      exact AllReadyH.nil
      have y0:=Cx hb9 0
      have u0:=Fx hb9 0
      go_simp
      have hb10:=heap_set hb9 0 (.slice ao9 n9 c9)
      have hP10:=AP hP9 (b':=b) (j:=0) (Ne.symm hbP) (.slice ao9 n9 c9)
      have k10:Aa (At1 b) w9 (w9.setCell ⟨b,0,none⟩ (.slice ao9 n9 c9)):=(Aa.refl _ _).set1 _
      refine hK.out _ _ hP10 (fun _=>?_)
      clear hK
      try simp only[Act.put]
      refine wpAnyH_done Rx ?_ _
      have HQ:=Hx (HFIN.out _ _ ((k9.mono fun g hg _=>Or.inl (HOW.out g hg)).step k10 fun g hg _=>Or.inr hg) hb10 (ho9.keeps k10 fun g hg e=>by
       unfold At1 at e
       subst e
       rcases hg with hg|hg
       ·exact(HLP.out _ hg).1 rfl
       ·omega))
      go_wp2_with fail
      exact HQ.out
     refine AllReadyH.cons rfl (fun K hK=>?_) ?_
     try simp only[Gx]at hK⊢
     focus
      go_simp
      have hb8a:=Ab hb8 (.cells (As o (.slice va vn vc)) 29)
      have hP8a:=Ab hP8 (.cells (As o (.slice va vn vc)) 29)
      refine hK.out _ _ hP8a (fun _=>?_)
      clear hK
      try simp only[Act.put,Sx]
      refine wpAnyH_ready (rs:=[4]) Rx (by simp) ?_
      refine AllReadyH.cons rfl (fun K hK=>?_) ?_
      try simp only[Gx]at hK⊢
      rotate_left
      exact AllReadyH.nil
      have y0:=Cx hb8a 0
      go_simp
      refine hK.out _ _ hP8a (fun _=>?_)
      clear hK y0
      try simp only[Act.put,Sx]
      refine wpAnyH_ready (rs:=[8]) Rx (by simp) ?_
      refine AllReadyH.cons rfl (fun K hK=>?_) ?_
      try simp only[Gx]at hK⊢
      rotate_left
      exact AllReadyH.nil
      obtain⟨v',w9,hr9,ho9,k9,hov9⟩:=HOPS.out.append hol k78 hr8 ho8' 22
      have hb9:=k9.heap hb7d fun e=>(HLP.out _ (HOW.out _ e)).1 rfl
      have hP9:=k9.heap hP7d fun e=>(HLP.out _ (HOW.out _ e)).2 rfl
      obtain⟨ao9,c9,hv9,_⟩:=ho9.form
      generalize (s2.ops++[o]).length=n9 at hv9
      subst hv9
      refine CW (a:={tmps:=_,defers:=_}) rfl _ _ 22 22 rfl _ _ (by simp[Act.eval]) (by simp[Act.eval]) hr9 ?_
      refine hK.out _ _ hP9 (fun _=>?_)
      clear hK
      try simp only[Act.put,Sx]
      refine Tx 9 ?_ ?_ ?_
      rotate_left
      focus
       intro wH hSw
       try simp only[Gx]
       try dsimp only at hSw
       go_simp
       try with_reducible rfl
      try simp only[Gx,Act.put,Sx]
      refine Tx 10 ?_ ?_ ?_
      rotate_left
      focus
       intro wH hSw
       try simp only[Gx]
       try dsimp only at hSw
       go_simp
       try with_reducible rfl
      try simp only[Gx,Act.put,Sx]
      refine wpAnyH_ready (rs:=[11]) Rx (by simp) ?_
      refine AllReadyH.cons rfl (fun K hK=>?_) ?_
      try simp only[Gx]at hK⊢
      rotate_left
      exact AllReadyH.nil
      have y0:=Cx hb9 0
      have u0:=Fx hb9 0
      go_simp
      have hb10:=heap_set hb9 0 (.slice ao9 n9 c9)
      have hP10:=AP hP9 (b':=b) (j:=0) (Ne.symm hbP) (.slice ao9 n9 c9)
      have k10:Aa (At1 b) w9 (w9.setCell ⟨b,0,none⟩ (.slice ao9 n9 c9)):=(Aa.refl _ _).set1 _
      refine hK.out _ _ hP10 (fun _=>?_)
      clear hK
      try simp only[Act.put]
      refine wpAnyH_done Rx ?_ _
      have HQ:=Hx (HFIN.out _ _ ((k9.mono fun g hg _=>Or.inl (HOW.out g hg)).step k10 fun g hg _=>Or.inr hg) hb10 (ho9.keeps k10 fun g hg e=>by
       unfold At1 at e
       subst e
       rcases hg with hg|hg
       ·exact(HLP.out _ hg).1 rfl
       ·omega))
      go_wp2_with fail
      exact HQ.out
     exact AllReadyH.nil
    exact AllReadyH.nil
end Go.Proofs.YthfjefcljeamgaaGreatDoor
