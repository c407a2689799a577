/- joined: The statements of the document: outlines compared. The statements of the document: the document's methods by the plain document alone. -/
import Derived.Test.YthfjefcljeamgaaGreatDoorLwB
import Derived.Test.YthfjefcljeamgaaGreatDoorDcLaw
namespace Go.Proofs.YthfjefcljeamgaaGreatDoor
set_option maxRecDepth 100000
set_option maxHeartbeats 4000000
section
open Go.RowKit
attribute [local go_sem ↓] Go.wp_at_zero Go.wp_at_succ
theorem BI.blockO{l:List Dc.Ky}{w:World}{ao:Option Addr}{n c:Nat}(h:BI 5 E5 (.slice ao n c) l w){k:Nat}(hk:k<l.length):∃g o,ao=some ⟨g,o,none⟩∧w.cell? ⟨g,o+k*5,none⟩=some (.int .i64 (l[k]'hk).id.R)∧w.cell? ⟨g,o+k*5+1,none⟩=some (.int .i64 (l[k]'hk).id.N)∧
  w.cell? ⟨g,o+k*5+2,none⟩=some (.int .i64 (l[k]'hk).depth)∧w.cell? ⟨g,o+k*5+3,none⟩=some (.bool (l[k]'hk).fold)∧w.cell? ⟨g,o+k*5+4,none⟩=some (.string ⟨(l[k]'hk).text.toArray⟩):=by
 obtain⟨_,ao',c',e,_,_,h3⟩:=h
 obtain⟨g,o,rfl,_,h5⟩:=h3 (by intro e;rw[e]at hk;simp at hk)
 injection e with e1 e2 e3
 subst e1
 exact⟨g,o,rfl,h5 k hk 0 (by decide),h5 k hk 1 (by decide),h5 k hk 2 (by decide),h5 k hk 3 (by decide),h5 k hk 4 (by decide)⟩
theorem BI.form{α:Type}{m:Nat}{f:α→List Value}{v:Value}{l:List α}{w:World}(h:BI m f v l w):∃ao c,v= .slice ao l.length c∧l.length≤maxLen:=by
 obtain⟨h0,ao,c,e,_⟩:=h
 exact⟨ao,c,e,h0⟩
theorem VK{a b:List UInt8}(h:a≠b):¬(ByteArray.mk a.toArray=ByteArray.mk b.toArray):=fun e=>h (by
 have:=congrArg ByteArray.data e
 simpa using this)
theorem Vm(va vb:Value)(la lb:List Dc.Ky)(w:World)(h1:BI 5 E5 va la w)(h2:BI 5 E5 vb lb w):
  Calls Tryz.prog 23 #[va,vb] w (BM (decide (la=lb)) w):=by
 obtain⟨a1,c1,rfl,m1⟩:=h1.form
 obtain⟨a2,c2,rfl,m2⟩:=h2.form
 have H1:=Hx h1
 have H2:=Hx h2
 have hl1:la.length≤9223372036854775807:=m1
 have hl2:lb.length≤9223372036854775807:=m2
 have HP:Hid (∀r w',decide (la=lb)=r→Aa No w w'→BM (decide (la=lb)) w (.returned (.bool r)) w'):=Hx fun r w' e k=>⟨by rw[e],k⟩
 generalize BM (decide (la=lb)) w=post at HP⊢
 clear h1 h2 m1 m2
 by_cases hlen:la.length=lb.length
 rotate_left
 ·have HQ:=Hx (HP.out false w (Dn fun e=>hlen (by rw[e])) (Aa.refl _ _))
  have hI:¬(la.length:Int)=(lb.length:Int):=by omega
  clear hlen
  go_enter Tryz.func23,Tryz.ntmps23
  go_wp2_with fail
  exact HQ.out
 have HLEN:=Hx hlen
 rw[←hlen]at H2⊢
 clear hlen hl2
 go_enter Tryz.func23,Tryz.ntmps23
 go_wp2_with fail
 go_loopg [5] la.length (fun kx s5 wr=>∃k:Nat,s5= .int .i64 k∧k≤la.length∧la.length-k≤kx∧Hid (la.take k=lb.take k)∧Aa No w wr)
 case atStart=>exact⟨0,rfl,Ah _,Ac _,Hx rfl,Aa.refl _ _⟩
 case round=>
  obtain⟨k,rfl,hk,hkx,htk,kr⟩:=hrel
  by_cases hlt:k<la.length
  ·have hlt2:k<lb.length:=by have:=HLEN.out;omega
   obtain⟨ga,oa,rfl,x0,x1,x2,x3,x4⟩:=(H1.out.no kr).blockO hlt
   obtain⟨gb,ob,rfl,y0,y1,y2,y3,y4⟩:=(H2.out.no kr).blockO hlt2
   have HNE:Hid (la[k]'hlt≠lb[k]'hlt2→decide (la=lb)=false):=Hx fun h=>Dn fun e=>h (by simp only[e])
   have HTK:Hid (la[k]'hlt=lb[k]'hlt2→Hid (la.take (k+1)=lb.take (k+1))):=Hx fun h=>Hx (by rw[AW,AW,Aj hlt,Aj hlt2,htk.out,h])
   obtain⟨⟨⟨xR,xN⟩,xD,xF,xT⟩,hx⟩:∃x,x=la[k]'hlt:=⟨_,rfl⟩
   obtain⟨⟨⟨yR,yN⟩,yD,yF,yT⟩,hy⟩:∃y,y=lb[k]'hlt2:=⟨_,rfl⟩
   rw[←hx]at x0 x1 x2 x3 x4 HNE HTK
   rw[←hy]at y0 y1 y2 y3 y4 HNE HTK
   simp only at x0 x1 x2 x3 x4 y0 y1 y2 y3 y4
   have kI0:(0:Int)≤(k:Int):=by omega
   have kI1:(k:Int)<(la.length:Int):=by omega
   have kd:Aa No wr wr.drew:=(Aa.refl No wr).drew
   have HSA:Hid (∀W:World,Aa No wr W→W.cell? ⟨ga,oa+k*5,none⟩=some (.int .i64 xR)∧W.cell? ⟨ga,oa+k*5+1,none⟩=some (.int .i64 xN)∧W.cell? ⟨ga,oa+k*5+2,none⟩=some (.int .i64 xD)∧W.cell? ⟨ga,oa+k*5+3,none⟩=some (.bool xF)∧W.cell? ⟨ga,oa+k*5+4,none⟩=some (.string ⟨xT.toArray⟩)∧W.cell? ⟨gb,ob+k*5,none⟩=some (.int .i64 yR)∧W.cell? ⟨gb,ob+k*5+1,none⟩=some (.int .i64 yN)∧W.cell? ⟨gb,ob+k*5+2,none⟩=some (.int .i64 yD)∧W.cell? ⟨gb,ob+k*5+3,none⟩=some (.bool yF)∧W.cell? ⟨gb,ob+k*5+4,none⟩=some (.string ⟨yT.toArray⟩)):=Hx fun W k=>⟨k.cellOf x0 id,k.cellOf x1 id,k.cellOf x2 id,k.cellOf x3 id,k.cellOf x4 id,k.cellOf y0 id,k.cellOf y1 id,k.cellOf y2 id,k.cellOf y3 id,k.cellOf y4 id⟩
   have HQF:Hid (decide (la=lb)=false→post (.returned (.bool false)) wr.drew):=Hx fun e=>HP.out false wr.drew e (kr.trans kd)
   clear hx hy x0 x1 x2 x3 x4 y0 y1 y2 y3 y4 htk
   go_upto_region 6 with(fail)
   by_cases e0:xR=yR
   rotate_left
   ·have HQ:=Hx (HQF.out (HNE.out fun e=>e0 (by injection e with e _;injection e)))
    go_region_held3(fun W=>W.cell? ⟨ga,oa+k*5,none⟩=some (.int .i64 xR)∧W.cell? ⟨ga,oa+k*5+1,none⟩=some (.int .i64 xN)∧W.cell? ⟨ga,oa+k*5+2,none⟩=some (.int .i64 xD)∧W.cell? ⟨ga,oa+k*5+3,none⟩=some (.bool xF)∧W.cell? ⟨ga,oa+k*5+4,none⟩=some (.string ⟨xT.toArray⟩)∧W.cell? ⟨gb,ob+k*5,none⟩=some (.int .i64 yR)∧W.cell? ⟨gb,ob+k*5+1,none⟩=some (.int .i64 yN)∧W.cell? ⟨gb,ob+k*5+2,none⟩=some (.int .i64 yD)∧W.cell? ⟨gb,ob+k*5+3,none⟩=some (.bool yF)∧W.cell? ⟨gb,ob+k*5+4,none⟩=some (.string ⟨yT.toArray⟩)) (exact HSA.out _ (kd)) (fail)
    all_goals
     go_wp2_with fail
     exact HQ.out
   subst e0
   by_cases e1:xN=yN
   rotate_left
   ·have HQ:=Hx (HQF.out (HNE.out fun e=>e1 (by injection e with e _;injection e)))
    go_region_held3(fun W=>W.cell? ⟨ga,oa+k*5,none⟩=some (.int .i64 xR)∧W.cell? ⟨ga,oa+k*5+1,none⟩=some (.int .i64 xN)∧W.cell? ⟨ga,oa+k*5+2,none⟩=some (.int .i64 xD)∧W.cell? ⟨ga,oa+k*5+3,none⟩=some (.bool xF)∧W.cell? ⟨ga,oa+k*5+4,none⟩=some (.string ⟨xT.toArray⟩)∧W.cell? ⟨gb,ob+k*5,none⟩=some (.int .i64 xR)∧W.cell? ⟨gb,ob+k*5+1,none⟩=some (.int .i64 yN)∧W.cell? ⟨gb,ob+k*5+2,none⟩=some (.int .i64 yD)∧W.cell? ⟨gb,ob+k*5+3,none⟩=some (.bool yF)∧W.cell? ⟨gb,ob+k*5+4,none⟩=some (.string ⟨yT.toArray⟩)) (exact HSA.out _ (kd)) (fail)
    all_goals
     go_wp2_with fail
     exact HQ.out
   subst e1
   by_cases e2:xD=yD
   rotate_left
   ·have HQ:=Hx (HQF.out (HNE.out fun e=>e2 (by injection e)))
    go_region_held3(fun W=>W.cell? ⟨ga,oa+k*5,none⟩=some (.int .i64 xR)∧W.cell? ⟨ga,oa+k*5+1,none⟩=some (.int .i64 xN)∧W.cell? ⟨ga,oa+k*5+2,none⟩=some (.int .i64 xD)∧W.cell? ⟨ga,oa+k*5+3,none⟩=some (.bool xF)∧W.cell? ⟨ga,oa+k*5+4,none⟩=some (.string ⟨xT.toArray⟩)∧W.cell? ⟨gb,ob+k*5,none⟩=some (.int .i64 xR)∧W.cell? ⟨gb,ob+k*5+1,none⟩=some (.int .i64 xN)∧W.cell? ⟨gb,ob+k*5+2,none⟩=some (.int .i64 yD)∧W.cell? ⟨gb,ob+k*5+3,none⟩=some (.bool yF)∧W.cell? ⟨gb,ob+k*5+4,none⟩=some (.string ⟨yT.toArray⟩)) (exact HSA.out _ (kd)) (fail)
    all_goals
     go_wp2_with fail
     exact HQ.out
   subst e2
   by_cases e3:xF=yF
   rotate_left
   ·have HQ:=Hx (HQF.out (HNE.out fun e=>e3 (by injection e)))
    go_region_held3(fun W=>W.cell? ⟨ga,oa+k*5,none⟩=some (.int .i64 xR)∧W.cell? ⟨ga,oa+k*5+1,none⟩=some (.int .i64 xN)∧W.cell? ⟨ga,oa+k*5+2,none⟩=some (.int .i64 xD)∧W.cell? ⟨ga,oa+k*5+3,none⟩=some (.bool xF)∧W.cell? ⟨ga,oa+k*5+4,none⟩=some (.string ⟨xT.toArray⟩)∧W.cell? ⟨gb,ob+k*5,none⟩=some (.int .i64 xR)∧W.cell? ⟨gb,ob+k*5+1,none⟩=some (.int .i64 xN)∧W.cell? ⟨gb,ob+k*5+2,none⟩=some (.int .i64 xD)∧W.cell? ⟨gb,ob+k*5+3,none⟩=some (.bool yF)∧W.cell? ⟨gb,ob+k*5+4,none⟩=some (.string ⟨yT.toArray⟩)) (exact HSA.out _ (kd)) (fail)
    all_goals
     go_wp2_with fail
     exact HQ.out
   subst e3
   by_cases e4:xT=yT
   rotate_left
   ·have HQ:=Hx (HQF.out (HNE.out fun e=>e4 (by injection e)))
    have e5:=VK e4
    go_region_held3(fun W=>W.cell? ⟨ga,oa+k*5,none⟩=some (.int .i64 xR)∧W.cell? ⟨ga,oa+k*5+1,none⟩=some (.int .i64 xN)∧W.cell? ⟨ga,oa+k*5+2,none⟩=some (.int .i64 xD)∧W.cell? ⟨ga,oa+k*5+3,none⟩=some (.bool xF)∧W.cell? ⟨ga,oa+k*5+4,none⟩=some (.string ⟨xT.toArray⟩)∧W.cell? ⟨gb,ob+k*5,none⟩=some (.int .i64 xR)∧W.cell? ⟨gb,ob+k*5+1,none⟩=some (.int .i64 xN)∧W.cell? ⟨gb,ob+k*5+2,none⟩=some (.int .i64 xD)∧W.cell? ⟨gb,ob+k*5+3,none⟩=some (.bool xF)∧W.cell? ⟨gb,ob+k*5+4,none⟩=some (.string ⟨yT.toArray⟩)) (exact HSA.out _ (kd)) (fail)
    all_goals
     go_wp2_with fail
     exact HQ.out
   subst e4
   go_region_held3(fun W=>W.cell? ⟨ga,oa+k*5,none⟩=some (.int .i64 xR)∧W.cell? ⟨ga,oa+k*5+1,none⟩=some (.int .i64 xN)∧W.cell? ⟨ga,oa+k*5+2,none⟩=some (.int .i64 xD)∧W.cell? ⟨ga,oa+k*5+3,none⟩=some (.bool xF)∧W.cell? ⟨ga,oa+k*5+4,none⟩=some (.string ⟨xT.toArray⟩)∧W.cell? ⟨gb,ob+k*5,none⟩=some (.int .i64 xR)∧W.cell? ⟨gb,ob+k*5+1,none⟩=some (.int .i64 xN)∧W.cell? ⟨gb,ob+k*5+2,none⟩=some (.int .i64 xD)∧W.cell? ⟨gb,ob+k*5+3,none⟩=some (.bool xF)∧W.cell? ⟨gb,ob+k*5+4,none⟩=some (.string ⟨xT.toArray⟩)) (exact HSA.out _ (kd)) (fail)
   all_goals
    go_wp2_with fail
    go_roundg (la.length-(k+1))
    case measure=>omega
    case rel=>exact⟨k+1,by go_num,hlt,Ac _,HTK.out (by trivial),kr.trans kd⟩
  ·obtain rfl:k=la.length:=by omega
   have hEq:la=lb:=by
    have h:=htk.out
    rw[AH]at h
    rw[HLEN.out,AH]at h
    exact h
   have HQ:=Hx (HP.out true wr (aG hEq) kr)
   clear hEq
   go_wp2_with fail
   exact HQ.out
end
section
open Go.RowKit
attribute [local go_sem ↓] Go.wp_at_zero Go.wp_at_succ
theorem UJ{F:Nat→Prop}{b:Nat}{w:World}(h:Eu F b DSt.new w):C6 F b Dc.Doc.new w:=
 ⟨DSt.new,h,⟨rfl,Dc.Oz,⟨fun x=>⟨fun e=>absurd rfl e,fun⟨s,hs,_⟩=>by cases hs⟩,fun x n e=>by cases e⟩,rfl,List.Pairwise.nil,fun m hm=>by cases hm⟩,rfl,rfl,rfl,rfl,rfl⟩
def Ns(w:World)(e:Ending)(w':World):Prop:=∃b,e= .returned (.pointer (some ⟨b,0,none⟩))∧C6 (BN w.heap.size) b Dc.Doc.new w'∧Aa No w w'
theorem MS(w:World):Calls Tryz.prog 18 #[] w (Ns w):=by
 refine(Tv w).mono ?_
 rintro e w' ⟨b,rfl,h1,h2⟩
 exact⟨b,rfl,UJ h1,h2⟩
def K8(base b:Nat)(er:Int)(d':Dc.Doc)(w:World)(e:Ending)(w':World):Prop:=e= .returned (.int .i64 er)∧Aa (BN base) w w'∧C6 (BN base) b d' w'
theorem Ox{base b:Nat}{d:Dc.Doc}{w:World}(h4:4≤base)(hb:base≤w.heap.size)(h:C6 (BN base) b d w)(hf:Dc.BS d)(hn:d.ops.length≤14000)(hE:Env w)(o:Dc.Op)(cv:Value)(hcv:BI 4 AD cv o.cuts w)(hcF:o.cuts≠ []→∀g,cv.ownBlock=some g→g<base)(hcz:o.cuts.length≤1000000)(hsz:o.text.length≤1000000000):
  Calls Tryz.prog 19 #[.pointer (some ⟨b,0,none⟩),opV o cv] w (K8 base b (d.err o) (d.act o) w):=by
 have h':C6 (fun g=>base≤g∧g<w.heap.size) b d w:=h.mono fun g hg hl=>⟨hg,hl⟩
 refine(OH h' hf hn (fun g hg=>⟨by omega,hg.2⟩) hE o cv hcv (fun hne g hg=>⟨fun e=>by have:=hcF hne g hg;omega,by have:=hcF hne g hg;omega⟩) hcz hsz).mono ?_
 rintro e w' ⟨rfl,k,hd⟩
 exact⟨rfl,k.mono fun g hg _=>hg.1.1,hd.mono fun g hg _=>hg.elim (fun e=>e.1) fun e=>AG hb e⟩
def JJ(F:Nat→Prop)(b:Nat)(er:Int)(d':Dc.Doc)(w:World)(e:Ending)(w':World):Prop:=e= .returned (.int .i64 er)∧Aa F w w'∧C6 (Bv F w) b d' w'
theorem MV{F:Nat→Prop}{b:Nat}{d:Dc.Doc}{w:World}(hF4:∀g,F g→4≤g)(h:C6 F b d w)(hf:Dc.BS d)(hn:d.ops.length≤14000)(hE:Env w)(o:Dc.Op)(cv:Value)(hcv:BI 4 AD cv o.cuts w)(hcF:o.cuts≠ []→∀g,cv.ownBlock=some g→¬F g∧g<w.heap.size)(hcz:o.cuts.length≤1000000)(hsz:o.text.length≤1000000000):
  Calls Tryz.prog 19 #[.pointer (some ⟨b,0,none⟩),opV o cv] w (JJ F b (d.err o) (d.act o) w):=by
 have h':C6 (fun g=>F g∧g<w.heap.size) b d w:=h.mono fun g hg hl=>⟨hg,hl⟩
 refine(OH h' hf hn (fun g hg=>⟨hF4 g hg.1,hg.2⟩) hE o cv hcv (fun hne g hg=>⟨fun e=>(hcF hne g hg).1 e.1,(hcF hne g hg).2⟩) hcz hsz).mono ?_
 rintro e w' ⟨rfl,k,hd⟩
 exact⟨rfl,k.mono fun g hg _=>hg.1.1,hd.mono fun g hg _=>hg.imp (fun e=>e.1) id⟩
theorem SY{F:Nat→Prop}{b:Nat}{d:Dc.Doc}{w:World}(h:C6 F b d w)(hf:Dc.BS d)(hn:d.ops.length≤14000)(top:Off.Bid):
  Calls Tryz.prog 20 #[.pointer (some ⟨b,0,none⟩),idV top] w (LV (Dc.Vs d top) w):=by
 obtain⟨s,hC,hT,h1,h2,h3,h4,h5⟩:=h
 have hf':s.f=d.places:=by rw[hT.places,h4];rfl
 obtain⟨rk,hr,hdeep⟩:=Dc.Rr (d:=d)
 have hL:s.L=Dc.Jh d.places:=(Dc.MN (hf'▸hT.kids)).symm
 have hdom:∀a,d.places a≠none→a∈d.ms.map (·.block):=fun a ha=>Dc.FT ha
 have hdl:(d.ms.map (·.block)).length≤1000000:=by rw[AM];have:=hf.len;omega
 have hg:s.g=d.places:=hT.same.trans hf'
 have hout:Vq s (Dc.OK d.places) top=Dc.Vs d top:=by
  unfold Vq Dc.Vs Dc.Vr
  rw[hL,hf',h3,h5]
 rw[←hout]
 exact Nh hC (hg▸hf'▸hT.kids) rk (hf'▸hr) (hg▸hr) _ (hg▸hdom) hdl top _ (hg▸hdeep top) (fun a=>by rw[hf'];exact AG (Dc.VZ hr hdom a) hdl)
  (fun seg t ht=>by rw[h3]at ht;have:=Dc.O0 hf.tx seg t ht;omega) (fun a=>by rw[h3];have:=Dc.L2 hf.tx a;omega)
theorem MU{F:Nat→Prop}{b:Nat}{d:Dc.Doc}{w:World}(h:C6 F b d w)(a:Off.Bid):
  Calls Tryz.prog 22 #[.pointer (some ⟨b,0,none⟩),idV a] w (BM (d.has a) w):=by
 obtain⟨s,hC,hT,h1,h2,h3,h4,h5⟩:=h
 have:=Nj hC a
 rw[h2]at this
 exact this
theorem Pq{F:Nat→Prop}{b:Nat}{d:Dc.Doc}{w:World}(h:C6 F b d w)(hE:Env w)(a:Off.Bid):
  Calls Tryz.prog 25 #[.pointer (some ⟨b,0,none⟩),idV a] w (BM (d.there a) w):=by
 obtain⟨s,hC,hT,h1,h2,h3,h4,h5⟩:=h
 have:=J9 hC hE a
 rw[h2]at this
 exact this
theorem Wc{o:Dc.Op}(h:o.ok=true):o.cuts.length≤16:=by
 by_cases h4:o.kind=4
 ·have hp:=(Dc.Eg h).2.2.1
  unfold Dc.Op.parts at hp
  rw[Ae (by omega),Ae (by omega),Ae (by omega),Ak h4]at hp
  unfold Dc.TN at hp
  simp only[AN,Au]at hp
  exact hp.1.2
 ·rw[Dc.IU h h4];simp
def Ua(n:Nat)(w:World)(e:Ending)(w':World):Prop:=∃a c,e= .returned (.slice a n c)∧Aa No w w'
theorem NQ{F:Nat→Prop}{b:Nat}{d:Dc.Doc}{w:World}(h:C6 F b d w)(hf:Dc.BS d)(hn:d.ops.length≤14000):
  Calls Tryz.prog 21 #[.pointer (some ⟨b,0,none⟩)] w (Ua d.ops.length w):=by
 obtain⟨s,hC,hT,h1,h2,h3,h4,h5⟩:=h
 refine(Tt hC (by rw[h1];omega) fun o ho=>AG (Wc (hf.ops o (h1▸ho))) (by decide)).mono ?_
 rintro e w' ⟨v,rfl,ho,k⟩
 obtain⟨ao,c,rfl,_⟩:=ho.form
 exact⟨ao,c,by rw[h1],k⟩
end
end Go.Proofs.YthfjefcljeamgaaGreatDoor
