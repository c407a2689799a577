/- A text that many write at once: where in the row a character with a seat stands. -/
import Derived.Test.YthfjefcljeamgaaGreatDoorYtD
namespace Go.Proofs.YthfjefcljeamgaaGreatDoor
set_option maxRecDepth 100000
set_option maxHeartbeats 4000000
open Go.RowKit
attribute [local go_sem ↓] Go.wp_at_zero Go.wp_at_succ
theorem KA(l:Dc.Row)(c:Dc.Chr):Dc.Dw l c≤Dc.CO l:=by
 by_cases h:c∈(Dc.Bz l).map (·.c)
 ·exact Nat.le_of_lt (Dc.Qf h).1
 ·unfold Dc.Dw
  rw[Dc.JH.2 h]
  exact Ah _
def TL(q:Int)(w:World)(e:Ending)(w':World):Prop:=e= .returned (.int .i64 q)∧Aa No w w'
theorem QC{F:Nat→Prop}{b:Nat}{t:Dc.YT}{w:World}(h:Dx F b t w)(hE:Env w){rk:Dc.Chr→Nat}{B M:Nat}(hok:Dc.BZ t.nodes rk B M)(hM:M≤1000000)(hs:ES t.row)(up:Dc.Chr)(p:Nat)(n:Dc.CP)(hn:t.nodes up=some n)(hp:p≤(n.side false).length):
  Calls Tryz.prog 268 #[.pointer (some ⟨b,0,none⟩),Me ⟨up,false,p⟩] w (TL (Dc.C4 t ⟨up,false,p⟩) w):=by
 have HY:=Hx h
 have HOK:=Hx hok
 obtain⟨q,hq⟩:∃q,q=Dc.C4 t ⟨up,false,p⟩:=⟨_,rfl⟩
 rw[←hq]
 have hq1:0<p→q=(Dc.Dw t.row (Dc.FW t.nodes true ((n.side false).getD (p-1) .z)):Int)+1:=fun h=>by
  rw[hq];unfold Dc.C4;simp only;rw[Ak h];unfold Dc.EU;rw[hn]
 have hq2:p=0→q=(Dc.Dw t.row (Dc.FW t.nodes false up):Int):=fun h=>by
  rw[hq];unfold Dc.C4;simp only;rw[Ae (by omega)];rfl
 have HQ1:=Hx hq1
 have HQ2:=Hx hq2
 obtain⟨lab,br,bn,nv,hl1,hl2,hl3,hl4,hl5,hl6⟩:=h
 obtain⟨k,hk,hnode⟩:=hl6.get hn
 obtain⟨_,vl,vr,hkk,hvl,hvr,hol,hor⟩:=hnode
 have hlen:=hok.small _ n false hn
 have hdown:=fun x=>hok.down up n false x hn
 obtain⟨l,hl⟩:∃l,l=n.l:=⟨_,rfl⟩
 rw[←hl]at hvl
 have hside:n.side false=l:=by rw[hl];rfl
 rw[hside]at hlen hp HQ1 hdown
 have HD:=Hx hdown
 have HL:=Hx (fun W (kk:Aa No w W)=>C7 (hl6.1.keeps kk id) up.op.R up.op.N up.i)
 have hpp:D5 (nv ⟨⟨up.op.R,up.op.N⟩,up.i⟩)= .pointer (some ⟨k,0,none⟩):=by rw[show(⟨⟨up.op.R,up.op.N⟩,up.i⟩:Dc.Chr)=up from rfl,hk];rfl
 rw[hpp]at HL
 obtain⟨ao,cp,rfl⟩:∃ao cp,vl= .slice ao l.length cp:=by
  rcases hvl.form with⟨rfl,e⟩|⟨g',cap,_,rfl,_⟩
  ·rw[e];exact⟨none,0,rfl⟩
  ·exact⟨_,cap,rfl⟩
 have HROW:=Hx hvl
 have HN3:=Hx hkk
 have HB:=Hx hl2
 have HUP:=Hx (show t.nodes up≠none by rw[hn];simp)
 have hs6:=hs.2
 have HS:=Hx hs
 clear hq hq1 hl1 hl2 hl3 hl4 hl5 hl6 hn hk hvl hvr hkk hol hor hside hpp hl hdown hok hs hq2
 go_enter Tryz.func268,Tryz.ntmps268
 go_upto_region 1 with(fail)
 have k1:Aa No w (w.alloc (.cells #[.int .i64 up.op.R,.int .i64 up.op.N,.int .i64 up.i,.int .i64 0,.int .i64 p] 377)):=(Aa.refl No w).alloc _
 have hS:=Nx w (.cells #[.int .i64 up.op.R,.int .i64 up.op.N,.int .i64 up.i,.int .i64 0,.int .i64 p] 377)
 generalize hww:w.alloc (.cells #[.int .i64 up.op.R,.int .i64 up.op.N,.int .i64 up.i,.int .i64 0,.int .i64 p] 377)=w1 at k1 hS
 rw[show Ld false=0 from rfl,hww]
 clear hww
 obtain⟨S,eS⟩:∃S,S=w.heap.size:=⟨_,rfl⟩
 rw[←eS]at hS⊢
 clear eS
 have S0:=Ex (Cx hS 0)
 have S1:=Ex (Cx hS 1)
 have S2:=Ex (Cx hS 2)
 have S3:=Ex (Cx hS 3)
 have B1:=Ex (Cx (k1.heap HB.out id) 1)
 have N3:=Ex (Cx (k1.heap HN3.out id) 3)
 have lk:=fun d os=>HL.out _ (k1.trans (Ag w1 d os))
 refine wp_region_quiet_below Rx Rx ?_
 repeat(quiet_step(fail))
 refine wpQuiet_nil ?_
 intro _ hw'
 obtain⟨⟨dq,osq⟩,hw''⟩:=hw'
 subst hw''
 have k2:Aa No w1 (Sort.grow (redrawn w1 dq) osq):=Ag w1 dq osq
 clear S0 S1 S2 S3 B1 N3 lk
 generalize Sort.grow (redrawn w1 dq) osq=w2 at k2⊢
 have kw2:=k1.trans k2
 have hS2:=k2.heap hS id
 have hrow2:=HROW.out.no kw2
 have s0:=Cx hS2 0
 have s1:=Cx hS2 1
 have s2:=Cx hS2 2
 have s3:=Cx hS2 3
 have s4:=Cx hS2 4
 have hE2:=hE.no kw2
 clear hS k1 k2
 by_cases hpos:0<p
 ·have hzl:p-1<l.length:=by omega
  have hq:=HQ1.out hpos
  rw[aH,Aj hzl,F5]at hq
  obtain⟨hyz,m,hm,_⟩:=HD.out _ (AQ hzl)
  obtain⟨g,cap,e1,_,_⟩:=hrow2.at (by omega)
  injection e1 with e1 e2 e3
  subst e1 e3
  obtain⟨y0,y1,y2⟩:=hrow2.chrO hzl
  obtain⟨y,hy⟩:∃y,y=l[p-1]'hzl:=⟨_,rfl⟩
  rw[←hy]at y0 y1 y2 hq hm
  obtain⟨z,hz⟩:∃z,z=p-1:=⟨_,rfl⟩
  rw[←hz]at y0 y1 y2
  have HED:=Hx (OG (HY.out.no kw2) HOK.out hM y (by rw[hm];simp))
  have HWH:=Hx (fun W (kk:Aa No w2 W)=>Jc (HY.out.no (kw2.trans kk)) HS.out (Dc.FW t.nodes true y))
  have hwl:=KA t.row (Dc.FW t.nodes true y)
  generalize Dc.FW t.nodes true y=ed at HED HWH hwl hq
  generalize Dc.Dw t.row ed=wh at HWH hwl hq
  have hw1:IntKind.i64.wrap ((wh:Int)+1)=(wh:Int)+1:=by rw[IntKind.wrap_i64];omega
  have hpz:IntKind.i64.wrap ((p:Int)-1)=(z:Int):=by rw[IntKind.wrap_i64];omega
  have hz0:(0:Int)≤(z:Int):=by omega
  have hz1:(z:Int)<(l.length:Int):=by omega
  have hpI:(0:Int)<(p:Int):=by omega
  have HQQ:=Hx hq
  clear hq hm hz hy hzl e2 hrow2 hyz HQ1 HQ2
  go_wp2_with(first
   |(go_at_call 302;refine HED.out.mono ?_;rintro e w3 ⟨rfl,k3⟩)
   |(go_at_call 301;refine(HWH.out _ k3).mono ?_;rintro e w4 ⟨rfl,k4⟩))
  go_ret
  exact⟨by(have e:=HQQ.out;subst e;rfl),(kw2.trans k3).trans k4⟩
 ·obtain rfl:p=0:=by omega
  have hq:=HQ2.out rfl
  have HED:=Hx (UG (HY.out.no kw2) HOK.out hM up HUP.out)
  have HWH:=Hx (fun W (kk:Aa No w2 W)=>Jc (HY.out.no (kw2.trans kk)) HS.out (Dc.FW t.nodes false up))
  generalize Dc.FW t.nodes false up=ed at HED HWH hq
  generalize Dc.Dw t.row ed=wh at HWH hq
  have HQQ:=Hx hq
  clear hq HQ1 HQ2 hrow2
  go_wp2_with(first
   |(go_at_call 302;refine HED.out.mono ?_;rintro e w3 ⟨rfl,k3⟩)
   |(go_at_call 301;refine(HWH.out _ k3).mono ?_;rintro e w4 ⟨rfl,k4⟩))
  go_ret
  exact⟨by(have e:=HQQ.out;subst e;rfl),(kw2.trans k3).trans k4⟩
theorem QB{F:Nat→Prop}{b:Nat}{t:Dc.YT}{w:World}(h:Dx F b t w)(hE:Env w){rk:Dc.Chr→Nat}{B M:Nat}(hok:Dc.BZ t.nodes rk B M)(hM:M≤1000000)(hs:ES t.row)(up:Dc.Chr)(p:Nat)(n:Dc.CP)(hn:t.nodes up=some n)(hp:p≤(n.side true).length):
  Calls Tryz.prog 268 #[.pointer (some ⟨b,0,none⟩),Me ⟨up,true,p⟩] w (TL (Dc.C4 t ⟨up,true,p⟩) w):=by
 have HY:=Hx h
 have HOK:=Hx hok
 obtain⟨q,hq⟩:∃q,q=Dc.C4 t ⟨up,true,p⟩:=⟨_,rfl⟩
 rw[←hq]
 have hq1:0<p→q=(Dc.Dw t.row (Dc.FW t.nodes true ((n.side true).getD (p-1) .z)):Int)+1:=fun h=>by
  rw[hq];unfold Dc.C4;simp only;rw[Ak h];unfold Dc.EU;rw[hn]
 have hq2:p=0→up= .z→q=0:=fun h hz=>by
  rw[hq];unfold Dc.C4;simp only;rw[Ae (by omega),Ae (by simp),Ak hz]
 have hq3:p=0→up≠ .z→q=(Dc.Dw t.row up:Int)+1:=fun h hz=>by
  rw[hq];unfold Dc.C4;simp only;rw[Ae (by omega),Ae (by simp),Ae hz]
 have HQ1:=Hx hq1
 have HQ2:=Hx hq2
 have HQ3:=Hx hq3
 obtain⟨lab,br,bn,nv,hl1,hl2,hl3,hl4,hl5,hl6⟩:=h
 obtain⟨k,hk,hnode⟩:=hl6.get hn
 obtain⟨_,vl,vr,hkk,hvl,hvr,hol,hor⟩:=hnode
 have hlen:=hok.small _ n true hn
 have hdown:=fun x=>hok.down up n true x hn
 obtain⟨l,hl⟩:∃l,l=n.r:=⟨_,rfl⟩
 rw[←hl]at hvr
 have hside:n.side true=l:=by rw[hl];rfl
 rw[hside]at hlen hp HQ1 hdown
 have HD:=Hx hdown
 have HL:=Hx (fun W (kk:Aa No w W)=>C7 (hl6.1.keeps kk id) up.op.R up.op.N up.i)
 have hpp:D5 (nv ⟨⟨up.op.R,up.op.N⟩,up.i⟩)= .pointer (some ⟨k,0,none⟩):=by rw[show(⟨⟨up.op.R,up.op.N⟩,up.i⟩:Dc.Chr)=up from rfl,hk];rfl
 rw[hpp]at HL
 obtain⟨ao,cp,rfl⟩:∃ao cp,vr= .slice ao l.length cp:=by
  rcases hvr.form with⟨rfl,e⟩|⟨g',cap,_,rfl,_⟩
  ·rw[e];exact⟨none,0,rfl⟩
  ·exact⟨_,cap,rfl⟩
 have HROW:=Hx hvr
 have HN3:=Hx hkk
 have HB:=Hx hl2
 have HUP:=Hx (show t.nodes up≠none by rw[hn];simp)
 have hs6:=hs.2
 have HS:=Hx hs
 clear hq hq1 hl1 hl2 hl3 hl4 hl5 hl6 hn hk hvl hvr hkk hol hor hside hpp hl hdown hok hs hq2 hq3
 go_enter Tryz.func268,Tryz.ntmps268
 go_upto_region 1 with(fail)
 have k1:Aa No w (w.alloc (.cells #[.int .i64 up.op.R,.int .i64 up.op.N,.int .i64 up.i,.int .i64 1,.int .i64 p] 377)):=(Aa.refl No w).alloc _
 have hS:=Nx w (.cells #[.int .i64 up.op.R,.int .i64 up.op.N,.int .i64 up.i,.int .i64 1,.int .i64 p] 377)
 generalize hww:w.alloc (.cells #[.int .i64 up.op.R,.int .i64 up.op.N,.int .i64 up.i,.int .i64 1,.int .i64 p] 377)=w1 at k1 hS
 rw[show Ld true=1 from rfl,hww]
 clear hww
 obtain⟨S,eS⟩:∃S,S=w.heap.size:=⟨_,rfl⟩
 rw[←eS]at hS⊢
 clear eS
 have S0:=Ex (Cx hS 0)
 have S1:=Ex (Cx hS 1)
 have S2:=Ex (Cx hS 2)
 have S3:=Ex (Cx hS 3)
 have B1:=Ex (Cx (k1.heap HB.out id) 1)
 have N3:=Ex (Cx (k1.heap HN3.out id) 4)
 have lk:=fun d os=>HL.out _ (k1.trans (Ag w1 d os))
 refine wp_region_quiet_below Rx Rx ?_
 repeat(quiet_step(fail))
 refine wpQuiet_nil ?_
 intro _ hw'
 obtain⟨⟨dq,osq⟩,hw''⟩:=hw'
 subst hw''
 have k2:Aa No w1 (Sort.grow (redrawn w1 dq) osq):=Ag w1 dq osq
 clear S0 S1 S2 S3 B1 N3 lk
 generalize Sort.grow (redrawn w1 dq) osq=w2 at k2⊢
 have kw2:=k1.trans k2
 have hS2:=k2.heap hS id
 have hrow2:=HROW.out.no kw2
 have s0:=Cx hS2 0
 have s1:=Cx hS2 1
 have s2:=Cx hS2 2
 have s3:=Cx hS2 3
 have s4:=Cx hS2 4
 have hE2:=hE.no kw2
 clear hS k1 k2
 by_cases hpos:0<p
 ·have hzl:p-1<l.length:=by omega
  have hq:=HQ1.out hpos
  rw[aH,Aj hzl,F5]at hq
  obtain⟨hyz,m,hm,_⟩:=HD.out _ (AQ hzl)
  obtain⟨g,cap,e1,_,_⟩:=hrow2.at (by omega)
  injection e1 with e1 e2 e3
  subst e1 e3
  obtain⟨y0,y1,y2⟩:=hrow2.chrO hzl
  obtain⟨y,hy⟩:∃y,y=l[p-1]'hzl:=⟨_,rfl⟩
  rw[←hy]at y0 y1 y2 hq hm
  obtain⟨z,hz⟩:∃z,z=p-1:=⟨_,rfl⟩
  rw[←hz]at y0 y1 y2
  have HED:=Hx (OG (HY.out.no kw2) HOK.out hM y (by rw[hm];simp))
  have HWH:=Hx (fun W (kk:Aa No w2 W)=>Jc (HY.out.no (kw2.trans kk)) HS.out (Dc.FW t.nodes true y))
  have hwl:=KA t.row (Dc.FW t.nodes true y)
  generalize Dc.FW t.nodes true y=ed at HED HWH hwl hq
  generalize Dc.Dw t.row ed=wh at HWH hwl hq
  have hw1:IntKind.i64.wrap ((wh:Int)+1)=(wh:Int)+1:=by rw[IntKind.wrap_i64];omega
  have hpz:IntKind.i64.wrap ((p:Int)-1)=(z:Int):=by rw[IntKind.wrap_i64];omega
  have hz0:(0:Int)≤(z:Int):=by omega
  have hz1:(z:Int)<(l.length:Int):=by omega
  have hpI:(0:Int)<(p:Int):=by omega
  have HQQ:=Hx hq
  clear hq hm hz hy hzl e2 hrow2 hyz HQ1 HQ2 HQ3
  go_wp2_with(first
   |(go_at_call 302;refine HED.out.mono ?_;rintro e w3 ⟨rfl,k3⟩)
   |(go_at_call 301;refine(HWH.out _ k3).mono ?_;rintro e w4 ⟨rfl,k4⟩))
  go_ret
  exact⟨by(have e:=HQQ.out;subst e;rfl),(kw2.trans k3).trans k4⟩
 ·obtain rfl:p=0:=by omega
  have e0:=hE2.start0
  have e1:=hE2.start1
  have e2:=hE2.start2
  by_cases hz:up= .z
  ·have hq:=HQ2.out rfl hz
   subst hq
   have z0:up.op.R=0:=by rw[hz];rfl
   have z1:up.op.N=0:=by rw[hz];rfl
   have z2:up.i=0:=by rw[hz];rfl
   clear hz HQ1 HQ2 HQ3 hrow2
   go_wp2_with fail
   go_ret
   exact⟨rfl,kw2⟩
  ·have hq:=HQ3.out rfl hz
   have hd:=Nl hz
   have hd':(¬up.op.R=0)∨(up.op.R=0∧¬up.op.N=0)∨(up.op.R=0∧up.op.N=0∧¬up.i=0):=hd
   have HWH:=Hx (Jc (HY.out.no kw2) HS.out up)
   have hwl:=KA t.row up
   generalize Dc.Dw t.row up=wh at HWH hwl hq
   have hw1:IntKind.i64.wrap ((wh:Int)+1)=(wh:Int)+1:=by rw[IntKind.wrap_i64];omega
   have HQQ:=Hx hq
   clear hq hz hd HQ1 HQ2 HQ3 hrow2 HL HD HUP HN3
   obtain⟨⟨uR,uN⟩,uI⟩:=up
   simp only at hd'
   rcases hd' with d|⟨rfl,d⟩|⟨rfl,rfl,d⟩
   all_goals
    go_wp2_with(go_at_call 301;refine HWH.out.mono ?_;rintro e w4 ⟨rfl,k4⟩)
    go_ret
    exact⟨by(have e:=HQQ.out;subst e;rfl),kw2.trans k4⟩
end Go.Proofs.YthfjefcljeamgaaGreatDoor
