/- joined: Rows of runs: characters gone; all runs told; a row without characters. Rows of runs: all told; a row without characters. -/
import Derived.Test.YthfjefcljeamgaaGreatDoorRunI
namespace Go.Proofs.YthfjefcljeamgaaGreatDoor
set_option maxRecDepth 100000
set_option maxHeartbeats 4000000
section
open Go.RowKit
attribute [local go_sem ↓] Go.wp_at_zero Go.wp_at_succ
def ES(l:Dc.Row):Prop:=Dc.Cm l∧Dc.CO l≤1000000
theorem ES.small{l:Dc.Row}(h:ES l):Gg l:=⟨fun r hr=>by have:=(h.1 r hr).2;omega,h.2,AG h.1.len_le h.2⟩
theorem Ec.low{F:Nat→Prop}{b:Nat}{l:Dc.Row}{w:World}(h:Ec F b l w):Ec (fun g=>F g∧g<w.heap.size) b l w:=by
 obtain⟨v,h1,h2,f1,f2⟩:=h
 exact⟨v,h1,h2,⟨f1,Ao h1⟩,fun g hg=>⟨f2 g hg,h2.own_lt hg⟩⟩
theorem WY(r:Dc.Run)(c:Dc.Cut):(Dc.DR r c).2≤r.len∧(Dc.DR r c).1.length≤3:=by
 cases hs:Im r c with
 |true=>rw[LA hs];exact⟨Ah _,by simp⟩
 |false=>
  obtain⟨i,j,h1,h2,_,_,h3⟩:=OM hs
  rw[h3]
  refine⟨by simp only;omega,?_⟩
  simp only[Ai,BO]
  split<;>split<;>simp
theorem Wq{l:Dc.Row}(h:Dc.Cm l)(c:Dc.Cut):Dc.Cm (l.flatMap fun r=>(Dc.DR r c).1):=fun r hr=>by
 obtain⟨q,hq,hr⟩:=Ba.1 hr
 exact Dc.OL (h q hq) c r hr
theorem UF{α β:Type}{G:α→List β}{l:List α}{j:Nat}(hj:j<l.length):(l.take (j+1)).flatMap G=(l.take j).flatMap G++G l[j]:=by
 rw[AW,Aj hj,BU]
 simp
def TK(F:Nat→Prop)(b:Nat)(l:Dc.Row)(c:Dc.Cut)(w:World)(e:Ending)(w':World):Prop:=
 ∃n:Nat,e= .returned (.int .i64 n)∧Ec (Bv F w) b (Dc.NZ l c) w'∧Aa F w w'
theorem Sv{F:Nat→Prop}{b:Nat}{l:Dc.Row}{w:World}(h:Ec F b l w)(hs:ES l)(c:Dc.Cut):
  Calls Tryz.prog 271 #[.pointer (some ⟨b,0,none⟩),Wu c] w (TK F b l c w):=by
 obtain⟨v,h1,hrow,f1,f2⟩:=h.low
 obtain⟨ao,cp,rfl⟩:∃ao cp,v= .slice ao l.length cp:=by
  rcases hrow.form with⟨rfl,rfl⟩|⟨g',cap,_,rfl,_⟩
  ·exact⟨none,0,rfl⟩
  ·exact⟨_,cap,rfl⟩
 have H:=Hx hrow
 have hs3:=hs.small.2.2
 have hs2:=hs.2
 have HS:=Hx hs.1
 have HFN:Hid (Gg (l.flatMap fun r=>(Dc.DR r c).1)):=Hx (ES.small ⟨Wq hs.1 c,by rw[Dc.QT];exact hs.2⟩)
 have HCR:Hid (Dc.NZ l c=Dc.ID (l.flatMap fun r=>(Dc.DR r c).1)):=Hx rfl
 have F2:=Hx f2
 have F1:=Hx f1
 clear hrow f2 f1 h hs
 obtain⟨G,hG⟩:∃G:Dc.Run→List Dc.Run,G=fun r=>(Dc.DR r c).1:=⟨_,rfl⟩
 rw[←hG]at HFN HCR
 obtain⟨⟨cR,cN⟩,cf,ct⟩:=c
 have HGG:=Hx hG
 clear hG
 go_enter Tryz.func271,Tryz.ntmps271
 go_upto_region 3 with(fail)
 have k0:Aa No w (w.alloc (.cells #[.int .i64 cR,.int .i64 cN,.int .i64 cf,.int .i64 ct] 64)):=(Aa.refl No w).alloc _
 have hA:=Nx w (.cells #[.int .i64 cR,.int .i64 cN,.int .i64 cf,.int .i64 ct] 64)
 generalize w.alloc (.cells #[.int .i64 cR,.int .i64 cN,.int .i64 cf,.int .i64 ct] 64)=w1 at k0 hA⊢
 obtain⟨A,eA⟩:∃A,A=w.heap.size:=⟨_,rfl⟩
 rw[←eA]at hA⊢
 clear eA
 have HA:=Hx hA
 clear hA
 have b0:=Cx (k0.heap h1 id) 0
 go_wp2_with fail
 clear b0
 go_loopg [5,6,16] l.length (fun kx s5 s6 s16 wr=>∃k n:Nat,s16= .int .i64 k∧s5= .int .i64 n∧n≤Dc.CO (l.take k)∧k≤l.length∧l.length-k≤kx∧Aq 285 13 Af s6 ((l.take k).flatMap G) wr∧((l.take k).flatMap G).length≤3*k∧(∀x,s6.ownBlock=some x→w1.heap.size≤x)∧Aa No w1 wr)
 case atStart=>exact⟨0,0,rfl,rfl,Ah _,Ah _,Ac _,by simpa using Aq.nil,by simp,(fun x hx=>by cases hx),Aa.refl _ _⟩
 case round=>
  obtain⟨k,n,rfl,rfl,hn,hk,hkx,hout,hlen,hown,kr⟩:=hrel
  by_cases hlt:k<l.length
  ·have hrow:=H.out.no (k0.trans kr)
   obtain⟨g,cap,e1,hcap,_⟩:=hrow.at (by omega)
   injection e1 with e1 e2 e3
   subst e1 e3
   obtain⟨x0,x1,x2,x3,x4,x5,x6,x7,x8,x9,x10,x11,x12⟩:=hrow.runO hlt
   have hnx:=UF (G:=G) hlt
   have hlr:=KT hlt
   have hlr2:=Gu l (k+1)
   obtain⟨y,hy⟩:∃y,y=l[k]'hlt:=⟨_,rfl⟩
   have hyo:=HS.out y (by rw[hy];exact AQ hlt)
   have hcl:=WY y ⟨⟨cR,cN⟩,cf,ct⟩
   have HCC:=Hx (fun W=>Sr y ⟨⟨cR,cN⟩,cf,ct⟩ (by have:=hyo.2;omega) W)
   rw[←hy]at x0 x1 x2 x3 x10 x11 x12 hnx hlr
   obtain⟨p,hp⟩:∃p,p=Dc.DR y ⟨⟨cR,cN⟩,cf,ct⟩:=⟨_,rfl⟩
   have hGy:G y=p.1:=by rw[HGG.out,hp]
   unfold LX at HCC
   rw[←hp]at HCC hcl
   have HNX:=Hx hnx
   have HGY:=Hx hGy
   obtain⟨p1,p2⟩:=p
   simp only at HCC hcl HGY
   have hp3:=hcl.2
   have hp2:p2≤64:=by have:=hyo.2;omega
   have hn2:n+p2≤Dc.CO (l.take (k+1)):=by omega
   have hwn:IntKind.i64.wrap ((n:Int)+(p2:Int))=(n:Int)+(p2:Int):=by rw[IntKind.wrap_i64];omega
   have hwj:IntKind.i64.wrap ((k:Int)+1)=(k:Int)+1:=by rw[IntKind.wrap_i64];omega
   have kI0:(0:Int)≤(k:Int):=by omega
   have kI1:(k:Int)<(l.length:Int):=by omega
   have hA:=kr.heap HA.out id
   have a0:=Cx hA 0
   have a1:=Cx hA 1
   have a2:=Cx hA 2
   have a3:=Cx hA 3
   have hlA:=Ao hA
   have hb1:w1.heap.size≤wr.heap.size:=kr.size
   clear hrow e2 hy hyo hnx hGy hp hcl hlr hlr2
   go_upto_region 7 with(go_at_call 304;refine(HCC.out _).mono ?_;rintro e w2 ⟨v2,rfl,hr2,ho2,k2⟩)
   have k2':Aa No wr w2:=((Aa.refl No wr).alloc _).trans k2
   have hout2:=hout.no k2'
   have kw2:=kr.trans k2'
   have hsep:∀x,v2.ownBlock=some x→w1.heap.size≤x:=fun x hx=>by
    have h2:=ho2 x hx
    rw[World.size_alloc]at h2
    omega
   have HAR:=Hx (fun ty=>KF.append_row hout2 hr2 (by omega) ty)
   have hb2:=kw2.size
   clear a0 a1 a2 a3 x0 x1 x2 x3 x4 x5 x6 x7 x8 x9 x10 x11 x12 k2 hout ho2 hA
   go_wp2_with(at_builtin;obtain⟨v7,w7,hr7,ho7,k7,hov7⟩:=HAR.out _;refine wpList_append_run rfl _ _ 281 281 rfl _ _ rfl rfl hr7 ?_)
   go_roundg (l.length-(k+1))
   case measure=>omega
   case rel=>
    refine⟨k+1,n+p2,by go_num,by first|rfl|go_num,hn2,hlt,Ac _,by rw[HNX.out,HGY.out];exact ho7,by rw[HNX.out,HGY.out,Ai];omega,fun x hx=>?_,kw2.step k7 fun x hx hl=>by have:=hown x hx;omega⟩
    rcases hov7 with e7|e7
    ·exact hown x (e7▸hx)
    ·rw[e7]at hx
     have:=Ap hx
     omega
  ·obtain rfl:k=l.length:=by omega
   rw[AH]at hout hlen
   have hb:=(k0.trans kr).heap h1 id
   have u0:=Fx hb 0
   have y0:=Cx hb 0
   have hb1:w.heap.size≤w1.heap.size:=k0.size
   have hlb:=Ao h1
   obtain⟨so,n2,c2,rfl⟩:=hout.slice
   have hb2:∀x,(Value.slice so n2 c2).ownBlock=some x→¬At1 b x:=fun x hx e=>by have:=hown x hx;unfold At1 at e;omega
   go_upto_region 11 with(fail)
   have k3:Aa (At1 b) wr (wr.setCell ⟨b,0,none⟩ (.slice so n2 c2)):=(Aa.refl (At1 b) wr).set1 _
   have hP:Ec (fun x=>x=b∨w.heap.size≤x) b (l.flatMap G) (wr.setCell ⟨b,0,none⟩ (.slice so n2 c2)):=⟨_,heap_set hb 0 _,hout.keeps k3 hb2,.inl rfl,fun x hx=> .inr (by have:=hown x hx;omega)⟩
   have kw3:Aa (fun g=>F g∧g<w.heap.size) w (wr.setCell ⟨b,0,none⟩ (.slice so n2 c2)):=((k0.trans kr).any.step k3 fun x hx _=>by unfold At1 at hx;rw[hx];exact F1.out)
   have HM:=Hx (Le hP HFN.out)
   clear u0 y0 hout k3 hP
   generalize wr.setCell ⟨b,0,none⟩ (.slice so n2 c2)=w3 at kw3 HM⊢
   go_wp2_with(go_at_call 300;refine HM.out.mono ?_;rintro e w4 ⟨rfl,hP4,k4⟩)
   go_ret
   have hfin:Ec (Bv F w) b (Dc.ID (l.flatMap G)) w4:=hP4.mono fun x hx=>by
    rcases hx with(rfl|hx)|hx
    ·exact .inl F1.out.1
    ·exact .inr hx
    ·exact .inr (by have:=kw3.size;omega)
   refine⟨n,rfl,by rw[HCR.out];exact hfin,(kw3.mono fun x hx _=>hx.1).step k4 fun x hx hl=>?_⟩
   rcases hx with rfl|hx
   ·exact F1.out.1
   ·omega
def T8(F:Nat→Prop)(b:Nat)(l':Dc.Row)(w:World)(e:Ending)(w':World):Prop:=
 e= .returned (.int .i64 0)∧Ec (Bv F w) b l' w'∧Aa F w w'
theorem Ss{F:Nat→Prop}{b:Nat}{l:Dc.Row}{w:World}(h:Ec F b l w)(hs:ES l)(k:Nat)(x:Dc.Run)(hx:Dc.Dz x=true)(hk:k≤Dc.CO l)(hno:Dc.overlaps l x=false)(hbig:Dc.CO l+x.len≤1000000):
  Calls Tryz.prog 267 #[.pointer (some ⟨b,0,none⟩),.int .i64 k,JE x] w (T8 F b (Dc.Jq l k x) w):=by
 have hpe:Dc.Hg l k x=0:=by
  unfold Dc.Hg
  rw[Ae (by rw[hx];simp),Ae (by omega),Ae (by rw[hno];simp)]
 have HPR:Hid (Dc.Jq l k x=Dc.ID (Dc.Ax (Dc.Bw l k).1 (Dc.Bw l k).2 x)):=Hx (by unfold Dc.Jq;rw[Ae (by simp[hpe])];rfl)
 obtain⟨S,hS⟩:∃S,S=(Dc.Bw l k).1:=⟨_,rfl⟩
 obtain⟨i,hi⟩:∃i,i=(Dc.Bw l k).2:=⟨_,rfl⟩
 have hSok:=Dc.KB hs.1 k
 have hSi:=Dc.Oc l k
 have hSlen:Dc.CO (Dc.Bw l k).1=Dc.CO l:=by rw[←Dc.Az,Dc.IT,Dc.Az]
 have hxok:=Dc.JS hx
 have HSP:=Hx (fun(F:Nat→Prop) (w:World) (h:Ec F b l w)=>(O1 h hs.small k (by have:=hs.2;omega)))
 unfold Jn at HSP
 rw[←hS,←hi]at HPR hSi
 simp only[←hS,←hi]at HSP
 rw[←hS]at hSok hSlen
 have hSfine:ES S:=⟨hSok,by rw[hSlen];exact hs.2⟩
 have hIns:Gg (Dc.Ax S i x):=ES.small ⟨fun r hr=>by
  rcases Dc.FA.1 hr with rfl|hr
  ·exact hxok
  ·exact hSok r hr,by
  have:Dc.CO (Dc.Ax S i x)=Dc.CO S+x.len:=by
   have h1:=Dc.G2 (S.take i) (S.drop i)
   rw[A9]at h1
   unfold Dc.Ax
   rw[Dc.G2,h1]
   simp only[Dc.CO]
   omega
  omega⟩
 have hSl:=hSfine.small.2.2
 have HIN:=Hx hIns
 have HL:=Hx h.low
 have HRI:=Hx (fun W=>NG x hx W)
 have HOV:=Hx (fun(F:Nat→Prop) (w:World) (h:Ec F b l w)=>O6 h hs.small x (by have:=hxok.2;omega) hno)
 have HLEN:=Hx (fun(F:Nat→Prop) (w:World) (h:Ec F b l w)=>Su h hs.small)
 have hkI:¬((Dc.CO l:Int)<(k:Int)):=by omega
 clear hS hi hSok hSlen hxok hSfine hIns h hs hpe hno hx hbig hk
 go_enter Tryz.func267,Tryz.ntmps267
 go_upto_region 1 with(fail)
 have k0:Aa No w (w.alloc (.cells #[.int .i64 x.op.R,.int .i64 x.op.N,.int .i64 x.fr,.int .i64 x.len,.int .i64 0,.int .i64 0,.int .i64 0,.int .i64 0,.int .i64 0,.int .i64 0,.bool x.gone,.bool x.mark,.string ⟨x.text.toArray⟩] 127)):=(Aa.refl No w).alloc _
 have hX:=Nx w (.cells #[.int .i64 x.op.R,.int .i64 x.op.N,.int .i64 x.fr,.int .i64 x.len,.int .i64 0,.int .i64 0,.int .i64 0,.int .i64 0,.int .i64 0,.int .i64 0,.bool x.gone,.bool x.mark,.string ⟨x.text.toArray⟩] 127)
 generalize w.alloc (.cells #[.int .i64 x.op.R,.int .i64 x.op.N,.int .i64 x.fr,.int .i64 x.len,.int .i64 0,.int .i64 0,.int .i64 0,.int .i64 0,.int .i64 0,.int .i64 0,.bool x.gone,.bool x.mark,.string ⟨x.text.toArray⟩] 127)=w1 at k0 hX⊢
 obtain⟨X,eX⟩:∃X,X=w.heap.size:=⟨_,rfl⟩
 rw[←eX]at hX⊢
 have hXw:w.heap.size≤X:=by omega
 clear eX
 have hP1:=HL.out.no k0
 have cellsX:∀{W:World},W.heap[X]? =some (.cells (BW x) 127 (0,0))→K5 X x W:=fun h=>
  ⟨Cx h 0,Cx h 1,Cx h 2,Cx h 3,Cx h 4,Cx h 5,Cx h 6,Cx h 7,Cx h 8,Cx h 9,Cx h 10,Cx h 11,Cx h 12⟩
 obtain⟨q0,q1,q2,q3,q4,q5,q6,q7,q8,q9,q10,q11,q12⟩:=cellsX hX
 have hk0:¬((k:Int)<0):=by omega
 go_upto_region 3 with(go_at_call 295;refine(HRI.out _).mono ?_;rintro e w2 ⟨rfl,k2⟩)
 have HL2:=Hx (HLEN.out _ _ (hP1.no k2))
 clear q0 q1 q2 q3 q4 q5 q6 q7 q8 q9 q10 q11 q12
 go_upto_region 5 with(go_at_call 296;refine HL2.out.mono ?_;rintro e w3 ⟨rfl,k3⟩)
 have k13:=k2.trans k3
 have hX3:=k13.heap hX id
 have HO3:=Hx (HOV.out _ _ (hP1.no k13))
 obtain⟨q0,q1,q2,q3,q4,q5,q6,q7,q8,q9,q10,q11,q12⟩:=cellsX hX3
 go_upto_region 7 with(go_at_call 297;refine HO3.out.mono ?_;rintro e w4 ⟨rfl,k4⟩)
 have k14:=k13.trans k4
 have hX4:=k14.heap hX id
 have hP4:=hP1.no k14
 clear q0 q1 q2 q3 q4 q5 q6 q7 q8 q9 q10 q11 q12
 have z4:=Cx hX4
 have u4:=Fx hX4
 go_upto_region 8 with(fail)
 have hX5:((((((w4.setCell ⟨X,4,none⟩ (.int .i64 0)).setCell ⟨X,5,none⟩ (.int .i64 0)).setCell ⟨X,6,none⟩ (.int .i64 0)).setCell ⟨X,7,none⟩ (.int .i64 0)).setCell ⟨X,8,none⟩ (.int .i64 0)).setCell ⟨X,9,none⟩ (.int .i64 0)).heap[X]? =some (.cells (BW x) 127 (0,0)):=heap_set (heap_set (heap_set (heap_set (heap_set (heap_set hX4 4 _) 5 _) 6 _) 7 _) 8 _) 9 _
 have k45:Aa (At1 X) w4 ((((((w4.setCell ⟨X,4,none⟩ (.int .i64 0)).setCell ⟨X,5,none⟩ (.int .i64 0)).setCell ⟨X,6,none⟩ (.int .i64 0)).setCell ⟨X,7,none⟩ (.int .i64 0)).setCell ⟨X,8,none⟩ (.int .i64 0)).setCell ⟨X,9,none⟩ (.int .i64 0)):=((((((Aa.refl _ _).set1 _).set1 _).set1 _).set1 _).set1 _).set1 _
 generalize ((((((w4.setCell ⟨X,4,none⟩ (.int .i64 0)).setCell ⟨X,5,none⟩ (.int .i64 0)).setCell ⟨X,6,none⟩ (.int .i64 0)).setCell ⟨X,7,none⟩ (.int .i64 0)).setCell ⟨X,8,none⟩ (.int .i64 0)).setCell ⟨X,9,none⟩ (.int .i64 0))=w5 at hX5 k45⊢
 have hP5:=hP4.keeps k45 fun y hy e=>by have:=hy.2;unfold At1 at e;omega
 have kw5:Aa No w w5:=(k0.trans k14).step k45 fun y hy hl=>by unfold At1 at hy;omega
 have HS5:=Hx (HSP.out _ _ hP5)
 clear z4 u4 hX4 hP4 k45 hX3
 go_upto_region 9 with(go_at_call 298;refine HS5.out.mono ?_;rintro e w6 ⟨rfl,hP6,k6⟩)
 have hX6:=k6.heap hX5 (fun e=>by have:=e.2;omega)
 have kw6:Aa (fun g=>F g∧g<w.heap.size) w w6:=kw5.any.step k6 fun y hy _=>hy
 obtain⟨v,h1,hrow,f1,f2⟩:=hP6
 obtain⟨ao,cp,rfl⟩:∃ao cp,v= .slice ao S.length cp:=by
  rcases hrow.form with⟨rfl,rfl⟩|⟨g',cap,_,rfl,_⟩
  ·exact⟨none,0,rfl⟩
  ·exact⟨_,cap,rfl⟩
 have hlX:=Ao hX6
 have kd:Aa No w6 w6.drew:=(Aa.refl No w6).drew
 generalize hw7:w6.drew=w7 at kd
 have hb7:=kd.heap h1 id
 have hX7:=kd.heap hX6 id
 have hrow7:=hrow.no kd
 have b0:=Cx hb7 0
 have hlb:=Ao hb7
 have hlX7:=Ao hX7
 obtain⟨q0,q1,q2,q3,q4,q5,q6,q7,q8,q9,q10,q11,q12⟩:=cellsX hX7
 have hgb:(Value.slice ao S.length cp).ownBlock≠some b:=Bh hrow7 hb7 (by decide)
 have hgs:(Value.slice ao S.length cp).ownBlock≠some w7.heap.size:=fun e=>GB _ (hrow7.own_lt e)
 have ka:Aa No w7 (w7.alloc (.cells #[.int .i64 x.op.R,.int .i64 x.op.N,.int .i64 x.fr,.int .i64 x.len,.int .i64 0,.int .i64 0,.int .i64 0,.int .i64 0,.int .i64 0,.int .i64 0,.bool x.gone,.bool x.mark,.string ⟨x.text.toArray⟩] 285)):=(Aa.refl No w7).alloc _
 have ba:=Cx (ka.heap hb7 id) 0
 have HC:Hid (∀vb,vb=w7.heap.size→Calls Tryz.prog 299 #[.slice ao S.length cp,.int .i64 i,.slice (some ⟨vb,0,none⟩) 1 1] (w7.alloc (.cells #[.int .i64 x.op.R,.int .i64 x.op.N,.int .i64 x.fr,.int .i64 x.len,.int .i64 0,.int .i64 0,.int .i64 0,.int .i64 0,.int .i64 0,.int .i64 0,.bool x.gone,.bool x.mark,.string ⟨x.text.toArray⟩] 285))
   (A6 285 13 Af (.slice ao S.length cp) (Dc.Ax S i x) (w7.alloc (.cells #[.int .i64 x.op.R,.int .i64 x.op.N,.int .i64 x.fr,.int .i64 x.len,.int .i64 0,.int .i64 0,.int .i64 0,.int .i64 0,.int .i64 0,.int .i64 0,.bool x.gone,.bool x.mark,.string ⟨x.text.toArray⟩] 285)))):=Hx fun vb hvb=>
  S7 _ S x i vb _ (hrow7.no ka) (by subst hvb;exact Nx w7 _) (by subst hvb;exact hgs) (by omega) hSi
 clear hrow hX6 h1 hP5 hX5
 go_upto_region 9 with(fail)
 go_cut[] (fun wx=>∃v8,wx.heap[b]? =some (.cells #[v8] 283 (0,0))∧Aq 285 13 Af v8 (Dc.Ax S i x) wx∧(∀y,v8.ownBlock=some y→Bv (fun g=>F g∧g<w.heap.size) w y)∧Aa (Bv (fun g=>F g∧g<w.heap.size) w) w wx)
 case first=>
  go_region_law(first
   |(go_simp;go_at_call 299;(with_reducible refine(HC.out _ rfl).mono ?_);rintro e w8 ⟨v8,rfl,hrow8,k8,ho8⟩
     have hb8:=k8.heap (ka.heap hb7 id) hgb;have y0:=Cx hb8 0;have u0:=Fx hb8 0;obtain⟨ao8,n8,c8,rfl⟩:=hrow8.slice))
  all_goals
   go_wp2_with fail
   go_meet
   have hsz:w.heap.size≤w5.heap.size:=kw5.size
   have hgr:∀y,Bv (fun g=>F g∧g<w.heap.size) w5 y→Bv (fun g=>F g∧g<w.heap.size) w y:=fun y hy=>hy.imp_right fun h=>by omega
   have k8':Aa (Bv (fun g=>F g∧g<w.heap.size) w) w w8:=(((kw6.mono fun y hy _=> .inl hy).no kd).no ka).step k8 fun y hy _=>hgr y (f2 y hy)
   refine⟨_,heap_set hb8 0 _,hrow8.keeps ((Aa.refl (At1 b) w8).set1 (o:=0) _) (fun y hy e=>Bh hrow8 hb8 (by decide) (by rw[hy];exact congrArg some e)),fun y hy=>?_,k8'.setCell (a:=⟨b,0,none⟩) (fun _=>hgr b f1) _⟩
   rcases ho8 y hy with e|e
   ·exact hgr y (f2 y e)
   ·exact .inr (by have:=(kw6.no kd).size;have:=ka.size;omega)
 case rest=>
  obtain⟨v8,hb8,hrow8,ho8,k8⟩:=hcut
  have hsz:w.heap.size≤w5.heap.size:=kw5.size
  have hgr:∀y,Bv (fun g=>F g∧g<w.heap.size) w5 y→Bv (fun g=>F g∧g<w.heap.size) w y:=fun y hy=>hy.imp_right fun h=>by omega
  have HM:=Hx (Le ⟨v8,hb8,hrow8,hgr b f1,ho8⟩ HIN.out)
  clear hb7 hX7 b0 ba q0 q1 q2 q3 q4 q5 q6 q7 q8 q9 q10 q11 q12
  go_wp2_with(go_at_call 300;refine HM.out.mono ?_;rintro e w9 ⟨rfl,hP9,k9⟩)
  go_ret
  have hfin:Ec (Bv F w) b (Dc.ID (Dc.Ax S i x)) w9:=hP9.mono fun y hy=>by
   rcases hy with(hy|hy)|hy
   ·exact .inl hy.1
   ·exact .inr hy
   ·exact .inr (by have:=k8.size;omega)
  refine⟨rfl,by rw[HPR.out];exact hfin,(k8.mono fun y hy hl=>(hy.lt hl).1).step k9 fun y hy hl=>(hy.lt hl).1⟩
end
section
open Go.RowKit
attribute [local go_sem ↓] Go.wp_at_zero Go.wp_at_succ
theorem EV(w:World):Calls Tryz.prog 219 #[] w fun e w'=>e= .returned (.pointer (some ⟨w.heap.size,0,none⟩))∧w'=w.alloc (.cells #[.slice none 0 0] 283):=by
 go_enter Tryz.func219,Tryz.ntmps219
 go_wp2_with fail
 go_ret
 exact⟨rfl,rfl⟩
def RL(l:Dc.Row)(w:World)(e:Ending)(w':World):Prop:=
 ∃v,e= .returned v∧Aq 127 13 Af v l w'∧(∀x,v.ownBlock=some x→w.heap.size≤x)∧Aa No w w'
theorem Qu{F:Nat→Prop}{b:Nat}{l:Dc.Row}{w:World}(h:Ec F b l w)(hs3:l.length≤1000000):
  Calls Tryz.prog 121 #[.pointer (some ⟨b,0,none⟩)] w (RL l w):=by
 obtain⟨v,h1,hrow,_⟩:=h
 obtain⟨ao,cp,rfl⟩:∃ao cp,v= .slice ao l.length cp:=by
  rcases hrow.form with⟨rfl,rfl⟩|⟨g',cap,_,rfl,_⟩
  ·exact⟨none,0,rfl⟩
  ·exact⟨_,cap,rfl⟩
 have H:=Hx hrow
 have b0:=Cx h1 0
 clear hrow
 go_enter Tryz.func121,Tryz.ntmps121
 go_wp2_with fail
 clear b0
 go_loopg [3,11] l.length (fun kx s3 s11 wr=>∃k:Nat,s11= .int .i64 k∧Aq 127 13 Af s3 (l.take k) wr∧(∀x,s3.ownBlock=some x→w.heap.size≤x)∧k≤l.length∧l.length-k≤kx∧Aa No w wr)
 case atStart=>exact⟨0,rfl,by simpa using Aq.nil,(fun x hx=>by cases hx),Ah _,Ac _,Aa.refl _ _⟩
 case round=>
  obtain⟨k,rfl,hout,hown,hk,hkx,kr⟩:=hrel
  by_cases hlt:k<l.length
  ·have hrow:=H.out.no kr
   obtain⟨g,cap,e1,hcap,_⟩:=hrow.at (by omega)
   injection e1 with e1 e2 e3
   subst e1 e3
   obtain⟨x0,x1,x2,x3,x4,x5,x6,x7,x8,x9,x10,x11,x12⟩:=hrow.runO hlt
   have htk:l.take (k+1)=l.take k++[l[k]'hlt]:=by rw[AW,Aj hlt];rfl
   obtain⟨y,hy⟩:∃y,y=l[k]'hlt:=⟨_,rfl⟩
   rw[←hy]at x0 x1 x2 x3 x10 x11 x12 htk
   have HTK:=Hx htk
   have kI0:(0:Int)≤(k:Int):=by omega
   have kI1:(k:Int)<(l.length:Int):=by omega
   have hwk:w.heap.size≤wr.heap.size:=kr.size
   have hll:(l.take k).length≤1000000:=by rw[Ad];omega
   have ka:Aa No wr ((wr.alloc (.cells #[.int .i64 y.op.R,.int .i64 y.op.N,.int .i64 y.fr,.int .i64 y.len,.int .i64 0,.int .i64 0,.int .i64 0,.int .i64 0,.int .i64 0,.int .i64 0,.bool y.gone,.bool y.mark,.string ⟨y.text.toArray⟩] 285)).alloc (.cells #[.int .i64 y.op.R,.int .i64 y.op.N,.int .i64 y.fr,.int .i64 y.len,.int .i64 0,.int .i64 0,.int .i64 0,.int .i64 0,.int .i64 0,.int .i64 0,.bool y.gone,.bool y.mark,.string ⟨y.text.toArray⟩] 127)):=((Aa.refl No wr).alloc _).alloc _
   have hg2:=Nx (wr.alloc (.cells #[.int .i64 y.op.R,.int .i64 y.op.N,.int .i64 y.fr,.int .i64 y.len,.int .i64 0,.int .i64 0,.int .i64 0,.int .i64 0,.int .i64 0,.int .i64 0,.bool y.gone,.bool y.mark,.string ⟨y.text.toArray⟩] 285)) (.cells #[.int .i64 y.op.R,.int .i64 y.op.N,.int .i64 y.fr,.int .i64 y.len,.int .i64 0,.int .i64 0,.int .i64 0,.int .i64 0,.int .i64 0,.int .i64 0,.bool y.gone,.bool y.mark,.string ⟨y.text.toArray⟩] 127)
   rw[World.size_alloc]at hg2
   have HAP:=Hx (fun ty=>Wi.append (hout.no ka) ⟨wr.heap.size+1,0,none⟩ 1 1 [y] rfl (Ey hg2) (by omega) ty)
   clear hrow e2 htk hy hout
   go_wp2_with(at_builtin;obtain⟨v',w7,hr7,ho7,k7,hov7⟩:=HAP.out _;refine wpList_append_run rfl _ _ 57 57 rfl _ _ rfl rfl hr7 ?_)
   go_roundg (l.length-(k+1))
   case measure=>omega
   case rel=>
    refine⟨k+1,by go_num,by rw[HTK.out];exact ho7,fun x hx=>?_,hlt,Ac _,(kr.no ka).step k7 fun x hx hl=>by have:=hown x hx;omega⟩
    rcases hov7 with e7|e7
    ·exact hown x (e7▸hx)
    ·rw[e7]at hx
     have e9:=Ap hx
     have:=ka.size
     omega
  ·obtain rfl:k=l.length:=by omega
   rw[AH]at hout
   obtain⟨so,n2,c2,rfl⟩:=hout.slice
   go_wp2_with fail
   go_ret
   exact⟨_,rfl,hout,hown,kr⟩
end
end Go.Proofs.YthfjefcljeamgaaGreatDoor
