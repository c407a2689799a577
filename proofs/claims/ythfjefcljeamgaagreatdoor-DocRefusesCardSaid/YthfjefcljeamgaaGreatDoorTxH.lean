/- joined: The texts of blocks: the runs of a block's stretch. The texts of blocks: the text of a block; an op of a text is done. -/
import Derived.Test.YthfjefcljeamgaaGreatDoorTxF
namespace Go.Proofs.YthfjefcljeamgaaGreatDoor
set_option maxRecDepth 100000
set_option maxHeartbeats 4000000
section
open Go.RowKit
attribute [local go_sem ↓] Go.wp_at_zero Go.wp_at_succ
theorem Aq.pieceO{l:List Dc.DK}{w:World}{g n cap:Nat}(h:Aq 129 15 EX (.slice (some ⟨g,0,none⟩) n cap) l w){k:Nat}(hk:k<l.length):
  w.cell? ⟨g,k*15,none⟩=some (.int .i64 (l[k]'hk).run.op.R)∧w.cell? ⟨g,k*15+1,none⟩=some (.int .i64 (l[k]'hk).run.op.N)∧w.cell? ⟨g,k*15+2,none⟩=some (.int .i64 (l[k]'hk).run.fr)∧w.cell? ⟨g,k*15+3,none⟩=some (.int .i64 (l[k]'hk).run.len)∧w.cell? ⟨g,k*15+4,none⟩=some (.int .i64 0)∧w.cell? ⟨g,k*15+5,none⟩=some (.int .i64 0)∧w.cell? ⟨g,k*15+6,none⟩=some (.int .i64 0)∧w.cell? ⟨g,k*15+7,none⟩=some (.int .i64 0)∧w.cell? ⟨g,k*15+8,none⟩=some (.int .i64 0)∧w.cell? ⟨g,k*15+9,none⟩=some (.int .i64 0)∧w.cell? ⟨g,k*15+10,none⟩=some (.bool (l[k]'hk).run.gone)∧w.cell? ⟨g,k*15+11,none⟩=some (.bool (l[k]'hk).run.mark)∧w.cell? ⟨g,k*15+12,none⟩=some (.string ⟨(l[k]'hk).run.text.toArray⟩)∧w.cell? ⟨g,k*15+13,none⟩=some (.int .i64 (l[k]'hk).owner.R)∧w.cell? ⟨g,k*15+14,none⟩=some (.int .i64 (l[k]'hk).owner.N):=by
 have hc:=fun r (hr:r<15)=>h.cell (fun _=>rfl) hk hr
 exact⟨hc 0 (by decide),hc 1 (by decide),hc 2 (by decide),hc 3 (by decide),hc 4 (by decide),hc 5 (by decide),hc 6 (by decide),hc 7 (by decide),hc 8 (by decide),hc 9 (by decide),hc 10 (by decide),hc 11 (by decide),hc 12 (by decide),hc 13 (by decide),hc 14 (by decide)⟩
theorem K1{a b:Off.Bid}(h:a≠b):¬a.R=b.R∨(a.R=b.R∧¬a.N=b.N):=by
 by_cases h1:a.R=b.R
 ·refine .inr ⟨h1,fun h2=>h ?_⟩
  cases a;cases b;simp only at h1 h2;rw[h1,h2]
 ·exact .inl h1
theorem NC{a:Off.Bid}{l:List Dc.DK}{k:Nat}(hk:k<l.length):Dc.DD a (l.take (k+1))=Dc.DD a (l.take k)++(if(l[k]'hk).owner=a∧(l[k]'hk).run.opens=false then[l[k]'hk]else[]):=by
 unfold Dc.DD
 rw[AW,Aj hk,List.filter_append]
 congr 1
 simp only[Option.toList_some,List.filter_cons,List.filter_nil]
 by_cases h1:(l[k]'hk).owner=a<;>cases h2:(l[k]'hk).run.opens<;>simp[h1]
theorem ND{a seg:Off.Bid}{l:List Dc.DK}{k:Nat}(hk:k<l.length):Dc.Fo a seg (l.take (k+1))=(Dc.Fo a seg (l.take k)||(decide ((l[k]'hk).owner=a)&&(l[k]'hk).run.opens)):=by
 unfold Dc.Fo
 rw[AW,Aj hk,List.any_append]
 simp[Bool.or_assoc]
def JO(x:Dc.TX)(a:Off.Bid):Option Off.Bid→List Dc.DK
 |none=>[]
 |some seg=>Dc.DD a (Dc.EW x seg)
def Ig(x:Dc.TX)(a:Off.Bid):Option Off.Bid→Bool
 |none=>false
 |some seg=>Dc.Fo a seg (Dc.EW x seg)
theorem Uj(x:Dc.TX)(a:Off.Bid):Dc.Dv x a=JO x a (Dc.Gs x a):=by
 unfold Dc.Dv;cases Dc.Gs x a<;>rfl
theorem Qm(x:Dc.TX)(a:Off.Bid):Dc.D3 x a=Ig x a (Dc.Gs x a):=by
 unfold Dc.D3;cases Dc.Gs x a<;>rfl
def Gf(x:Dc.TX)(a:Off.Bid)(w:World)(e:Ending)(w':World):Prop:=
 ∃v,e= .returned (.tuple #[v,.bool (Dc.D3 x a)])∧Aq 129 15 EX v (Dc.Dv x a) w'∧(∀x,v.ownBlock=some x→w.heap.size≤x)∧Aa No w w'
theorem Jr{F:Nat→Prop}{b:Nat}{x:Dc.TX}{w:World}(h:Bg F b x w)(hx:∀seg t,x.texts seg=some t→t.row.length≤1000000)(a:Off.Bid):
  Calls Tryz.prog 78 #[.pointer (some ⟨b,0,none⟩),idV a] w (Gf x a w):=by
 have HS:=Hx (fun W (k:Aa No w W)=>Ug (h.no k) a)
 have HPS:=Hx (fun W (k:Aa No w W) s=>OW (h.no k) hx s)
 have hlen:∀s,(Dc.EW x s).length≤1000000:=fun s=>by
  unfold Dc.EW
  cases ht:x.texts s with
  |none=>simp
  |some t=>simp only;rw[Ft];exact hx s t ht
 have HLEN:=Hx hlen
 obtain⟨R,N⟩:=a
 unfold Ku at HS
 obtain⟨sg,hsg⟩:∃sg,sg=Dc.Gs x ⟨R,N⟩:=⟨_,rfl⟩
 have hst:Dc.Dv x ⟨R,N⟩=JO x ⟨R,N⟩ sg:=by rw[hsg];exact Uj _ _
 have hso:Dc.D3 x ⟨R,N⟩=Ig x ⟨R,N⟩ sg:=by rw[hsg];exact Qm _ _
 rw[←hsg]at HS
 have HPOST:Hid (∀v bo w',Dc.D3 x ⟨R,N⟩=bo→Aq 129 15 EX v (Dc.Dv x ⟨R,N⟩) w'→(∀x,v.ownBlock=some x→w.heap.size≤x)→Aa No w w'→Gf x ⟨R,N⟩ w (.returned (.tuple #[v,.bool bo])) w'):=Hx fun v bo w' e1 e2 e3 e4=>⟨v,by rw[e1],e2,e3,e4⟩
 generalize Gf x ⟨R,N⟩ w=post at HPOST⊢
 rw[hst,hso]at HPOST
 clear h hx hsg hst hso hlen
 cases sg with
 |none=>
  simp only[Option.getD_none,Option.isSome_none,JO,Ig]at HS HPOST
  go_enter Tryz.func78,Tryz.ntmps78
  go_upto_region 1 with(fail)
  have k0:Aa No w (w.alloc (.cells #[.int .i64 R,.int .i64 N] 24)):=(Aa.refl No w).alloc _
  have hA:=Nx w (.cells #[.int .i64 R,.int .i64 N] 24)
  generalize w.alloc (.cells #[.int .i64 R,.int .i64 N] 24)=w1 at k0 hA⊢
  obtain⟨A,eA⟩:∃A,A=w.heap.size:=⟨_,rfl⟩
  rw[←eA]at hA⊢
  clear eA
  have x0:=Cx hA 0
  have x1:=Cx hA 1
  have HS1:=Hx (HS.out _ k0)
  go_wp2_with(go_at_call 96;refine HS1.out.mono ?_;rintro e w2 ⟨rfl,k2⟩)
  exact HPOST.out _ _ _ rfl Aq.nil (fun x hx=>by cases hx) ((k0.trans k2).alloc _)
 |some seg=>
  obtain⟨sR,sN⟩:=seg
  simp only[F5,Option.isSome_some,JO,Ig]at HS HPOST
  obtain⟨L,hL⟩:∃L,L=Dc.EW x ⟨sR,sN⟩:=⟨_,rfl⟩
  have HPS2:Hid (∀W,Aa No w W→Calls Tryz.prog 119 #[.pointer (some ⟨b,0,none⟩),idV ⟨sR,sN⟩] W (Iu L W)):=Hx (hL▸fun W k=>HPS.out W k ⟨sR,sN⟩)
  have hLz:L.length≤1000000:=hL▸HLEN.out _
  rw[←hL]at HPOST
  clear hL HPS HLEN
  go_enter Tryz.func78,Tryz.ntmps78
  go_upto_region 1 with(fail)
  have k0:Aa No w (w.alloc (.cells #[.int .i64 R,.int .i64 N] 24)):=(Aa.refl No w).alloc _
  have hA:=Nx w (.cells #[.int .i64 R,.int .i64 N] 24)
  generalize w.alloc (.cells #[.int .i64 R,.int .i64 N] 24)=w1 at k0 hA⊢
  obtain⟨A,eA⟩:∃A,A=w.heap.size:=⟨_,rfl⟩
  rw[←eA]at hA⊢
  have hAw:A<w1.heap.size:=Ao hA
  clear eA
  have x0:=Cx hA 0
  have x1:=Cx hA 1
  have HS1:=Hx (HS.out _ k0)
  go_upto_region 5 with(go_at_call 96;refine HS1.out.mono ?_;rintro e w2 ⟨rfl,k2⟩)
  have k3:Aa No w1 (w2.alloc (.cells #[.int .i64 sR,.int .i64 sN] 24)):=k2.alloc _
  have hB:=Nx w2 (.cells #[.int .i64 sR,.int .i64 sN] 24)
  clear x0 x1
  generalize w2.alloc (.cells #[.int .i64 sR,.int .i64 sN] 24)=w3 at k3 hB⊢
  obtain⟨B,eB⟩:∃B,B=w2.heap.size:=⟨_,rfl⟩
  rw[←eB]at hB⊢
  clear eB k2
  have hA3:=k3.heap hA id
  have kw3:=k0.trans k3
  have x0:=Cx hA3 0
  have x1:=Cx hA3 1
  have y0:=Cx hB 0
  have y1:=Cx hB 1
  go_cut[9] (fun s9 wx=>s9= .bool (decide ((⟨R,N⟩:Off.Bid)=⟨sR,sN⟩))∧wx=w3)
  case first=>
   by_cases hq:(⟨R,N⟩:Off.Bid)=⟨sR,sN⟩
   ·have hq':=hq
    simp only[Off.Bid.mk.injEq]at hq'
    obtain⟨rfl,rfl⟩:=hq'
    go_wp2_with fail
    go_meet
    exact⟨by simp,rfl⟩
   ·rcases K1 hq with d|⟨d1,d⟩
    ·simp only at d
     clear hq
     go_wp2_with fail
     go_meet
     exact⟨by simp[d],rfl⟩
    ·simp only at d d1
     clear hq
     subst d1
     go_wp2_with fail
     go_meet
     exact⟨by simp[d],rfl⟩
  case rest=>
   obtain⟨rfl,rfl⟩:=hcut
   obtain⟨w4,hw4⟩:∃y,y=wc:=⟨_,rfl⟩
   subst hw4
   have HPS3:=Hx (HPS2.out _ kw3)
   go_wp2_with(go_at_call 119;refine HPS3.out.mono ?_;rintro e w5 ⟨v,rfl,hrow5,hown5,k5⟩;have HR5:=Hx hrow5;obtain⟨ao,cp,rfl⟩:∃ao cp,v= .slice ao L.length cp:=by(rcases hrow5.form with⟨rfl,rfl⟩|⟨g',cap,_,rfl,_⟩<;>exact⟨_,_,rfl⟩))
   clear hrow5
   have hA5:=k5.heap hA3 id
   have kw5:=kw3.trans k5
   clear x0 x1 y0 y1 hA hB
   go_loopg [8,9,27] L.length (fun kx s8 s9 s27 wr=>∃k:Nat,s27= .int .i64 k∧Aq 129 15 EX s8 (Dc.DD ⟨R,N⟩ (L.take k)) wr∧s9= .bool (Dc.Fo ⟨R,N⟩ ⟨sR,sN⟩ (L.take k))∧(∀x,s8.ownBlock=some x→w5.heap.size≤x)∧k≤L.length∧L.length-k≤kx∧Aa No w5 wr)
   case atStart=>exact⟨0,rfl,by simpa[Dc.DD]using Aq.nil,by simp[Dc.Fo],(fun x hx=>by cases hx),Ah _,Ac _,Aa.refl _ _⟩
   case round=>
    obtain⟨k,rfl,hout,rfl,hown,hk,hkx,kr⟩:=hrel
    by_cases hlt:k<L.length
    ·have hrow:=HR5.out.no kr
     obtain⟨g,cap,e1,hcap,_⟩:=hrow.at (by omega)
     injection e1 with e1 e2 e3
     subst e1 e3
     obtain⟨x0,x1,x2,x3,x4,x5,x6,x7,x8,x9,x10,x11,x12,x13,x14⟩:=hrow.pieceO hlt
     have htk:=NC (a:=⟨R,N⟩) hlt
     have htf:=ND (a:=⟨R,N⟩) (seg:=⟨sR,sN⟩) hlt
     obtain⟨⟨y,⟨yR,yN⟩⟩,hy⟩:∃y,y=L[k]'hlt:=⟨_,rfl⟩
     rw[←hy]at x0 x1 x2 x3 x10 x11 x12 x13 x14 htk htf
     simp only at x0 x1 x2 x3 x10 x11 x12 x13 x14 htk htf
     obtain⟨bo,hbo⟩:∃bo,bo=y.opens:=⟨_,rfl⟩
     have HOPN:Hid (∀W,Calls Tryz.prog 120 #[.agg #[.int .i64 y.op.R,.int .i64 y.op.N,.int .i64 y.fr,.int .i64 y.len,.int .i64 0,.int .i64 0,.int .i64 0,.int .i64 0,.int .i64 0,.int .i64 0,.bool y.gone,.bool y.mark,.string ⟨y.text.toArray⟩,.int .i64 yR,.int .i64 yN]] W fun e w'=>e= .returned (.bool bo)∧Aa No W w'):=Hx (hbo▸fun W=>Oo ⟨y,⟨yR,yN⟩⟩ W)
     rw[←hbo]at htk htf
     have kI0:(0:Int)≤(k:Int):=by omega
     have kI1:(k:Int)<(L.length:Int):=by omega
     have hLl:(Dc.DD ⟨R,N⟩ (L.take k)).length≤1000000:=AG (List.length_filter_le _ _) (by rw[Ad];omega)
     obtain⟨M,hM⟩:∃M,M=Dc.DD ⟨R,N⟩ (L.take k):=⟨_,rfl⟩
     obtain⟨fo,hfo⟩:∃fo,fo=Dc.Fo ⟨R,N⟩ ⟨sR,sN⟩ (L.take k):=⟨_,rfl⟩
     rw[←hM]at htk hLl hout
     rw[←hfo]at htf⊢
     obtain⟨M',hM'⟩:∃M',M'=Dc.DD ⟨R,N⟩ (L.take (k+1)):=⟨_,rfl⟩
     obtain⟨fo',hfo'⟩:∃fo',fo'=Dc.Fo ⟨R,N⟩ ⟨sR,sN⟩ (L.take (k+1)):=⟨_,rfl⟩
     rw[←hM']at htk
     rw[←hfo']at htf
     have HM:=Hx hM'
     have HF:=Hx hfo'
     clear hrow e2 hy hbo hM hfo hM' hfo'
     go_upto_region 10 with(fail)
     have k6:Aa No wr (wr.alloc (.cells #[.int .i64 y.op.R,.int .i64 y.op.N,.int .i64 y.fr,.int .i64 y.len,.int .i64 0,.int .i64 0,.int .i64 0,.int .i64 0,.int .i64 0,.int .i64 0,.bool y.gone,.bool y.mark,.string ⟨y.text.toArray⟩,.int .i64 yR,.int .i64 yN] 129)):=(Aa.refl No wr).alloc _
     have hPc:=Nx wr (.cells #[.int .i64 y.op.R,.int .i64 y.op.N,.int .i64 y.fr,.int .i64 y.len,.int .i64 0,.int .i64 0,.int .i64 0,.int .i64 0,.int .i64 0,.int .i64 0,.bool y.gone,.bool y.mark,.string ⟨y.text.toArray⟩,.int .i64 yR,.int .i64 yN] 129)
     clear x0 x1 x2 x3 x4 x5 x6 x7 x8 x9 x10 x11 x12 x13 x14
     generalize wr.alloc (.cells #[.int .i64 y.op.R,.int .i64 y.op.N,.int .i64 y.fr,.int .i64 y.len,.int .i64 0,.int .i64 0,.int .i64 0,.int .i64 0,.int .i64 0,.int .i64 0,.bool y.gone,.bool y.mark,.string ⟨y.text.toArray⟩,.int .i64 yR,.int .i64 yN] 129)=w6 at k6 hPc⊢
     obtain⟨P,eP⟩:∃P,P=wr.heap.size:=⟨_,rfl⟩
     rw[←eP]at hPc⊢
     clear eP
     have hA6:=k6.heap (kr.heap hA5 id) id
     have a0:=Cx hA6 0
     have a1:=Cx hA6 1
     have p13:=Cx hPc 13
     have p14:=Cx hPc 14
     by_cases hq:(⟨yR,yN⟩:Off.Bid)=⟨R,N⟩
     ·have hq':=hq
      simp only[Off.Bid.mk.injEq]at hq'
      obtain⟨rfl,rfl⟩:=hq'
      clear hq
      have p0:=Cx hPc 0
      have p1:=Cx hPc 1
      have p2:=Cx hPc 2
      have p3:=Cx hPc 3
      have p4:=Cx hPc 4
      have p5:=Cx hPc 5
      have p6:=Cx hPc 6
      have p7:=Cx hPc 7
      have p8:=Cx hPc 8
      have p9:=Cx hPc 9
      have p10:=Cx hPc 10
      have p11:=Cx hPc 11
      have p12:=Cx hPc 12
      cases bo
      ·have hM1:M'=M++[⟨y,⟨yR,yN⟩⟩]:=by rw[htk,Ak ⟨rfl,rfl⟩]
       have hF1:fo'=fo:=by rw[htf];simp
       subst hF1
       have HM1:=Hx hM1
       clear htk htf hM1
       go_upto_region 9 with(go_at_call 120;refine(HOPN.out _).mono ?_;rintro e w7 ⟨rfl,k7⟩)
       have hP7:=k7.heap hPc id
       have k67:=k6.trans k7
       clear p0 p1 p2 p3 p4 p5 p6 p7 p8 p9 p10 p11 p12 p13 p14 a0 a1 hPc
       have p0:=Cx hP7 0
       have p1:=Cx hP7 1
       have p2:=Cx hP7 2
       have p3:=Cx hP7 3
       have p4:=Cx hP7 4
       have p5:=Cx hP7 5
       have p6:=Cx hP7 6
       have p7:=Cx hP7 7
       have p8:=Cx hP7 8
       have p9:=Cx hP7 9
       have p10:=Cx hP7 10
       have p11:=Cx hP7 11
       have p12:=Cx hP7 12
       have p13:=Cx hP7 13
       have p14:=Cx hP7 14
       have k9:Aa No wr (w7.alloc (.cells #[.int .i64 y.op.R,.int .i64 y.op.N,.int .i64 y.fr,.int .i64 y.len,.int .i64 0,.int .i64 0,.int .i64 0,.int .i64 0,.int .i64 0,.int .i64 0,.bool y.gone,.bool y.mark,.string ⟨y.text.toArray⟩,.int .i64 yR,.int .i64 yN] 129)):=k67.alloc _
       have hg9:=Nx w7 (.cells #[.int .i64 y.op.R,.int .i64 y.op.N,.int .i64 y.fr,.int .i64 y.len,.int .i64 0,.int .i64 0,.int .i64 0,.int .i64 0,.int .i64 0,.int .i64 0,.bool y.gone,.bool y.mark,.string ⟨y.text.toArray⟩,.int .i64 yR,.int .i64 yN] 129)
       have hwr:=kr.size
       have hout9:=hout.no k9
       have HAP:=Hx (fun ty=>QD.append hout9 ⟨w7.heap.size,0,none⟩ 1 1 [⟨y,⟨yR,yN⟩⟩] rfl (Ey (y:=(⟨y,⟨yR,yN⟩⟩:Dc.DK)) hg9) (by omega) ty)
       clear hg9 hout9 hout hP7
       go_wp2_with(at_builtin;obtain⟨v',w10,hr10,ho10,k10,hov10⟩:=HAP.out _;refine wpList_append_run rfl _ _ 123 123 rfl _ _ rfl rfl hr10 ?_)
       go_roundg (L.length-(k+1))
       case measure=>omega
       case rel=>
        refine⟨k+1,by go_num,by rw[←HM.out,HM1.out];exact ho10,by rw[←HF.out],fun x hx=>?_,hlt,Ac _,(kr.trans k9).step k10 fun x hx hl=>by have:=hown x hx;omega⟩
        rcases hov10 with e7|e7
        ·exact hown x (e7▸hx)
        ·rw[e7]at hx
         have e9:=Ap hx
         have:=k9.size
         omega
      ·have hM1:M'=M:=by rw[htk,Ae (fun e=>by cases e.2),CJ]
       have hF1:fo'=true:=by rw[htf];simp
       subst hM1 hF1
       clear htk htf
       go_wp2_with(go_at_call 120;refine(HOPN.out _).mono ?_;rintro e w7 ⟨rfl,k7⟩)
       go_roundg (L.length-(k+1))
       case measure=>omega
       case rel=>exact⟨k+1,by go_num,by rw[←HM.out];exact hout.no (k6.trans k7),by rw[←HF.out],hown,hlt,Ac _,kr.trans (k6.trans k7)⟩
     ·have hM1:M'=M:=by rw[htk,Ae (fun e=>hq e.1),CJ]
      have hF1:fo'=fo:=by rw[htf,Dn hq];simp
      subst hM1 hF1
      rcases K1 hq with d|⟨d1,d⟩
      focus
       simp only at d
       clear hq
      rotate_left
      focus
       simp only at d d1
       clear hq
       subst d1
      all_goals
       go_wp2_with fail
       go_roundg (L.length-(k+1))
       case measure=>omega
       case rel=>exact⟨k+1,by go_num,by rw[←HM.out];exact hout.no k6,by rw[←HF.out],hown,hlt,Ac _,kr.trans k6⟩
    ·obtain rfl:k=L.length:=by omega
     rw[AH]at hout⊢
     have HQ:=Hx (HPOST.out _ _ _ rfl hout (fun x hx=>by have:=hown x hx;have:=kw5.size;omega) (kw5.trans kr))
     obtain⟨so,n2,c2,rfl⟩:=hout.slice
     clear hout
     go_wp2_with fail
     exact HQ.out
end
section
open Go.RowKit
attribute [local go_sem ↓] Go.wp_at_zero Go.wp_at_succ
def tex(l:List Dc.DK):Dc.Bs:=l.flatMap fun p=>if p.run.shows then p.run.text else[]
theorem Vd{l:List Dc.DK}{k:Nat}(hk:k<l.length):tex (l.take (k+1))=tex (l.take k)++(if(l[k]'hk).run.shows then(l[k]'hk).run.text else[]):=by
 unfold tex
 rw[AW,Aj hk,BU]
 simp
theorem UT(a b:List UInt8):ByteArray.mk a.toArray++ByteArray.mk b.toArray=ByteArray.mk (a++b).toArray:=by
 apply ByteArray.ext
 rw[ByteArray.data_append]
 simp
theorem Lc{x:Dc.TX}(hx:∀seg t,x.texts seg=some t→t.row.length≤1000000)(a:Off.Bid):(Dc.Dv x a).length≤1000000:=by
 unfold Dc.Dv
 cases Dc.Gs x a with
 |none=>simp
 |some s=>
  simp only
  unfold Dc.DD Dc.EW
  cases ht:x.texts s with
  |none=>simp
  |some t=>
   refine AG (List.length_filter_le _ _) ?_
   simp only
   rw[Ft]
   exact hx s t ht
theorem V3(l:List Dc.DK)(k:Nat):(tex (l.take k)).length≤(tex l).length:=by
 conv=>rhs;rw[←A9 k l]
 unfold tex
 rw[BU,Ai]
 omega
def Kt(s:Dc.Bs)(ok:Bool)(w:World)(e:Ending)(w':World):Prop:=e= .returned (.tuple #[.string ⟨s.toArray⟩,.bool ok])∧Aa No w w'
theorem L1{F:Nat→Prop}{b:Nat}{x:Dc.TX}{w:World}(h:Bg F b x w)(hx:∀seg t,x.texts seg=some t→t.row.length≤1000000)(a:Off.Bid)(hT:(Dc.Dp x a).length≤1000000000):
  Calls Tryz.prog 29 #[.pointer (some ⟨b,0,none⟩),idV a] w (Kt (Dc.Dp x a) (Dc.D3 x a) w):=by
 have HS:=Hx (fun W (k:Aa No w W)=>Jr (h.no k) hx a)
 have hll:=Lc hx a
 have htx:Dc.Dp x a=tex (Dc.Dv x a):=rfl
 obtain⟨R,N⟩:=a
 unfold Gf at HS
 generalize Dc.Dp x ⟨R,N⟩=T at htx hT⊢
 generalize Dc.D3 x ⟨R,N⟩=ok at HS⊢
 generalize Dc.Dv x ⟨R,N⟩=L at HS htx hll
 have HT:=Hx htx
 have HLN:=Hx (fun k=>htx▸V3 L k:∀k,(tex (L.take k)).length≤T.length)
 have HPO:Hid (∀w',Aa No w w'→Kt T ok w (.returned (.tuple #[.string ⟨(tex (L.take L.length)).toArray⟩,.bool ok])) w'):=Hx fun w' k=>⟨by rw[AH,←htx],k⟩
 generalize Kt T ok w=post at HPO⊢
 clear h hx htx
 go_enter Tryz.func29,Tryz.ntmps29
 go_upto_region 1 with(fail)
 have k0:Aa No w (w.alloc (.cells #[.int .i64 R,.int .i64 N] 24)):=(Aa.refl No w).alloc _
 have hA:=Nx w (.cells #[.int .i64 R,.int .i64 N] 24)
 generalize w.alloc (.cells #[.int .i64 R,.int .i64 N] 24)=w1 at k0 hA⊢
 obtain⟨A,eA⟩:∃A,A=w.heap.size:=⟨_,rfl⟩
 rw[←eA]at hA⊢
 clear eA
 have x0:=Cx hA 0
 have x1:=Cx hA 1
 have HS1:=Hx (HS.out _ k0)
 go_wp2_with(go_at_call 78;refine HS1.out.mono ?_;rintro e w2 ⟨v,rfl,hrow2,hown2,k2⟩;have HR2:=Hx hrow2;obtain⟨ao,cp,rfl⟩:∃ao cp,v= .slice ao L.length cp:=by(rcases hrow2.form with⟨rfl,rfl⟩|⟨g',cap,_,rfl,_⟩<;>exact⟨_,_,rfl⟩))
 clear hrow2 x0 x1 hown2
 have kw2:=k0.trans k2
 go_loopg [8,19] L.length (fun kx s8 s19 wr=>∃k:Nat,s19= .int .i64 k∧s8= .string ⟨(tex (L.take k)).toArray⟩∧k≤L.length∧L.length-k≤kx∧Aa No w2 wr)
 case atStart=>exact⟨0,rfl,rfl,Ah _,Ac _,Aa.refl _ _⟩
 case round=>
  obtain⟨k,rfl,rfl,hk,hkx,kr⟩:=hrel
  by_cases hlt:k<L.length
  ·have hrow:=HR2.out.no kr
   obtain⟨g,cap,e1,hcap,_⟩:=hrow.at (by omega)
   injection e1 with e1 e2 e3
   subst e1 e3
   obtain⟨x0,x1,x2,x3,x4,x5,x6,x7,x8,x9,x10,x11,x12,x13,x14⟩:=hrow.pieceO hlt
   have htk:=Vd hlt
   obtain⟨⟨y,⟨yR,yN⟩⟩,hy⟩:∃y,y=L[k]'hlt:=⟨_,rfl⟩
   rw[←hy]at x0 x1 x2 x3 x10 x11 x12 x13 x14 htk
   simp only at x0 x1 x2 x3 x10 x11 x12 x13 x14 htk
   obtain⟨bo,hbo⟩:∃bo,bo=y.shows:=⟨_,rfl⟩
   have HOPN:Hid (∀W,Calls Tryz.prog 79 #[.agg #[.int .i64 y.op.R,.int .i64 y.op.N,.int .i64 y.fr,.int .i64 y.len,.int .i64 0,.int .i64 0,.int .i64 0,.int .i64 0,.int .i64 0,.int .i64 0,.bool y.gone,.bool y.mark,.string ⟨y.text.toArray⟩,.int .i64 yR,.int .i64 yN]] W fun e w'=>e= .returned (.bool bo)∧Aa No W w'):=Hx (hbo▸fun W=>L9 ⟨y,⟨yR,yN⟩⟩ W)
   rw[←hbo]at htk
   have kI0:(0:Int)≤(k:Int):=by omega
   have kI1:(k:Int)<(L.length:Int):=by omega
   obtain⟨T0,hT0⟩:∃T0,T0=tex (L.take k):=⟨_,rfl⟩
   obtain⟨T1,hT1⟩:∃T1,T1=tex (L.take (k+1)):=⟨_,rfl⟩
   rw[←hT0]at htk⊢
   rw[←hT1]at htk
   have H1:=Hx hT1
   have hT1n:T1.length≤T.length:=hT1▸HLN.out (k+1)
   clear hrow e2 hy hbo hT0 hT1
   go_upto_region 6 with(fail)
   have k6:Aa No wr (wr.alloc (.cells #[.int .i64 y.op.R,.int .i64 y.op.N,.int .i64 y.fr,.int .i64 y.len,.int .i64 0,.int .i64 0,.int .i64 0,.int .i64 0,.int .i64 0,.int .i64 0,.bool y.gone,.bool y.mark,.string ⟨y.text.toArray⟩,.int .i64 yR,.int .i64 yN] 129)):=(Aa.refl No wr).alloc _
   have hPc:=Nx wr (.cells #[.int .i64 y.op.R,.int .i64 y.op.N,.int .i64 y.fr,.int .i64 y.len,.int .i64 0,.int .i64 0,.int .i64 0,.int .i64 0,.int .i64 0,.int .i64 0,.bool y.gone,.bool y.mark,.string ⟨y.text.toArray⟩,.int .i64 yR,.int .i64 yN] 129)
   clear x0 x1 x2 x3 x4 x5 x6 x7 x8 x9 x10 x11 x12 x13 x14
   generalize wr.alloc (.cells #[.int .i64 y.op.R,.int .i64 y.op.N,.int .i64 y.fr,.int .i64 y.len,.int .i64 0,.int .i64 0,.int .i64 0,.int .i64 0,.int .i64 0,.int .i64 0,.bool y.gone,.bool y.mark,.string ⟨y.text.toArray⟩,.int .i64 yR,.int .i64 yN] 129)=w6 at k6 hPc⊢
   obtain⟨P,eP⟩:∃P,P=wr.heap.size:=⟨_,rfl⟩
   rw[←eP]at hPc⊢
   clear eP
   focus
    have p0:=Cx hPc 0
    have p1:=Cx hPc 1
    have p2:=Cx hPc 2
    have p3:=Cx hPc 3
    have p4:=Cx hPc 4
    have p5:=Cx hPc 5
    have p6:=Cx hPc 6
    have p7:=Cx hPc 7
    have p8:=Cx hPc 8
    have p9:=Cx hPc 9
    have p10:=Cx hPc 10
    have p11:=Cx hPc 11
    have p12:=Cx hPc 12
    have p13:=Cx hPc 13
    have p14:=Cx hPc 14
    cases bo
    ·obtain rfl:T1=T0:=by rw[htk];simp
     clear htk
     go_wp2_with(go_at_call 79;refine(HOPN.out _).mono ?_;rintro e w7 ⟨rfl,k7⟩)
     go_roundg (L.length-(k+1))
     case measure=>omega
     case rel=>exact⟨k+1,by go_num,by rw[H1.out],hlt,Ac _,kr.trans (k6.trans k7)⟩
    ·simp only[if_true]at htk
     have hmx:¬9223372036854775807<T0.length+y.text.length:=by rw[htk,Ai]at hT1n;omega
     have HT1:=Hx htk
     clear htk hT1n
     go_upto_region 7 with(go_at_call 79;refine(HOPN.out _).mono ?_;rintro e w7 ⟨rfl,k7⟩)
     have q12:=Cx (k7.heap hPc id) 12
     go_wp2_with fail
     go_roundg (L.length-(k+1))
     case measure=>omega
     case rel=>exact⟨k+1,by go_num,by rw[←H1.out,HT1.out,←UT],hlt,Ac _,kr.trans (k6.trans k7)⟩
  ·obtain rfl:k=L.length:=by omega
   have HQ:=Hx (HPO.out wr (kw2.trans kr))
   go_wp2_with fail
   exact HQ.out
def Iw(F:Nat→Prop)(b:Nat)(x:Dc.TX)(o:Dc.Op)(w:World)(e:Ending)(w':World):Prop:=
 e= .returned (.int .i64 (Dc.E4 x o))∧(Dc.E4 x o≠0→Aa No w w')∧(Dc.E4 x o=0→Bg (Bv F w) b (Dc.doX x o) w'∧Aa (fun g=>F g∧g<w.heap.size) w w')
theorem Vb{F:Nat→Prop}{b:Nat}{x:Dc.TX}{w:World}(h:Bg F b x w)(hE:Env w){n:Nat}(hx:Dc.DT x n)(hn:n≤15000)(hfull:∀seg t,x.texts seg=some t→Dc.Dm t)(o:Dc.Op)(cv:Value)(hcv:BI 4 AD cv o.cuts w)(hcF:o.cuts≠ []→∀g,cv.ownBlock=some g→¬F g)(hcz:o.cuts.length≤1000000)(hok:o.ok=true)(hsz:o.text.length≤1000000000):
  Calls Tryz.prog 109 #[.pointer (some ⟨b,0,none⟩),opV o cv] w (Iw F b x o w):=by
 have HRT:=Hx (fun W (k:Aa No w W)=>Je o cv W (hE.no k) (hcv.no k) hsz hcz)
 rw[hok]at HRT
 have HIN:=Hx (fun W (k:Aa No w W) hs=>OX (h.no k) (hE.no k) hx hn hfull o cv (hcv.no k) hcz hok hs hsz)
 have HDL:=Hx (fun W (k:Aa No w W)=>OY (h.no k) hx hn o cv (hcv.no k) hcF hcz)
 have hgr:∀W,Aa No w W→∀x',Bg (Bv F W) b x'=Bg (Bv F W) b x':=fun _ _ _=>rfl
 have HG:Hid (∀W W' x',Aa No w W→Bg (Bv F W) b x' W'→Aa (fun g=>F g∧g<W.heap.size) W W'→Bg (Bv F w) b x' W'∧Aa (fun g=>F g∧g<w.heap.size) w W'):=Hx fun W W' x' k h1 k1=>
  ⟨h1.mono fun g hg _=>hg.imp_right fun e=>AG k.size e,k.any.step k1 fun g hg hl=>⟨hg.1,hl⟩⟩
 have HERR:Hid (Dc.E4 x o=if 0<o.size then Dc.FG x o else if o.kind=4 then Dc.FK x o.cuts else 10):=Hx (by unfold Dc.E4;rw[Ae (by simp[hok])])
 have HDO:Hid (Dc.doX x o=if 0<o.size then Dc.LI x o else Dc.delX x o.cuts):=Hx rfl
 obtain⟨sz,hsz'⟩:∃sz,sz=o.size:=⟨_,rfl⟩
 have HZ:Hid (∀W,Calls Tryz.prog 162 #[opV o cv] W fun e w'=>e= .returned (.int .i64 (sz:Nat))∧Aa No W w'):=Hx (hsz'▸fun W=>JP o cv W)
 rw[←hsz']at HERR HDO HIN
 clear h hE hx hn hfull hcv hcF hcz hok hsz hgr hsz'
 go_enter Tryz.func109,Tryz.ntmps109
 go_upto_region 1 with(fail)
 have k0:Aa No w (w.alloc (.cells (As o cv) 29)):=(Aa.refl No w).alloc _
 have hP:=Nx w (.cells (As o cv) 29)
 generalize w.alloc (.cells (As o cv) 29)=w1 at k0 hP⊢
 obtain⟨P,eP⟩:∃P,P=w.heap.size:=⟨_,rfl⟩
 rw[←eP]at hP⊢
 clear eP
 go_upto_region 3 with(first
  |(refine An rfl 29 _ rfl P _ 29 _ rfl hP Tryz.underlying29 rfl Rx ?_)
  |(go_at_call 66;(with_reducible refine(HRT.out _ k0).mono ?_);rintro e w2 ⟨rfl,k2⟩))
 have hP2:=k2.heap hP id
 have k02:=k0.trans k2
 clear hP
 by_cases hs:0<sz
 ·have he:=HERR.out
  have hd:=HDO.out
  rw[Ak hs]at he hd
  have HQ:Hid (∀W e W',Aa No w W→GN F b x o W e W'→Iw F b x o w e W'):=Hx fun W e W' k hh=>by
   unfold GN at hh
   unfold Iw
   rw[he,hd]
   exact⟨hh.1,fun e1=>k.trans (hh.2.1 e1),fun e1=>HG.out W W' _ k (hh.2.2 e1).1 (hh.2.2 e1).2⟩
  have HI:=Hx (fun W k=>HIN.out W k hs)
  have hsI:(0:Int)<(sz:Int):=by omega
  clear he hd HERR HDO HG HIN HDL HRT
  go_upto_region 4 with(first
   |(refine An rfl 29 _ rfl P _ 29 _ rfl hP2 Tryz.underlying29 rfl Rx ?_)
   |(go_at_call 162;(with_reducible refine(HZ.out _).mono ?_);rintro e w3 ⟨rfl,k3⟩))
  have hP3:=k3.heap hP2 id
  have k03:=k02.trans k3
  clear hP2
  go_wp2_with(first
   |(refine An rfl 29 _ rfl P _ 29 _ rfl hP3 Tryz.underlying29 rfl Rx ?_)
   |(go_at_call 163;(with_reducible refine(HI.out _ k03).mono ?_);rintro e w4 hh;have hq:=Hx (HQ.out _ _ _ k03 hh);obtain⟨rfl,_⟩:=hh))
  go_ret
  exact hq.out
 ·have he:=HERR.out
  have hd:=HDO.out
  rw[Ae hs]at he hd
  obtain rfl:sz=0:=by omega
  by_cases h4:o.kind=4
  ·rw[Ak h4]at he
   have HQ:Hid (∀W e W',Aa No w W→Ia F b x o.cuts W e W'→Iw F b x o w e W'):=Hx fun W e W' k hh=>by
    unfold Ia at hh
    unfold Iw
    rw[he,hd]
    exact⟨hh.1,fun e1=>k.trans (hh.2.1 e1),fun e1=>HG.out W W' _ k (hh.2.2 e1).1 (hh.2.2 e1).2⟩
   have hk4:(o.kind==4)=true:=by simp[h4]
   clear he hd HERR HDO HG HIN HRT hs
   go_upto_region 5 with(first
    |(refine An rfl 29 _ rfl P _ 29 _ rfl hP2 Tryz.underlying29 rfl Rx ?_)
    |(go_at_call 162;(with_reducible refine(HZ.out _).mono ?_);rintro e w3 ⟨rfl,k3⟩))
   have hP3:=k3.heap hP2 id
   have k03:=k02.trans k3
   have x0:=Cx hP3 0
   clear hP2
   go_wp2_with(first
    |(refine An rfl 29 _ rfl P _ 29 _ rfl hP3 Tryz.underlying29 rfl Rx ?_)
    |(go_at_call 164;(with_reducible refine(HDL.out _ k03).mono ?_);rintro e w4 hh;have hq:=Hx (HQ.out _ _ _ k03 hh);obtain⟨rfl,_⟩:=hh))
   go_ret
   exact hq.out
  ·rw[Ae h4]at he
   have HQ:Hid (∀W',Aa No w W'→Iw F b x o w (.returned (.int .i64 10)) W'):=Hx fun W' k=>by
    unfold Iw
    rw[he]
    exact⟨rfl,fun _=>k,fun e=>by cases e⟩
   have hk4:(o.kind==4)=false:=by simp[h4]
   clear he hd HERR HDO HG HIN HRT HDL hs
   go_upto_region 5 with(first
    |(refine An rfl 29 _ rfl P _ 29 _ rfl hP2 Tryz.underlying29 rfl Rx ?_)
    |(go_at_call 162;(with_reducible refine(HZ.out _).mono ?_);rintro e w3 ⟨rfl,k3⟩))
   have hP3:=k3.heap hP2 id
   have k03:=k02.trans k3
   have x0:=Cx hP3 0
   clear hP2
   go_wp2_with fail
   go_ret
   exact HQ.out _ k03
end
end Go.Proofs.YthfjefcljeamgaaGreatDoor
