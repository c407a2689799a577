/- joined: Rows of runs: how long, where a character stands, whether an item's characters are there. Rows of runs: where a character stands. slices.Replace of one element by two at the row of runs. -/
import Derived.Test.YthfjefcljeamgaaGreatDoorRunC
import Derived.Test.YthfjefcljeamgaaGreatDoorIns
import Derived.Outline
namespace Go.Proofs.YthfjefcljeamgaaGreatDoor
set_option maxRecDepth 100000
set_option maxHeartbeats 4000000
section
open Go.RowKit
attribute [local go_sem ↓] Go.wp_at_zero Go.wp_at_succ
/-- block b is a row of the runs l -/
def Ec(F:Nat→Prop)(b:Nat)(l:Dc.Row)(w:World):Prop:=
 ∃v,w.heap[b]? =some (.cells #[v] 283 (0,0))∧Aq 285 13 Af v l w∧F b∧OT F v
theorem Ec.keeps{F S:Nat→Prop}{b:Nat}{l:Dc.Row}{w w':World}(h:Ec F b l w)(k:Aa S w w')(hn:∀g,F g→¬S g):Ec F b l w':=by
 obtain⟨v,h1,h2,f1,f2⟩:=h
 exact⟨v,k.heap h1 (hn _ f1),h2.keeps k fun g hg=>hn g (f2 g hg),f1,f2⟩
theorem Ec.mono{F F':Nat→Prop}{b:Nat}{l:Dc.Row}{w:World}(h:Ec F b l w)(hF:∀g,F g→F' g):Ec F' b l w:=by
 obtain⟨v,h1,h2,f1,f2⟩:=h
 exact⟨v,h1,h2,hF _ f1,fun g hg=>hF _ (f2 g hg)⟩
theorem Ec.no{F:Nat→Prop}{b:Nat}{l:Dc.Row}{w w':World}(h:Ec F b l w)(k:Aa No w w'):Ec F b l w':=h.keeps k fun _ _ e=>e
def Gg(l:Dc.Row):Prop:=(∀r∈l,r.fr+r.len≤1000)∧Dc.CO l≤1000000∧l.length≤1000000
theorem KT{l:Dc.Row}{k:Nat}(h:k<l.length):Dc.CO (l.take (k+1))=Dc.CO (l.take k)+l[k].len:=by
 rw[AW,Aj h,Dc.G2]
 simp[Dc.CO]
theorem Gu(l:Dc.Row)(k:Nat):Dc.CO (l.take k)≤Dc.CO l:=by
 have h:=Dc.G2 (l.take k) (l.drop k)
 rw[A9]at h
 omega
theorem O6{F:Nat→Prop}{b:Nat}{l:Dc.Row}{w:World}(h:Ec F b l w)(hs:Gg l)(x:Dc.Run)(h2:x.fr+x.len≤1000000)(hno:Dc.overlaps l x=false):
  Calls Tryz.prog 297 #[.pointer (some ⟨b,0,none⟩),JE x] w (Bj false w):=by
 obtain⟨v,h1,hrow,_⟩:=h
 have hno':∀r∈l,ovl r x=false:=fun r hr=>by
  unfold Dc.overlaps at hno
  have:=List.any_eq_false.1 hno r hr
  unfold ovl
  simpa using this
 have HC:=Hx (fun(W:World) (X:Nat) (k:Aa No w W) (hX:W.heap[X]? =some (.cells (BW x) 127 (0,0)))=>PS X x v l W (hrow.no k) (fun r hr=>by have:=hs.1 r hr;omega) h2 hX hno')
 obtain⟨ao,n,c,rfl⟩:=hrow.slice
 clear hrow hno hno' hs
 go_enter Tryz.func297,Tryz.ntmps297
 go_upto_region 1 with(fail)
 have k0:Aa No w (w.alloc (.cells (BW x) 127)):=(Aa.refl No w).alloc _
 have hX:=Nx w (.cells (BW x) 127)
 generalize w.alloc (.cells (BW x) 127)=w1 at k0 hX⊢
 have hc:=HC.out w1 _ k0 hX
 have HC2:=Hx hc
 clear hc hX HC
 have b0:=Cx (k0.heap h1 id) 0
 go_wp2_with(go_at_call 330;refine HC2.out.mono ?_;rintro e w2 ⟨rfl,k2⟩)
 go_ret
 exact⟨rfl,k0.trans k2⟩
theorem Su{F:Nat→Prop}{b:Nat}{l:Dc.Row}{w:World}(h:Ec F b l w)(hs:Gg l):
  Calls Tryz.prog 296 #[.pointer (some ⟨b,0,none⟩)] w fun e w'=>e= .returned (.int .i64 (Dc.CO l))∧Aa No w w':=by
 obtain⟨v,h1,hrow,_⟩:=h
 obtain⟨ao,cp,rfl⟩:∃ao cp,v= .slice ao l.length cp:=by
  rcases hrow.form with⟨rfl,rfl⟩|⟨g',cap,_,rfl,_⟩
  ·exact⟨none,0,rfl⟩
  ·exact⟨_,cap,rfl⟩
 have H:=Hx hrow
 obtain⟨hs1,hs2,hs3⟩:=hs
 have b0:=Cx h1 0
 clear hrow hs1
 go_enter Tryz.func296,Tryz.ntmps296
 go_wp2_with fail
 clear b0
 go_loopg [3,11] l.length (fun kx s3 s11 wr=>∃k:Nat,s11= .int .i64 k∧s3= .int .i64 (Dc.CO (l.take k))∧k≤l.length∧l.length-k≤kx∧Aa No w wr)
 case atStart=>exact⟨0,rfl,by simp[Dc.CO],Ah _,Ac _,Aa.refl _ _⟩
 case round=>
  obtain⟨k,rfl,rfl,hk,hkx,kr⟩:=hrel
  by_cases hlt:k<l.length
  ·have hrow:=H.out.no kr
   obtain⟨g,cap,e1,hcap,_⟩:=hrow.at (by omega)
   injection e1 with e1 e2 e3
   subst e1 e3
   obtain⟨x0,x1,x2,x3,x4,x5,x6,x7,x8,x9,x10,x11,x12⟩:=hrow.runO hlt
   have hst:=KT hlt
   have hle:=Gu l (k+1)
   obtain⟨y,hy⟩:∃y,y=l[k]'hlt:=⟨_,rfl⟩
   rw[←hy]at x0 x1 x2 x3 x10 x11 x12 hst
   have HST:=Hx hst
   generalize hL:y.len=L at*
   obtain⟨acc,hacc⟩:∃acc,acc=Dc.CO (l.take k):=⟨_,rfl⟩
   rw[←hacc]at HST hst⊢
   have hb1:(acc:Int)+(L:Int)≤1000000:=by omega
   have hb2:(0:Int)≤(acc:Int)+(L:Int):=by omega
   clear hst hy hrow e2 hacc hle hL
   have kI0:(0:Int)≤(k:Int):=by omega
   have kI1:(k:Int)<(l.length:Int):=by omega
   go_wp2_with fail
   go_roundg (l.length-(k+1))
   case measure=>omega
   case rel=>exact⟨k+1,by go_num,by rw[HST.out];rfl,hlt,Ac _,by first|exact kr.alloc _|exact kr⟩
  ·obtain rfl:k=l.length:=by omega
   rw[AH]
   go_wp2_with fail
   go_ret
   exact⟨rfl,kr⟩
end
section
open Go.RowKit
attribute [local go_sem ↓] Go.wp_at_zero Go.wp_at_succ
theorem Nb:∀(l:Dc.Row) (c:Dc.Chr) (k:Nat),(∀j (hj:j<l.length),j<k→l[j].has c=false)→k≤l.length→Dc.FH l c=(Dc.FH (l.drop k) c).map (·+Dc.CO (l.take k))
 |[],c,k,_,hk=>by
  obtain rfl:k=0:=by simpa using hk
  simp[Dc.FH]
 |r::l,c,0,_,_=>by simp[Dc.CO]
 |r::l,c,k+1,h,hk=>by
  have h0:=h 0 (by simp) (by omega)
  simp only[List.getElem_cons_zero]at h0
  have ih:=Nb l c k (fun j hj hjk=>by have:=h (j+1) (by simp;omega) (by omega);simpa using this) (by simpa using hk)
  have e:Dc.FH (r::l) c=if r.has c then some (c.i-r.fr).toNat else(Dc.FH l c).map (·+r.len):=rfl
  rw[e,h0]
  simp only[Gm,if_false,List.drop_succ_cons,Ix,Dc.CO]
  rw[ih,Option.map_map]
  congr 1
  funext x
  simp only[Function.comp_apply]
  omega
theorem Qv{F:Nat→Prop}{b:Nat}{l:Dc.Row}{w:World}(h:Ec F b l w)(hs:Gg l)(c:Dc.Chr):
  Calls Tryz.prog 337 #[.pointer (some ⟨b,0,none⟩),CE c] w fun e w'=>e= .returned (.tuple #[.int .i64 (Dc.Dw l c),.bool (Dc.FH l c).isSome])∧Aa No w w':=by
 obtain⟨v,h1,hrow,_⟩:=h
 obtain⟨ao,cp,rfl⟩:∃ao cp,v= .slice ao l.length cp:=by
  rcases hrow.form with⟨rfl,rfl⟩|⟨g',cap,_,rfl,_⟩
  ·exact⟨none,0,rfl⟩
  ·exact⟨_,cap,rfl⟩
 have H:=Hx hrow
 obtain⟨hs1,hs2,hs3⟩:=hs
 have HS1:=Hx hs1
 obtain⟨⟨cR,cN⟩,ci⟩:=c
 obtain⟨res,hres⟩:∃res,res=Dc.FH l ⟨⟨cR,cN⟩,ci⟩:=⟨_,rfl⟩
 have HF:Hid (∀k,(∀j (hj:j<l.length),j<k→l[j].has ⟨⟨cR,cN⟩,ci⟩=false)→k≤l.length→res=(Dc.FH (l.drop k) ⟨⟨cR,cN⟩,ci⟩).map (·+Dc.CO (l.take k))):=Hx fun k h hk=>by rw[hres];exact Nb l _ k h hk
 have hwr:Dc.Dw l ⟨⟨cR,cN⟩,ci⟩=res.getD 0:=by unfold Dc.Dw;rw[hres]
 rw[hwr,←hres]
 clear hrow hs1 hwr hres
 go_enter Tryz.func337,Tryz.ntmps337
 go_upto_region 2 with(fail)
 have k0:Aa No w (w.alloc (.cells #[.int .i64 cR,.int .i64 cN,.int .i64 ci] 26)):=Kx
 have hA:=Nx w (.cells #[.int .i64 cR,.int .i64 cN,.int .i64 ci] 26)
 generalize w.alloc (.cells #[.int .i64 cR,.int .i64 cN,.int .i64 ci] 26)=w1 at k0 hA⊢
 have b0:=Cx (k0.heap h1 id) 0
 have HA:=Hx hA
 clear hA
 go_wp2_with fail
 clear b0
 go_loopg [6,14] l.length (fun kx s6 s14 wr=>∃k:Nat,s14= .int .i64 k∧s6= .int .i64 (Dc.CO (l.take k))∧k≤l.length∧l.length-k≤kx∧Hid (∀j (hj:j<l.length),j<k→l[j].has ⟨⟨cR,cN⟩,ci⟩=false)∧Aa No w1 wr)
 case atStart=>exact⟨0,rfl,by simp[Dc.CO],Ah _,Ac _,Hx (fun j hj h=>by omega),Aa.refl _ _⟩
 case round=>
  obtain⟨k,rfl,rfl,hk,hkx,hno,kr⟩:=hrel
  have hA:=kr.heap HA.out id
  have hlA:=Ao hA
  have cA0:=Cx hA 0
  have cA1:=Cx hA 1
  have cA2:=Cx hA 2
  by_cases hlt:k<l.length
  ·have hrow:=H.out.no (k0.trans kr)
   obtain⟨g,cap,e1,hcap,_⟩:=hrow.at (by omega)
   injection e1 with e1 e2 e3
   subst e1 e3
   obtain⟨x0,x1,x2,x3,x4,x5,x6,x7,x8,x9,x10,x11,x12⟩:=hrow.runO hlt
   have hst:=KT hlt
   have hle:=Gu l (k+1)
   have hfd:=HF.out k hno.out hk
   rw[Ci hlt]at hfd
   obtain⟨y,hy⟩:∃y,y=l[k]'hlt:=⟨_,rfl⟩
   have hsm:=HS1.out y (by rw[hy];exact AQ hlt)
   have hall:Hid (y.has ⟨⟨cR,cN⟩,ci⟩=false→Hid (∀j (hj:j<l.length),j<k+1→l[j].has ⟨⟨cR,cN⟩,ci⟩=false)):=Hx fun h=>Hx fun j hj hjk=>by
    rcases Nat.lt_or_ge j k with h2|h2
    ·exact hno.out j hj h2
    ·obtain rfl:j=k:=by omega
     rw[←hy];exact h
   rw[←hy]at x0 x1 x2 x3 x10 x11 x12 hst hfd
   have HST:=Hx hst
   have hhas:=Wl y ⟨⟨cR,cN⟩,ci⟩ (by omega)
   obtain⟨acc,hacc⟩:∃acc,acc=Dc.CO (l.take k):=⟨_,rfl⟩
   rw[←hacc]at HST hst hfd⊢
   have hHasDef:y.has ⟨⟨cR,cN⟩,ci⟩=(decide (y.op=⟨cR,cN⟩)&&decide ((y.fr:Int)≤ci)&&decide (ci<y.fr+y.len)):=rfl
   obtain⟨yb,hyb⟩:∃yb,yb=y.has ⟨⟨cR,cN⟩,ci⟩:=⟨_,rfl⟩
   rw[←hyb]at hhas hall hHasDef
   have HH:=Hx hhas
   have HFD:=Hx hfd
   clear hhas hfd
   have kI0:(0:Int)≤(k:Int):=by omega
   have kI1:(k:Int)<(l.length:Int):=by omega
   cases yb with
   |true=>
    simp only[Bool.true_eq,AN,Au]at hHasDef
    have hc1:(acc:Int)+ci≤3000000:=by omega
    have hc2:(0:Int)≤(acc:Int)+ci:=by omega
    have hc3:(0:Int)≤(acc:Int)+ci-(y.fr:Int):=by omega
    have hc4:(acc:Int)+ci-(y.fr:Int)≤3000000:=by omega
    have hfin:Hid (res=some ((ci-y.fr).toNat+acc)):=Hx (by
     rw[HFD.out]
     unfold Dc.FH
     rw[←hyb]
     rfl)
    have hci:Hid (((ci-(y.fr:Int)).toNat:Int)=ci-y.fr):=Hx (by omega)
    clear hst hle hy hrow e2 hacc hHasDef HST hall hsm hyb
    go_wp2_with(go_at_call 357;refine(HH.out _).mono ?_;rintro e w2 ⟨rfl,k2⟩;have hB2:=k2.heap (Nx wr _) id;have hA2:=k2.heap (Ab hA _) id;have dA2:=Cx hA2 2;have dB2:=Cx hB2 2)
    go_ret2
    have e:((res.getD 0:Nat):Int)=(acc:Int)+ci-y.fr:=by
     rw[hfin.out,F5]
     have:=hci.out
     omega
    exact⟨by rw[e,hfin.out];rfl,k0.trans ((kr.alloc _).trans k2)⟩
   |false=>
    have hall2:=hall.out rfl
    have hb1:(acc:Int)+(y.len:Int)≤3000000:=by omega
    have hb2:(0:Int)≤(acc:Int)+(y.len:Int):=by omega
    clear hst hle hy hrow e2 hacc hHasDef hall hsm hyb
    go_wp2_with(go_at_call 357;refine(HH.out _).mono ?_;rintro e w2 ⟨rfl,k2⟩;have hB2:=k2.heap (Nx wr _) id;have dB3:=Cx hB2 3)
    go_roundg (l.length-(k+1))
    case measure=>omega
    case rel=>exact⟨k+1,by go_num,by rw[HST.out];rfl,hlt,Ac _,hall2,(kr.alloc _).trans k2⟩
  ·obtain rfl:k=l.length:=by omega
   have hfd:=HF.out l.length hno.out (Ac _)
   rw[EE]at hfd
   have hfd2:res=none:=by rw[hfd];rfl
   subst hfd2
   clear hfd HF
   go_wp2_with fail
   go_ret2
   exact⟨rfl,k0.trans kr⟩
end
section
open Go.RowKit
theorem SG(l:List Dc.Run)(x y:Dc.Run)(i vb g cap:Nat)(w:World)(hrow:Aq 285 13 Af (.slice (some ⟨g,0,none⟩) l.length cap) l w)(hi:i+1=l.length)(hvb:w.heap[vb]? =some (.cells (Af x++Af y).toArray 285 (0,0)))(hbig:(l.length+1)*104≤140737488355328)(hcap:l.length≤cap):
  Calls Tryz.prog 333 #[.slice (some ⟨g,0,none⟩) l.length cap,.int .i64 i,.int .i64 ((i:Int)+1),.slice (some ⟨vb,0,none⟩) 2 2] w (A6 285 13 Af (.slice (some ⟨g,0,none⟩) l.length cap) (l.take i++x::y::l.drop (i+1)) w):=by
 obtain⟨i0,hii,hz0,hz1,hz2⟩:=info_parts Ij
 obtain⟨cur,hg,hcm,hcs,htk⟩:∃cur,w.heap[g]? =some (.cells cur 285 (0,0))∧cap≤maxLen∧cur.size=cap*13∧cur.toList.take (l.length*13)=l.flatMap Af:=by
  rcases hrow.form with⟨h,_⟩|⟨g',c',cur,h,h1,_,h3,h4,h5⟩
  ·cases h
  ·simp only[Value.slice.injEq,AZ,Addr.mk.injEq,DX,DW]at h
   obtain⟨rfl,rfl⟩:=h
   exact⟨cur,h1,h3,h4,h5⟩
 have hgl:=Ao hg
 have hvl:=Ao hvb
 have hL:(l.flatMap Af).length=l.length*13:=Az CG l
 have hcell:∀j u,(l.flatMap Af)[j]? =some u→w.cell? ⟨g,j,none⟩=some u:=fun j u hj=>by
  rw[←htk]at hj
  rw[Cx hg,←Aw]
  rw[AO]at hj
  split at hj
  ·exact hj
  ·cases hj
 have hone:∀u∈l.flatMap Af,u.oneCell'=true:=fun u hu=>by
  obtain⟨z,_,hz⟩:=Ba.1 hu
  exact EY z u hz
 have hxy:∀u∈Af x++Af y,u.oneCell'=true:=fun u hu=>by
  rcases AC.1 hu with h|h
  ·exact EY x u h
  ·exact EY y u h
 have hxl:(Af x++Af y).length=2*13:=rfl
 have hl2:(l.take i++x::y::l.drop (i+1)).length=l.length+1:=by simp;omega
 have hfl:(l.take i++x::y::l.drop (i+1)).flatMap Af=(l.take i).flatMap Af++(Af x++Af y)++(l.drop (i+1)).flatMap Af:=by simp
 have hown:w.ownsRow 0 285 13 (.slice (some ⟨g,0,none⟩) i cap) i ((l.take i).flatMap Af):=by
  refine⟨by rw[Az CG,Ad];congr 1;omega,.inr ⟨g,cap,cur,rfl,Ah _,hg,by omega,hcm,hcs,?_⟩⟩
  rw[Du CG,←htk,C3,B8 (by omega)]
 have hnews:∀j u,(Af x++Af y)[j]? =some u→w.cell? ((⟨vb,0,none⟩:Addr).add j)=some u:=fun j u hj=>by
  have hadd:(⟨vb,0,none⟩:Addr).add j=⟨vb,j,none⟩:=by unfold Addr.add;split<;>simp_all
  rw[hadd,Cx hvb];simpa using hj
 have hfin:∀v' w',w'.ownsRow 0 285 13 v' (i+2) ((l.take i).flatMap Af++(Af x++Af y))→w.grownBy w' (some g)→(v'.ownBlock=some g∨v'.ownBlock=some w.heap.size)→A6 285 13 Af (.slice (some ⟨g,0,none⟩) l.length cap) (l.take i++x::y::l.drop (i+1)) w (.returned v') w':=by
  intro v' w' h1 h2 h3
  refine⟨v',rfl,?_,⟨h2.os,h2.tape,h2.output,h2.size,fun k hk hn=>h2.block k hk fun e=>hn e.symm⟩,fun k hk=>?_⟩
  ·unfold Aq
   rw[hl2,hfl,←hi,Gl (by omega)]
   simpa using h1
  ·rcases h3 with h3|h3
   ·exact .inl (h3.symm.trans hk)
   ·rw[h3]at hk;cases hk;exact .inr (Ac _)
 have F:=Hx hfin
 have hlN:∀v' w',A6 285 13 Af (.slice (some ⟨g,0,none⟩) l.length cap) (l.take i++x::y::l.drop (i+1)) w (.returned v') w'→∃g2 c2,v'= .slice (some ⟨g2,0,none⟩) (l.length+1) c2:=fun v' w' h=>by
  obtain⟨v2,e2,r2,_⟩:=h
  obtain rfl:v2=v':=by injection e2 with e2;exact e2.symm
  obtain⟨g2,c2,h1,_⟩:=r2.at (by rw[hl2];omega)
  rw[hl2]at h1
  exact⟨g2,c2,h1⟩
 have HL:=Hx hlN
 have hc0:¬cap<l.length:=by omega
 have hcm':cap≤9223372036854775807:=by unfold maxLen at hcm;omega
 have hnc:¬((i:Int)=(i:Int)+1):=by omega
 have hw1:IntKind.i64.wrap ((i:Int)+1)=(i:Int)+1:=by rw[IntKind.wrap_i64];omega
 have hb0:(0:Int)≤(i:Int):=by omega
 have hb1:(0:Int)≤(i:Int)+1:=by omega
 have hb2:(i:Int)≤(i:Int)+1:=by omega
 have hb3:(i:Int)+1≤(cap:Int):=by omega
 have hb5:(i:Int)≤(cap:Int):=by omega
 have htn:((i:Int)+1).toNat=i+1:=by omega
 have hlt:¬((i:Int)+2<(i:Int)+1):=by omega
 have hm1:i+2≤maxLen:=by unfold maxLen;omega
 have hm2:(i+2)*104≤140737488355328:=by omega
 clear hfin hlN hcs htk hone hcell hL hrow hl2 hfl hxl hnews
 have hnews:∀j u,(Af x++Af y)[j]? =some u→w.cell? ((⟨vb,0,none⟩:Addr).add j)=some u:=fun j u hj=>by
  have hadd:(⟨vb,0,none⟩:Addr).add j=⟨vb,j,none⟩:=by unfold Addr.add;split<;>simp_all
  rw[hadd,Cx hvb];simpa using hj
 rw[←hi]at hc0 F HL hcap⊢
 clear hi
 by_cases hci1:cap=i+1
 all_goals
  go_enter Tryz.func333,Tryz.ntmps333
  go_wp2_with(at_builtin;refine wpList_append_own_at _ rfl _ _ 281 rfl 0 285 i0 (.agg #[.int .i64 0,.int .i64 0,.int .i64 0,.int .i64 0,.int .i64 0,.int .i64 0,.int .i64 0,.int .i64 0,.int .i64 0,.int .i64 0,.bool false,.bool false,.string ⟨#[]⟩]) 13 104 Tryz.underlying281 hii hz0 hz1 hz2 rfl (by decide) _ _ _ rfl (by first|exact hown|exact hci1▸hown) ⟨vb,0,none⟩ 2 2 (Af x++Af y) rfl rfl hnews hxy hm1 hm2 (Ah _) ?_)
  intro v' w' h1 h2 _ h3
  have P:=Hx (F.out v' w' (by first|exact h1|(rw[←hci1];exact h1)) h2 h3)
  obtain⟨g2,c2,rfl⟩:=HL.out v' w' P.out
  clear h1 h2 h3
  go_wp2
  go_ret
  first|exact P.out|(rw[←hci1];exact P.out)|(rw[hci1]at P;exact P.out)
/-- the facts behind a replacement that needs a new row -/
theorem O5(l:List Dc.Run)(x y:Dc.Run)(i vb g cap:Nat)(w:World)(hrow:Aq 285 13 Af (.slice (some ⟨g,0,none⟩) l.length cap) l w)(hi:i+1<l.length)(hvb:w.heap[vb]? =some (.cells (Af x++Af y).toArray 285 (0,0)))(hbig:(l.length+1)*104≤140737488355328)(hcap:cap=l.length):
  ∃(G:Nat) (W1 W2:World) (D:List Value),l.length+1≤G∧G≤maxLen∧Aa No w W2∧
   (∀ty,(Builtin.append_ #[281,3] ty #[.slice (some ⟨g,0,none⟩) i l.length,.int .i64 ((l.length:Int)+1-(i:Int))]).run Tryz.prog w= .ok (.slice (some ⟨w.heap.size,0,none⟩) (l.length+1) G) W1)∧
   (∀ty dc,(Builtin.copy_ #[281,281] ty #[.slice (some ⟨w.heap.size,i*13,none⟩) (l.length+1-i) dc,.slice (some ⟨vb,0,none⟩) 2 2]).run Tryz.prog W1= .ok (goInt (Nat.min 2 (l.length+1-i))) W2)∧
   (∀(W:World),W.heap=W2.heap→∀ty dc sc,(Builtin.copy_ #[281,281] ty #[.slice (some ⟨w.heap.size,(i+2)*13,none⟩) (l.length+1-(i+2)) dc,.slice (some ⟨g,(i+1)*13,none⟩) (l.length-(i+1)) sc]).run Tryz.prog W= .ok (goInt (Nat.min (l.length-(i+1)) (l.length+1-(i+2)))) (W.setCells w.heap.size ((i+2)*13) D))∧
   (∀(W:World),W.heap=W2.heap→Aa No w W→A6 285 13 Af (.slice (some ⟨g,0,none⟩) l.length cap) (l.take i++x::y::l.drop (i+1)) w (.returned (.slice (some ⟨w.heap.size,0,none⟩) (l.length+1) G)) (W.setCells w.heap.size ((i+2)*13) D)):=by
 obtain⟨i0,hii,hz0,hz1,hz2⟩:=info_parts Ij
 obtain⟨cur,hg,hcm,hcs,htk⟩:∃cur,w.heap[g]? =some (.cells cur 285 (0,0))∧cap≤maxLen∧cur.size=cap*13∧cur.toList.take (l.length*13)=l.flatMap Af:=by
  rcases hrow.form with⟨h,_⟩|⟨g',c',cur,h,h1,_,h3,h4,h5⟩
  ·cases h
  ·simp only[Value.slice.injEq,AZ,Addr.mk.injEq,DX,DW]at h
   obtain⟨rfl,rfl⟩:=h
   exact⟨cur,h1,h3,h4,h5⟩
 have hgl:=Ao hg
 have hvl:=Ao hvb
 have hL:(l.flatMap Af).length=l.length*13:=Az CG l
 have hcell:∀j u,(l.flatMap Af)[j]? =some u→w.cell? ⟨g,j,none⟩=some u:=fun j u hj=>by
  rw[←htk]at hj
  rw[Cx hg,←Aw]
  rw[AO]at hj
  split at hj
  ·exact hj
  ·cases hj
 have hone:∀u∈l.flatMap Af,u.oneCell'=true:=fun u hu=>by
  obtain⟨z,_,hz⟩:=Ba.1 hu
  exact EY z u hz
 have hxy:∀u∈Af x++Af y,u.oneCell'=true:=fun u hu=>by
  rcases AC.1 hu with h|h
  ·exact EY x u h
  ·exact EY y u h
 have hxl:(Af x++Af y).length=2*13:=rfl
 have hl2:(l.take i++x::y::l.drop (i+1)).length=l.length+1:=by simp;omega
 have hfl:(l.take i++x::y::l.drop (i+1)).flatMap Af=(l.take i).flatMap Af++(Af x++Af y)++(l.drop (i+1)).flatMap Af:=by simp
 have hfin:∀(w':World) (c':Nat) (cur':Array Value),w'.heap[w.heap.size]? =some (.cells cur' 285 (0,0))→cur'.size=c'*13→l.length+1≤c'→c'≤maxLen→cur'.toList.take ((l.length+1)*13)=(l.take i++x::y::l.drop (i+1)).flatMap Af→Aa No w w'→
   A6 285 13 Af (.slice (some ⟨g,0,none⟩) l.length cap) (l.take i++x::y::l.drop (i+1)) w (.returned (.slice (some ⟨w.heap.size,0,none⟩) (l.length+1) c')) w':=by
  intro w' c' cur' h1 h2 h3 h4 h5 h6
  refine⟨_,rfl,⟨by rw[Az CG],.inr ⟨w.heap.size,c',cur',by rw[hl2],Ah _,h1,by omega,h4,h2,by rw[hl2];exact h5⟩⟩,h6.any,fun k hk=>?_⟩
  have hk':some w.heap.size=some k:=hk
  injection hk' with hk'
  exact .inr (by omega)
 rw[hfl]at hfin
 generalize hN:l.length=n at*
 generalize hLL:l.flatMap Af=L at*
 generalize hXY:Af x++Af y=XY at*
 subst hcap
 have hold:(Builtin.firstCells i0.size i (.slice (some ⟨g,0,none⟩) i cap)).run Tryz.prog w.drew= .ok (L.take (i*13)).toArray w.drew:=by
  rw[hz1]
  exact run_firstCells_some w.drew 13 i ⟨g,0,none⟩ i cap (L.take (i*13)) (by rw[Ad];omega) (fun j v hj=>by
   have hadd:(⟨g,0,none⟩:Addr).add j=⟨g,j,none⟩:=by unfold Addr.add;split<;>simp_all
   rw[hadd]
   rw[AO]at hj
   split at hj
   ·exact hcell j v hj
   ·cases hj)
 have hkk:(cap:Int)+1-(i:Int)=((cap+1-i:Nat):Int):=by omega
 have hik:i+(cap+1-i)=cap+1:=by omega
 obtain⟨G,hG⟩:∃G,G=grownCap w (cap+1) cap 285:=⟨_,rfl⟩
 have hGn:cap+1≤G:=by rw[hG];exact grownCap_ge w _ _ _
 have hGm:G≤maxLen:=by rw[hG];exact grownCap_le_maxLen w (cap+1) cap 285 (by unfold maxLen;omega)
 obtain⟨ROW,hROW⟩:∃ROW:Array Value,ROW=(L.take (i*13)).toArray++Builtin.zeroCells (.agg #[.int .i64 0,.int .i64 0,.int .i64 0,.int .i64 0,.int .i64 0,.int .i64 0,.int .i64 0,.int .i64 0,.int .i64 0,.int .i64 0,.bool false,.bool false,.string ⟨#[]⟩]:Value).cells (cap+1-i)++Builtin.zeroCells (.agg #[.int .i64 0,.int .i64 0,.int .i64 0,.int .i64 0,.int .i64 0,.int .i64 0,.int .i64 0,.int .i64 0,.int .i64 0,.int .i64 0,.bool false,.bool false,.string ⟨#[]⟩]:Value).cells (G-(cap+1)):=⟨_,rfl⟩
 have hRs:ROW.size=G*13:=by
  rw[hROW]
  simp only[Array.size_append,List.size_toArray,Ad,size_zeroCells,hL]
  simp only[Value.cells]
  simp
  omega
 have hrz:∀ty,(Builtin.append_ #[281,3] ty #[.slice (some ⟨g,0,none⟩) i cap,.int .i64 ((cap:Int)+1-(i:Int))]).run Tryz.prog w= .ok (.slice (some ⟨w.heap.size,0,none⟩) (cap+1) G) ((w.alloc (.cells ROW 285)).drew):=fun ty=>by
  have h:=Lib.run_append_grow_zeros w 281 3 ty 285 i0 _ .i64 .i64 Tryz.underlying281 Tryz.underlying3 hii hz0 (some ⟨g,0,none⟩) i cap (L.take (i*13)) hold (cap+1-i) (by omega) (by omega) (by omega) (by omega) (by rw[hz2];omega) (by rw[hz2,hik];exact growslice_fits (by omega) hbig)
  rw[hik]at h
  rw[hkk,hROW,hG]
  exact h
 have hW1:((w.alloc (.cells ROW 285)).drew).heap[w.heap.size]? =some (.cells ROW 285 (0,0)):=Nx w.drew _
 have hcpA:∀ty dc,(Builtin.copy_ #[281,281] ty #[.slice (some ⟨w.heap.size,i*13,none⟩) (cap+1-i) dc,.slice (some ⟨vb,0,none⟩) 2 2]).run Tryz.prog ((w.alloc (.cells ROW 285)).drew)= .ok (goInt (Nat.min 2 (cap+1-i))) (((w.alloc (.cells ROW 285)).drew).setCells w.heap.size (i*13) XY):=fun ty dc=>
  BK _ _ _ ty 285 13 w.heap.size (i*13) (cap+1-i) dc ⟨vb,0,none⟩ 2 2 XY Tryz.underlying281 Rx (by rw[hxl,show Nat.min 2 (cap+1-i)=2 from by simp only[Cf];split<;>omega])
   (fun j u hj=>by
    have hadd:(⟨vb,0,none⟩:Addr).add j=⟨vb,j,none⟩:=by unfold Addr.add;split<;>simp_all
    rw[hadd];show(w.alloc (.cells ROW 285)).cell? ⟨vb,j,none⟩=some u;rw[World.cell?_alloc_past (w:=w) _ vb j hvl]
    exact(Cx hvb j).trans (by simpa using hj))
   hW1 (by rw[hxl,hRs];omega) hxy
 obtain⟨cur2,h2,h2l⟩:=Bc XY (i*13) _ ROW hW1 (by rw[hxl,hRs];omega)
 have h2s:cur2.size=G*13:=by
  have:=congrArg List.length h2l
  simp only[AX,Ai,Ad,Am,hxl,hRs]at this
  omega
 obtain⟨W2,hW2⟩:∃W2,W2=((w.alloc (.cells ROW 285)).drew).setCells w.heap.size (i*13) XY:=⟨_,rfl⟩
 have kk2:Aa No w W2:=by
  rw[hW2]
  refine(((Aa.refl No w).alloc (.cells ROW 285)).drew).step (A4 _ _ _ (Aa.refl (At1 w.heap.size) _)) fun k hk hlt=>?_
  unfold At1 at hk;omega
 rw[←hW2]at hcpA h2
 have hdl:(L.drop ((i+1)*13)).length=(cap-(i+1))*13:=by rw[Am,hL];omega
 refine⟨G,_,W2,L.drop ((i+1)*13),hGn,hGm,kk2,hrz,hcpA,fun W hW ty dc sc=>?_,fun W hW hk=>?_⟩
 ·exact BK W _ _ ty 285 13 w.heap.size ((i+2)*13) (cap+1-(i+2)) dc ⟨g,(i+1)*13,none⟩ (cap-(i+1)) sc (L.drop ((i+1)*13)) Tryz.underlying281 Rx (by rw[hdl,show Nat.min (cap-(i+1)) (cap+1-(i+2))=cap-(i+1)from by simp only[Cf];split<;>omega])
   (fun j u hj=>by
    have hadd:(⟨g,(i+1)*13,none⟩:Addr).add j=⟨g,(i+1)*13+j,none⟩:=by unfold Addr.add;split<;>simp_all
    rw[B5]at hj
    rw[hadd,World.cell?_of_block (w:=W2) (by rw[hW]),kk2.cell hgl id]
    exact hcell _ u hj)
   (by rw[hW];exact h2) (by rw[hdl,h2s];omega) (fun u hu=>hone u (BC hu))
 ·obtain⟨cur3,h3,h3l⟩:=Bc (L.drop ((i+1)*13)) ((i+2)*13) W cur2 (by rw[hW];exact h2) (by rw[hdl,h2s];omega)
  refine hfin _ G cur3 h3 ?_ hGn hGm ?_ ?_
  ·have:=congrArg List.length h3l
   simp only[AX,Ai,Ad,Am,hL,h2s]at this
   omega
  ·have e0:ROW.toList.take (i*13)=L.take (i*13):=by
    rw[hROW]
    simp only[Nw,AI]
    exact Br (by rw[Ad];omega)
   have e1:cur2.toList.take ((i+2)*13)=L.take (i*13)++XY:=by
    rw[h2l,e0]
    exact Br (by rw[Ai,Ad,hxl];omega)
   rw[Du CG,DC CG,hLL,h3l,e1]
   exact Br (by simp only[Ai,Ad,hdl,hxl];omega)
  ·refine hk.step (A4 _ _ _ (Aa.refl (At1 w.heap.size) W)) fun k hk' hlt=>?_
   unfold At1 at hk';omega
theorem Qx(l:List Dc.Run)(x y:Dc.Run)(i vb g cap:Nat)(w:World)(hrow:Aq 285 13 Af (.slice (some ⟨g,0,none⟩) l.length cap) l w)(hi:i+1<l.length)(hvb:w.heap[vb]? =some (.cells (Af x++Af y).toArray 285 (0,0)))(hbig:(l.length+1)*104≤140737488355328)(hcap:cap=l.length):
  Calls Tryz.prog 333 #[.slice (some ⟨g,0,none⟩) l.length cap,.int .i64 i,.int .i64 ((i:Int)+1),.slice (some ⟨vb,0,none⟩) 2 2] w (A6 285 13 Af (.slice (some ⟨g,0,none⟩) l.length cap) (l.take i++x::y::l.drop (i+1)) w):=by
 have FF:Hid (∀W0,Aa No w W0→_):=Hx fun W0 (k:Aa No w W0)=>O5 l x y i vb g cap W0 (hrow.no k) hi (k.heap hvb id) hbig hcap
 have FI:Hid (∀W0 e w',Aa No w W0→A6 285 13 Af (.slice (some ⟨g,0,none⟩) l.length cap) (l.take i++x::y::l.drop (i+1)) W0 e w'→A6 285 13 Af (.slice (some ⟨g,0,none⟩) l.length cap) (l.take i++x::y::l.drop (i+1)) w e w'):=Hx fun W0 e w' k ⟨v',h1,h2,h3,h4⟩=>
  ⟨v',h1,h2,k.any.trans h3,fun g hg=>(h4 g hg).imp id fun h=>AG k.size h⟩
 have hbg:=hbig
 clear hrow hvb hbig
 subst hcap
 generalize hN:l.length=n at*
 have HN:=Hx hN
 clear hN
 have hnc:¬((i:Int)=(i:Int)+1):=by omega
 have hnn:¬((i:Int)+1=(n:Int)):=by omega
 have hw1:IntKind.i64.wrap ((i:Int)+1)=(i:Int)+1:=by rw[IntKind.wrap_i64];omega
 have hw2:IntKind.i64.wrap ((i:Int)+2)=(i:Int)+2:=by rw[IntKind.wrap_i64];omega
 have hb0:(0:Int)≤(i:Int):=by omega
 have hb1:(0:Int)≤(i:Int)+1:=by omega
 have hb1':(0:Int)≤(i:Int)+2:=by omega
 have hb2:(i:Int)≤(i:Int)+1:=by omega
 have hb3:(i:Int)+1≤(n:Int):=by omega
 have hb5:(i:Int)≤(n:Int):=by omega
 have hb6:(i:Int)+2≤(n:Int)+1:=by omega
 have htn:((i:Int)+1).toNat=i+1:=by omega
 have htn2:((i:Int)+2).toNat=i+2:=by omega
 have hn63:n≤1000000000000000:=by omega
 have hci:¬(n=i):=by omega
 have hci1:¬(n=i+1):=by omega
 have hto:(i:Int)+2+((n-(i+1):Nat):Int)=(n:Int)+1:=by omega
 have hwto:IntKind.i64.wrap ((n:Int)+1)=(n:Int)+1:=by rw[IntKind.wrap_i64];omega
 clear hbg
 go_enter Tryz.func333,Tryz.ntmps333
 go_wp2
 go_quiet (fail)
 generalize hw0:World.drewN w _=W0
 have kw:Aa No w W0:=by rw[←hw0];exact(Aa.refl _ _).drewN _
 clear hw0
 obtain⟨G,W1,W2,D,hGn,hGm,kk2,hrz,hcpA,hcpB,hFF⟩:=FF.out W0 kw
 have F1:=Hx hFF
 have F2:=Hx hcpB
 have hGi:¬(G=i):=by omega
 have hGim:¬(G=i+2):=by omega
 have hG63:G≤9223372036854775807:=by unfold maxLen at hGm;omega
 have hgg:(n:Int)<(n:Int)+1:=by omega
 have hin:i≤n:=by omega
 clear hFF hcpB FF
 go_wp2_with(first
  |(at_builtin;refine Lib.wpList_append_run _ rfl _ _ _ _ rfl _ _ rfl rfl _ _ (hrz _) ?_)
  |(refine B7 _ rfl _ _ 281 281 rfl _ _ rfl rfl (hcpA _ _) ?_))
 go_region_law(refine CU rfl _ _ 281 281 rfl (.slice (some ⟨W0.heap.size,(i+2)*13,none⟩) (n+1-(i+2)) (G-(i+2))) (.slice (some ⟨g,(i+1)*13,none⟩) (n-(i+1)) (n-(i+1))) (by simp[Act.eval,Act.put]) (by simp[Act.eval,Act.put]) (F2.out W2.drew rfl _ _ _) ?_)
 go_wp2
 go_ret
 exact FI.out _ _ _ kw (F1.out W2.drew rfl kk2.drew)
/-- the facts behind a replacement that has room -/
theorem O4(l:List Dc.Run)(x y:Dc.Run)(i vb g cap:Nat)(w:World)(hrow:Aq 285 13 Af (.slice (some ⟨g,0,none⟩) l.length cap) l w)(hi:i+1<l.length)(hvb:w.heap[vb]? =some (.cells (Af x++Af y).toArray 285 (0,0)))(hne:vb≠g)(hcap:l.length<cap):
  ∃(W2 W3:World),Aa (At1 g) w W2∧
   (∀lb cb,(callFunc 334 #[.slice (some ⟨g,(i+2)*13,none⟩) lb cb,.slice (some ⟨vb,0,none⟩) 2 2]).run Tryz.prog w= .ok (.value (.bool false)) w)∧
   (∀ty dc sc,(Builtin.copy_ #[281,281] ty #[.slice (some ⟨g,(i+2)*13,none⟩) (l.length+1-(i+2)) dc,.slice (some ⟨g,(i+1)*13,none⟩) (l.length-(i+1)) sc]).run Tryz.prog w.drew= .ok (goInt (Nat.min (l.length-(i+1)) (l.length+1-(i+2)))) W2)∧
   (∀ty dc,(Builtin.copy_ #[281,281] ty #[.slice (some ⟨g,i*13,none⟩) (l.length+1-i) dc,.slice (some ⟨vb,0,none⟩) 2 2]).run Tryz.prog W2= .ok (goInt (Nat.min 2 (l.length+1-i))) W3)∧
   A6 285 13 Af (.slice (some ⟨g,0,none⟩) l.length cap) (l.take i++x::y::l.drop (i+1)) w (.returned (.slice (some ⟨g,0,none⟩) (l.length+1) cap)) W3:=by
 obtain⟨i0,hii,hz0,hz1,hz2⟩:=info_parts Ij
 obtain⟨cur,hg,hcm,hcs,htk⟩:∃cur,w.heap[g]? =some (.cells cur 285 (0,0))∧cap≤maxLen∧cur.size=cap*13∧cur.toList.take (l.length*13)=l.flatMap Af:=by
  rcases hrow.form with⟨h,_⟩|⟨g',c',cur,h,h1,_,h3,h4,h5⟩
  ·cases h
  ·simp only[Value.slice.injEq,AZ,Addr.mk.injEq,DX,DW]at h
   obtain⟨rfl,rfl⟩:=h
   exact⟨cur,h1,h3,h4,h5⟩
 have hgl:=Ao hg
 have hvl:=Ao hvb
 have hL:(l.flatMap Af).length=l.length*13:=Az CG l
 have hcell:∀j u,(l.flatMap Af)[j]? =some u→w.cell? ⟨g,j,none⟩=some u:=fun j u hj=>by
  rw[←htk]at hj
  rw[Cx hg,←Aw]
  rw[AO]at hj
  split at hj
  ·exact hj
  ·cases hj
 have hone:∀u∈l.flatMap Af,u.oneCell'=true:=fun u hu=>by
  obtain⟨z,_,hz⟩:=Ba.1 hu
  exact EY z u hz
 have hxy:∀u∈Af x++Af y,u.oneCell'=true:=fun u hu=>by
  rcases AC.1 hu with h|h
  ·exact EY x u h
  ·exact EY y u h
 have hxl:(Af x++Af y).length=2*13:=rfl
 have hl2:(l.take i++x::y::l.drop (i+1)).length=l.length+1:=by simp;omega
 have hfl:(l.take i++x::y::l.drop (i+1)).flatMap Af=(l.take i).flatMap Af++(Af x++Af y)++(l.drop (i+1)).flatMap Af:=by simp
 have hfin:∀(w':World) (cur':Array Value),w'.heap[g]? =some (.cells cur' 285 (0,0))→cur'.size=cap*13→cur'.toList.take ((l.length+1)*13)=(l.take i++x::y::l.drop (i+1)).flatMap Af→Aa (At1 g) w w'→
   A6 285 13 Af (.slice (some ⟨g,0,none⟩) l.length cap) (l.take i++x::y::l.drop (i+1)) w (.returned (.slice (some ⟨g,0,none⟩) (l.length+1) cap)) w':=by
  intro w' cur' h1 h2 h5 h6
  exact⟨_,rfl,⟨by rw[Az CG],.inr ⟨g,cap,cur',by rw[hl2],Ah _,h1,by omega,hcm,h2,by rw[hl2];exact h5⟩⟩,h6.mono fun k hk _=>by(unfold At1 at hk;subst hk;rfl),fun k hk=> .inl hk⟩
 rw[hfl]at hfin
 have hov:∀lb cb,(callFunc 334 #[.slice (some ⟨g,(i+2)*13,none⟩) lb cb,.slice (some ⟨vb,0,none⟩) 2 2]).run Tryz.prog w= .ok (.value (.bool false)) w:=fun lb cb=>by
  rw[run_callFunc_extern Tryz.func334 Rx Rx Rx (e:=Extern.SlicesOverlaps.overlaps #[281,281] #[4]) Rx,
   Lib.run_overlaps_apart w 281 4 285 Tryz.underlying281 13 (fun w=>by kernel_rfl) ⟨g,(i+2)*13,none⟩ ⟨vb,0,none⟩ lb cb 2 2 (fun e=>hne e.symm) 285 285 cur.size (Af x++Af y).toArray.size (by simp[World.shape?,hg]) (by simp[World.shape?,hvb]) (by simp[hxl]) (Fx hg _) (Fx hg _)]
  rfl
 generalize hN:l.length=n at*
 generalize hLL:l.flatMap Af=L at*
 generalize hXY:Af x++Af y=XY at*
 have hdl:(L.drop ((i+1)*13)).length=(n-(i+1))*13:=by rw[Am,hL];omega
 have hcpA:∀ty dc sc,(Builtin.copy_ #[281,281] ty #[.slice (some ⟨g,(i+2)*13,none⟩) (n+1-(i+2)) dc,.slice (some ⟨g,(i+1)*13,none⟩) (n-(i+1)) sc]).run Tryz.prog w.drew= .ok (goInt (Nat.min (n-(i+1)) (n+1-(i+2)))) (w.drew.setCells g ((i+2)*13) (L.drop ((i+1)*13))):=fun ty dc sc=>
  BK w.drew _ _ ty 285 13 g ((i+2)*13) (n+1-(i+2)) dc ⟨g,(i+1)*13,none⟩ (n-(i+1)) sc (L.drop ((i+1)*13)) Tryz.underlying281 Rx (by rw[hdl,show Nat.min (n-(i+1)) (n+1-(i+2))=n-(i+1)from by simp only[Cf];split<;>omega])
   (fun j u hj=>by
    have hadd:(⟨g,(i+1)*13,none⟩:Addr).add j=⟨g,(i+1)*13+j,none⟩:=by unfold Addr.add;split<;>simp_all
    rw[B5]at hj
    rw[hadd]
    exact hcell _ u hj)
   hg (by rw[hdl,hcs];omega) (fun u hu=>hone u (BC hu))
 obtain⟨W2,hW2⟩:∃W2,W2=w.drew.setCells g ((i+2)*13) (L.drop ((i+1)*13)):=⟨_,rfl⟩
 obtain⟨cur2,h2,h2l⟩:=Bc (L.drop ((i+1)*13)) ((i+2)*13) w.drew cur hg (by rw[hdl,hcs];omega)
 rw[←hW2]at h2 hcpA
 have h2s:cur2.size=cap*13:=by
  have:=congrArg List.length h2l
  simp only[AX,Ai,Ad,Am,hL,hcs]at this
  omega
 have kk2:Aa (At1 g) w W2:=by
  rw[hW2]
  exact A4 _ _ _ ((Aa.refl (At1 g) w).drew)
 refine⟨W2,W2.setCells g (i*13) XY,kk2,hov,hcpA,fun ty dc=>?_,?_⟩
 ·exact BK W2 _ _ ty 285 13 g (i*13) (n+1-i) dc ⟨vb,0,none⟩ 2 2 XY Tryz.underlying281 Rx (by rw[hxl,show Nat.min 2 (n+1-i)=2 from by simp only[Cf];split<;>omega])
   (fun j u hj=>by
    have hadd:(⟨vb,0,none⟩:Addr).add j=⟨vb,j,none⟩:=by unfold Addr.add;split<;>simp_all
    rw[hadd,kk2.cell hvl (fun e=>hne e)]
    exact(Cx hvb j).trans (by simpa using hj))
   h2 (by rw[hxl,h2s];omega) hxy
 ·obtain⟨cur3,h3,h3l⟩:=Bc XY (i*13) W2 cur2 h2 (by rw[hxl,h2s];omega)
  refine hfin _ cur3 h3 ?_ ?_ (A4 _ _ _ kk2)
  ·have:=congrArg List.length h3l
   simp only[AX,Ai,Ad,Am,hxl,h2s]at this
   omega
  ·have hcl:cur.toList.length=cap*13:=by simpa using hcs
   have e0:cur2.toList.take (i*13)=L.take (i*13):=by
    rw[h2l,AI,Dj (by rw[Ad,hcl];omega),C3,B8 (by omega),←htk,C3,B8 (by omega)]
   have e1:cur2.toList.drop ((i+2)*13)=L.drop ((i+1)*13)++cur.toList.drop ((i+2)*13+(L.drop ((i+1)*13)).length):=by
    rw[h2l,AI]
    exact List.drop_left' (by rw[Ad,hcl];omega)
   rw[Du CG,DC CG,hLL,h3l,e0,hxl,show i*13+2*13=(i+2)*13 by omega,e1,←AI]
   exact Br (by simp only[Ai,Ad,hdl,hxl,hL];omega)
theorem Qw(l:List Dc.Run)(x y:Dc.Run)(i vb g cap:Nat)(w:World)(hrow:Aq 285 13 Af (.slice (some ⟨g,0,none⟩) l.length cap) l w)(hi:i+1<l.length)(hvb:w.heap[vb]? =some (.cells (Af x++Af y).toArray 285 (0,0)))(hne:vb≠g)(hcap:l.length<cap):
  Calls Tryz.prog 333 #[.slice (some ⟨g,0,none⟩) l.length cap,.int .i64 i,.int .i64 ((i:Int)+1),.slice (some ⟨vb,0,none⟩) 2 2] w (A6 285 13 Af (.slice (some ⟨g,0,none⟩) l.length cap) (l.take i++x::y::l.drop (i+1)) w):=by
 have hcm:cap≤9223372036854775807:=by
  rcases hrow.form with⟨h,_⟩|⟨g',c',cur,h,h1,_,h3,h4,h5⟩
  ·cases h
  ·simp only[Value.slice.injEq,AZ,Addr.mk.injEq,DX,DW]at h
   unfold maxLen at h3;omega
 have FF:Hid (∀W0,Aa No w W0→_):=Hx fun W0 (k:Aa No w W0)=>O4 l x y i vb g cap W0 (hrow.no k) hi (k.heap hvb id) hne hcap
 have FI:Hid (∀W0 e w',Aa No w W0→A6 285 13 Af (.slice (some ⟨g,0,none⟩) l.length cap) (l.take i++x::y::l.drop (i+1)) W0 e w'→A6 285 13 Af (.slice (some ⟨g,0,none⟩) l.length cap) (l.take i++x::y::l.drop (i+1)) w e w'):=Hx fun W0 e w' k ⟨v',h1,h2,h3,h4⟩=>
  ⟨v',h1,h2,k.any.trans h3,fun g hg=>(h4 g hg).imp id fun h=>AG k.size h⟩
 clear hrow hvb
 generalize hN:l.length=n at*
 have HN:=Hx hN
 clear hN
 have hnc:¬((i:Int)=(i:Int)+1):=by omega
 have hnn:¬((i:Int)+1=(n:Int)):=by omega
 have hw1:IntKind.i64.wrap ((i:Int)+1)=(i:Int)+1:=by rw[IntKind.wrap_i64];omega
 have hw2:IntKind.i64.wrap ((i:Int)+2)=(i:Int)+2:=by rw[IntKind.wrap_i64];omega
 have hb0:(0:Int)≤(i:Int):=by omega
 have hb1:(0:Int)≤(i:Int)+1:=by omega
 have hb1':(0:Int)≤(i:Int)+2:=by omega
 have hb2:(i:Int)≤(i:Int)+1:=by omega
 have hb3:(i:Int)+1≤(n:Int):=by omega
 have hb5:(i:Int)≤(cap:Int):=by omega
 have hb6:(i:Int)+2≤(n:Int)+1:=by omega
 have hb7:(i:Int)≤(n:Int)+1:=by omega
 have hb8:(i:Int)+1≤(cap:Int):=by omega
 have htn:((i:Int)+1).toNat=i+1:=by omega
 have htn2:((i:Int)+2).toNat=i+2:=by omega
 have hc0:¬cap<n:=by omega
 have hci:¬(cap=i):=by omega
 have hci1:¬(cap=i+1):=by omega
 have hci2:¬(cap=i+2):=by omega
 have hto:(i:Int)+2+((n-(i+1):Nat):Int)=(n:Int)+1:=by omega
 have hwto:IntKind.i64.wrap ((n:Int)+1)=(n:Int)+1:=by rw[IntKind.wrap_i64];omega
 have hgg:(n:Int)+1≤(cap:Int):=by omega
 have hin:i≤n:=by omega
 have hle:¬((i:Int)+2≤(i:Int)+1):=by omega
 go_enter Tryz.func333,Tryz.ntmps333
 go_wp2
 go_quiet (fail)
 generalize hw0:World.drewN w _=W0
 have kw:Aa No w W0:=by rw[←hw0];exact(Aa.refl _ _).drewN _
 clear hw0
 obtain⟨W2,W3,kk2,hov,hcpA,hcpB,hFF⟩:=FF.out W0 kw
 have F1:=Hx hFF
 have F2:=Hx hcpA
 clear hFF hcpA FF
 go_wp2_with(simp only[hov])
 go_region_law(refine CU rfl _ _ 281 281 rfl (.slice (some ⟨g,(i+2)*13,none⟩) (n+1-(i+2)) (cap-(i+2))) (.slice (some ⟨g,(i+1)*13,none⟩) (n-(i+1)) (cap-(i+1))) (by simp[Act.eval,Act.put]) (by simp[Act.eval,Act.put]) (F2.out _ _ _) ?_)
 go_wp2_with(refine B7 _ rfl _ _ 281 281 rfl _ _ rfl rfl (hcpB _ _) ?_)
 go_ret
 exact FI.out _ _ _ kw F1.out
theorem SH(l:List Dc.Run)(x y:Dc.Run)(i vb:Nat)(v:Value)(w:World)(hrow:Aq 285 13 Af v l w)(hi:i<l.length)(hvb:w.heap[vb]? =some (.cells (Af x++Af y).toArray 285 (0,0)))(hne:v.ownBlock≠some vb)(hbig:(l.length+1)*104≤140737488355328):
  Calls Tryz.prog 333 #[v,.int .i64 i,.int .i64 ((i:Int)+1),.slice (some ⟨vb,0,none⟩) 2 2] w (A6 285 13 Af v (l.take i++x::y::l.drop (i+1)) w):=by
 obtain⟨g,cap,rfl,hcap,_⟩:=hrow.at (by omega)
 rcases Nat.lt_or_ge (i+1) l.length with h|h
 ·rcases BR hcap with e|hc
  ·exact Qx l x y i vb g cap w hrow h hvb hbig e.symm
  ·exact Qw l x y i vb g cap w hrow h hvb (fun e=>hne (by rw[e];rfl)) hc
 ·exact SG l x y i vb g cap w hrow (by omega) hvb hbig hcap
end
end Go.Proofs.YthfjefcljeamgaaGreatDoor
