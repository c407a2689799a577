/- joined: Rows of runs: neighbours made one. Rows of runs: mended. -/
import Derived.Test.YthfjefcljeamgaaGreatDoorRunF
namespace Go.Proofs.YthfjefcljeamgaaGreatDoor
set_option maxRecDepth 100000
set_option maxHeartbeats 4000000
section
open Go.RowKit
attribute [local go_sem ↓] Go.wp_at_zero Go.wp_at_succ
/-- two cells of an element set within its row -/
theorem Aq.set2{α:Type}{e:TypeId}{m:Nat}{f:α→List Value}{l:List α}{w:World}{g n cap:Nat}(h:Aq e m f (.slice (some ⟨g,0,none⟩) n cap) l w)(hf:∀x,(f x).length=m){i a b:Nat}(hi:i<l.length)(ha:a<m)(hb:b<m){va vb:Value}{x':α}
  (hx:f x'=((f l[i]).set a va).set b vb):Aq e m f (.slice (some ⟨g,0,none⟩) n cap) (l.set i x') ((w.setCell ⟨g,i*m+a,none⟩ va).setCell ⟨g,i*m+b,none⟩ vb):=by
 rcases h.form with⟨h0,_⟩|⟨g',cap',cur,h0,hg0,h1,h2,h3,h4⟩
 ·cases h0
 ·injection h0 with e1 e2 e3
  injection e1 with e1
  injection e1 with e1
  subst e1 e2 e3
  refine⟨Az hf _,.inr ⟨g,cap,(cur.setIfInBounds (i*m+a) va).setIfInBounds (i*m+b) vb,by rw[Gy],Ah _,heap_set (heap_set hg0 _ _) _ _,by rw[Gy];exact h1,h2,by simpa using h3,?_⟩⟩
  rw[Gy]
  have hm:0<m:=by omega
  apply List.ext_getElem?
  intro t
  by_cases ht:t<l.length*m
  ·have hk:t / m<l.length:=Nat.div_lt_of_lt_mul (by rw[Nat.mul_comm];exact ht)
   have hr:t % m<m:=ay _ hm
   have e1:t / m*m+t % m=t:=by rw[Nat.mul_comm];exact Nat.div_add_mod t m
   have hA:=EL hf (l.set i x') (t / m) (t % m) (by simpa using hk) hr
   have hB:=EL hf l (t / m) (t % m) hk hr
   rw[e1]at hA hB
   rw[hA,AO,Ak ht,Aw,List.getElem_set,GA,GA]
   have hcur:cur[t]? =(f l[t / m])[t % m]? :=by
    rw[←hB,←h4,AO,Ak ht,Aw]
   have hts:t<cur.size:=by
    rw[h3]
    exact AK ht (Ho m h1)
   by_cases hik:i=t / m
   ·subst hik
    have hlen:=hf l[t / m]
    rw[Ak rfl,hx,List.getElem?_set,List.getElem?_set]
    by_cases eb:b=t % m
    ·rw[Ak (by rw[eb];exact e1),Ak (by simp;omega),Ak eb,Ak (by simp;omega)]
    ·rw[Ae (by omega),Ae eb]
     by_cases ea:a=t % m
     ·rw[Ak (by rw[ea];exact e1),Ak (by omega),Ak ea,Ak (by omega)]
     ·rw[Ae (by omega),Ae ea,hcur]
   ·have hne:∀c,c<m→i*m+c≠t:=fun c hc e=>hik (by
     have:t / m=i:=by
      rw[←e,Nat.mul_comm,Nat.mul_add_div hm,Nat.div_eq_of_lt hc,Nat.add_zero]
     exact this.symm)
    rw[Ae hik,Ae (hne b hb),Ae (hne a ha),hcur]
  ·rw[DY (by rw[Ad];omega),DY (by rw[Az hf,Gy];omega)]
theorem Ot{l:Dc.Row}{k:Nat}(h:k<l.length):(l.take (k+1)).foldl Dc.B6 []=Dc.B6 ((l.take k).foldl Dc.B6 []) l[k]:=by
 rw[AW,Aj h,Dy]
 rfl
def Nq(l:Dc.Row):Prop:=∀r∈l,r.fr+r.len≤1000
theorem ML{out:Dc.Row}{r:Dc.Run}(h:Nq out)(hr:r.fr+r.len≤1000):Nq (Dc.B6 out r)∧(Dc.B6 out r).length≤out.length+1:=by
 unfold Dc.B6
 cases hq:out.getLast? with
 |none=>exact⟨fun x hx=>by rw[AU.1 hx];exact hr,by simp⟩
 |some q=>
  simp only
  split
  ·rename_i hj
   obtain⟨h1,h2,h3,h4,h5⟩:=Dc.KU.1 hj
   refine⟨fun x hx=>?_,by simp⟩
   rcases AC.1 hx with hx|hx
   ·exact h x (List.dropLast_subset _ hx)
   ·rw[AU.1 hx]
    unfold Dc.Run.len at*
    simp only[Ai]
    omega
  ·refine⟨fun x hx=>?_,by simp⟩
   rcases AC.1 hx with hx|hx
   ·exact h x hx
   ·rw[AU.1 hx];exact hr
theorem MK{l:Dc.Row}(h:Nq l):∀k,k≤l.length→Nq ((l.take k).foldl Dc.B6 [])∧((l.take k).foldl Dc.B6 []).length≤k
 |0,_=>⟨by simp[Nq],by simp⟩
 |k+1,hk=>by
  obtain⟨h1,h2⟩:=MK h k (by omega)
  rw[Ot (by omega)]
  obtain⟨h3,h4⟩:=ML h1 (h _ (AQ (by omega:k<l.length)))
  exact⟨h3,by omega⟩
theorem Up(l:Dc.Row)(k:Nat):Dc.CO ((l.take k).foldl Dc.B6 [])≤Dc.CO l:=by
 have h:=Dc.Uu (l.take k)
 unfold Dc.ID at h
 rw[h]
 exact Gu l k
theorem Lq:∀{l:Dc.Row} {r:Dc.Run},r∈l→r.len≤Dc.CO l
 |q::l,r,h=>by
  rcases A7.1 h with rfl|h
  ·simp[Dc.CO]
  ·have:=Lq h
   simp only[Dc.CO]
   omega
theorem Jy{acc:Dc.Row}{y:Dc.Run}(h:0<acc.length):
  (acc[acc.length-1].joins y=false→Dc.B6 acc y=acc++[y])∧(acc[acc.length-1].joins y=true→Dc.B6 acc y=acc.set (acc.length-1) {acc[acc.length-1]with text:=acc[acc.length-1].text++y.text}):=by
 have hl:acc.getLast? =some acc[acc.length-1]:=by rw[List.getLast?_eq_getElem?,Aj (by omega)]
 unfold Dc.B6
 rw[hl]
 simp only
 refine⟨fun hj=>by rw[hj];rfl,fun hj=>?_⟩
 rw[hj]
 simp only[if_true]
 rw[List.set_eq_take_append_cons_drop,Ak (by omega),List.dropLast_eq_take]
 rw[Gl (by omega)]
def VV(F:Nat→Prop)(b:Nat)(l:Dc.Row)(w:World)(e:Ending)(w':World):Prop:=
 e= .returned (.tuple #[])∧Ec (Bv F w) b (Dc.ID l) w'∧Aa F w w'
end
section
open Go.RowKit
attribute [local go_sem ↓] Go.wp_at_zero Go.wp_at_succ
theorem Le{F:Nat→Prop}{b:Nat}{l:Dc.Row}{w:World}(h:Ec F b l w)(hs:Gg l):
  Calls Tryz.prog 300 #[.pointer (some ⟨b,0,none⟩)] w (VV F b l w):=by
 obtain⟨v,h1,hrow,f1,f2⟩:=h
 obtain⟨ao,cp,rfl⟩:∃ao cp,v= .slice ao l.length cp:=by
  rcases hrow.form with⟨rfl,rfl⟩|⟨g',cap,_,rfl,_⟩
  ·exact⟨none,0,rfl⟩
  ·exact⟨_,cap,rfl⟩
 have H:=Hx hrow
 obtain⟨hs1,hs2,hs3⟩:=hs
 have HS1:=Hx hs1
 have F2:=Hx f2
 clear hrow hs1 f2
 have b0:=Cx h1 0
 go_enter Tryz.func300,Tryz.ntmps300
 go_wp2_with fail
 clear b0
 go_loopg [2,11] l.length (fun kx s2 s11 wr=>∃k:Nat,s11= .int .i64 k∧k≤l.length∧l.length-k≤kx∧Aq 285 13 Af s2 ((l.take k).foldl Dc.B6 []) wr∧(∀x,s2.ownBlock=some x→w.heap.size≤x)∧Aa No w wr)
 case atStart=>exact⟨0,rfl,Ah _,Ac _,by simpa using Aq.nil,(fun x hx=>by cases hx),Aa.refl _ _⟩
 case round=>
  obtain⟨k,rfl,hk,hkx,hout,hown,kr⟩:=hrel
  by_cases hlt:k<l.length
  ·have hrow:=H.out.no kr
   obtain⟨g,cap,e1,hcap,_⟩:=hrow.at (by omega)
   injection e1 with e1 e2 e3
   subst e1 e3
   obtain⟨x0,x1,x2,x3,x4,x5,x6,x7,x8,x9,x10,x11,x12⟩:=hrow.runO hlt
   have hnext:=Ot hlt
   obtain⟨y,hy⟩:∃y,y=l[k]'hlt:=⟨_,rfl⟩
   have hsm:=HS1.out y (by rw[hy];exact AQ hlt)
   obtain⟨hac1,hac2⟩:=MK HS1.out k hk
   have hac3:=Up l k
   obtain⟨acc,hacc⟩:∃acc,acc=(l.take k).foldl Dc.B6 []:=⟨_,rfl⟩
   rw[←hy]at x0 x1 x2 x3 x10 x11 x12 hnext
   rw[←hacc]at hout hnext hac1 hac2 hac3
   have HN:=Hx hnext
   have kI0:(0:Int)≤(k:Int):=by omega
   have kI1:(k:Int)<(l.length:Int):=by omega
   have hwk:w.heap.size≤wr.heap.size:=kr.size
   clear e2 hnext hacc hy hrow
   -- whether the last run of what is done takes y in
   obtain⟨jb,hjb⟩:∃jb:Bool,jb=if h:0<acc.length then(acc[acc.length-1]'(by omega)).joins y else false:=⟨_,rfl⟩
   have HJF:Hid (jb=false→Dc.B6 acc y=acc++[y]):=Hx fun e=>by
    by_cases hp:0<acc.length
    ·rw[GP hp]at hjb
     exact(Jy hp).1 (hjb.symm.trans e)
    ·have:acc=[]:=LN (by omega)
     rw[this];rfl
   have HJT:Hid (jb=true→∃hp:0<acc.length,Dc.B6 acc y=acc.set (acc.length-1) {acc[acc.length-1]'(by omega)with text:=(acc[acc.length-1]'(by omega)).text++y.text}):=Hx fun e=>by
    by_cases hp:0<acc.length
    ·rw[GP hp]at hjb
     exact⟨hp,(Jy hp).2 (hjb.symm.trans e)⟩
    ·rw[dif_neg hp]at hjb
     rw[e]at hjb;cases hjb
   have HJB:=Hx hjb
   clear hjb
   obtain⟨so,nn,c2,hu2,hnn⟩:∃so nn c2,u2= .slice so nn c2∧nn=acc.length:=by
    rcases hout.form with⟨rfl,rfl⟩|⟨g',cap,_,rfl,_⟩
    ·exact⟨none,0,0,rfl,rfl⟩
    ·exact⟨_,_,cap,rfl,rfl⟩
   subst hu2
   have hnn6:nn≤1000000:=by omega
   have HNN:=Hx hnn
   clear hnn
   go_upto_region 5 with(fail)
   have k4:Aa No wr (wr.alloc (.cells #[.int .i64 y.op.R,.int .i64 y.op.N,.int .i64 y.fr,.int .i64 y.len,.int .i64 0,.int .i64 0,.int .i64 0,.int .i64 0,.int .i64 0,.int .i64 0,.bool y.gone,.bool y.mark,.string ⟨y.text.toArray⟩] 285)):=(Aa.refl No wr).alloc _
   have hY:CQ wr.heap.size y (wr.alloc (.cells #[.int .i64 y.op.R,.int .i64 y.op.N,.int .i64 y.fr,.int .i64 y.len,.int .i64 0,.int .i64 0,.int .i64 0,.int .i64 0,.int .i64 0,.int .i64 0,.bool y.gone,.bool y.mark,.string ⟨y.text.toArray⟩] 285)):=Nx wr _
   generalize wr.alloc (.cells #[.int .i64 y.op.R,.int .i64 y.op.N,.int .i64 y.fr,.int .i64 y.len,.int .i64 0,.int .i64 0,.int .i64 0,.int .i64 0,.int .i64 0,.int .i64 0,.bool y.gone,.bool y.mark,.string ⟨y.text.toArray⟩] 285)=w4 at k4 hY⊢
   obtain⟨Y,eY⟩:∃Y,Y=wr.heap.size:=⟨_,rfl⟩
   rw[←eY]at hY hwk⊢
   clear x0 x1 x2 x3 x4 x5 x6 x7 x8 x9 x10 x11 x12
   have hout4:=hout.no k4
   have kw4:=kr.trans k4
   have hYo:∀x,(Value.slice so nn c2).ownBlock=some x→x≠Y:=fun x hx=>by have:=hout.own_lt hx;omega
   clear eY hout kr k4
   go_cut[27] (fun s27 wx=>s27= .bool jb∧Aa No w4 wx)
   case first=>
    by_cases hp:0<acc.length
    ·have hjb:=HJB.out
     rw[GP hp]at hjb
     obtain⟨g2,cap2,e1,_,_⟩:=hout4.at (by omega)
     injection e1 with e1 e2 e3
     subst e1 e3
     have hzl:acc.length-1<acc.length:=by omega
     obtain⟨y0,y1,y2,y3,y4,y5,y6,y7,y8,y9,y10,y11,y12⟩:=hout4.runO hzl
     have hqs:=hac1 _ (AQ hzl)
     obtain⟨q,hq⟩:∃q,q=acc[acc.length-1]'hzl:=⟨_,rfl⟩
     rw[←hq]at y0 y1 y2 y3 y10 y11 y12 hjb hqs
     have hcall:∀d os,Calls Tryz.prog 336 #[JE q,JE y] (Sort.grow (redrawn w4 d) os) fun e w''=>e= .returned (.bool jb)∧∃p:Regrown,w''=Sort.grow (redrawn w4 p.d) p.os:=fun d os=>
      BV (by rw[hjb];exact Uy q y (by omega) _)
     obtain⟨z,hz⟩:∃z,z=acc.length-1:=⟨_,rfl⟩
     rw[←hz]at y0 y1 y2 y3 y4 y5 y6 y7 y8 y9 y10 y11 y12
     have hnz:nn=z+1:=by have:=HNN.out;omega
     have hw:IntKind.i64.wrap ((nn:Int)-1)=(z:Int):=by rw[IntKind.wrap_i64];omega
     have hz0:(0:Int)≤(z:Int):=by omega
     have hz1:(z:Int)<(nn:Int):=by omega
     have hn0:(0:Int)<(nn:Int):=by omega
     have hn1:0<nn:=by omega
     have hn2:decide ((0:Int)<(nn:Int))=true:=by simp[hn1]
     have hn3:decide (0<nn)=true:=by simp[hn1]
     clear hz hnz hq hjb e2
     obtain⟨p0,p1,p2,p3,p4,p5,p6,p7,p8,p9,p10,p11,p12⟩:K5 Y y w4:=hY.c
     have Y0:=Ex y0
     have P0:=Ex p0
     have Y1:=Ex y1
     have P1:=Ex p1
     have Y2:=Ex y2
     have P2:=Ex p2
     have Y3:=Ex y3
     have P3:=Ex p3
     have Y4:=Ex y4
     have P4:=Ex p4
     have Y5:=Ex y5
     have P5:=Ex p5
     have Y6:=Ex y6
     have P6:=Ex p6
     have Y7:=Ex y7
     have P7:=Ex p7
     have Y8:=Ex y8
     have P8:=Ex p8
     have Y9:=Ex y9
     have P9:=Ex p9
     have Y10:=Ex y10
     have P10:=Ex p10
     have Y11:=Ex y11
     have P11:=Ex p11
     have Y12:=Ex y12
     have P12:=Ex p12
     clear y0 p0 y1 p1 y2 p2 y3 p3 y4 p4 y5 p5 y6 p6 y7 p7 y8 p8 y9 p9 y10 p10 y11 p11 y12 p12
     refine wp_region_quiet_below Rx Rx ?_
     repeat(quiet_step(exact hcall _ _))
     refine wpQuiet_nil ?_
     intro _ hw'
     obtain⟨⟨dq,osq⟩,hw''⟩:=hw'
     subst hw''
     have k5:Aa No w4 (Sort.grow (redrawn w4 dq) osq):=Ag w4 dq osq
     clear Y0 P0 Y1 P1 Y2 P2 Y3 P3 Y4 P4 Y5 P5 Y6 P6 Y7 P7 Y8 P8 Y9 P9 Y10 P10 Y11 P11 Y12 P12
     go_wp2_with fail
     go_meet
     exact⟨rfl,k5⟩
    ·have hjb:=HJB.out
     rw[dif_neg hp]at hjb
     have hn0:nn=0:=by have:=HNN.out;omega
     subst hn0 hjb
     go_quiet (fail)
     go_wp2_with fail
     go_meet
     exact⟨rfl,Kx⟩
   case rest=>
    obtain⟨rfl,kc⟩:=hcut
    obtain⟨w5,hw5⟩:∃x,x=wc:=⟨_,rfl⟩
    subst hw5
    have hout5:=hout4.no kc
    have hY5:CQ Y y w5:=kc.heap hY id
    have kw5:=kw4.trans kc
    have hwj:IntKind.i64.wrap ((k:Int)+1)=(k:Int)+1:=by rw[IntKind.wrap_i64];omega
    cases jb with
    |false=>
     have hm:=HJF.out rfl
     rw[←HN.out]at hm
     have HM:=Hx hm
     clear hm
     have ka:Aa No w5 (w5.alloc (.cells #[.int .i64 y.op.R,.int .i64 y.op.N,.int .i64 y.fr,.int .i64 y.len,.int .i64 0,.int .i64 0,.int .i64 0,.int .i64 0,.int .i64 0,.int .i64 0,.bool y.gone,.bool y.mark,.string ⟨y.text.toArray⟩] 285)):=(Aa.refl No w5).alloc _
     have HAP:=Hx (fun ty=>KF.append (hout5.no ka) ⟨w5.heap.size,0,none⟩ 1 1 [y] rfl (Ey (Nx w5 _)) (by omega) ty)
     have hwk5:=kw5.size
     obtain⟨c0,c1,c2',c3,c4,c5,c6,c7,c8,c9,c10,c11,c12⟩:K5 Y y w5:=hY5.c
     go_wp2_with(at_builtin;obtain⟨v',w7,hr7,ho7,k7,hov7⟩:=HAP.out _;refine wpList_append_run rfl _ _ 281 281 rfl _ _ rfl rfl hr7 ?_)
     go_roundg (l.length-(k+1))
     case measure=>omega
     case rel=>
      refine⟨k+1,by go_num,hlt,Ac _,by rw[HM.out];exact ho7,fun x hx=>?_,(kw5.no ka).step k7 fun x hx hl=>?_⟩
      ·rcases hov7 with e7|e7
       ·exact hown x (e7▸hx)
       ·rw[e7]at hx
        have:=Ap hx
        rw[World.size_alloc]at this
        omega
      ·have:=hown x hx
       omega
    |true=>
     obtain⟨hp,hm⟩:=HJT.out rfl
     rw[←HN.out]at hm
     have hzl:acc.length-1<acc.length:=by omega
     obtain⟨g2,cap2,e1,_,_⟩:=hout5.at (by omega)
     injection e1 with e1 e2 e3
     subst e1 e3
     obtain⟨y0,y1,y2,y3,y4,y5,y6,y7,y8,y9,y10,y11,y12⟩:=hout5.runO hzl
     have hlenq:=Lq (AQ hzl)
     have hset:=fun(q':Dc.Run) (va vb:Value) (hx:Af q'=((Af (acc[acc.length-1]'hzl)).set 3 va).set 12 vb)=>Aq.set2 (w:=w5) hout5 (fun _=>rfl) hzl (a:=3) (b:=12) (by decide) (by decide) (x':=q') hx
     obtain⟨q,hq⟩:∃q,q=acc[acc.length-1]'hzl:=⟨_,rfl⟩
     rw[←hq]at y3 y12 hm hlenq hset
     obtain⟨z,hz⟩:∃z,z=acc.length-1:=⟨_,rfl⟩
     rw[←hz]at y3 y12 hm hset
     have HM:=Hx hm
     have HSET:=Hx hset
     have hnz:nn=z+1:=by have:=HNN.out;omega
     have hw:IntKind.i64.wrap ((nn:Int)-1)=(z:Int):=by rw[IntKind.wrap_i64];omega
     have hz0:(0:Int)≤(z:Int):=by omega
     have hz1:(z:Int)<(nn:Int):=by omega
     have hadd1:(q.len:Int)+(y.len:Int)≤2000000:=by omega
     have hadd0:(0:Int)≤(q.len:Int)+(y.len:Int):=by omega
     have hg2:=hown g2 rfl
     have hYg:¬Y=g2:=fun e=>hYo g2 rfl e.symm
     have hYg':¬g2=Y:=hYo g2 rfl
     obtain⟨cu,hcu⟩:∃cu,w5.heap[g2]? =some (.cells cu 285 (0,0)):=hout5.block rfl
     have p3:w5.cell? ⟨Y,3,none⟩=some (.int .i64 y.len):=Cx hY5 3
     have p12:w5.cell? ⟨Y,12,none⟩=some (.string ⟨y.text.toArray⟩):=Cx hY5 12
     have u3:=Fx hcu (z*13+3)
     have u12:=Fx hcu (z*13+12)
     clear hz hnz hq e2 hm hset hlenq y0 y1 y2 y4 y5 y6 y7 y8 y9 y10 y11 HNN
     go_upto_region 6 with(fail)
     go_cut[] (fun wx=>wx=(w5.setCell ⟨g2,z*13+3,none⟩ (.int .i64 ((q.len:Int)+(y.len:Int)))).drew)
     case first=>
      go_region
      all_goals
       go_wp2_with fail
       go_meet
       rfl
     case rest=>
      have hcu6:wc.heap[g2]? =some (.cells (cu.setIfInBounds (z*13+3) (.int .i64 ((q.len:Int)+(y.len:Int)))) 285 (0,0)):=by rw[hcut];exact heap_set hcu _ _
      have hY6:CQ Y y wc:=by rw[hcut];exact AP hY5 hYg _
      have q12:wc.cell? ⟨g2,z*13+12,none⟩=some (.string ⟨q.text.toArray⟩):=by
       rw[Cx hcu6,GA,Ae (by omega),←Cx hcu]
       exact y12
      have p12:wc.cell? ⟨Y,12,none⟩=some (.string ⟨y.text.toArray⟩):=Cx hY6 12
      have u12:=Fx hcu6 (z*13+12)
      have k6:Aa (At1 g2) w5 wc:=by rw[hcut];exact(((Aa.refl _ _).set1 _).drew)
      have HC6:=Hx hcut
      clear hcut hcu6 hY6
      obtain⟨w6,hw6⟩:∃x,x=wc:=⟨_,rfl⟩
      subst hw6
      go_upto_region 7 with(fail)
      go_cut[] (fun wx=>wx=(w6.setCell ⟨g2,z*13+12,none⟩ (.string ⟨(q.text++y.text).toArray⟩)).drew)
      case first=>
       have hcat:ByteArray.mk q.text.toArray++ByteArray.mk y.text.toArray=ByteArray.mk (q.text++y.text).toArray:=by
        apply ByteArray.ext
        rw[ByteArray.data_append]
        simp
       have hmx:¬9223372036854775807<q.text.length+y.text.length:=by
        have h1:(q.text.length:Int)+(y.text.length:Int)≤2000000:=hadd1
        omega
       go_region
       all_goals
        go_wp2_with fail
        go_meet
        rfl
      case rest=>
       have k7:Aa (At1 g2) w6 wc:=by rw[hcut];exact(((Aa.refl _ _).set1 _).drew)
       have hfin:Aq 285 13 Af (.slice (some ⟨g2,0,none⟩) nn c2) (acc.set z {q with text:=q.text++y.text}) wc:=by
        have h:=HSET.out {q with text:=q.text++y.text} (.int .i64 ((q.len:Int)+(y.len:Int))) (.string ⟨(q.text++y.text).toArray⟩) (by
         unfold Af Dc.Run.len
         simp)
        rw[hcut,HC6.out]
        exact h
       clear hcut
       go_wp2_with fail
       go_roundg (l.length-(k+1))
       case measure=>omega
       case rel=>
        exact⟨k+1,by go_num,hlt,Ac _,by rw[HM.out];exact hfin,hown,(kw5.step k6 fun x hx hl=>by unfold At1 at hx;omega).step k7 fun x hx hl=>by unfold At1 at hx;omega⟩
  ·obtain rfl:k=l.length:=by omega
   rw[AH]at hout
   have b0:=kr.heap h1 id
   have u0:=Fx b0 0
   have y0:=Cx b0 0
   have hb2:u2.ownBlock≠some b:=fun e=>by have:=hown b e;have:=Ao h1;omega
   obtain⟨so,nn,c2,rfl⟩:=hout.slice
   go_wp2_with fail
   go_end0
   refine⟨rfl,⟨_,heap_set b0 0 _,hout.keeps ((Aa.refl (At1 b) wr).set1 (o:=0) _) (fun x hx e=>hb2 (by rw[hx];exact congrArg some e)),.inl f1,fun x hx=> .inr (hown x hx)⟩,(kr.any (S:=F)).setCell (a:=⟨b,0,none⟩) (fun _=>f1) _⟩
end
end Go.Proofs.YthfjefcljeamgaaGreatDoor
