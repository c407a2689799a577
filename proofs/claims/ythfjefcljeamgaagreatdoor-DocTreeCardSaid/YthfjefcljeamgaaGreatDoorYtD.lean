/- joined: A text that many write at once: the outermost character below one on a side. A text that many write at once: where the first character of an op joins the tree. -/
import Derived.Test.YthfjefcljeamgaaGreatDoorYtB
namespace Go.Proofs.YthfjefcljeamgaaGreatDoor
set_option maxRecDepth 100000
set_option maxHeartbeats 4000000
section
open Go.RowKit
attribute [local go_sem ↓] Go.wp_at_zero Go.wp_at_succ
theorem OF{N:Dc.C5}{s:Bool}{c:Dc.Chr}{n:Dc.CP}(h:N c=some n)(hl:n.side s=[]):Dc.FW N s c=c:=by
 refine Dc.PM (.stop ?_)
 unfold Dc.Ly
 rw[h]
 simp only
 unfold Dc.CP.side at hl
 cases s with
 |true=>simp only[if_true]at hl⊢;rw[hl];rfl
 |false=>simp at hl⊢;rw[hl]
theorem TT{N:Dc.C5}{rk:Dc.Chr→Nat}{B M:Nat}(hok:Dc.BZ N rk B M){s:Bool}{c x:Dc.Chr}{n:Dc.CP}(h:N c=some n)(hx:(if s then n.r.getLast? else n.l.head?)=some x):
  Dc.FW N s c=Dc.FW N s x∧N x≠none∧rk c<rk x∧rk x≤B:=by
 have he:Dc.Ly N s c=some x:=by unfold Dc.Ly;rw[h];exact hx
 obtain⟨h1,h2,h3⟩:=Dc.Nc hok he
 exact⟨Dc.PM (.go he (Dc.PL hok s h2).1),h2,h3,hok.bound x h2⟩
theorem Aq.chrO{l:List Dc.Chr}{w:World}{g n cap:Nat}(h:Aq 26 3 AE (.slice (some ⟨g,0,none⟩) n cap) l w){k:Nat}(hk:k<l.length):
  w.cell? ⟨g,k*3,none⟩=some (.int .i64 (l[k]'hk).op.R)∧w.cell? ⟨g,k*3+1,none⟩=some (.int .i64 (l[k]'hk).op.N)∧w.cell? ⟨g,k*3+2,none⟩=some (.int .i64 (l[k]'hk).i):=by
 have hc:=fun r (hr:r<3)=>h.cell (fun _=>rfl) hk hr
 exact⟨hc 0 (by decide),hc 1 (by decide),hc 2 (by decide)⟩
def RN(q:Dc.Chr)(w:World)(e:Ending)(w':World):Prop:=e= .returned (CE q)∧Aa No w w'
theorem UG{F:Nat→Prop}{b:Nat}{t:Dc.YT}{w:World}(h:Dx F b t w){rk:Dc.Chr→Nat}{B M:Nat}(hok:Dc.BZ t.nodes rk B M)(hM:M≤1000000)(c:Dc.Chr)(hc:t.nodes c≠none):
  Calls Tryz.prog 302 #[.pointer (some ⟨b,0,none⟩),CE c,.int .i64 0] w (RN (Dc.FW t.nodes false c) w):=by
 obtain⟨lab,br,bn,nv,h1,h2,h3,h4,h5,h6⟩:=h
 obtain⟨q,hq⟩:∃q,q=Dc.FW t.nodes false c:=⟨_,rfl⟩
 rw[←hq]
 have HQ:=Hx hq
 have HOK:=Hx hok
 have H6:=Hx h6
 have HC:=Hx hc
 obtain⟨⟨cR,cN⟩,cI⟩:=c
 have HB:=Hx h2
 have HLAB:=Hx (fun k hk=>(h1 k hk).2)
 clear hq h1 h3 h4 h5 h6 hc hok h2
 go_enter Tryz.func302,Tryz.ntmps302
 go_wp2_with fail
 have k1:Aa No w ((w.alloc (.cells #[.int .i64 cR,.int .i64 cN,.int .i64 cI] 26)).alloc (.cells #[.int .i64 0,.int .i64 0,.int .i64 0] 26)):=Kx
 have hA:=Ab (Nx w (.cells #[.int .i64 cR,.int .i64 cN,.int .i64 cI] 26)) (.cells #[.int .i64 0,.int .i64 0,.int .i64 0] 26)
 have hR:=Nx (w.alloc (.cells #[.int .i64 cR,.int .i64 cN,.int .i64 cI] 26)) (.cells #[.int .i64 0,.int .i64 0,.int .i64 0] 26)
 rw[World.size_alloc]at hR
 generalize (w.alloc (.cells #[.int .i64 cR,.int .i64 cN,.int .i64 cI] 26)).alloc (.cells #[.int .i64 0,.int .i64 0,.int .i64 0] 26)=w1 at k1 hA hR⊢
 obtain⟨R,eR⟩:∃R,R=w.heap.size+1:=⟨_,rfl⟩
 obtain⟨A,eA⟩:∃A,A=w.heap.size:=⟨_,rfl⟩
 rw[←eR]at hR
 rw[←eA]at hA
 rw[←eR,←eA]
 have hAR:¬A=R:=by omega
 have hRA:¬R=A:=by omega
 have hAw:w.heap.size≤A:=by omega
 have hRw:w.heap.size≤R:=by omega
 clear eR eA
 go_loopg [] (B-rk ⟨⟨cR,cN⟩,cI⟩) (fun kx wr=>∃(x:Dc.Chr),wr.heap[A]? =some (.cells #[.int .i64 x.op.R,.int .i64 x.op.N,.int .i64 x.i] 26 (0,0))∧wr.heap[R]? =some (.cells #[.int .i64 0,.int .i64 0,.int .i64 0] 26 (0,0))∧t.nodes x≠none∧Dc.FW t.nodes false x=q∧B-rk x≤kx∧Aa No w wr)
 case atStart=>exact⟨⟨⟨cR,cN⟩,cI⟩,hA,hR,HC.out,HQ.out.symm,Ac _,k1⟩
 case round=>
  obtain⟨x,hAx,hRx,hx,hqx,hrx,kr⟩:=hrel
  clear hA hR
  obtain⟨n,hn⟩:=BQ.1 hx
  obtain⟨k,hk,hnode⟩:=(H6.out.no kr).get hn
  obtain⟨_,vl,vr,hkk,hvl,hvr,hol,hor⟩:=hnode
  have hlen:=HOK.out.small x n false hn
  have HL:=Hx (fun W (kk:Aa No w W)=>C7 (H6.out.1.keeps kk id) x.op.R x.op.N x.i)
  have hp:D5 (nv ⟨⟨x.op.R,x.op.N⟩,x.i⟩)= .pointer (some ⟨k,0,none⟩):=by rw[show(⟨⟨x.op.R,x.op.N⟩,x.i⟩:Dc.Chr)=x from rfl,hk];rfl
  rw[hp]at HL
  obtain⟨l,hl⟩:∃l,l=n.l:=⟨_,rfl⟩
  rw[←hl]at hvl
  have hside:n.side false=l:=by rw[hl];rfl
  rw[hside]at hlen
  obtain⟨ao,cp,rfl⟩:∃ao cp,vl= .slice ao l.length cp:=by
   rcases hvl.form with⟨rfl,e⟩|⟨g',cap,_,rfl,_⟩
   ·rw[e];exact⟨none,0,rfl⟩
   ·exact⟨_,cap,rfl⟩
  have A0:=Ex (Cx hAx 0)
  have A1:=Ex (Cx hAx 1)
  have A2:=Ex (Cx hAx 2)
  have B1:=Ex (Cx (kr.heap HB.out id) 1)
  have N3:=Ex (Cx hkk 3)
  have lk:=fun d os=>HL.out _ (kr.trans (Ag wr d os))
  have HN:=Hx hn
  have HSD:=Hx hside
  have HL2:=Hx hl
  clear hn hk hp hx hside hl
  go_upto_region 1 with(fail)
  refine wp_region_quiet_below Rx Rx ?_
  repeat(quiet_step(fail))
  refine wpQuiet_nil ?_
  intro _ hw'
  obtain⟨⟨dq,osq⟩,hw''⟩:=hw'
  subst hw''
  have k3:Aa No wr (Sort.grow (redrawn wr dq) osq):=Ag wr dq osq
  clear A0 A1 A2 B1 N3 lk
  generalize Sort.grow (redrawn wr dq) osq=w3 at k3⊢
  have hAx3:=k3.heap hAx id
  have hRx3:=k3.heap hRx id
  have hrow:=hvl.no k3
  have kw3:=kr.trans k3
  have a0:=Cx hAx3 0
  have a1:=Cx hAx3 1
  have a2:=Cx hAx3 2
  have uR0:=Fx hRx3 0
  have uR1:=Fx hRx3 1
  have uR2:=Fx hRx3 2
  have r0:=Cx hRx3 0
  have r1:=Cx hRx3 1
  have r2:=Cx hRx3 2
  have uA0:=Fx hAx3 0
  have uA1:=Fx hAx3 1
  have uA2:=Fx hAx3 2
  clear hAx hRx hvl hvr hkk
  by_cases hpos:0<l.length
  rotate_left
  ·obtain rfl:l=[]:=LN (by omega)
   have hst:=OF HN.out HSD.out
   rw[hqx]at hst
   subst hst
   clear hqx HQ HSD HL2 hrow
   go_wp2_with fail
   have hfin:=heap_set (heap_set (heap_set hRx3 0 (.int .i64 q.op.R)) 1 (.int .i64 q.op.N)) 2 (.int .i64 q.i)
   refine bodyPost_ret (CX rfl rfl hfin Tryz.underlying26 rfl Rx) rfl ⟨rfl,?_⟩
   exact((kw3.setNew hRw _).setNew hRw _).setNew hRw _
  ·obtain⟨z,hz⟩:∃z,z=0:=⟨_,rfl⟩
   have hzl:z<l.length:=by omega
   have hgo:=TT HOK.out (s:=false) (x:=l[z]'hzl) HN.out (by rw[Ae (by decide),←HL2.out,List.head?_eq_getElem?];subst hz;exact Aj hzl)
   rw[hqx]at hgo
   obtain⟨g,cap,e1,_,_⟩:=hrow.at hpos
   injection e1 with e1 e2 e3
   subst e1 e3
   obtain⟨y0,y1,y2⟩:=hrow.chrO hzl
   obtain⟨yy,hyy⟩:∃yy,yy=l[z]'hzl:=⟨_,rfl⟩
   rw[←hyy]at y0 y1 y2 hgo
   have hgA:¬g=A:=fun e=>by have:=HLAB.out g (by rw[hol g rfl];simp);omega
   have HGO:=Hx hgo
   clear hyy
   subst hz
   have hI:(0:Int)<(l.length:Int):=by omega
   have hI2:0<l.length:=hpos
   have hIe:¬((l.length:Int)=0):=by omega
   have hIe2:¬(l.length=0):=by omega
   rw[Nat.zero_mul]at y0 y1 y2
   clear hqx HQ HSD HL2 hrow e2
   go_wp2_with fail
   have hfin:=heap_set (heap_set (heap_set hAx3 0 (.int .i64 yy.op.R)) 1 (.int .i64 yy.op.N)) 2 (.int .i64 yy.i)
   have hfinR:=AP (AP (AP hRx3 hRA (j:=0) (.int .i64 yy.op.R)) hRA (j:=1) (.int .i64 yy.op.N)) hRA (j:=2) (.int .i64 yy.i)
   go_roundg (B-rk yy)
   case measure=>have:=HGO.out.2.2;omega
   case rel=>exact⟨yy,hfin,hfinR,HGO.out.2.1,HGO.out.1.symm,Ac _,((kw3.setNew hAw _).setNew hAw _).setNew hAw _⟩
theorem OG{F:Nat→Prop}{b:Nat}{t:Dc.YT}{w:World}(h:Dx F b t w){rk:Dc.Chr→Nat}{B M:Nat}(hok:Dc.BZ t.nodes rk B M)(hM:M≤1000000)(c:Dc.Chr)(hc:t.nodes c≠none):
  Calls Tryz.prog 302 #[.pointer (some ⟨b,0,none⟩),CE c,.int .i64 1] w (RN (Dc.FW t.nodes true c) w):=by
 obtain⟨lab,br,bn,nv,h1,h2,h3,h4,h5,h6⟩:=h
 obtain⟨q,hq⟩:∃q,q=Dc.FW t.nodes true c:=⟨_,rfl⟩
 rw[←hq]
 have HQ:=Hx hq
 have HOK:=Hx hok
 have H6:=Hx h6
 have HC:=Hx hc
 obtain⟨⟨cR,cN⟩,cI⟩:=c
 have HB:=Hx h2
 have HLAB:=Hx (fun k hk=>(h1 k hk).2)
 clear hq h1 h3 h4 h5 h6 hc hok h2
 go_enter Tryz.func302,Tryz.ntmps302
 go_wp2_with fail
 have k1:Aa No w ((w.alloc (.cells #[.int .i64 cR,.int .i64 cN,.int .i64 cI] 26)).alloc (.cells #[.int .i64 0,.int .i64 0,.int .i64 0] 26)):=Kx
 have hA:=Ab (Nx w (.cells #[.int .i64 cR,.int .i64 cN,.int .i64 cI] 26)) (.cells #[.int .i64 0,.int .i64 0,.int .i64 0] 26)
 have hR:=Nx (w.alloc (.cells #[.int .i64 cR,.int .i64 cN,.int .i64 cI] 26)) (.cells #[.int .i64 0,.int .i64 0,.int .i64 0] 26)
 rw[World.size_alloc]at hR
 generalize (w.alloc (.cells #[.int .i64 cR,.int .i64 cN,.int .i64 cI] 26)).alloc (.cells #[.int .i64 0,.int .i64 0,.int .i64 0] 26)=w1 at k1 hA hR⊢
 obtain⟨R,eR⟩:∃R,R=w.heap.size+1:=⟨_,rfl⟩
 obtain⟨A,eA⟩:∃A,A=w.heap.size:=⟨_,rfl⟩
 rw[←eR]at hR
 rw[←eA]at hA
 rw[←eR,←eA]
 have hAR:¬A=R:=by omega
 have hRA:¬R=A:=by omega
 have hAw:w.heap.size≤A:=by omega
 have hRw:w.heap.size≤R:=by omega
 clear eR eA
 go_loopg [] (B-rk ⟨⟨cR,cN⟩,cI⟩) (fun kx wr=>∃(x:Dc.Chr),wr.heap[A]? =some (.cells #[.int .i64 x.op.R,.int .i64 x.op.N,.int .i64 x.i] 26 (0,0))∧wr.heap[R]? =some (.cells #[.int .i64 0,.int .i64 0,.int .i64 0] 26 (0,0))∧t.nodes x≠none∧Dc.FW t.nodes true x=q∧B-rk x≤kx∧Aa No w wr)
 case atStart=>exact⟨⟨⟨cR,cN⟩,cI⟩,hA,hR,HC.out,HQ.out.symm,Ac _,k1⟩
 case round=>
  obtain⟨x,hAx,hRx,hx,hqx,hrx,kr⟩:=hrel
  clear hA hR
  obtain⟨n,hn⟩:=BQ.1 hx
  obtain⟨k,hk,hnode⟩:=(H6.out.no kr).get hn
  obtain⟨_,vl,vr,hkk,hvl,hvr,hol,hor⟩:=hnode
  have hlen:=HOK.out.small x n true hn
  have HL:=Hx (fun W (kk:Aa No w W)=>C7 (H6.out.1.keeps kk id) x.op.R x.op.N x.i)
  have hp:D5 (nv ⟨⟨x.op.R,x.op.N⟩,x.i⟩)= .pointer (some ⟨k,0,none⟩):=by rw[show(⟨⟨x.op.R,x.op.N⟩,x.i⟩:Dc.Chr)=x from rfl,hk];rfl
  rw[hp]at HL
  obtain⟨l,hl⟩:∃l,l=n.r:=⟨_,rfl⟩
  rw[←hl]at hvr
  have hside:n.side true=l:=by rw[hl];rfl
  rw[hside]at hlen
  obtain⟨ao,cp,rfl⟩:∃ao cp,vr= .slice ao l.length cp:=by
   rcases hvr.form with⟨rfl,e⟩|⟨g',cap,_,rfl,_⟩
   ·rw[e];exact⟨none,0,rfl⟩
   ·exact⟨_,cap,rfl⟩
  have A0:=Ex (Cx hAx 0)
  have A1:=Ex (Cx hAx 1)
  have A2:=Ex (Cx hAx 2)
  have B1:=Ex (Cx (kr.heap HB.out id) 1)
  have N3:=Ex (Cx hkk 4)
  have lk:=fun d os=>HL.out _ (kr.trans (Ag wr d os))
  have HN:=Hx hn
  have HSD:=Hx hside
  have HL2:=Hx hl
  clear hn hk hp hx hside hl
  go_upto_region 1 with(fail)
  refine wp_region_quiet_below Rx Rx ?_
  repeat(quiet_step(fail))
  refine wpQuiet_nil ?_
  intro _ hw'
  obtain⟨⟨dq,osq⟩,hw''⟩:=hw'
  subst hw''
  have k3:Aa No wr (Sort.grow (redrawn wr dq) osq):=Ag wr dq osq
  clear A0 A1 A2 B1 N3 lk
  generalize Sort.grow (redrawn wr dq) osq=w3 at k3⊢
  have hAx3:=k3.heap hAx id
  have hRx3:=k3.heap hRx id
  have hrow:=hvr.no k3
  have kw3:=kr.trans k3
  have a0:=Cx hAx3 0
  have a1:=Cx hAx3 1
  have a2:=Cx hAx3 2
  have uR0:=Fx hRx3 0
  have uR1:=Fx hRx3 1
  have uR2:=Fx hRx3 2
  have r0:=Cx hRx3 0
  have r1:=Cx hRx3 1
  have r2:=Cx hRx3 2
  have uA0:=Fx hAx3 0
  have uA1:=Fx hAx3 1
  have uA2:=Fx hAx3 2
  clear hAx hRx hvl hvr hkk
  by_cases hpos:0<l.length
  rotate_left
  ·obtain rfl:l=[]:=LN (by omega)
   have hst:=OF HN.out HSD.out
   rw[hqx]at hst
   subst hst
   clear hqx HQ HSD HL2 hrow
   go_wp2_with fail
   have hfin:=heap_set (heap_set (heap_set hRx3 0 (.int .i64 q.op.R)) 1 (.int .i64 q.op.N)) 2 (.int .i64 q.i)
   refine bodyPost_ret (CX rfl rfl hfin Tryz.underlying26 rfl Rx) rfl ⟨rfl,?_⟩
   exact((kw3.setNew hRw _).setNew hRw _).setNew hRw _
  ·obtain⟨z,hz⟩:∃z,z=l.length-1:=⟨_,rfl⟩
   have hzl:z<l.length:=by omega
   have hgo:=TT HOK.out (s:=true) (x:=l[z]'hzl) HN.out (by rw[Ak rfl,←HL2.out,List.getLast?_eq_getElem?];subst hz;exact Aj hzl)
   rw[hqx]at hgo
   obtain⟨g,cap,e1,_,_⟩:=hrow.at hpos
   injection e1 with e1 e2 e3
   subst e1 e3
   obtain⟨y0,y1,y2⟩:=hrow.chrO hzl
   obtain⟨yy,hyy⟩:∃yy,yy=l[z]'hzl:=⟨_,rfl⟩
   rw[←hyy]at y0 y1 y2 hgo
   have hgA:¬g=A:=fun e=>by have:=HLAB.out g (by rw[hor g rfl];simp);omega
   have HGO:=Hx hgo
   have hIe:¬((l.length:Int)=0):=by omega
   have hIe2:¬(l.length=0):=by omega
   have hzw:IntKind.i64.wrap ((l.length:Int)-1)=(z:Int):=by rw[IntKind.wrap_i64];omega
   have hz0:(0:Int)≤(z:Int):=by omega
   have hz1:(z:Int)<(l.length:Int):=by omega
   obtain⟨ll,hll⟩:∃ll,ll=l.length:=⟨_,rfl⟩
   rw[←hll]at hIe hIe2 hzw hz1⊢
   have HZ:=Hx hz
   clear hyy hgo
   clear hz hll hzl hpos
   clear hqx HQ HSD HL2 hrow e2
   go_wp2_with fail
   have hfin:=heap_set (heap_set (heap_set hAx3 0 (.int .i64 yy.op.R)) 1 (.int .i64 yy.op.N)) 2 (.int .i64 yy.i)
   have hfinR:=AP (AP (AP hRx3 hRA (j:=0) (.int .i64 yy.op.R)) hRA (j:=1) (.int .i64 yy.op.N)) hRA (j:=2) (.int .i64 yy.i)
   go_roundg (B-rk yy)
   case measure=>have:=HGO.out.2.2;omega
   case rel=>exact⟨yy,hfin,hfinR,HGO.out.2.1,HGO.out.1.symm,Ac _,((kw3.setNew hAw _).setNew hAw _).setNew hAw _⟩
end
section
open Go.RowKit
attribute [local go_sem ↓] Go.wp_at_zero Go.wp_at_succ
theorem Og(c:Dc.Chr)(id':Off.Bid)(w:World):
  Calls Tryz.prog 294 #[CE c,idV id'] w fun e w'=>e= .returned (.int .i64 (Dc.BD c.op id'))∧Aa No w w':=by
 obtain⟨⟨R,N⟩,I⟩:=c
 obtain⟨R',N'⟩:=id'
 go_enter Tryz.func294,Tryz.ntmps294
 go_wp2_with(go_at_call 155;refine(Gt _ _ _ _ _).mono ?_;rintro e w2 ⟨rfl,k2⟩)
 go_ret
 exact⟨rfl,Kx⟩
def Ld(s:Bool):Int:=if s then 1 else 0
@[reducible] def Me(s:Dc.Kv):Value:= .agg #[.int .i64 s.up.op.R,.int .i64 s.up.op.N,.int .i64 s.up.i,.int .i64 (Ld s.side),.int .i64 s.pos]
def VT(s:Dc.Kv)(w:World)(e:Ending)(w':World):Prop:=e= .returned (Me s)∧Aa No w w'
theorem Vk{F:Nat→Prop}{b:Nat}{t:Dc.YT}{w:World}(h:Dx F b t w)(hE:Env w){rk:Dc.Chr→Nat}{B M:Nat}(hok:Dc.BZ t.nodes rk B M)(hM:M≤1000000)(o:Dc.Op)(cv:Value)(hl:t.nodes o.left≠none)(hr:t.nodes o.right≠none):
  Calls Tryz.prog 266 #[.pointer (some ⟨b,0,none⟩),opV o cv] w (VT (Dc.BG t.nodes o) w):=by
 have HY:=Hx h
 obtain⟨lft,hlft⟩:∃lft,lft=(decide (o.right≠ .z)&&Dc.IJ t.nodes o.left o.right):=⟨_,rfl⟩
 have hst:Dc.BG t.nodes o=⟨if lft then o.right else o.left,!lft,Dc.GM (Dc.EU t.nodes (if lft then o.right else o.left) (!lft)) o.id⟩:=by unfold Dc.BG;simp only;rw[←hlft]
 have HST:=Hx hst
 have HLF:=Hx hlft
 have HOK:=Hx hok
 have HLL:=Hx hl
 have HRR:=Hx hr
 generalize Dc.BG t.nodes o=seat at HST⊢
 clear h hst hlft hok hl hr
 go_enter Tryz.func266,Tryz.ntmps266
 go_upto_region 1 with(fail)
 have hP:=Ab (Nx w (.cells (As o cv) 29)) (.cells #[.int .i64 0,.int .i64 0,.int .i64 0,.int .i64 0,.int .i64 0] 377)
 have hZ:=Nx (w.alloc (.cells (As o cv) 29)) (.cells #[.int .i64 0,.int .i64 0,.int .i64 0,.int .i64 0,.int .i64 0] 377)
 have k1:Aa No w ((w.alloc (.cells (As o cv) 29)).alloc (.cells #[.int .i64 0,.int .i64 0,.int .i64 0,.int .i64 0,.int .i64 0] 377)):=((Aa.refl No w).alloc _).alloc _
 rw[World.size_alloc]at hZ
 generalize (w.alloc (.cells (As o cv) 29)).alloc (.cells #[.int .i64 0,.int .i64 0,.int .i64 0,.int .i64 0,.int .i64 0] 377)=w1 at hP hZ k1⊢
 obtain⟨Z,eZ⟩:∃Z,Z=w.heap.size+1:=⟨_,rfl⟩
 obtain⟨P,eP⟩:∃P,P=w.heap.size:=⟨_,rfl⟩
 rw[←eZ]at hZ
 rw[←eP]at hP
 rw[←eZ,←eP]
 have hPw:w.heap.size≤P:=by omega
 have hZw:w.heap.size≤Z:=by omega
 have hPZ:¬P=Z:=by omega
 clear eZ eP
 have p11:=Cx hP 11
 have p12:=Cx hP 12
 have p13:=Cx hP 13
 go_upto_region 2 with(fail)
 have k2:Aa No w1 (w1.alloc (.cells #[.int .i64 o.left.op.R,.int .i64 o.left.op.N,.int .i64 o.left.i,.int .i64 1,.int .i64 0] 377)):=(Aa.refl No w1).alloc _
 have hS:=Nx w1 (.cells #[.int .i64 o.left.op.R,.int .i64 o.left.op.N,.int .i64 o.left.i,.int .i64 1,.int .i64 0] 377)
 generalize w1.alloc (.cells #[.int .i64 o.left.op.R,.int .i64 o.left.op.N,.int .i64 o.left.i,.int .i64 1,.int .i64 0] 377)=w2 at k2 hS⊢
 obtain⟨S,eS⟩:∃S,S=w1.heap.size:=⟨_,rfl⟩
 rw[←eS]at hS⊢
 have hSZ:¬S=Z:=fun e=>by have:=Ao hZ;omega
 have hSP:¬S=P:=fun e=>by have:=Ao hP;omega
 have hSw:w.heap.size≤S:=by have:=k1.size;omega
 clear eS p11 p12 p13
 have kw2:=k1.trans k2
 have hP2:=k2.heap hP id
 have hZ2:=k2.heap hZ id
 have hE2:=hE.no kw2
 have HP2:=Hx hP2
 have HZ2:=Hx hZ2
 have HS:=Hx hS
 clear hP hZ hS hP2 hZ2 k1 k2
 go_cut[21] (fun s21 wx=>s21= .bool lft∧Aa No w2 wx)
 case first=>
  have p11:=Cx HP2.out 11
  have p12:=Cx HP2.out 12
  have p13:=Cx HP2.out 13
  have p14:=Cx HP2.out 14
  have p15:=Cx HP2.out 15
  have p16:=Cx HP2.out 16
  have e0:=hE2.start0
  have e1:=hE2.start1
  have e2:=hE2.start2
  by_cases hz:o.right= .z
  ·have hf:lft=false:=by rw[HLF.out,hz];rfl
   subst hf
   have z0:o.right.op.R=0:=by rw[hz];rfl
   have z1:o.right.op.N=0:=by rw[hz];rfl
   have z2:o.right.i=0:=by rw[hz];rfl
   clear hz HLF
   go_wp2_with fail
   go_meet
   exact⟨rfl,Aa.refl _ _⟩
  ·have hab:Dc.IJ t.nodes o.left o.right=lft:=by rw[HLF.out];simp[hz]
   have hcall:=U0 (HY.out.no kw2) hE2 HOK.out o.left o.right HRR.out hz
   rw[hab]at hcall
   have HC:=Hx hcall
   have hd:=Nl hz
   have hd':(¬o.right.op.R=0)∨(o.right.op.R=0∧¬o.right.op.N=0)∨(o.right.op.R=0∧o.right.op.N=0∧¬o.right.i=0):=hd
   clear hd hcall hab hz HLF
   rcases hd' with d|⟨d0,d⟩|⟨d0,d1,d⟩
   focus
    go_wp2_with(go_at_call 292;refine HC.out.mono ?_;rintro e w3 ⟨rfl,k3⟩)
    go_meet
    exact⟨rfl,k3⟩
   focus
    generalize hrr:o.right=rr at*
    obtain⟨⟨rR,rN⟩,rI⟩:=rr
    simp only at d0 d
    subst d0
    go_wp2_with(go_at_call 292;refine HC.out.mono ?_;rintro e w3 ⟨rfl,k3⟩)
    go_meet
    exact⟨rfl,k3⟩
   focus
    generalize hrr:o.right=rr at*
    obtain⟨⟨rR,rN⟩,rI⟩:=rr
    simp only at d0 d1 d
    subst d0 d1
    go_wp2_with(go_at_call 292;refine HC.out.mono ?_;rintro e w3 ⟨rfl,k3⟩)
    go_meet
    exact⟨rfl,k3⟩
 case rest=>
  obtain⟨rfl,k3⟩:=hcut
  obtain⟨w3,hw3⟩:∃y,y=wc:=⟨_,rfl⟩
  subst hw3
  have kw3:=kw2.trans k3
  have hP3:=k3.heap HP2.out id
  have hZ3:=k3.heap HZ2.out id
  have hS3:=k3.heap HS.out id
  cases lft with
  |true=>
   have p14:=Cx hP3 14
   have p15:=Cx hP3 15
   have p16:=Cx hP3 16
   have s0:=Cx hS3
   have y0:=Fx hS3
   go_upto_region 4 with(fail)
   have hS4:=heap_set (heap_set (heap_set (heap_set hS3 0 (.int .i64 o.right.op.R)) 1 (.int .i64 o.right.op.N)) 2 (.int .i64 o.right.i)) 3 (.int .i64 0)
   have hP4:=AP (AP (AP (AP hP3 (b':=S) (j:=0) (fun e=>hSP e.symm) (.int .i64 o.right.op.R)) (j:=1) (fun e=>hSP e.symm) (.int .i64 o.right.op.N)) (j:=2) (fun e=>hSP e.symm) (.int .i64 o.right.i)) (j:=3) (fun e=>hSP e.symm) (.int .i64 0)
   have hZ4:=AP (AP (AP (AP hZ3 (b':=S) (j:=0) (fun e=>hSZ e.symm) (.int .i64 o.right.op.R)) (j:=1) (fun e=>hSZ e.symm) (.int .i64 o.right.op.N)) (j:=2) (fun e=>hSZ e.symm) (.int .i64 o.right.i)) (j:=3) (fun e=>hSZ e.symm) (.int .i64 0)
   have kw4:=(((kw3.setNew hSw (j:=0) (.int .i64 o.right.op.R)).setNew hSw (j:=1) (.int .i64 o.right.op.N)).setNew hSw (j:=2) (.int .i64 o.right.i)).setNew hSw (j:=3) (.int .i64 0)
   clear p14 p15 p16 s0 y0 hS3 hP3 hZ3
   generalize (((w3.setCell ⟨S,0,none⟩ (.int .i64 o.right.op.R)).setCell ⟨S,1,none⟩ (.int .i64 o.right.op.N)).setCell ⟨S,2,none⟩ (.int .i64 o.right.i)).setCell ⟨S,3,none⟩ (.int .i64 0)=w4 at hS4 hP4 hZ4 kw4⊢
   obtain⟨n,hn⟩:=BQ.1 HRR.out
   obtain⟨lab,br,bn,nv,hl1,hl2,hl3,hl4,hl5,hl6⟩:=HY.out
   obtain⟨k,hk,hnode⟩:=(hl6.no kw4).get hn
   obtain⟨_,vl,vr,hkk,hvl,hvr,hol,hor⟩:=hnode
   have hlen:=HOK.out.small _ n false hn
   obtain⟨l,hl⟩:∃l,l=n.l:=⟨_,rfl⟩
   rw[←hl]at hvl
   have hside:n.side false=l:=by rw[hl];rfl
   have hsort:=HOK.out.sorted _ n false hn
   rw[hside]at hlen hsort
   have hseat:seat=⟨o.right,false,Dc.GM l o.id⟩:=by
    rw[HST.out]
    have e:Dc.EU t.nodes o.right false=l:=by unfold Dc.EU;rw[hn];exact hside
    show(⟨o.right,false,Dc.GM (Dc.EU t.nodes o.right false) o.id⟩:Dc.Kv)=_
    rw[e]
   obtain⟨p,hp⟩:∃p,p=Dc.GM l o.id:=⟨_,rfl⟩
   rw[←hp]at hseat
   have hple:p≤l.length:=by rw[hp];exact Dc.H8 _ _
   have hspl:∀j (hj:j<l.length),decide (Dc.BD (l[j]'hj).op o.id<0)=decide (j<p):=fun j hj=>by rw[hp];exact Dc.I3 hsort _ j hj
   have HL:=Hx (fun W (kk:Aa No w W)=>C7 (hl6.1.keeps kk id) o.right.op.R o.right.op.N o.right.i)
   have hpp:D5 (nv ⟨⟨o.right.op.R,o.right.op.N⟩,o.right.i⟩)= .pointer (some ⟨k,0,none⟩):=by rw[show(⟨⟨o.right.op.R,o.right.op.N⟩,o.right.i⟩:Dc.Chr)=o.right from rfl,hk];rfl
   rw[hpp]at HL
   obtain⟨ao,cp,rfl⟩:∃ao cp,vl= .slice ao l.length cp:=by
    rcases hvl.form with⟨rfl,e⟩|⟨g',cap,_,rfl,_⟩
    ·rw[e];exact⟨none,0,rfl⟩
    ·exact⟨_,cap,rfl⟩
   have eg:∀args w,(callFunc 294 args).run Tryz.prog w= .ok (.enter 294 args) w:=enters_of Tryz.func294 Rx rfl
   obtain⟨bb,hcall⟩:∃bb:Bool,∀W,Aa No w4 W→Calls Tryz.prog 293 #[.slice ao l.length cp,idV o.id,.func (.func 294) #[] #[]] W
     fun e w''=>e= .returned (.tuple #[.int .i64 p,.bool bb])∧Aa No W w'':=⟨decide (p<l.length)&&((if hk:p<l.length then Dc.BD (l[p]'hk).op o.id else 0)==0),fun W kk=>
    OR (.slice ao l.length cp) l o.id 294 #[] (fun j=>if hk:j<l.length then Dc.BD (l[j]'hk).op o.id else 0) p W (hvl.no kk) eg
     (fun W' _ j hj=>by
      have:=Og (l[j]'hj) o.id W'
      simp only[GP hj]
      exact this) hple (fun j hj=>by simp only[GP hj];exact hspl j hj) (by omega)⟩
   have HC:=Hx hcall
   have HSEAT:=Hx hseat
   have HN3:=Hx hkk
   have HB4:=Hx (kw4.heap hl2 id)
   clear hl1 hl2 hl3 hl4 hl5 hl6 hn hk hvl hvr hkk hol hor hlen hsort hside hseat hp hspl hpp hcall eg hl
   go_upto_region 4 with(fail)
   have S0:=Ex (Cx hS4 0)
   have S1:=Ex (Cx hS4 1)
   have S2:=Ex (Cx hS4 2)
   have S3:=Ex (Cx hS4 3)
   have B1:=Ex (Cx HB4.out 1)
   have N3:=Ex (Cx HN3.out 3)
   have lk:=fun d os=>HL.out _ (kw4.trans (Ag w4 d os))
   refine wp_region_quiet_below Rx Rx ?_
   repeat(quiet_step(fail))
   refine wpQuiet_nil ?_
   intro _ hw'
   obtain⟨⟨dq,osq⟩,hw''⟩:=hw'
   subst hw''
   have k5:Aa No w4 (Sort.grow (redrawn w4 dq) osq):=Ag w4 dq osq
   clear S0 S1 S2 S3 B1 N3 lk
   generalize Sort.grow (redrawn w4 dq) osq=w5 at k5⊢
   have hP5:=k5.heap hP4 id
   have hS5:=k5.heap hS4 id
   have hZ5:=k5.heap hZ4 id
   have p1:=Cx hP5 1
   have p2:=Cx hP5 2
   have HC5:=Hx (HC.out _ k5)
   have kw5:=kw4.trans k5
   clear hP4 hS4 hZ4
   go_upto_region 6 with(go_at_call 293;refine HC5.out.mono ?_;rintro e w6 ⟨rfl,k6⟩;have hS6:=k6.heap hS5 id;have hZ6:=k6.heap hZ5 id;have s4:=Cx hS6 4;have u4:=Fx hS6 4)
   have hS7:=heap_set hS6 4 (.int .i64 p)
   have hZ7:=AP hZ6 (b':=S) (j:=4) (fun e=>hSZ e.symm) (.int .i64 p)
   have kw7:Aa No w (w6.setCell ⟨S,4,none⟩ (.int .i64 p)):=(kw5.trans k6).setNew hSw _
   clear s4 u4 hS6 hZ6 hS5 hZ5 p1 p2 hP5
   generalize w6.setCell ⟨S,4,none⟩ (.int .i64 p)=w7 at hS7 hZ7 kw7⊢
   have s0:=Cx hS7 0
   have s1:=Cx hS7 1
   have s2:=Cx hS7 2
   have s3:=Cx hS7 3
   have s4:=Cx hS7 4
   have z0:=Cx hZ7
   have y0:=Fx hZ7
   go_wp2_with fail
   have hfin:=heap_set (heap_set (heap_set (heap_set (heap_set hZ7 0 (.int .i64 o.right.op.R)) 1 (.int .i64 o.right.op.N)) 2 (.int .i64 o.right.i)) 3 (.int .i64 0)) 4 (.int .i64 p)
   refine bodyPost_ret (CX rfl rfl hfin Tryz.underlying377 rfl Rx) rfl ⟨?_,?_⟩
   ·rw[HSEAT.out];rfl
   ·exact((((kw7.setNew hZw _).setNew hZw _).setNew hZw _).setNew hZw _).setNew hZw _
  |false=>
   have hS4:=hS3
   have hP4:=hP3
   have hZ4:=hZ3
   have kw4:=kw3
   clear hS3 hP3 hZ3
   obtain⟨w4,hw4⟩:∃y,y=w3:=⟨_,rfl⟩
   subst hw4
   obtain⟨n,hn⟩:=BQ.1 HLL.out
   obtain⟨lab,br,bn,nv,hl1,hl2,hl3,hl4,hl5,hl6⟩:=HY.out
   obtain⟨k,hk,hnode⟩:=(hl6.no kw4).get hn
   obtain⟨_,vl,vr,hkk,hvl,hvr,hol,hor⟩:=hnode
   have hlen:=HOK.out.small _ n true hn
   obtain⟨l,hl⟩:∃l,l=n.r:=⟨_,rfl⟩
   rw[←hl]at hvr
   have hside:n.side true=l:=by rw[hl];rfl
   have hsort:=HOK.out.sorted _ n true hn
   rw[hside]at hlen hsort
   have hseat:seat=⟨o.left,true,Dc.GM l o.id⟩:=by
    rw[HST.out]
    have e:Dc.EU t.nodes o.left true=l:=by unfold Dc.EU;rw[hn];exact hside
    show(⟨o.left,true,Dc.GM (Dc.EU t.nodes o.left true) o.id⟩:Dc.Kv)=_
    rw[e]
   obtain⟨p,hp⟩:∃p,p=Dc.GM l o.id:=⟨_,rfl⟩
   rw[←hp]at hseat
   have hple:p≤l.length:=by rw[hp];exact Dc.H8 _ _
   have hspl:∀j (hj:j<l.length),decide (Dc.BD (l[j]'hj).op o.id<0)=decide (j<p):=fun j hj=>by rw[hp];exact Dc.I3 hsort _ j hj
   have HL:=Hx (fun W (kk:Aa No w W)=>C7 (hl6.1.keeps kk id) o.left.op.R o.left.op.N o.left.i)
   have hpp:D5 (nv ⟨⟨o.left.op.R,o.left.op.N⟩,o.left.i⟩)= .pointer (some ⟨k,0,none⟩):=by rw[show(⟨⟨o.left.op.R,o.left.op.N⟩,o.left.i⟩:Dc.Chr)=o.left from rfl,hk];rfl
   rw[hpp]at HL
   obtain⟨ao,cp,rfl⟩:∃ao cp,vr= .slice ao l.length cp:=by
    rcases hvr.form with⟨rfl,e⟩|⟨g',cap,_,rfl,_⟩
    ·rw[e];exact⟨none,0,rfl⟩
    ·exact⟨_,cap,rfl⟩
   have eg:∀args w,(callFunc 294 args).run Tryz.prog w= .ok (.enter 294 args) w:=enters_of Tryz.func294 Rx rfl
   obtain⟨bb,hcall⟩:∃bb:Bool,∀W,Aa No w4 W→Calls Tryz.prog 293 #[.slice ao l.length cp,idV o.id,.func (.func 294) #[] #[]] W
     fun e w''=>e= .returned (.tuple #[.int .i64 p,.bool bb])∧Aa No W w'':=⟨decide (p<l.length)&&((if hk:p<l.length then Dc.BD (l[p]'hk).op o.id else 0)==0),fun W kk=>
    OR (.slice ao l.length cp) l o.id 294 #[] (fun j=>if hk:j<l.length then Dc.BD (l[j]'hk).op o.id else 0) p W (hvr.no kk) eg
     (fun W' _ j hj=>by
      have:=Og (l[j]'hj) o.id W'
      simp only[GP hj]
      exact this) hple (fun j hj=>by simp only[GP hj];exact hspl j hj) (by omega)⟩
   have HC:=Hx hcall
   have HSEAT:=Hx hseat
   have HN3:=Hx hkk
   have HB4:=Hx (kw4.heap hl2 id)
   clear hl1 hl2 hl3 hl4 hl5 hl6 hn hk hvl hvr hkk hol hor hlen hsort hside hseat hp hspl hpp hcall eg hl
   go_upto_region 4 with(fail)
   have S0:=Ex (Cx hS4 0)
   have S1:=Ex (Cx hS4 1)
   have S2:=Ex (Cx hS4 2)
   have S3:=Ex (Cx hS4 3)
   have B1:=Ex (Cx HB4.out 1)
   have N3:=Ex (Cx HN3.out 4)
   have lk:=fun d os=>HL.out _ (kw4.trans (Ag w4 d os))
   refine wp_region_quiet_below Rx Rx ?_
   repeat(quiet_step(fail))
   refine wpQuiet_nil ?_
   intro _ hw'
   obtain⟨⟨dq,osq⟩,hw''⟩:=hw'
   subst hw''
   have k5:Aa No w4 (Sort.grow (redrawn w4 dq) osq):=Ag w4 dq osq
   clear S0 S1 S2 S3 B1 N3 lk
   generalize Sort.grow (redrawn w4 dq) osq=w5 at k5⊢
   have hP5:=k5.heap hP4 id
   have hS5:=k5.heap hS4 id
   have hZ5:=k5.heap hZ4 id
   have p1:=Cx hP5 1
   have p2:=Cx hP5 2
   have HC5:=Hx (HC.out _ k5)
   have kw5:=kw4.trans k5
   clear hP4 hS4 hZ4
   go_upto_region 6 with(go_at_call 293;refine HC5.out.mono ?_;rintro e w6 ⟨rfl,k6⟩;have hS6:=k6.heap hS5 id;have hZ6:=k6.heap hZ5 id;have s4:=Cx hS6 4;have u4:=Fx hS6 4)
   have hS7:=heap_set hS6 4 (.int .i64 p)
   have hZ7:=AP hZ6 (b':=S) (j:=4) (fun e=>hSZ e.symm) (.int .i64 p)
   have kw7:Aa No w (w6.setCell ⟨S,4,none⟩ (.int .i64 p)):=(kw5.trans k6).setNew hSw _
   clear s4 u4 hS6 hZ6 hS5 hZ5 p1 p2 hP5
   generalize w6.setCell ⟨S,4,none⟩ (.int .i64 p)=w7 at hS7 hZ7 kw7⊢
   have s0:=Cx hS7 0
   have s1:=Cx hS7 1
   have s2:=Cx hS7 2
   have s3:=Cx hS7 3
   have s4:=Cx hS7 4
   have z0:=Cx hZ7
   have y0:=Fx hZ7
   go_wp2_with fail
   have hfin:=heap_set (heap_set (heap_set (heap_set (heap_set hZ7 0 (.int .i64 o.left.op.R)) 1 (.int .i64 o.left.op.N)) 2 (.int .i64 o.left.i)) 3 (.int .i64 1)) 4 (.int .i64 p)
   refine bodyPost_ret (CX rfl rfl hfin Tryz.underlying377 rfl Rx) rfl ⟨?_,?_⟩
   ·rw[HSEAT.out];rfl
   ·exact((((kw7.setNew hZw _).setNew hZw _).setNew hZw _).setNew hZw _).setNew hZw _
end
end Go.Proofs.YthfjefcljeamgaaGreatDoor
