/- slices.BinarySearchFunc at the document's rows. -/
import Derived.Test.YthfjefcljeamgaaGreatDoorKeys
import Derived.Deep.LoopGhost
import Derived.Outline
namespace Go.Proofs.YthfjefcljeamgaaGreatDoor
set_option maxRecDepth 100000
set_option maxHeartbeats 4000000
open Go.RowKit
/-- slices.BinarySearchFunc at bsChild: c k is what the comparison says of the k-th -/
def RE(n lo:Nat)(c:Nat→Int)(w:World)(e:Ending)(w':World):Prop:=e= .returned (.tuple #[.int .i64 lo,.bool (decide (lo<n)&&(c lo==0))])∧Aa No w w'
theorem RD(v:Value)(l:List Dc.C0)(t:Dc.C0)(cf:Nat)(cb:Array Value)(c:Nat→Int)(p:Nat)(w:World)(hrow:Aq 278 3 Ar v l w)
  (eg:∀args w,(callFunc cf args).run Tryz.prog w= .ok (.enter cf args) w)
  (hcmp:∀W,Aa No w W→∀k (hk:k<l.length),Calls Tryz.prog cf (#[TA (l[k]'hk),TA t]++cb) W fun e w'=>e= .returned (.int .i64 (c k))∧Aa No W w')
  (hp:p≤l.length)(hsp:∀k,k<l.length→decide (c k<0)=decide (k<p))(hsz:l.length<4611686018427387904):
  Calls Tryz.prog 226 #[v,TA t,.func (.func cf) #[] cb] w (RE l.length p c w):=by
 have hC:=Hx hcmp
 have hS:=Hx hsp
 clear hcmp hsp
 have kw:Aa No w (w.alloc (.cells #[.string ⟨t.key.toArray⟩,.int .i64 t.id.R,.int .i64 t.id.N] 278)):=(Aa.refl _ _).alloc _
 have hb:=Nx w (.cells #[.string ⟨t.key.toArray⟩,.int .i64 t.id.R,.int .i64 t.id.N] 278)
 rcases hrow.form with⟨rfl,rfl⟩|⟨g,cap,cur,rfl,_,hcap,hcm,_,_⟩
 ·obtain rfl:p=0:=by simpa using hp
  clear hrow hb
  go_enter Tryz.func226,Tryz.ntmps226
  go_wp2
  refine wp_loop_rounds 1 ?_
  rw[rounds_succ]
  go_wp2
  go_quiet (fail)
  go_wp2
  go_ret2
  exact⟨rfl,Kx⟩
 ·have hcell:Hid (∀(W:World),Aa No w W→∀k (hk:k<l.length) (r:Nat),r<3→W.cell? ⟨g,k*3+r,none⟩=(Ar (l[k]'hk))[r]?):=Hx fun W k h hk r hr=>(hrow.no k).cell (fun _=>rfl) hk hr
  generalize hN:l.length=N at hp hsz hcap⊢
  have HN:=Hx hN
  clear hN hrow
  go_enter Tryz.func226,Tryz.ntmps226
  go_wp2
  generalize w.alloc (.cells #[.string ⟨t.key.toArray⟩,.int .i64 t.id.R,.int .i64 t.id.N] 278)=w1 at kw hb⊢
  go_loopg [9,10] N (fun kx s9 s10 wr=>∃lo hi:Nat,s9= .int .i64 lo∧s10= .int .i64 hi∧lo≤p∧p≤hi∧hi≤N∧hi-lo≤kx∧Aa No w1 wr)
  case atStart=>exact⟨0,N,rfl,rfl,Ah _,hp,Ac _,by omega,Aa.refl _ _⟩
  case round=>
   obtain⟨lo,hi,rfl,rfl,hlp,hph,hhn,hg,kr1⟩:=hrel
   have kr:=kw.trans kr1
   have ht:=Cx (kr1.heap hb id)
   have t0:∀d os,(Sort.grow (redrawn wr d) os).cell? ⟨w.heap.size,0,none⟩=some (.string ⟨t.key.toArray⟩):=Ex (ht 0)
   have t1:∀d os,(Sort.grow (redrawn wr d) os).cell? ⟨w.heap.size,1,none⟩=some (.int .i64 t.id.R):=Ex (ht 1)
   have t2:∀d os,(Sort.grow (redrawn wr d) os).cell? ⟨w.heap.size,2,none⟩=some (.int .i64 t.id.N):=Ex (ht 2)
   clear ht hb kw
   by_cases hlt:lo<hi
   ·obtain⟨md,hmd⟩:∃md,md=(lo+hi) / 2:=⟨_,rfl⟩
    have hmid:((lo:Int)+(hi:Int)) / 2=(md:Int):=by omega
    have hmN:md<N:=by omega
    have hmI:(md:Int)<(N:Int):=by omega
    have hmI0:(0:Int)≤(md:Int):=by omega
    have hml:lo≤md:=by omega
    have hmh:md<hi:=by omega
    have hm2:hi-(md+1)<hi-lo:=by omega
    have hm3:md-lo<hi-lo:=by omega
    clear hmd
    have hm:md<l.length:=by rw[HN.out];exact hmN
    have x0:∀d os,(Sort.grow (redrawn wr d) os).cell? ⟨g,md*3,none⟩=some (.string ⟨(l[md]'hm).key.toArray⟩):=Ex (hcell.out wr kr _ hm 0 (by decide))
    have x1:∀d os,(Sort.grow (redrawn wr d) os).cell? ⟨g,md*3+1,none⟩=some (.int .i64 (l[md]'hm).id.R):=Ex (hcell.out wr kr _ hm 1 (by decide))
    have x2:∀d os,(Sort.grow (redrawn wr d) os).cell? ⟨g,md*3+2,none⟩=some (.int .i64 (l[md]'hm).id.N):=Ex (hcell.out wr kr _ hm 2 (by decide))
    have hcall:∀d os,Calls Tryz.prog cf _ (Sort.grow (redrawn wr d) os) fun e w''=>e= .returned (.int .i64 (c md))∧∃p:Regrown,w''=Sort.grow (redrawn wr p.d) p.os:=fun d os=>BV (hC.out (Sort.grow (redrawn wr d) os) (kr.no (Ag wr d os)) _ hm)
    have hs:=hS.out md hm
    by_cases hyx:c md<0
    ·have hlo:md<p:=by simpa[hyx]using hs
     clear hs hS hcell hC
     go_wp2
     refine wp_region_quiet_below Rx Rx ?_
     repeat(quiet_step(exact hcall _ _))
     refine wpQuiet_nil ?_
     intro _ hw'
     obtain⟨⟨dq,osq⟩,hw''⟩:=hw'
     subst hw''
     go_wp2
     go_roundg (hi-(md+1))
     case measure=>omega
     case rel=>exact⟨md+1,hi,by go_num,rfl,by omega,hph,hhn,Ac _,kr1.no (Ag _ _ _)⟩
    ·have hlo:p≤md:=by simpa[hyx]using hs
     clear hs hS hcell hC
     go_wp2
     refine wp_region_quiet_below Rx Rx ?_
     repeat(quiet_step(exact hcall _ _))
     refine wpQuiet_nil ?_
     intro _ hw'
     obtain⟨⟨dq,osq⟩,hw''⟩:=hw'
     subst hw''
     go_wp2
     go_roundg (md-lo)
     case measure=>omega
     case rel=>exact⟨lo,md,rfl,rfl,hlp,hlo,by omega,Ac _,kr1.no (Ag _ _ _)⟩
   ·obtain rfl:hi=lo:=by omega
    obtain rfl:p=hi:=by omega
    by_cases hn':p<N
    ·have hn:p<l.length:=by rw[HN.out];exact hn'
     have x0:∀d os,(Sort.grow (redrawn wr d) os).cell? ⟨g,p*3,none⟩=some (.string ⟨(l[p]'hn).key.toArray⟩):=Ex (hcell.out wr kr _ hn 0 (by decide))
     have x1:∀d os,(Sort.grow (redrawn wr d) os).cell? ⟨g,p*3+1,none⟩=some (.int .i64 (l[p]'hn).id.R):=Ex (hcell.out wr kr _ hn 1 (by decide))
     have x2:∀d os,(Sort.grow (redrawn wr d) os).cell? ⟨g,p*3+2,none⟩=some (.int .i64 (l[p]'hn).id.N):=Ex (hcell.out wr kr _ hn 2 (by decide))
     have hcall:∀d os,Calls Tryz.prog cf _ (Sort.grow (redrawn wr d) os) fun e w''=>e= .returned (.int .i64 (c p))∧∃p:Regrown,w''=Sort.grow (redrawn wr p.d) p.os:=fun d os=>BV (hC.out (Sort.grow (redrawn wr d) os) (kr.no (Ag wr d os)) _ hn)
     clear hS hcell hC
     go_wp2
     refine wp_region_quiet_below Rx Rx ?_
     repeat(quiet_step(exact hcall _ _))
     refine wpQuiet_nil ?_
     intro _ hw'
     obtain⟨⟨dq,osq⟩,hw''⟩:=hw'
     subst hw''
     go_wp2
     go_ret2
     exact⟨by simp[hn'],kr.no (Ag _ _ _)⟩
    ·clear hS hcell hC
     have hd:decide (p<N)=false:=Dn hn'
     clear hn' hlt
     go_wp2
     go_quiet (fail)
     go_wp2
     go_ret2
     exact⟨by rw[hd];rfl,Kx⟩
/-- slices.BinarySearchFunc at bsStep: c k is what the comparison says of the k-th -/
def TC(n lo:Nat)(c:Nat→Int)(w:World)(e:Ending)(w':World):Prop:=e= .returned (.tuple #[.int .i64 lo,.bool (decide (lo<n)&&(c lo==0))])∧Aa No w w'
theorem TB(v:Value)(l:List Dc.CS)(t:Dc.C2)(cf:Nat)(cb:Array Value)(c:Nat→Int)(p:Nat)(w:World)(hrow:Aq 265 14 Av v l w)
  (eg:∀args w,(callFunc cf args).run Tryz.prog w= .ok (.enter cf args) w)
  (hcmp:∀W,Aa No w W→∀k (hk:k<l.length),Calls Tryz.prog cf (#[WI (l[k]'hk),Ln t]++cb) W fun e w'=>e= .returned (.int .i64 (c k))∧Aa No W w')
  (hp:p≤l.length)(hsp:∀k,k<l.length→decide (c k<0)=decide (k<p))(hsz:l.length<4611686018427387904):
  Calls Tryz.prog 166 #[v,Ln t,.func (.func cf) #[] cb] w (TC l.length p c w):=by
 have hC:=Hx hcmp
 have hS:=Hx hsp
 clear hcmp hsp
 have kw:Aa No w (w.alloc (.cells #[.int .i64 t.t,.int .i64 t.r,.int .i64 t.id.R,.int .i64 t.id.N,.int .i64 t.block.R,.int .i64 t.block.N,.int .i64 t.parent.R,.int .i64 t.parent.N,.string ⟨t.key.toArray⟩] 211)):=(Aa.refl _ _).alloc _
 have hb:=Nx w (.cells #[.int .i64 t.t,.int .i64 t.r,.int .i64 t.id.R,.int .i64 t.id.N,.int .i64 t.block.R,.int .i64 t.block.N,.int .i64 t.parent.R,.int .i64 t.parent.N,.string ⟨t.key.toArray⟩] 211)
 rcases hrow.form with⟨rfl,rfl⟩|⟨g,cap,cur,rfl,_,hcap,hcm,_,_⟩
 ·obtain rfl:p=0:=by simpa using hp
  clear hrow hb
  go_enter Tryz.func166,Tryz.ntmps166
  go_wp2
  refine wp_loop_rounds 1 ?_
  rw[rounds_succ]
  go_wp2
  go_quiet (fail)
  go_wp2
  go_ret2
  exact⟨rfl,Kx⟩
 ·have hcell:Hid (∀(W:World),Aa No w W→∀k (hk:k<l.length) (r:Nat),r<14→W.cell? ⟨g,k*14+r,none⟩=(Av (l[k]'hk))[r]?):=Hx fun W k h hk r hr=>(hrow.no k).cell (fun _=>rfl) hk hr
  generalize hN:l.length=N at hp hsz hcap⊢
  have HN:=Hx hN
  clear hN hrow
  go_enter Tryz.func166,Tryz.ntmps166
  go_wp2
  generalize w.alloc (.cells #[.int .i64 t.t,.int .i64 t.r,.int .i64 t.id.R,.int .i64 t.id.N,.int .i64 t.block.R,.int .i64 t.block.N,.int .i64 t.parent.R,.int .i64 t.parent.N,.string ⟨t.key.toArray⟩] 211)=w1 at kw hb⊢
  go_loopg [9,10] N (fun kx s9 s10 wr=>∃lo hi:Nat,s9= .int .i64 lo∧s10= .int .i64 hi∧lo≤p∧p≤hi∧hi≤N∧hi-lo≤kx∧Aa No w1 wr)
  case atStart=>exact⟨0,N,rfl,rfl,Ah _,hp,Ac _,by omega,Aa.refl _ _⟩
  case round=>
   obtain⟨lo,hi,rfl,rfl,hlp,hph,hhn,hg,kr1⟩:=hrel
   have kr:=kw.trans kr1
   have ht:=Cx (kr1.heap hb id)
   have t0:∀d os,(Sort.grow (redrawn wr d) os).cell? ⟨w.heap.size,0,none⟩=some (.int .i64 t.t):=Ex (ht 0)
   have t1:∀d os,(Sort.grow (redrawn wr d) os).cell? ⟨w.heap.size,1,none⟩=some (.int .i64 t.r):=Ex (ht 1)
   have t2:∀d os,(Sort.grow (redrawn wr d) os).cell? ⟨w.heap.size,2,none⟩=some (.int .i64 t.id.R):=Ex (ht 2)
   have t3:∀d os,(Sort.grow (redrawn wr d) os).cell? ⟨w.heap.size,3,none⟩=some (.int .i64 t.id.N):=Ex (ht 3)
   have t4:∀d os,(Sort.grow (redrawn wr d) os).cell? ⟨w.heap.size,4,none⟩=some (.int .i64 t.block.R):=Ex (ht 4)
   have t5:∀d os,(Sort.grow (redrawn wr d) os).cell? ⟨w.heap.size,5,none⟩=some (.int .i64 t.block.N):=Ex (ht 5)
   have t6:∀d os,(Sort.grow (redrawn wr d) os).cell? ⟨w.heap.size,6,none⟩=some (.int .i64 t.parent.R):=Ex (ht 6)
   have t7:∀d os,(Sort.grow (redrawn wr d) os).cell? ⟨w.heap.size,7,none⟩=some (.int .i64 t.parent.N):=Ex (ht 7)
   have t8:∀d os,(Sort.grow (redrawn wr d) os).cell? ⟨w.heap.size,8,none⟩=some (.string ⟨t.key.toArray⟩):=Ex (ht 8)
   clear ht hb kw
   by_cases hlt:lo<hi
   ·obtain⟨md,hmd⟩:∃md,md=(lo+hi) / 2:=⟨_,rfl⟩
    have hmid:((lo:Int)+(hi:Int)) / 2=(md:Int):=by omega
    have hmN:md<N:=by omega
    have hmI:(md:Int)<(N:Int):=by omega
    have hmI0:(0:Int)≤(md:Int):=by omega
    have hml:lo≤md:=by omega
    have hmh:md<hi:=by omega
    have hm2:hi-(md+1)<hi-lo:=by omega
    have hm3:md-lo<hi-lo:=by omega
    clear hmd
    have hm:md<l.length:=by rw[HN.out];exact hmN
    have x0:∀d os,(Sort.grow (redrawn wr d) os).cell? ⟨g,md*14,none⟩=some (.int .i64 (l[md]'hm).m.t):=Ex (hcell.out wr kr _ hm 0 (by decide))
    have x1:∀d os,(Sort.grow (redrawn wr d) os).cell? ⟨g,md*14+1,none⟩=some (.int .i64 (l[md]'hm).m.r):=Ex (hcell.out wr kr _ hm 1 (by decide))
    have x2:∀d os,(Sort.grow (redrawn wr d) os).cell? ⟨g,md*14+2,none⟩=some (.int .i64 (l[md]'hm).m.id.R):=Ex (hcell.out wr kr _ hm 2 (by decide))
    have x3:∀d os,(Sort.grow (redrawn wr d) os).cell? ⟨g,md*14+3,none⟩=some (.int .i64 (l[md]'hm).m.id.N):=Ex (hcell.out wr kr _ hm 3 (by decide))
    have x4:∀d os,(Sort.grow (redrawn wr d) os).cell? ⟨g,md*14+4,none⟩=some (.int .i64 (l[md]'hm).m.block.R):=Ex (hcell.out wr kr _ hm 4 (by decide))
    have x5:∀d os,(Sort.grow (redrawn wr d) os).cell? ⟨g,md*14+5,none⟩=some (.int .i64 (l[md]'hm).m.block.N):=Ex (hcell.out wr kr _ hm 5 (by decide))
    have x6:∀d os,(Sort.grow (redrawn wr d) os).cell? ⟨g,md*14+6,none⟩=some (.int .i64 (l[md]'hm).m.parent.R):=Ex (hcell.out wr kr _ hm 6 (by decide))
    have x7:∀d os,(Sort.grow (redrawn wr d) os).cell? ⟨g,md*14+7,none⟩=some (.int .i64 (l[md]'hm).m.parent.N):=Ex (hcell.out wr kr _ hm 7 (by decide))
    have x8:∀d os,(Sort.grow (redrawn wr d) os).cell? ⟨g,md*14+8,none⟩=some (.string ⟨(l[md]'hm).m.key.toArray⟩):=Ex (hcell.out wr kr _ hm 8 (by decide))
    have x9:∀d os,(Sort.grow (redrawn wr d) os).cell? ⟨g,md*14+9,none⟩=some (.bool (l[md]'hm).done):=Ex (hcell.out wr kr _ hm 9 (by decide))
    have x10:∀d os,(Sort.grow (redrawn wr d) os).cell? ⟨g,md*14+10,none⟩=some (.int .i64 (l[md]'hm).was.parent.R):=Ex (hcell.out wr kr _ hm 10 (by decide))
    have x11:∀d os,(Sort.grow (redrawn wr d) os).cell? ⟨g,md*14+11,none⟩=some (.int .i64 (l[md]'hm).was.parent.N):=Ex (hcell.out wr kr _ hm 11 (by decide))
    have x12:∀d os,(Sort.grow (redrawn wr d) os).cell? ⟨g,md*14+12,none⟩=some (.string ⟨(l[md]'hm).was.key.toArray⟩):=Ex (hcell.out wr kr _ hm 12 (by decide))
    have x13:∀d os,(Sort.grow (redrawn wr d) os).cell? ⟨g,md*14+13,none⟩=some (.bool (l[md]'hm).had):=Ex (hcell.out wr kr _ hm 13 (by decide))
    have hcall:∀d os,Calls Tryz.prog cf _ (Sort.grow (redrawn wr d) os) fun e w''=>e= .returned (.int .i64 (c md))∧∃p:Regrown,w''=Sort.grow (redrawn wr p.d) p.os:=fun d os=>BV (hC.out (Sort.grow (redrawn wr d) os) (kr.no (Ag wr d os)) _ hm)
    have hs:=hS.out md hm
    by_cases hyx:c md<0
    ·have hlo:md<p:=by simpa[hyx]using hs
     clear hs hS hcell hC
     go_wp2
     refine wp_region_quiet_below Rx Rx ?_
     repeat(quiet_step(exact hcall _ _))
     refine wpQuiet_nil ?_
     intro _ hw'
     obtain⟨⟨dq,osq⟩,hw''⟩:=hw'
     subst hw''
     go_wp2
     go_roundg (hi-(md+1))
     case measure=>omega
     case rel=>exact⟨md+1,hi,by go_num,rfl,by omega,hph,hhn,Ac _,kr1.no (Ag _ _ _)⟩
    ·have hlo:p≤md:=by simpa[hyx]using hs
     clear hs hS hcell hC
     go_wp2
     refine wp_region_quiet_below Rx Rx ?_
     repeat(quiet_step(exact hcall _ _))
     refine wpQuiet_nil ?_
     intro _ hw'
     obtain⟨⟨dq,osq⟩,hw''⟩:=hw'
     subst hw''
     go_wp2
     go_roundg (md-lo)
     case measure=>omega
     case rel=>exact⟨lo,md,rfl,rfl,hlp,hlo,by omega,Ac _,kr1.no (Ag _ _ _)⟩
   ·obtain rfl:hi=lo:=by omega
    obtain rfl:p=hi:=by omega
    by_cases hn':p<N
    ·have hn:p<l.length:=by rw[HN.out];exact hn'
     have x0:∀d os,(Sort.grow (redrawn wr d) os).cell? ⟨g,p*14,none⟩=some (.int .i64 (l[p]'hn).m.t):=Ex (hcell.out wr kr _ hn 0 (by decide))
     have x1:∀d os,(Sort.grow (redrawn wr d) os).cell? ⟨g,p*14+1,none⟩=some (.int .i64 (l[p]'hn).m.r):=Ex (hcell.out wr kr _ hn 1 (by decide))
     have x2:∀d os,(Sort.grow (redrawn wr d) os).cell? ⟨g,p*14+2,none⟩=some (.int .i64 (l[p]'hn).m.id.R):=Ex (hcell.out wr kr _ hn 2 (by decide))
     have x3:∀d os,(Sort.grow (redrawn wr d) os).cell? ⟨g,p*14+3,none⟩=some (.int .i64 (l[p]'hn).m.id.N):=Ex (hcell.out wr kr _ hn 3 (by decide))
     have x4:∀d os,(Sort.grow (redrawn wr d) os).cell? ⟨g,p*14+4,none⟩=some (.int .i64 (l[p]'hn).m.block.R):=Ex (hcell.out wr kr _ hn 4 (by decide))
     have x5:∀d os,(Sort.grow (redrawn wr d) os).cell? ⟨g,p*14+5,none⟩=some (.int .i64 (l[p]'hn).m.block.N):=Ex (hcell.out wr kr _ hn 5 (by decide))
     have x6:∀d os,(Sort.grow (redrawn wr d) os).cell? ⟨g,p*14+6,none⟩=some (.int .i64 (l[p]'hn).m.parent.R):=Ex (hcell.out wr kr _ hn 6 (by decide))
     have x7:∀d os,(Sort.grow (redrawn wr d) os).cell? ⟨g,p*14+7,none⟩=some (.int .i64 (l[p]'hn).m.parent.N):=Ex (hcell.out wr kr _ hn 7 (by decide))
     have x8:∀d os,(Sort.grow (redrawn wr d) os).cell? ⟨g,p*14+8,none⟩=some (.string ⟨(l[p]'hn).m.key.toArray⟩):=Ex (hcell.out wr kr _ hn 8 (by decide))
     have x9:∀d os,(Sort.grow (redrawn wr d) os).cell? ⟨g,p*14+9,none⟩=some (.bool (l[p]'hn).done):=Ex (hcell.out wr kr _ hn 9 (by decide))
     have x10:∀d os,(Sort.grow (redrawn wr d) os).cell? ⟨g,p*14+10,none⟩=some (.int .i64 (l[p]'hn).was.parent.R):=Ex (hcell.out wr kr _ hn 10 (by decide))
     have x11:∀d os,(Sort.grow (redrawn wr d) os).cell? ⟨g,p*14+11,none⟩=some (.int .i64 (l[p]'hn).was.parent.N):=Ex (hcell.out wr kr _ hn 11 (by decide))
     have x12:∀d os,(Sort.grow (redrawn wr d) os).cell? ⟨g,p*14+12,none⟩=some (.string ⟨(l[p]'hn).was.key.toArray⟩):=Ex (hcell.out wr kr _ hn 12 (by decide))
     have x13:∀d os,(Sort.grow (redrawn wr d) os).cell? ⟨g,p*14+13,none⟩=some (.bool (l[p]'hn).had):=Ex (hcell.out wr kr _ hn 13 (by decide))
     have hcall:∀d os,Calls Tryz.prog cf _ (Sort.grow (redrawn wr d) os) fun e w''=>e= .returned (.int .i64 (c p))∧∃p:Regrown,w''=Sort.grow (redrawn wr p.d) p.os:=fun d os=>BV (hC.out (Sort.grow (redrawn wr d) os) (kr.no (Ag wr d os)) _ hn)
     clear hS hcell hC
     go_wp2
     refine wp_region_quiet_below Rx Rx ?_
     repeat(quiet_step(exact hcall _ _))
     refine wpQuiet_nil ?_
     intro _ hw'
     obtain⟨⟨dq,osq⟩,hw''⟩:=hw'
     subst hw''
     go_wp2
     go_ret2
     exact⟨by simp[hn'],kr.no (Ag _ _ _)⟩
    ·clear hS hcell hC
     have hd:decide (p<N)=false:=Dn hn'
     clear hn' hlt
     go_wp2
     go_quiet (fail)
     go_wp2
     go_ret2
     exact⟨by rw[hd];rfl,Kx⟩
/-- slices.BinarySearchFunc at bsChr: c k is what the comparison says of the k-th -/
def UU(n lo:Nat)(c:Nat→Int)(w:World)(e:Ending)(w':World):Prop:=e= .returned (.tuple #[.int .i64 lo,.bool (decide (lo<n)&&(c lo==0))])∧Aa No w w'
theorem OR(v:Value)(l:List Dc.Chr)(t:Off.Bid)(cf:Nat)(cb:Array Value)(c:Nat→Int)(p:Nat)(w:World)(hrow:Aq 26 3 AE v l w)
  (eg:∀args w,(callFunc cf args).run Tryz.prog w= .ok (.enter cf args) w)
  (hcmp:∀W,Aa No w W→∀k (hk:k<l.length),Calls Tryz.prog cf (#[CE (l[k]'hk),idV t]++cb) W fun e w'=>e= .returned (.int .i64 (c k))∧Aa No W w')
  (hp:p≤l.length)(hsp:∀k,k<l.length→decide (c k<0)=decide (k<p))(hsz:l.length<4611686018427387904):
  Calls Tryz.prog 293 #[v,idV t,.func (.func cf) #[] cb] w (UU l.length p c w):=by
 have hC:=Hx hcmp
 have hS:=Hx hsp
 clear hcmp hsp
 have kw:Aa No w (w.alloc (.cells #[.int .i64 t.R,.int .i64 t.N] 24)):=(Aa.refl _ _).alloc _
 have hb:=Nx w (.cells #[.int .i64 t.R,.int .i64 t.N] 24)
 rcases hrow.form with⟨rfl,rfl⟩|⟨g,cap,cur,rfl,_,hcap,hcm,_,_⟩
 ·obtain rfl:p=0:=by simpa using hp
  clear hrow hb
  go_enter Tryz.func293,Tryz.ntmps293
  go_wp2
  refine wp_loop_rounds 1 ?_
  rw[rounds_succ]
  go_wp2
  go_quiet (fail)
  go_wp2
  go_ret2
  exact⟨rfl,Kx⟩
 ·have hcell:Hid (∀(W:World),Aa No w W→∀k (hk:k<l.length) (r:Nat),r<3→W.cell? ⟨g,k*3+r,none⟩=(AE (l[k]'hk))[r]?):=Hx fun W k h hk r hr=>(hrow.no k).cell (fun _=>rfl) hk hr
  generalize hN:l.length=N at hp hsz hcap⊢
  have HN:=Hx hN
  clear hN hrow
  go_enter Tryz.func293,Tryz.ntmps293
  go_wp2
  generalize w.alloc (.cells #[.int .i64 t.R,.int .i64 t.N] 24)=w1 at kw hb⊢
  go_loopg [9,10] N (fun kx s9 s10 wr=>∃lo hi:Nat,s9= .int .i64 lo∧s10= .int .i64 hi∧lo≤p∧p≤hi∧hi≤N∧hi-lo≤kx∧Aa No w1 wr)
  case atStart=>exact⟨0,N,rfl,rfl,Ah _,hp,Ac _,by omega,Aa.refl _ _⟩
  case round=>
   obtain⟨lo,hi,rfl,rfl,hlp,hph,hhn,hg,kr1⟩:=hrel
   have kr:=kw.trans kr1
   have ht:=Cx (kr1.heap hb id)
   have t0:∀d os,(Sort.grow (redrawn wr d) os).cell? ⟨w.heap.size,0,none⟩=some (.int .i64 t.R):=Ex (ht 0)
   have t1:∀d os,(Sort.grow (redrawn wr d) os).cell? ⟨w.heap.size,1,none⟩=some (.int .i64 t.N):=Ex (ht 1)
   clear ht hb kw
   by_cases hlt:lo<hi
   ·obtain⟨md,hmd⟩:∃md,md=(lo+hi) / 2:=⟨_,rfl⟩
    have hmid:((lo:Int)+(hi:Int)) / 2=(md:Int):=by omega
    have hmN:md<N:=by omega
    have hmI:(md:Int)<(N:Int):=by omega
    have hmI0:(0:Int)≤(md:Int):=by omega
    have hml:lo≤md:=by omega
    have hmh:md<hi:=by omega
    have hm2:hi-(md+1)<hi-lo:=by omega
    have hm3:md-lo<hi-lo:=by omega
    clear hmd
    have hm:md<l.length:=by rw[HN.out];exact hmN
    have x0:∀d os,(Sort.grow (redrawn wr d) os).cell? ⟨g,md*3,none⟩=some (.int .i64 (l[md]'hm).op.R):=Ex (hcell.out wr kr _ hm 0 (by decide))
    have x1:∀d os,(Sort.grow (redrawn wr d) os).cell? ⟨g,md*3+1,none⟩=some (.int .i64 (l[md]'hm).op.N):=Ex (hcell.out wr kr _ hm 1 (by decide))
    have x2:∀d os,(Sort.grow (redrawn wr d) os).cell? ⟨g,md*3+2,none⟩=some (.int .i64 (l[md]'hm).i):=Ex (hcell.out wr kr _ hm 2 (by decide))
    have hcall:∀d os,Calls Tryz.prog cf _ (Sort.grow (redrawn wr d) os) fun e w''=>e= .returned (.int .i64 (c md))∧∃p:Regrown,w''=Sort.grow (redrawn wr p.d) p.os:=fun d os=>BV (hC.out (Sort.grow (redrawn wr d) os) (kr.no (Ag wr d os)) _ hm)
    have hs:=hS.out md hm
    by_cases hyx:c md<0
    ·have hlo:md<p:=by simpa[hyx]using hs
     clear hs hS hcell hC
     go_wp2
     refine wp_region_quiet_below Rx Rx ?_
     repeat(quiet_step(exact hcall _ _))
     refine wpQuiet_nil ?_
     intro _ hw'
     obtain⟨⟨dq,osq⟩,hw''⟩:=hw'
     subst hw''
     go_wp2
     go_roundg (hi-(md+1))
     case measure=>omega
     case rel=>exact⟨md+1,hi,by go_num,rfl,by omega,hph,hhn,Ac _,kr1.no (Ag _ _ _)⟩
    ·have hlo:p≤md:=by simpa[hyx]using hs
     clear hs hS hcell hC
     go_wp2
     refine wp_region_quiet_below Rx Rx ?_
     repeat(quiet_step(exact hcall _ _))
     refine wpQuiet_nil ?_
     intro _ hw'
     obtain⟨⟨dq,osq⟩,hw''⟩:=hw'
     subst hw''
     go_wp2
     go_roundg (md-lo)
     case measure=>omega
     case rel=>exact⟨lo,md,rfl,rfl,hlp,hlo,by omega,Ac _,kr1.no (Ag _ _ _)⟩
   ·obtain rfl:hi=lo:=by omega
    obtain rfl:p=hi:=by omega
    by_cases hn':p<N
    ·have hn:p<l.length:=by rw[HN.out];exact hn'
     have x0:∀d os,(Sort.grow (redrawn wr d) os).cell? ⟨g,p*3,none⟩=some (.int .i64 (l[p]'hn).op.R):=Ex (hcell.out wr kr _ hn 0 (by decide))
     have x1:∀d os,(Sort.grow (redrawn wr d) os).cell? ⟨g,p*3+1,none⟩=some (.int .i64 (l[p]'hn).op.N):=Ex (hcell.out wr kr _ hn 1 (by decide))
     have x2:∀d os,(Sort.grow (redrawn wr d) os).cell? ⟨g,p*3+2,none⟩=some (.int .i64 (l[p]'hn).i):=Ex (hcell.out wr kr _ hn 2 (by decide))
     have hcall:∀d os,Calls Tryz.prog cf _ (Sort.grow (redrawn wr d) os) fun e w''=>e= .returned (.int .i64 (c p))∧∃p:Regrown,w''=Sort.grow (redrawn wr p.d) p.os:=fun d os=>BV (hC.out (Sort.grow (redrawn wr d) os) (kr.no (Ag wr d os)) _ hn)
     clear hS hcell hC
     go_wp2
     refine wp_region_quiet_below Rx Rx ?_
     repeat(quiet_step(exact hcall _ _))
     refine wpQuiet_nil ?_
     intro _ hw'
     obtain⟨⟨dq,osq⟩,hw''⟩:=hw'
     subst hw''
     go_wp2
     go_ret2
     exact⟨by simp[hn'],kr.no (Ag _ _ _)⟩
    ·clear hS hcell hC
     have hd:decide (p<N)=false:=Dn hn'
     clear hn' hlt
     go_wp2
     go_quiet (fail)
     go_wp2
     go_ret2
     exact⟨by rw[hd];rfl,Kx⟩
end Go.Proofs.YthfjefcljeamgaaGreatDoor
