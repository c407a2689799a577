/- joined: A text that many write at once: what lies on the heap; whether a character is there, where it stands, what stands above it. A text that many write at once: what stands above a character; the outermost one on a side. -/
import Derived.Test.YthfjefcljeamgaaGreatDoorRunK
import Derived.Test.YthfjefcljeamgaaGreatDoorBsf
namespace Go.Proofs.YthfjefcljeamgaaGreatDoor
set_option maxRecDepth 100000
set_option maxHeartbeats 4000000
section
open Go.RowKit
attribute [local go_sem ↓] Go.wp_at_zero Go.wp_at_succ
inductive Is where
 |self
 |row
 |nmap
 |node (c:Dc.Chr)
 |side (c:Dc.Chr) (s:Bool)
 deriving DecidableEq
@[reducible] def GQ(g:Nat):Value:= .pointer (some ⟨g,0,none⟩)
/-- the block k is the node n of the character c -/
def F4(lab:Nat→Option Is)(w:World)(c:Dc.Chr)(k:Nat)(n:Dc.CP):Prop:=
 lab k=some (.node c)∧∃vl vr,w.heap[k]? =some (.cells #[.int .i64 n.up.op.R,.int .i64 n.up.op.N,.int .i64 n.up.i,vl,vr] 331 (0,0))∧Aq 26 3 AE vl n.l w∧Aq 26 3 AE vr n.r w∧
  (∀x,vl.ownBlock=some x→lab x=some (.side c false))∧(∀x,vr.ownBlock=some x→lab x=some (.side c true))
/-- the map bn says the nodes N -/
def ET(lab:Nat→Option Is)(bn:Nat)(nv:Dc.Chr→Option Nat)(N:Dc.C5)(w:World):Prop:=
 A8 CE GQ bn nv w∧(∀c,(nv c).isSome=(N c).isSome)∧∀c k n,nv c=some k→N c=some n→F4 lab w c k n
/-- the block b is the text t -/
def Dx(F:Nat→Prop)(b:Nat)(t:Dc.YT)(w:World):Prop:=
 ∃(lab:Nat→Option Is) (br bn:Nat) (nv:Dc.Chr→Option Nat),(∀k,lab k≠none→F k∧k<w.heap.size)∧w.heap[b]? =some (.cells #[.pointer (some ⟨br,0,none⟩),.map (some bn)] 226 (0,0))∧lab b=some .self∧
  Ec (fun k=>lab k=some .row) br t.row w∧lab bn=some .nmap∧ET lab bn nv t.nodes w
section
variable {lab:Nat→Option Is} {S:Nat→Prop} {w w':World} {c:Dc.Chr} {k bn:Nat} {n:Dc.CP} {nv:Dc.Chr→Option Nat} {N:Dc.C5}
theorem F4.keeps(h:F4 lab w c k n)(kk:Aa S w w')(hn:∀g,lab g≠none→¬S g):F4 lab w' c k n:=by
 obtain⟨h1,vl,vr,h2,h3,h4,h5,h6⟩:=h
 exact⟨h1,vl,vr,kk.heap h2 (hn _ (by rw[h1];simp)),h3.keeps kk fun g hg=>hn g (by rw[h5 g hg];simp),h4.keeps kk fun g hg=>hn g (by rw[h6 g hg];simp),h5,h6⟩
theorem ET.keeps(h:ET lab bn nv N w)(hb:lab bn=some .nmap)(kk:Aa S w w')(hn:∀g,lab g≠none→¬S g):ET lab bn nv N w':=
 ⟨h.1.keeps kk (hn _ (by rw[hb];simp)),h.2.1,fun c k n h1 h2=>(h.2.2 c k n h1 h2).keeps kk hn⟩
theorem ET.no(h:ET lab bn nv N w)(kk:Aa No w w'):ET lab bn nv N w':=
 ⟨h.1.keeps kk id,h.2.1,fun c k n h1 h2=>(h.2.2 c k n h1 h2).keeps kk fun _ _ e=>e⟩
end
theorem Dx.keeps{F S:Nat→Prop}{b:Nat}{t:Dc.YT}{w w':World}(h:Dx F b t w)(kk:Aa S w w')(hn:∀g,F g→¬S g):Dx F b t w':=by
 obtain⟨lab,br,bn,nv,h1,h2,h3,h4,h5,h6⟩:=h
 have hl:∀g,lab g≠none→¬S g:=fun g hg=>hn g (h1 g hg).1
 exact⟨lab,br,bn,nv,fun k hk=>⟨(h1 k hk).1,AK (h1 k hk).2 kk.size⟩,kk.heap h2 (hl _ (by rw[h3];simp)),h3,h4.keeps kk fun g hg=>hl g (by rw[hg];simp),h5,h6.keeps h5 kk hl⟩
theorem Dx.no{F:Nat→Prop}{b:Nat}{t:Dc.YT}{w w':World}(h:Dx F b t w)(kk:Aa No w w'):Dx F b t w':=h.keeps kk fun _ _ e=>e
theorem Dx.mono{F F':Nat→Prop}{b:Nat}{t:Dc.YT}{w:World}(h:Dx F b t w)(hF:∀g,F g→g<w.heap.size→F' g):Dx F' b t w:=by
 obtain⟨lab,br,bn,nv,h1,h⟩:=h
 exact⟨lab,br,bn,nv,fun k hk=>⟨hF k (h1 k hk).1 (h1 k hk).2,(h1 k hk).2⟩,h⟩
def D5(o:Option Nat):Value:=match o with|some g=> .pointer (some ⟨g,0,none⟩)|none=> .pointer none
theorem QN{bn:Nat}{nv:Dc.Chr→Option Nat}{w:World}(h:A8 CE GQ bn nv w)(R N I:Int)(c:Bool):
  (Instr.lookup 224 (.map (some bn)) (.agg #[.int .i64 R,.int .i64 N,.int .i64 I]) c).run Tryz.prog w= .ok (if c then .tuple #[D5 (nv ⟨⟨R,N⟩,I⟩),.bool (nv ⟨⟨R,N⟩,I⟩).isSome]else D5 (nv ⟨⟨R,N⟩,I⟩)) w:=by
 rw[h.look (z:= .pointer none) Eb Tryz.underlying224 Rx ⟨⟨R,N⟩,I⟩ c]
 unfold D5
 cases nv ⟨⟨R,N⟩,I⟩<;>rfl
theorem J1{bn:Nat}{nv:Dc.Chr→Option Nat}{w:World}(h:A8 CE GQ bn nv w)(R N I:Int):
  (Instr.lookup 224 (.map (some bn)) (.agg #[.int .i64 R,.int .i64 N,.int .i64 I]) true).run Tryz.prog w= .ok (.tuple #[D5 (nv ⟨⟨R,N⟩,I⟩),.bool (nv ⟨⟨R,N⟩,I⟩).isSome]) w:=QN h R N I true
theorem C7{bn:Nat}{nv:Dc.Chr→Option Nat}{w:World}(h:A8 CE GQ bn nv w)(R N I:Int):
  (Instr.lookup 224 (.map (some bn)) (.agg #[.int .i64 R,.int .i64 N,.int .i64 I]) false).run Tryz.prog w= .ok (D5 (nv ⟨⟨R,N⟩,I⟩)) w:=QN h R N I false
theorem N9{F:Nat→Prop}{b:Nat}{t:Dc.YT}{w:World}(h:Dx F b t w)(c:Dc.Chr):
  Calls Tryz.prog 265 #[.pointer (some ⟨b,0,none⟩),CE c] w (Bj (t.nodes c).isSome w):=by
 obtain⟨lab,br,bn,nv,h1,h2,h3,h4,h5,h6⟩:=h
 obtain⟨⟨R,N⟩,I⟩:=c
 rw[←h6.2.1 ⟨⟨R,N⟩,I⟩]
 have HL:=Hx (fun W (k:Aa No w W)=>J1 (h6.1.keeps k id) R N I)
 obtain⟨p,hp⟩:∃p,p=D5 (nv ⟨⟨R,N⟩,I⟩):=⟨_,rfl⟩
 obtain⟨ok,hok⟩:∃ok,ok=(nv ⟨⟨R,N⟩,I⟩).isSome:=⟨_,rfl⟩
 rw[←hp,←hok]at HL
 rw[←hok]
 clear hp hok h1 h3 h4 h5 h6
 go_enter Tryz.func265,Tryz.ntmps265
 go_upto_region 1 with(fail)
 have k0:Aa No w (w.alloc (.cells #[.int .i64 R,.int .i64 N,.int .i64 I] 26)):=Kx
 have hA:=Nx w (.cells #[.int .i64 R,.int .i64 N,.int .i64 I] 26)
 generalize w.alloc (.cells #[.int .i64 R,.int .i64 N,.int .i64 I] 26)=w1 at k0 hA⊢
 have z1:=Ex (Cx (k0.heap h2 id) 1)
 have z2:=Ex (Cx hA 0)
 have z3:=Ex (Cx hA 1)
 have z4:=Ex (Cx hA 2)
 have lk:=fun d os=>HL.out _ (k0.trans (Ag w1 d os))
 clear hA HL
 refine wp_region_quiet_below Rx Rx ?_
 repeat(quiet_step(fail))
 refine wpQuiet_nil ?_
 intro _ hw'
 obtain⟨⟨dq,osq⟩,hw''⟩:=hw'
 subst hw''
 have k3:Aa No w1 (Sort.grow (redrawn w1 dq) osq):=Ag w1 dq osq
 clear z1 z2 z3 z4 lk
 generalize Sort.grow (redrawn w1 dq) osq=w3 at k3⊢
 go_wp2_with fail
 go_ret
 exact⟨rfl,k0.trans k3⟩
theorem Jc{F:Nat→Prop}{b:Nat}{t:Dc.YT}{w:World}(h:Dx F b t w)(hs:ES t.row)(c:Dc.Chr):
  Calls Tryz.prog 301 #[.pointer (some ⟨b,0,none⟩),CE c] w fun e w'=>e= .returned (.int .i64 (Dc.Dw t.row c))∧Aa No w w':=by
 obtain⟨lab,br,bn,nv,h1,h2,h3,h4,h5,h6⟩:=h
 have HF:=Hx (fun W (k:Aa No w W)=>Qv (h4.no k) hs.small c)
 obtain⟨⟨R,N⟩,I⟩:=c
 generalize Dc.Dw t.row ⟨⟨R,N⟩,I⟩=q at HF⊢
 generalize (Dc.FH t.row ⟨⟨R,N⟩,I⟩).isSome=ok at HF
 clear h1 h3 h4 h5 h6 hs
 go_enter Tryz.func301,Tryz.ntmps301
 go_upto_region 1 with(fail)
 have k0:Aa No w (w.alloc (.cells #[.int .i64 R,.int .i64 N,.int .i64 I] 26)):=Kx
 have hA:=Nx w (.cells #[.int .i64 R,.int .i64 N,.int .i64 I] 26)
 generalize w.alloc (.cells #[.int .i64 R,.int .i64 N,.int .i64 I] 26)=w1 at k0 hA⊢
 have z1:=Ex (Cx (k0.heap h2 id) 0)
 have z2:=Ex (Cx hA 0)
 have z3:=Ex (Cx hA 1)
 have z4:=Ex (Cx hA 2)
 have hcall:=fun d os=>BV (HF.out _ (k0.trans (Ag w1 d os)))
 clear hA HF
 refine wp_region_quiet_below Rx Rx ?_
 repeat(quiet_step(exact hcall _ _))
 refine wpQuiet_nil ?_
 intro _ hw'
 obtain⟨⟨dq,osq⟩,hw''⟩:=hw'
 subst hw''
 have k3:Aa No w1 (Sort.grow (redrawn w1 dq) osq):=Ag w1 dq osq
 clear z1 z2 z3 z4 hcall
 generalize Sort.grow (redrawn w1 dq) osq=w3 at k3⊢
 go_wp2_with fail
 go_ret
 exact⟨rfl,k0.trans k3⟩
end
section
open Go.RowKit
attribute [local go_sem ↓] Go.wp_at_zero Go.wp_at_succ
theorem WB(N:Dc.C5)(a:Dc.Chr):Dc.IJ N a .z=false:=by
 unfold Dc.IJ
 rw[decide_eq_false_iff_not]
 intro h
 cases h with
 |one _ h _=>exact h rfl
 |more _ h _=>exact h rfl
theorem TI{N:Dc.C5}{a b:Dc.Chr}{n:Dc.CP}(h:N b=some n)(hb:b≠ .z):Dc.IJ N a b=(decide (n.up=a)||Dc.IJ N a n.up):=by
 unfold Dc.IJ
 apply Bool.eq_iff_iff.2
 simp only[Gz,Au]
 constructor
 ·intro hh
  cases hh with
  |one h1 _ h3=>rw[h]at h1;cases h1;exact .inl h3
  |more h1 _ h3=>rw[h]at h1;cases h1;exact .inr h3
 ·rintro(h1|h1)
  ·exact .one h hb h1
  ·exact .more h hb h1
/-- what a node's block says of its parent -/
theorem F4.up{lab:Nat→Option Is}{w:World}{c:Dc.Chr}{k:Nat}{n:Dc.CP}(h:F4 lab w c k n):w.cell? ⟨k,0,none⟩=some (.int .i64 n.up.op.R)∧w.cell? ⟨k,1,none⟩=some (.int .i64 n.up.op.N)∧w.cell? ⟨k,2,none⟩=some (.int .i64 n.up.i):=by
 obtain⟨_,vl,vr,h2,_⟩:=h
 exact⟨Cx h2 0,Cx h2 1,Cx h2 2⟩
theorem ET.get{lab:Nat→Option Is}{bn:Nat}{nv:Dc.Chr→Option Nat}{N:Dc.C5}{w:World}(h:ET lab bn nv N w){c:Dc.Chr}{n:Dc.CP}(hn:N c=some n):∃k,nv c=some k∧F4 lab w c k n:=by
 have h1:=h.2.1 c
 rw[hn]at h1
 obtain⟨k,hk⟩:=D8.1 h1
 exact⟨k,hk,h.2.2 c k n hk hn⟩
theorem Nl{a b:Dc.Chr}(h:a≠b):(¬a.op.R=b.op.R)∨(a.op.R=b.op.R∧¬a.op.N=b.op.N)∨(a.op.R=b.op.R∧a.op.N=b.op.N∧¬a.i=b.i):=by
 by_cases h1:a.op.R=b.op.R
 ·by_cases h2:a.op.N=b.op.N
  ·exact .inr (.inr ⟨h1,h2,fun h3=>h (PV h1 h2 h3)⟩)
  ·exact .inr (.inl ⟨h1,h2⟩)
 ·exact .inl h1
theorem U0{F:Nat→Prop}{b:Nat}{t:Dc.YT}{w:World}(h:Dx F b t w)(hE:Env w){rk:Dc.Chr→Nat}{B M:Nat}(hok:Dc.BZ t.nodes rk B M)(a c:Dc.Chr)(hc:t.nodes c≠none)(hcz:c≠ .z):
  Calls Tryz.prog 292 #[.pointer (some ⟨b,0,none⟩),CE a,CE c] w (Bj (Dc.IJ t.nodes a c) w):=by
 obtain⟨lab,br,bn,nv,h1,h2,h3,h4,h5,h6⟩:=h
 obtain⟨n0,hn0⟩:=BQ.1 hc
 obtain⟨k0',hk0,_⟩:=h6.get hn0
 obtain⟨⟨aR,aN⟩,aI⟩:=a
 obtain⟨q,hq⟩:∃q,q=Dc.IJ t.nodes ⟨⟨aR,aN⟩,aI⟩ c:=⟨_,rfl⟩
 rw[←hq]
 have HQ:=Hx hq
 have HOK:=Hx hok
 have H6:=Hx h6
 have HCZ:=Hx hcz
 have HN0:=Hx hn0
 have hdis:=Hx (Nl hcz)
 have HK0:=Hx hk0
 have HL:=Hx (fun W (k:Aa No w W)=>J1 (h6.1.keeps k id) c.op.R c.op.N c.i)
 obtain⟨⟨cR,cN⟩,cI⟩:=c
 simp only at HL
 have hdis0:Hid ((¬cR=0)∨(cR=0∧¬cN=0)∨(cR=0∧cN=0∧¬cI=0)):=hdis
 clear hdis
 have hp:D5 (nv ⟨⟨cR,cN⟩,cI⟩)= .pointer (some ⟨k0',0,none⟩):=by rw[hk0];rfl
 have hs:(nv ⟨⟨cR,cN⟩,cI⟩).isSome=true:=by rw[hk0];rfl
 rw[hp,hs]at HL
 clear hq h1 h3 h4 h5 h6 hc hn0 hok hcz hk0 hp hs
 go_enter Tryz.func292,Tryz.ntmps292
 go_upto_region 1 with(fail)
 have k0:Aa No w ((w.alloc (.cells #[.int .i64 aR,.int .i64 aN,.int .i64 aI] 26)).alloc (.cells #[.int .i64 cR,.int .i64 cN,.int .i64 cI] 26)):=Kx
 have hA:=Ab (Nx w (.cells #[.int .i64 aR,.int .i64 aN,.int .i64 aI] 26)) (.cells #[.int .i64 cR,.int .i64 cN,.int .i64 cI] 26)
 have hC:=Nx (w.alloc (.cells #[.int .i64 aR,.int .i64 aN,.int .i64 aI] 26)) (.cells #[.int .i64 cR,.int .i64 cN,.int .i64 cI] 26)
 rw[World.size_alloc]at hC
 generalize (w.alloc (.cells #[.int .i64 aR,.int .i64 aN,.int .i64 aI] 26)).alloc (.cells #[.int .i64 cR,.int .i64 cN,.int .i64 cI] 26)=w1 at k0 hA hC⊢
 have z1:=Ex (Cx (k0.heap h2 id) 1)
 have z2:=Ex (Cx hC 0)
 have z3:=Ex (Cx hC 1)
 have z4:=Ex (Cx hC 2)
 have lk:=fun d os=>HL.out _ (k0.trans (Ag w1 d os))
 refine wp_region_quiet_below Rx Rx ?_
 repeat(quiet_step(fail))
 refine wpQuiet_nil ?_
 intro _ hw'
 obtain⟨⟨dq,osq⟩,hw''⟩:=hw'
 subst hw''
 have k3:Aa No w1 (Sort.grow (redrawn w1 dq) osq):=Ag w1 dq osq
 clear z1 z2 z3 z4 lk
 generalize Sort.grow (redrawn w1 dq) osq=w3 at k3⊢
 have kw3:=k0.trans k3
 have hA3:=k3.heap hA id
 have hC3:=k3.heap hC id
 have hb3:=kw3.heap h2 id
 have HB:=Hx h2
 have hE3:=hE.no kw3
 have e0:=hE3.start0
 have e1:=hE3.start1
 have e2:=hE3.start2
 have c0:=Cx hC3 0
 have c1:=Cx hC3 1
 have c2:=Cx hC3 2
 clear hA hC k0 k3
 go_upto_region 2 with(fail)
 have HA3:=Hx hA3
 clear hA3 hC3 hb3
 go_cut[24] (fun s24 wx=>s24= .bool false∧wx=w3)
 case first=>
  rcases hdis0.out with d|⟨rfl,d⟩|⟨rfl,rfl,d⟩
  all_goals
   go_wp2_with fail
   go_meet
   exact⟨rfl,rfl⟩
 case rest=>
  obtain⟨rfl,hwx⟩:=hcut
  subst hwx
  clear c0 c1 c2 hdis0
  go_wp2_with fail
  go_loopg [7] (rk ⟨⟨cR,cN⟩,cI⟩) (fun kx s7 wr=>∃(x:Dc.Chr) (k:Nat) (n:Dc.CP),s7= .pointer (some ⟨k,0,none⟩)∧t.nodes x=some n∧x≠ .z∧nv x=some k∧Dc.IJ t.nodes ⟨⟨aR,aN⟩,aI⟩ x=q∧rk x≤kx∧Aa No wc wr)
  case atStart=>exact⟨⟨⟨cR,cN⟩,cI⟩,k0',n0,rfl,HN0.out,HCZ.out,HK0.out,HQ.out.symm,Ac _,Aa.refl _ _⟩
  case round=>
   obtain⟨x,k,n,rfl,hx,hxz,hkx,hqx,hrx,kr⟩:=hrel
   have kwr:=kw3.trans kr
   have hst:=TI (a:=⟨⟨aR,aN⟩,aI⟩) hx hxz
   rw[hqx]at hst
   have hrk:=HOK.out.rank x n hx hxz
   obtain⟨nu,hnu⟩:=HOK.out.up x n hx
   obtain⟨ku,hku,_⟩:=H6.out.get hnu
   obtain⟨u0,u1,u2⟩:=(((H6.out.no kwr).2.2 x k n hkx hx)).up
   have HL:=Hx (fun W (kk:Aa No w W)=>C7 (H6.out.1.keeps kk id) n.up.op.R n.up.op.N n.up.i)
   have hp:D5 (nv ⟨⟨n.up.op.R,n.up.op.N⟩,n.up.i⟩)= .pointer (some ⟨ku,0,none⟩):=by rw[show(⟨⟨n.up.op.R,n.up.op.N⟩,n.up.i⟩:Dc.Chr)=n.up from rfl,hku];rfl
   rw[hp]at HL
   obtain⟨up,hup⟩:∃up,up=n.up:=⟨_,rfl⟩
   rw[←hup]at hst hrk hnu hku u0 u1 u2 HL
   clear hp hqx hx hup
   obtain⟨⟨uR,uN⟩,uI⟩:=up
   simp only at u0 u1 u2 HL
   have hA4:=kr.heap HA3.out id
   have Z0:=Ex u0
   have Z1:=Ex u1
   have Z2:=Ex u2
   have A0:=Ex (Cx hA4 0)
   have A1:=Ex (Cx hA4 1)
   have A2:=Ex (Cx hA4 2)
   have HST:=Hx hst
   have HNU:=Hx hnu
   have HKU:=Hx hku
   have HRK:=Hx hrk
   clear hst hnu hku hrk hxz hkx
   obtain⟨ne,hne⟩:∃ne:Bool,ne=decide ((⟨⟨uR,uN⟩,uI⟩:Dc.Chr)≠⟨⟨aR,aN⟩,aI⟩):=⟨_,rfl⟩
   have HNE:=Hx hne
   clear hne
   go_upto_region 4 with(fail)
   go_cut[30] (fun s30 wx=>s30= .bool ne∧Aa No wr wx)
   case first=>
    by_cases e:(⟨⟨uR,uN⟩,uI⟩:Dc.Chr)=⟨⟨aR,aN⟩,aI⟩
    ·have hb:ne=false:=by rw[HNE.out];simp[e]
     simp only[Dc.Chr.mk.injEq,Off.Bid.mk.injEq]at e
     obtain⟨⟨rfl,rfl⟩,rfl⟩:=e
     subst hb
     refine wp_region_quiet_below Rx Rx ?_
     repeat(quiet_step(fail))
     refine wpQuiet_nil ?_
     intro _ hw'
     obtain⟨⟨dq,osq⟩,hw''⟩:=hw'
     subst hw''
     have k5:Aa No wr (Sort.grow (redrawn wr dq) osq):=Ag wr dq osq
     clear Z0 Z1 Z2 A0 A1 A2
     generalize Sort.grow (redrawn wr dq) osq=w5 at k5⊢
     go_wp2_with fail
     go_meet
     exact⟨rfl,k5⟩
    ·have hb:ne=true:=by rw[HNE.out];simp[e]
     have hd:=Nl e
     simp only at hd
     subst hb
     clear e
     rcases hd with d|⟨rfl,d⟩|⟨rfl,rfl,d⟩
     ·refine wp_region_quiet_below Rx Rx ?_
      repeat(quiet_step(fail))
      refine wpQuiet_nil ?_
      intro _ hw'
      obtain⟨⟨dq,osq⟩,hw''⟩:=hw'
      subst hw''
      have k5:Aa No wr (Sort.grow (redrawn wr dq) osq):=Ag wr dq osq
      clear Z0 Z1 Z2 A0 A1 A2
      generalize Sort.grow (redrawn wr dq) osq=w5 at k5⊢
      go_wp2_with fail
      go_meet
      exact⟨rfl,k5⟩
     ·refine wp_region_quiet_below Rx Rx ?_
      repeat(quiet_step(fail))
      refine wpQuiet_nil ?_
      intro _ hw'
      obtain⟨⟨dq,osq⟩,hw''⟩:=hw'
      subst hw''
      have k5:Aa No wr (Sort.grow (redrawn wr dq) osq):=Ag wr dq osq
      clear Z0 Z1 Z2 A0 A1 A2
      generalize Sort.grow (redrawn wr dq) osq=w5 at k5⊢
      go_wp2_with fail
      go_meet
      exact⟨rfl,k5⟩
     ·refine wp_region_quiet_below Rx Rx ?_
      repeat(quiet_step(fail))
      refine wpQuiet_nil ?_
      intro _ hw'
      obtain⟨⟨dq,osq⟩,hw''⟩:=hw'
      subst hw''
      have k5:Aa No wr (Sort.grow (redrawn wr dq) osq):=Ag wr dq osq
      clear Z0 Z1 Z2 A0 A1 A2
      generalize Sort.grow (redrawn wr dq) osq=w5 at k5⊢
      go_wp2_with fail
      go_meet
      exact⟨rfl,k5⟩
   case rest=>
    obtain⟨rfl,k5⟩:=hcut
    obtain⟨w5,hw5⟩:∃y,y=wc:=⟨_,rfl⟩
    subst hw5
    cases ne with
    |false=>
     have hq:q=true:=by
      have h1:=HNE.out
      rw[HST.out,aG (p:=_=_) (Classical.byContradiction fun h=>by simp[h]at h1)]
      rfl
     subst hq
     clear HNE HST HQ
     go_wp2_with fail
     go_ret
     exact⟨rfl,kwr.trans k5⟩
    |true=>
     have hup:(⟨⟨uR,uN⟩,uI⟩:Dc.Chr)≠⟨⟨aR,aN⟩,aI⟩:=JK HNE.out.symm
     have hq:Dc.IJ t.nodes ⟨⟨aR,aN⟩,aI⟩ ⟨⟨uR,uN⟩,uI⟩=q:=by rw[HST.out];simp[hup]
     have HQU:=Hx hq
     clear hq hup HNE HST
     have kw5:=kwr.trans k5
     have hE5:=hE3.no (kr.trans k5)
     have Y0:=Ex (k5.cellOf u0 id)
     have Y1:=Ex (k5.cellOf u1 id)
     have Y2:=Ex (k5.cellOf u2 id)
     have E0:=Ex hE5.start0
     have E1:=Ex hE5.start1
     have E2:=Ex hE5.start2
     clear Z0 Z1 Z2 A0 A1 A2
     obtain⟨st,hst⟩:∃st:Bool,st=decide ((⟨⟨uR,uN⟩,uI⟩:Dc.Chr)=⟨⟨0,0⟩,0⟩):=⟨_,rfl⟩
     have HST:=Hx hst
     clear hst
     go_upto_region 5 with(fail)
     go_cut[36] (fun s36 wx=>s36= .bool st∧Aa No w5 wx)
     case first=>
      by_cases e:(⟨⟨uR,uN⟩,uI⟩:Dc.Chr)=⟨⟨0,0⟩,0⟩
      ·have hb:st=true:=by rw[HST.out];simp[e]
       simp only[Dc.Chr.mk.injEq,Off.Bid.mk.injEq]at e
       obtain⟨⟨rfl,rfl⟩,rfl⟩:=e
       subst hb
       refine wp_region_quiet_below Rx Rx ?_
       repeat(quiet_step(fail))
       refine wpQuiet_nil ?_
       intro _ hw'
       obtain⟨⟨dq,osq⟩,hw''⟩:=hw'
       subst hw''
       have k6:Aa No w5 (Sort.grow (redrawn w5 dq) osq):=Ag w5 dq osq
       clear Y0 Y1 Y2 E0 E1 E2
       generalize Sort.grow (redrawn w5 dq) osq=w6 at k6⊢
       go_wp2_with fail
       go_meet
       exact⟨rfl,k6⟩
      ·have hb:st=false:=by rw[HST.out];simp[e]
       have hd:=Nl e
       simp only at hd
       subst hb
       clear e
       rcases hd with d|⟨rfl,d⟩|⟨rfl,rfl,d⟩
       ·refine wp_region_quiet_below Rx Rx ?_
        repeat(quiet_step(fail))
        refine wpQuiet_nil ?_
        intro _ hw'
        obtain⟨⟨dq,osq⟩,hw''⟩:=hw'
        subst hw''
        have k6:Aa No w5 (Sort.grow (redrawn w5 dq) osq):=Ag w5 dq osq
        clear Y0 Y1 Y2 E0 E1 E2
        generalize Sort.grow (redrawn w5 dq) osq=w6 at k6⊢
        go_wp2_with fail
        go_meet
        exact⟨rfl,k6⟩
       ·refine wp_region_quiet_below Rx Rx ?_
        repeat(quiet_step(fail))
        refine wpQuiet_nil ?_
        intro _ hw'
        obtain⟨⟨dq,osq⟩,hw''⟩:=hw'
        subst hw''
        have k6:Aa No w5 (Sort.grow (redrawn w5 dq) osq):=Ag w5 dq osq
        clear Y0 Y1 Y2 E0 E1 E2
        generalize Sort.grow (redrawn w5 dq) osq=w6 at k6⊢
        go_wp2_with fail
        go_meet
        exact⟨rfl,k6⟩
       ·refine wp_region_quiet_below Rx Rx ?_
        repeat(quiet_step(fail))
        refine wpQuiet_nil ?_
        intro _ hw'
        obtain⟨⟨dq,osq⟩,hw''⟩:=hw'
        subst hw''
        have k6:Aa No w5 (Sort.grow (redrawn w5 dq) osq):=Ag w5 dq osq
        clear Y0 Y1 Y2 E0 E1 E2
        generalize Sort.grow (redrawn w5 dq) osq=w6 at k6⊢
        go_wp2_with fail
        go_meet
        exact⟨rfl,k6⟩
     case rest=>
      obtain⟨rfl,k6⟩:=hcut
      obtain⟨w6,hw6⟩:∃y,y=wc:=⟨_,rfl⟩
      subst hw6
      clear Y0 Y1 Y2 E0 E1 E2
      cases st with
      |true=>
       have e:(⟨⟨uR,uN⟩,uI⟩:Dc.Chr)= .z:=JK HST.out.symm
       have hq:q=false:=by rw[←HQU.out,e];exact WB _ _
       subst hq
       clear HQU HQ HST e
       go_wp2_with fail
       go_ret
       exact⟨rfl,(kw5.trans k6)⟩
      |false=>
       have e:(⟨⟨uR,uN⟩,uI⟩:Dc.Chr)≠ .z:=of_decide_eq_false HST.out.symm
       have HUZ:=Hx e
       clear e HST
       have kw6:=kw5.trans k6
       have Y0:=Ex ((k5.trans k6).cellOf u0 id)
       have Y1:=Ex ((k5.trans k6).cellOf u1 id)
       have Y2:=Ex ((k5.trans k6).cellOf u2 id)
       have B1:=Ex (Cx (kw6.heap HB.out id) 1)
       have lk:=fun d os=>HL.out _ (kw6.trans (Ag w6 d os))
       go_upto_region 7 with(fail)
       refine wp_region_quiet_below Rx Rx ?_
       repeat(quiet_step(fail))
       refine wpQuiet_nil ?_
       intro _ hw'
       obtain⟨⟨dq,osq⟩,hw''⟩:=hw'
       subst hw''
       have k7:Aa No w6 (Sort.grow (redrawn w6 dq) osq):=Ag w6 dq osq
       clear Y0 Y1 Y2 B1 lk
       generalize Sort.grow (redrawn w6 dq) osq=w7 at k7⊢
       go_wp2_with fail
       go_roundg (rk ⟨⟨uR,uN⟩,uI⟩)
       case measure=>have:=HRK.out;omega
       case rel=>exact⟨⟨⟨uR,uN⟩,uI⟩,ku,nu,rfl,HNU.out,HUZ.out,HKU.out,HQU.out,Ac _,((kr.trans k5).trans k6).trans k7⟩
end
end Go.Proofs.YthfjefcljeamgaaGreatDoor
