/- joined: The blocks above one: Way of the tree. The children of blocks: all that is below one. -/
import Derived.Test.YthfjefcljeamgaaGreatDoorApp
import Derived.Test.YthfjefcljeamgaaGreatDoorDcLaw
import Derived.Test.YthfjefcljeamgaaGreatDoorKidsD
import Derived.Deep.RegionLaw
namespace Go.Proofs.YthfjefcljeamgaaGreatDoor
set_option maxRecDepth 100000
set_option maxHeartbeats 4000000
section
open Go.RowKit
attribute [local go_sem ↓] Go.wp_at_zero Go.wp_at_succ
theorem V0(b bi bp:Nat)(vs vc:Value)(f:Dc.AB)(rk:Off.Bid→Nat)(hr:Dc.Ce f rk)(R N:Int)(hlen:(Dc.way f ⟨R,N⟩).length≤1000000)(w:World)
  (h1:w.heap[b]? =some (.cells #[vs,.map (some bi),.map (some bp),vc] 194 (0,0)))(h4:A8 idV Bt bp f w):
  Calls Tryz.prog 118 #[.pointer (some ⟨b,0,none⟩),.agg #[.int .i64 R,.int .i64 N]] w (ED (Dc.way f ⟨R,N⟩) w):=by
 have HR:=Hx hr
 clear hr
 obtain⟨q,hq⟩:∃q,q=Dc.way f ⟨R,N⟩:=⟨_,rfl⟩
 rw[←hq]at hlen⊢
 have HQ:=Hx hq
 clear hq
 go_enter Tryz.func118,Tryz.ntmps118
 go_upto_region 2 with(fail)
 have k0:Aa No w (w.alloc (.cells #[.int .i64 R,.int .i64 N] 24)):=Kx
 have hA:=Nx w (.cells #[.int .i64 R,.int .i64 N] 24)
 have hsz1:=World.size_alloc w (.cells #[.int .i64 R,.int .i64 N] 24)
 generalize w.alloc (.cells #[.int .i64 R,.int .i64 N] 24)=w1 at k0 hA hsz1⊢
 have HF:Hid (WP w1 b bp vs f):=Hx fun W k=>
  ⟨k,Cx (k.heap (k0.heap h1 id) id) 0,Cx (k.heap (k0.heap h1 id) id) 2,fun R N=>DN (h4.keeps (k0.trans k) id) R N⟩
 have HA:=Hx hA
 have HSZ1:=Hx hsz1
 obtain⟨A,eA⟩:∃A,A=w.heap.size:=⟨_,rfl⟩
 rw[←eA]at HA⊢
 have EA:=Hx eA
 clear h1 h4 eA hA hsz1
 go_cut[6,7] (fun s6 s7 wx=>∃g:Nat,s6= .pointer (some ⟨g,0,none⟩)∧s7= .bool (f ⟨R,N⟩).isSome∧It g (pl f ⟨R,N⟩) wx∧Aa No w1 wx)
 case first=>
  have HS:Hid (∀W,Aa No w1 W→Aa No w1 W∧W.cell? ⟨b,0,none⟩=some vs∧W.cell? ⟨b,2,none⟩=some (.map (some bp))∧W.cell? ⟨A,0,none⟩=some (.int .i64 R)∧W.cell? ⟨A,1,none⟩=some (.int .i64 N)∧
    (Instr.lookup 191 (.map (some bp)) (.agg #[.int .i64 R,.int .i64 N]) true).run Tryz.prog W= .ok (.tuple #[Bt (pl f ⟨R,N⟩),.bool (f ⟨R,N⟩).isSome]) W):=Hx fun W k=>
   ⟨k,(HF.out W k).2.1,(HF.out W k).2.2.1,Cx (k.heap HA.out id) 0,Cx (k.heap HA.out id) 1,(HF.out W k).2.2.2 R N⟩
  obtain⟨_,s1,s2,s3,s4,s5⟩:=HS.out w1 (Aa.refl _ _)
  generalize pl f ⟨R,N⟩=p at*
  generalize (f ⟨R,N⟩).isSome=ok at*
  go_region_held3(fun W=>Aa No w1 W∧W.cell? ⟨b,0,none⟩=some vs∧W.cell? ⟨b,2,none⟩=some (.map (some bp))∧W.cell? ⟨A,0,none⟩=some (.int .i64 R)∧W.cell? ⟨A,1,none⟩=some (.int .i64 N)∧
   (Instr.lookup 191 (.map (some bp)) (.agg #[.int .i64 R,.int .i64 N]) true).run Tryz.prog W= .ok (.tuple #[Bt p,.bool ok]) W) (exact HS.out _ Kx) (fail)
  all_goals
   go_wp2_with fail
   go_meet
   exact⟨w1.heap.size,rfl,rfl,by first|exact Nx w1 _|exact Nx w1.drew _,Kx⟩
 case rest=>
  obtain⟨g,rfl,rfl,hg,kc⟩:=hcut
  go_wp2_with fail
  go_loopg [5,6,7] (rk ⟨R,N⟩) (fun kx s5 s6 s7 wr=>∃(g:Nat) (x:Off.Bid) (acc:List Off.Bid),Aq 24 2 Bf s5 acc wr∧(∀g,s5.ownBlock=some g→w1.heap.size≤g)∧s6= .pointer (some ⟨g,0,none⟩)∧s7= .bool (f x).isSome∧It g (pl f x) wr∧Aa No w1 wr∧acc++Dc.way f x=q∧rk x≤kx)
  case atStart=>exact⟨g,⟨R,N⟩,[],Aq.nil,(fun g hg=>by cases hg),rfl,rfl,hg,kc,HQ.out.symm,Ac _⟩
  case round=>
   obtain⟨g',x,acc,hacc,hown,rfl,rfl,hg',kr,hqx,hrx⟩:=hrel
   clear hg kc
   cases hx:f x with
   |none=>
    have hq':acc=q:=by rw[←hqx,Dc.U4 hx,CJ]
    subst hq'
    clear hqx HQ HF hx
    obtain⟨ao,n,c,rfl⟩:=hacc.slice
    go_wp2_with fail
    go_ret
    exact⟨_,rfl,hacc,fun g hg=>by have:=hown g hg;have:=HSZ1.out;omega,k0.trans kr⟩
   |some p=>
    have hpl:pl f x=p:=by unfold pl;rw[hx];rfl
    rw[hpl]at hg'
    have hstep:=Dc.Qg HR.out hx
    rw[hstep]at hqx
    have hrk:=HR.out x p hx
    clear hpl hx hstep
    obtain⟨⟨pR,pN⟩,pkey⟩:=p
    have g0:=Cx hg' 0
    have g1:=Cx hg' 1
    have g2:=Cx hg' 2
    have hal:acc.length<1073741824:=by
     have:=congrArg List.length hqx
     simp at this
     omega
    have hgl:=Ao hg'
    have hw1:w1.heap.size≤wr.heap.size:=kr.size
    have HQX:=Hx hqx
    have HAL:=Hx hal
    clear hqx hal
    go_upto_region 6 with(at_builtin;refine Gq rfl _ _ rfl rfl (hacc.alloc _) (y:=⟨pR,pN⟩) rfl (Nx wr _) HAL.out ?_;intro v' w2 hrow2 k2 ho2)
    have hown2:∀g,u5.ownBlock=some g→w1.heap.size≤g:=hown
    have hk2:Aa No w1 w2:=(kr.alloc _).step k2 fun k hk hl=>by have:=hown2 k hk;omega
    have hg'2:=k2.heap (Ab hg' (.cells #[.int .i64 pR,.int .i64 pN] 24)) (fun e=>Bh hacc hg' (by decide) e)
    have hownv:∀g,v'.ownBlock=some g→w1.heap.size≤g:=fun g hg=>by
     rcases ho2 with e|e
     ·exact hown2 g (e▸hg)
     ·rw[e]at hg
      simp only[World.size_alloc,AZ]at hg
      omega
    clear g0 g1 g2 hg' hgl hacc k2 ho2 kr
    have g0:=Cx hg'2 0
    have g1:=Cx hg'2 1
    have g2:=Cx hg'2 2
    have hw2:w1.heap.size≤w2.heap.size:=hk2.size
    go_upto_region 4 with(fail)
    have k1:Aa No w1 (w2.alloc (.cells (D6 ⟨⟨pR,pN⟩,pkey⟩) 45 (0,0))):=Aa.alloc hk2 _
    have h2:=Nx w2 (.cells (D6 ⟨⟨pR,pN⟩,pkey⟩) 45 (0,0))
    have hrow3:=hrow2.alloc (.cells (D6 ⟨⟨pR,pN⟩,pkey⟩) 45 (0,0))
    clear g0 g1 g2 hg'2 hk2 hrow2
    generalize w2.alloc _=w4 at k1 h2 hrow3⊢
    have kd:=k1.drew
    have h3:w4.drew.heap[w2.heap.size]? =some (.cells (D6 ⟨⟨pR,pN⟩,pkey⟩) 45 (0,0)):=h2
    have hrowd:=hrow3.no (Aa.refl No w4).drew
    generalize hw3:w4.drew=w3 at kd h3 hrowd⊢
    have s1:=(HF.out w3 kd).2.2.1
    have s2:=Cx h3
    have s3:=Fx h3
    have s4:=(HF.out w3 kd).2.2.2 pR pN
    go_region
    have kf:Aa No w1 (((w3.setCell ⟨w2.heap.size,0,none⟩ (.int .i64 (pl f ⟨pR,pN⟩).parent.R)).setCell ⟨w2.heap.size,1,none⟩ (.int .i64 (pl f ⟨pR,pN⟩).parent.N)).setCell ⟨w2.heap.size,2,none⟩ (.string ⟨(pl f ⟨pR,pN⟩).key.toArray⟩)):=
     ((kd.setNew hw2 _).setNew hw2 _).setNew hw2 _
    have kg:Aa (At1 w2.heap.size) w3 (((w3.setCell ⟨w2.heap.size,0,none⟩ (.int .i64 (pl f ⟨pR,pN⟩).parent.R)).setCell ⟨w2.heap.size,1,none⟩ (.int .i64 (pl f ⟨pR,pN⟩).parent.N)).setCell ⟨w2.heap.size,2,none⟩ (.string ⟨(pl f ⟨pR,pN⟩).key.toArray⟩)):=
     (((Aa.refl _ _).set1 _).set1 _).set1 _
    have hf:=heap_set (heap_set (heap_set h3 0 (.int .i64 (pl f ⟨pR,pN⟩).parent.R)) 1 (.int .i64 (pl f ⟨pR,pN⟩).parent.N)) 2 (.string ⟨(pl f ⟨pR,pN⟩).key.toArray⟩)
    have hrow4:=hrowd.keeps kg fun g hg e=>Bh hrowd h3 (by decide) (by rw[hg,e])
    generalize ((w3.setCell ⟨w2.heap.size,0,none⟩ (.int .i64 (pl f ⟨pR,pN⟩).parent.R)).setCell ⟨w2.heap.size,1,none⟩ (.int .i64 (pl f ⟨pR,pN⟩).parent.N)).setCell ⟨w2.heap.size,2,none⟩ (.string ⟨(pl f ⟨pR,pN⟩).key.toArray⟩)=w5 at kf hf hrow4⊢
    go_wp2_with fail
    go_roundg (rk ⟨pR,pN⟩)
    case measure=>omega
    case rel=>exact⟨w2.heap.size,⟨pR,pN⟩,acc++[⟨pR,pN⟩],hrow4,hownv,rfl,rfl,hf,kf,by have:=HQX.out;simpa using this,Ac _⟩
end
section
open Go.RowKit
attribute [local go_sem ↓] Go.wp_at_zero Go.wp_at_succ
attribute [local go_sem] run_makeMap
def BN(base:Nat):Nat→Prop:=fun k=>base≤k
/-- the walker at block wb: what it has told, and seen -/
def K4(base wb kb bs:Nat)(acc:List Off.Bid)(seen:Off.Bid→Option Int)(w:World):Prop:=
 ∃vo,w.heap[wb]? =some (.cells #[.pointer (some ⟨kb,0,none⟩),.map (some bs),vo] 220 (0,0))∧A8 idV GR bs seen w∧Aq 24 2 Bf vo acc w∧(∀g,vo.ownBlock=some g→base≤g)
def Ha(seen:Off.Bid→Option Int)(a:Off.Bid)(l:List Off.Bid):Off.Bid→Option Int:=fun x=>if x=a∨x∈l then some 1 else seen x
def La(base wb kb bs:Nat)(acc:List Off.Bid)(seen:Off.Bid→Option Int)(a:Off.Bid)(l:List Off.Bid)(w:World)(e:Ending)(w':World):Prop:=
 e= .returned (.tuple #[])∧K4 base wb kb bs (acc++l) (Ha seen a l) w'∧Aa (BN base) w w'
theorem Ue{f:Dc.AB}{L:Dc.CZ}{rk:Off.Bid→Nat}(hk:Dc.CH f L)(hr:Dc.Ce f rk){n:Nat}{a:Off.Bid}(hd:Dc.Deep f rk n a):Dc.Ds n L a=(L a).flatMap fun c=>c.id::Dc.Ds (n-1) L c.id:=by
 cases n with
 |zero=>unfold Dc.Ds;rw[hd.none hk hr];rfl
 |succ n=>rfl
theorem R9{α β:Type}{G:α→List β}{l:List α}(hn:(l.flatMap G).Nodup){j:Nat}(hj:j<l.length){x:β}(hx:x∈G l[j]):x∉(l.take j).flatMap G:=by
 have e:l=l.take j++l[j]::l.drop (j+1):=by rw[←Ci hj,A9]
 intro h
 rw[e,BU,BE]at hn
 exact(Ff.1 hn).2.2 x h x (AC.2 (.inl hx)) rfl
theorem Oa{α β:Type}{G:α→List β}{l:List α}{j:Nat}(hj:j<l.length):(l.take (j+1)).flatMap G=(l.take j).flatMap G++G l[j]:=by
 rw[AW,Aj hj,BU]
 simp
theorem NR(base wb kb bp bl bs:Nat)(lv:Off.Bid→Option Value)(f:Dc.AB)(L:Dc.CZ)(rk:Off.Bid→Nat)(hk:Dc.CH f L)(hr:Dc.Ce f rk)(hlz:∀p,(L p).length≤1000000)(hbs:base≤bs)(hwb:base≤wb)(n:Nat)
  (ih:∀m,m<n→∀(a:Off.Bid) (acc:List Off.Bid) (seen:Off.Bid→Option Int) (w:World),base≤w.heap.size→w.heap[kb]? =some (.cells #[.map (some bp),.map (some bl)] 197 (0,0))→A8 idV asV bl lv w→kb<base→bl<base→
   (∀p,Aq 278 3 Ar (DV lv p) (L p) w)→(∀p g,(DV lv p).ownBlock=some g→g<base)→Dc.Deep f rk m a→(∀x,Dc.Bel f x a→seen x=none)→acc.length+(Dc.Ds m L a).length≤1000000→K4 base wb kb bs acc seen w→
   Calls Tryz.prog 117 #[.pointer (some ⟨wb,0,none⟩),idV a] w (La base wb kb bs acc seen a (Dc.Ds m L a) w))
  (a:Off.Bid)(acc:List Off.Bid)(seen:Off.Bid→Option Int)(w:World)(hbw:base≤w.heap.size)(hkb:w.heap[kb]? =some (.cells #[.map (some bp),.map (some bl)] 197 (0,0)))(hl:A8 idV asV bl lv w)(hkbb:kb<base)(hblb:bl<base)
  (hrows:∀p,Aq 278 3 Ar (DV lv p) (L p) w)(hrb:∀p g,(DV lv p).ownBlock=some g→g<base)(hd:Dc.Deep f rk n a)(hseen:∀x,Dc.Bel f x a→seen x=none)(hsz:acc.length+(Dc.Ds n L a).length≤1000000)(hW:K4 base wb kb bs acc seen w):
  Calls Tryz.prog 117 #[.pointer (some ⟨wb,0,none⟩),idV a] w (La base wb kb bs acc seen a (Dc.Ds n L a) w):=by
 obtain⟨vo,hw0,hs0,ho0,hov⟩:=hW
 obtain⟨aR,aN⟩:=a
 have hflat:=Ue hk hr hd
 have hmem:=Dc.Fh hk hr n _ hd
 have hnd:=Dc.Ic hk hr n _ hd
 obtain⟨W,hWW⟩:∃W,W=Dc.Ds n L ⟨aR,aN⟩:=⟨_,rfl⟩
 rw[←hWW]at hflat hmem hnd hsz⊢
 obtain⟨G,hG⟩:∃G:Dc.C0→List Off.Bid,G=fun c=>c.id::Dc.Ds (n-1) L c.id:=⟨_,rfl⟩
 rw[←hG]at hflat
 obtain⟨l,hll⟩:∃l,l=L ⟨aR,aN⟩:=⟨_,rfl⟩
 rw[←hll]at hflat
 have IH:=Hx ih
 have HK:=Hx hk
 have HR:=Hx hr
 have HRB:=Hx hrb
 have HD:=Hx hd
 have HSE:=Hx hseen
 have HFL:=Hx hflat
 have HMEM:=Hx hmem
 have HND:=Hx hnd
 have HG:=Hx hG
 have HLL:=Hx hll
 have hl6:=hlz ⟨aR,aN⟩
 rw[←hll]at hl6
 have HROWS:=Hx hrows
 clear ih hk hr hrb hd hseen hflat hmem hnd hG hll hWW hrows hlz
 go_enter Tryz.func117,Tryz.ntmps117
 go_upto_region 1 with(fail)
 have k0:Aa No w (w.alloc (.cells #[.int .i64 aR,.int .i64 aN] 24)):=Kx
 have hA:=Nx w (.cells #[.int .i64 aR,.int .i64 aN] 24)
 generalize w.alloc (.cells #[.int .i64 aR,.int .i64 aN] 24)=w1 at k0 hA⊢
 obtain⟨A,eA⟩:∃A,A=w.heap.size:=⟨_,rfl⟩
 rw[←eA]at hA⊢
 have hbA:base≤A:=by omega
 clear eA
 have hw1:=k0.heap hw0 id
 have hs1:=hs0.keeps k0 id
 have x1:=Cx hw1 1
 have a0:=Cx hA 0
 have a1:=Cx hA 1
 go_still_tail 5,Rx
 change wpList _ _ _ _ _ w1.drew
 refine EJ rfl Eh Tryz.underlying43 (hs1.keeps (Aa.refl No w1).drew id) _ _ _ rfl rfl ⟨aR,aN⟩ rfl 1 rfl ?_
 intro w2 hs2 k2 hz2
 clear hz2
 have hsA:=AA hs1 hA
 have hsw:=AA hs1 hw1
 have hskb:bs≠kb:=by omega
 have hsbl:bs≠bl:=by omega
 have hA2:=k2.heap (show w1.drew.heap[A]? =_ from hA) (Ne.symm hsA)
 have hw2:=k2.heap (show w1.drew.heap[wb]? =_ from hw1) (Ne.symm hsw)
 have hk2:=k2.heap (show w1.drew.heap[kb]? =_ from k0.heap hkb id) (Ne.symm hskb)
 have hl2:=((hl.keeps k0 id).keeps (Aa.refl No w1).drew id).keeps k2 (Ne.symm hsbl)
 have ho2:=((ho0.no k0).no (Aa.refl No w1).drew).keeps k2 fun g hg e=>BH ho0 hs0 (by rw[hg,e])
 have kw2:Aa (BN base) w w2:=(k0.any.drew).step k2 fun k hk _=>by unfold At1 at hk;subst hk;exact hbs
 clear x1 a0 a1 hA hw1 hs1 k2
 go_upto_region 2 with(fail)
 obtain⟨v,hv⟩:∃v,v=DV lv ⟨aR,aN⟩:=⟨_,rfl⟩
 have hrow2:=(HROWS.out ⟨aR,aN⟩).keeps kw2 fun g hg e=>by have:=HRB.out _ g hg;unfold BN at e;omega
 rw[←hv,←HLL.out]at hrow2
 have hvb:∀g,v.ownBlock=some g→g<base:=fun g hg=>HRB.out _ g (hv▸hg)
 obtain⟨ao,cp,rfl⟩:∃ao cp,v= .slice ao l.length cp:=by
  rcases hrow2.form with⟨rfl,rfl⟩|⟨g',cap,_,rfl,_⟩
  ·exact⟨none,0,rfl⟩
  ·exact⟨_,cap,rfl⟩
 have z1:∀d os,(Sort.grow (redrawn w2 d) os).cell? ⟨wb,0,none⟩=some (.pointer (some ⟨kb,0,none⟩)):=Ex (Cx hw2 0)
 have z2:∀d os,(Sort.grow (redrawn w2 d) os).cell? ⟨kb,1,none⟩=some (.map (some bl)):=Ex (Cx hk2 1)
 have z3:∀d os,(Sort.grow (redrawn w2 d) os).cell? ⟨A,0,none⟩=some (.int .i64 aR):=Ex (Cx hA2 0)
 have z4:∀d os,(Sort.grow (redrawn w2 d) os).cell? ⟨A,1,none⟩=some (.int .i64 aN):=Ex (Cx hA2 1)
 have lk:∀d os,(Instr.lookup 195 (.map (some bl)) (.agg #[.int .i64 aR,.int .i64 aN]) false).run Tryz.prog (Sort.grow (redrawn w2 d) os)= .ok (.slice ao l.length cp) (Sort.grow (redrawn w2 d) os):=fun d os=>by
  rw[hv];exact J0 (hl2.keeps (Ag (S:=No) w2 d os) id) aR aN
 have HV:=Hx hv
 clear hv
 refine wp_region_quiet_below Rx Rx ?_
 repeat(quiet_step(fail))
 refine wpQuiet_nil ?_
 intro _ hw'
 obtain⟨⟨dq,osq⟩,hw''⟩:=hw'
 subst hw''
 have k3:Aa No w2 (Sort.grow (redrawn w2 dq) osq):=Ag w2 dq osq
 clear z1 z2 z3 z4 lk
 generalize Sort.grow (redrawn w2 dq) osq=w3 at k3⊢
 go_wp2_with fail
 have hw3:=k3.heap hw2 id
 have hs3:=hs2.keeps k3 id
 have ho3:=ho2.no k3
 have kw3:=kw2.no k3
 clear hw2 hs2 ho2 hk2 hl2 hrow2 kw2 k3 hA2
 go_loopg [21] l.length (fun kx s21 wr=>∃j:Nat,s21= .int .i64 j∧j≤l.length∧l.length-j≤kx∧K4 base wb kb bs (acc++(l.take j).flatMap G) (Ha seen ⟨aR,aN⟩ ((l.take j).flatMap G)) wr∧Aa (BN base) w wr)
 case atStart=>
  refine⟨0,rfl,Ah _,Ac _,⟨vo,hw3,?_,by simpa using ho3,hov⟩,kw3⟩
  have e:Ha seen ⟨aR,aN⟩ ((l.take 0).flatMap G)=Db seen ⟨aR,aN⟩ (some 1):=by
   funext x
   unfold Ha Db
   simp
  rw[e]
  exact hs3
 case round=>
  clear hw3 hs3 ho3 kw3 hw0 hs0 ho0 hov
  obtain⟨j,rfl,hjl,hjk,⟨vo,hwr,hsr,hor,hov⟩,kr⟩:=hrel
  by_cases hj:j<l.length
  ·have hrow:=(HROWS.out ⟨aR,aN⟩).keeps kr fun g hg e=>by have:=HRB.out _ g hg;unfold BN at e;omega
   rw[←HV.out,←HLL.out]at hrow
   obtain⟨g,cap,e1,hcap,_⟩:=hrow.at (by omega)
   injection e1 with e1 e2 e3
   subst e1 e3
   have hgb:=hvb g rfl
   obtain⟨cR,cN,ck,hcj⟩:∃cR cN ck,l[j]=⟨ck,⟨cR,cN⟩⟩:=⟨_,_,_,rfl⟩
   have hc:=fun r (hr:r<3)=>hrow.cell (fun _=>rfl) hj hr
   rw[hcj]at hc
   have c0:wr.cell? ⟨g,j*3,none⟩=some (.string ⟨ck.toArray⟩):=hc 0 (by decide)
   have c1:wr.cell? ⟨g,j*3+1,none⟩=some (.int .i64 cR):=hc 1 (by decide)
   have c2:wr.cell? ⟨g,j*3+2,none⟩=some (.int .i64 cN):=hc 2 (by decide)
   have hjI:(j:Int)<(l.length:Int):=by omega
   have hj0:(0:Int)≤(j:Int):=by omega
   have HCJ:=Hx hcj
   clear hc hcj hrow
   have hcl:l[j]∈L ⟨aR,aN⟩:=by rw[←HLL.out];exact AQ hj
   have hWn:Hid (∀x,x∈G l[j]→Ha seen ⟨aR,aN⟩ ((l.take j).flatMap G) x=none):=Hx fun x hx=>by
    have hxW:x∈W:=by rw[HFL.out];exact Ba.2 ⟨l[j],AQ hj,hx⟩
    have hbel:=(HMEM.out x).1 hxW
    have h1:x≠⟨aR,aN⟩:=fun e=>Dc.FY HR.out (e▸hbel)
    have h2:=R9 (HFL.out▸HND.out) hj hx
    unfold Ha
    rw[Ae (by rintro(e|e);exact h1 e;exact h2 e)]
    exact HSE.out x hbel
   have hGj:Hid (G l[j]=⟨cR,cN⟩::Dc.Ds (n-1) L ⟨cR,cN⟩):=Hx (by rw[HG.out,HCJ.out])
   have hse:=hWn.out ⟨cR,cN⟩ (by rw[hGj.out];simp)
   have hlenW:Hid (acc.length+((l.take j).flatMap G).length+(G l[j]).length≤1000000):=Hx (by
    have e:l=l.take j++l[j]::l.drop (j+1):=by rw[←Ci hj,A9]
    have h1:W=(l.take j).flatMap G++(G l[j]++(l.drop (j+1)).flatMap G):=by rw[HFL.out];conv=>lhs;rw[e,BU,BE]
    have h2:=congrArg List.length h1
    simp only[Ai]at h2
    omega)
   have hnz:Hid (∃m,n=m+1):=Hx (by
    cases n with
    |zero=>have:=HD.out.none HK.out HR.out;rw[this]at hcl;cases hcl
    |succ m=>exact⟨m,rfl⟩)
   have HCL:=Hx hcl
   clear hcl
   go_upto_region 5 with(fail)
   have k4:Aa No wr (wr.alloc (.cells #[.string ⟨ck.toArray⟩,.int .i64 cR,.int .i64 cN] 278)):=Kx
   have hC:=Nx wr (.cells #[.string ⟨ck.toArray⟩,.int .i64 cR,.int .i64 cN] 278)
   generalize wr.alloc (.cells #[.string ⟨ck.toArray⟩,.int .i64 cR,.int .i64 cN] 278)=w4 at k4 hC⊢
   have hbr:base≤wr.heap.size:=AG hbw kr.size
   obtain⟨C,eC⟩:∃C,C=wr.heap.size:=⟨_,rfl⟩
   rw[←eC]at hC hbr⊢
   clear eC c0 c1 c2
   have hw4:=k4.heap hwr id
   have hs4:=hsr.keeps k4 id
   have ho4:=hor.no k4
   have kw4:=kr.no k4
   clear hwr hsr hor kr k4
   obtain⟨sj,hsj⟩:∃sj,sj=Ha seen ⟨aR,aN⟩ ((l.take j).flatMap G):=⟨_,rfl⟩
   rw[←hsj]at hse hs4
   have HSJ:=Hx hsj
   clear hsj
   have z1:∀d os,(Sort.grow (redrawn w4 d) os).cell? ⟨wb,1,none⟩=some (.map (some bs)):=Ex (Cx hw4 1)
   have z2:∀d os,(Sort.grow (redrawn w4 d) os).cell? ⟨C,1,none⟩=some (.int .i64 cR):=Ex (Cx hC 1)
   have z3:∀d os,(Sort.grow (redrawn w4 d) os).cell? ⟨C,2,none⟩=some (.int .i64 cN):=Ex (Cx hC 2)
   have lk:∀d os,(Instr.lookup 43 (.map (some bs)) (.agg #[.int .i64 cR,.int .i64 cN]) false).run Tryz.prog (Sort.grow (redrawn w4 d) os)= .ok (.int .i64 0) (Sort.grow (redrawn w4 d) os):=fun d os=>by
    have h:=Pm (hs4.keeps (Ag (S:=No) w4 d os) id) cR cN
    rw[hse]at h
    exact h
   have HSE0:=Hx hse
   clear hse
   refine wp_region_quiet_below Rx Rx ?_
   repeat(quiet_step(fail))
   refine wpQuiet_nil ?_
   intro _ hw'
   obtain⟨⟨dq,osq⟩,hw''⟩:=hw'
   subst hw''
   have k5:Aa No w4 (Sort.grow (redrawn w4 dq) osq):=Ag w4 dq osq
   clear z1 z2 z3 lk
   generalize Sort.grow (redrawn w4 dq) osq=w5 at k5⊢
   have hw5:=k5.heap hw4 id
   have hs5:=hs4.keeps k5 id
   have ho5:=ho4.no k5
   have hC5:=k5.heap hC id
   have kw5:=kw4.no k5
   clear hw4 hs4 ho4 hC kw4 k5
   go_upto_region 6 with(fail)
   obtain⟨aj,haj⟩:∃aj,aj=acc++(l.take j).flatMap G:=⟨_,rfl⟩
   rw[←haj]at ho5
   have hajl:Hid (aj.length+(G l[j]).length≤1000000):=Hx (by have:=hlenW.out;rw[haj,Ai];omega)
   have hajl1:aj.length+1≤100000000:=by have:=hajl.out;have e:=congrArg List.length hGj.out;simp at e;omega
   have HAJ:=Hx haj
   clear haj
   go_cut[41] (fun s41 wx=>K4 base wb kb bs (aj++[⟨cR,cN⟩]) sj wx∧wx.heap[C]? =some (.cells #[.string ⟨ck.toArray⟩,.int .i64 cR,.int .i64 cN] 278 (0,0))∧Aa (BN base) w wx)
   case first=>
    have k6:Aa No w5 w5.drew:=(Aa.refl No w5).drew
    generalize hw6:w5.drew=w6 at k6
    have hwb6:=k6.heap hw5 id
    have hC6:=k6.heap hC5 id
    have hs6:=hs5.keeps k6 id
    have ho6:=ho5.no k6
    have kw6:=kw5.no k6
    have x2:=Cx hwb6 2
    have c1:=Cx hC6 1
    have c2:=Cx hC6 2
    have ka:Aa No w6 (w6.alloc (.cells #[.int .i64 cR,.int .i64 cN] 24)):=(Aa.refl No w6).alloc _
    have hy:=Nx w6 (.cells #[.int .i64 cR,.int .i64 cN] 24)
    have hoa:=ho6.no ka
    have y2:=Cx (ka.heap hwb6 id) 2
    have HAP:=Hx (fun ty=>WO.append hoa ⟨w6.heap.size,0,none⟩ 1 1 [⟨cR,cN⟩] rfl (Ey hy) hajl1 ty)
    have hwbo:vo.ownBlock≠some wb:=Bh ho6 hwb6 (by decide)
    have hCo:vo.ownBlock≠some C:=Bh ho6 hC6 (by decide)
    have hso:vo.ownBlock≠some bs:=BH ho6 hs6
    have hb6:base≤w6.heap.size:=AG hbw kw6.size
    obtain⟨vao,vn,vc,rfl⟩:=ho6.slice
    go_region_law(first
     |(obtain⟨v',w7,hr7,ho7,k7,hov7⟩:=HAP.out _
       have hwb7:=k7.heap (ka.heap hwb6 id) hwbo;have hC7:=k7.heap (ka.heap hC6 id) hCo;have hs7:=(hs6.keeps ka id).keeps k7 hso;have kw7:Aa (BN base) w w7:=(kw6.no ka).step k7 fun k hk _=>hov k hk
       have x7:=Cx hwb7 2;have u7:=Fx hwb7 2
       obtain⟨ao7,n7,c7,rfl⟩:=ho7.slice
       refine CW rfl _ _ 62 62 rfl _ _ (by simp[Act.eval]) (by simp[Act.eval]) hr7 ?_))
    all_goals
     go_wp2_with fail
     go_meet
     refine⟨⟨.slice ao7 n7 c7,heap_set hwb7 2 _,hs7.setCell _ hsw,ho7.keeps ((Aa.refl (At1 wb) w7).set1 (o:=2) _) (fun g hg e=>Bh ho7 hwb7 (by decide) (by rw[hg,e])),fun g hg=>?_⟩,AP hC7 (EM hC7 hwb7 (by decide)) _,kw7.setCell (a:=⟨wb,2,none⟩) (fun _=>hwb) _⟩
     rcases hov7 with e|e
     ·exact hov g (e▸hg)
     ·rw[e]at hg
      have e9:=Ap hg
      rw[World.size_alloc]at e9
      omega
   case rest=>
    obtain⟨hW7,hC7,kw7⟩:=hcut
    have c1:=Cx hC7 1
    have c2:=Cx hC7 2
    obtain⟨m,rfl⟩:=hnz.out
    have hbw7:base≤wc.heap.size:=AG hbw kw7.size
    have hdm:Dc.Deep f rk m ⟨cR,cN⟩:=by
     have h:=HD.out.child HK.out HR.out HCL.out
     rw[HCJ.out]at h
     exact h
    have hNA:∀x,x<base→¬BN base x:=fun x hx e=>by unfold BN at e;omega
    have hcall:=IH.out m (Nat.lt_succ_self _) ⟨cR,cN⟩ (aj++[⟨cR,cN⟩]) sj wc hbw7 (kw7.heap hkb (hNA _ hkbb)) (hl.keeps kw7 (hNA _ hblb)) hkbb hblb (fun p=>(HROWS.out p).keeps kw7 fun g hg=>hNA _ (HRB.out p g hg)) HRB.out hdm
     (fun x hx=>by
      have h:=hWn.out x (by rw[hGj.out];exact Ed _ ((Dc.Fh HK.out HR.out m _ hdm x).2 hx))
      rw[HSJ.out];exact h)
     (by have h1:=hajl.out;have h2:=congrArg List.length hGj.out;simp only[BO,Nat.add_sub_cancel]at h2;rw[Ai];simp only[BO,List.length_nil];omega) hW7
    have HCALL:=Hx hcall
    clear hcall hW7 hNA
    have hwj:IntKind.i64.wrap ((j:Int)+1)=(j:Int)+1:=by rw[IntKind.wrap_i64];omega
    go_wp2_with(go_at_call 117;refine HCALL.out.mono ?_;rintro e w8 ⟨rfl,hW8,k8⟩)
    go_roundg (l.length-(j+1))
    case measure=>omega
    case rel=>
     refine⟨j+1,by go_num,hj,Ac _,?_,kw7.step k8 fun k hk _=>hk⟩
     have e1:acc++(l.take (j+1)).flatMap G=aj++[⟨cR,cN⟩]++Dc.Ds m L ⟨cR,cN⟩:=by
      have hg:=hGj.out
      simp only[Nat.add_sub_cancel]at hg
      rw[Oa hj,hg,HAJ.out]
      simp
     have e2:Ha seen ⟨aR,aN⟩ ((l.take (j+1)).flatMap G)=Ha sj ⟨cR,cN⟩ (Dc.Ds m L ⟨cR,cN⟩):=by
      have hg:=hGj.out
      simp only[Nat.add_sub_cancel]at hg
      rw[Oa hj,hg,HSJ.out]
      funext x
      unfold Ha
      simp only[AC,A7]
      by_cases h1:x=⟨cR,cN⟩∨x∈Dc.Ds m L ⟨cR,cN⟩
      ·rw[Ak h1,Ak (.inr (.inr h1))]
      ·rw[Ae h1]
       by_cases h2:x=⟨aR,aN⟩∨x∈(l.take j).flatMap G
       ·rw[Ak h2,Ak (by rcases h2 with h2|h2;exact .inl h2;exact .inr (.inl h2))]
       ·rw[Ae h2,Ae (by rintro(h3|h3|h3);exact h2 (.inl h3);exact h2 (.inr h3);exact h1 h3)]
     rw[e1,e2]
     exact hW8
  ·obtain rfl:j=l.length:=by omega
   have hjI:¬((l.length:Int)<(l.length:Int)):=by omega
   rw[AH,←HFL.out]at hsr hor
   go_wp2_with fail
   go_end0
   exact⟨rfl,⟨vo,hwr,hsr,hor,hov⟩,kr⟩
/-- what is below a block, told by the walker -/
theorem NS(base wb kb bp bl bs:Nat)(lv:Off.Bid→Option Value)(f:Dc.AB)(L:Dc.CZ)(rk:Off.Bid→Nat)(hk:Dc.CH f L)(hr:Dc.Ce f rk)(hlz:∀p,(L p).length≤1000000)(hbs:base≤bs)(hwb:base≤wb):∀(n:Nat)
  (a:Off.Bid) (acc:List Off.Bid) (seen:Off.Bid→Option Int) (w:World),base≤w.heap.size→w.heap[kb]? =some (.cells #[.map (some bp),.map (some bl)] 197 (0,0))→A8 idV asV bl lv w→kb<base→bl<base→
   (∀p,Aq 278 3 Ar (DV lv p) (L p) w)→(∀p g,(DV lv p).ownBlock=some g→g<base)→Dc.Deep f rk n a→(∀x,Dc.Bel f x a→seen x=none)→acc.length+(Dc.Ds n L a).length≤1000000→K4 base wb kb bs acc seen w→
   Calls Tryz.prog 117 #[.pointer (some ⟨wb,0,none⟩),idV a] w (La base wb kb bs acc seen a (Dc.Ds n L a) w):=by
 intro n
 induction n using Nat.strongRecOn with
 |_ n ih=>exact NR base wb kb bp bl bs lv f L rk hk hr hlz hbs hwb n ih
theorem Py{F:Nat→Prop}{b:Nat}{f:Dc.AB}{L:Dc.CZ}{w:World}(h:Di F b f L w)(hk:Dc.CH f L)(rk:Off.Bid→Nat)(hr:Dc.Ce f rk)(dom:List Off.Bid)(hd:∀x,f x≠none→x∈dom)(hn:dom.length≤1000000)(a:Off.Bid)(n:Nat)(hdeep:Dc.Deep f rk n a):
  Calls Tryz.prog 73 #[.pointer (some ⟨b,0,none⟩),idV a] w (ED (Dc.Ds n L a) w):=by
 obtain⟨bp,bl,lv,h1,h2,h3,h4,f1,f2,f3,f4,f5,f6⟩:=h
 obtain⟨aR,aN⟩:=a
 have HALL:=Hx (fun wb bs hbs hwb=>NS w.heap.size wb b bp bl bs lv f L rk hk hr (fun p=>AG (Dc.J4 hk hd p) hn) hbs hwb n ⟨aR,aN⟩ [] (fun _=>none))
 have hwl:=AG (Dc.Qj hk hr hd hdeep) hn
 have HDP:=Hx hdeep
 clear hdeep hk hr hd
 obtain⟨W,hW⟩:∃W,W=Dc.Ds n L ⟨aR,aN⟩:=⟨_,rfl⟩
 rw[←hW]at HALL hwl⊢
 clear hW
 go_enter Tryz.func73,Tryz.ntmps73
 go_upto_region 2 with(fail)
 have k2:Aa No w (((w.alloc (.cells #[.int .i64 aR,.int .i64 aN] 24)).alloc (.map #[] 0)).alloc (.cells #[.pointer (some ⟨b,0,none⟩),.map (some (w.heap.size+1)),.slice none 0 0] 220)):=(((Aa.refl No w).alloc _).alloc _).alloc _
 have hA:=Ab (Ab (Nx w (.cells #[.int .i64 aR,.int .i64 aN] 24)) (.map #[] 0)) (.cells #[.pointer (some ⟨b,0,none⟩),.map (some (w.heap.size+1)),.slice none 0 0] 220)
 have hM:A8 idV GR (w.heap.size+1) (fun _=>none) (((w.alloc (.cells #[.int .i64 aR,.int .i64 aN] 24)).alloc (.map #[] 0)).alloc (.cells #[.pointer (some ⟨b,0,none⟩),.map (some (w.heap.size+1)),.slice none 0 0] 220)):=by
  have h:=A8.new (kv:=idV) (ev:=GR) (w.alloc (.cells #[.int .i64 aR,.int .i64 aN] 24))
  rw[World.size_alloc]at h
  exact h.alloc _
 have hWb:=Nx ((w.alloc (.cells #[.int .i64 aR,.int .i64 aN] 24)).alloc (.map #[] 0)) (.cells #[.pointer (some ⟨b,0,none⟩),.map (some (w.heap.size+1)),.slice none 0 0] 220)
 rw[World.size_alloc,World.size_alloc]at hWb
 generalize (((w.alloc (.cells #[.int .i64 aR,.int .i64 aN] 24)).alloc (.map #[] 0)).alloc (.cells #[.pointer (some ⟨b,0,none⟩),.map (some (w.heap.size+1)),.slice none 0 0] 220))=w1 at k2 hA hM hWb⊢
 have hcall:=HALL.out (w.heap.size+1+1) (w.heap.size+1) (by omega) (by omega) w1 k2.size (k2.heap h1 id) (h3.keeps k2 id) (Ao h1) h3.lt (fun p=>(h4 p).no k2) (fun p g hg=>(h4 p).own_lt hg) HDP.out (fun _ _=>rfl) (by simpa using hwl) ⟨_,hWb,hM,Aq.nil,fun g hg=>by cases hg⟩
 have a0:=Cx hA 0
 have a1:=Cx hA 1
 clear hWb hM hA
 have HC:=Hx hcall
 clear hcall
 obtain⟨B,eB⟩:∃B,B=w.heap.size+1+1:=⟨_,rfl⟩
 obtain⟨M,eM⟩:∃M,M=w.heap.size+1:=⟨_,rfl⟩
 rw[←eM]at eB
 rw[←eM,←eB]at HC⊢
 clear eB eM
 go_wp2_with(go_at_call 117;refine HC.out.mono ?_;rintro e w3 ⟨rfl,hW3,k3⟩;obtain⟨vo,hw3,hs3,ho3,hov⟩:=hW3;have x2:=Cx hw3 2;obtain⟨ao,n3,c3,rfl⟩:=ho3.slice)
 go_ret
 exact⟨_,rfl,by simpa using ho3,hov,k2.step k3 fun k hk hl=>by unfold BN at hk;omega⟩
end
end Go.Proofs.YthfjefcljeamgaaGreatDoor
