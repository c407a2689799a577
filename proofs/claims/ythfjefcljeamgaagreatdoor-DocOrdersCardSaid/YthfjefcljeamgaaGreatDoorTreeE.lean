/- joined: The tree compares the places that were with those that are. The steps of a tree as a chain: what undo and redo make of it; a step set within its row; a map of places cloned. -/
import Derived.Test.YthfjefcljeamgaaGreatDoorSortIds
import Derived.Maps.AppendAt
import Derived.Deep.DeepCutAuto
import Derived.Test.YthfjefcljeamgaaGreatDoorIns
import Derived.Test.YthfjefcljeamgaaGreatDoorDcTree
import Derived.Shelf.SlMaps.Clone
import Derived.Shelf.Lay
import Derived.Ground.SlmcProg
namespace Go.Proofs.YthfjefcljeamgaaGreatDoor
set_option maxRecDepth 100000
set_option maxHeartbeats 4000000
section
open Go.RowKit
attribute [local go_sem ↓] Go.wp_at_zero Go.wp_at_succ
theorem S9:(Tryz.prog.info? 24).map (fun i=>(i.zero,i.size,i.bytes))=some (some (.agg #[.int .i64 0,.int .i64 0]),2,16):=by kernel_rfl
theorem WM(x:Off.Bid):∀u∈Bf x,u.oneCell'=true:=fun u hu=>B9.1 (show(Bf x).all (·.oneCell')=true from rfl) u hu
def Gp(v:Value):Nat→Prop:=fun g=>v.ownBlock=some g
/-- one id is laid behind a row -/
theorem Gq{ops:Array Oper}{rest:List Oper}{o:Oper}{a:Act}{w:World}{Q:Exit→Act→World→Prop}(hgd:o.guard=none)(s x:Operand)
  (ho:o.op= .call {callee:= .builtin .append,args:= #[s,x],argTypes:= #[62,62]}){v:Value}{l:List Off.Bid}(hs:a.eval s=v)(hrow:Aq 24 2 Bf v l w)
  {g:Nat}{y:Off.Bid}(hx:a.eval x= .slice (some ⟨g,0,none⟩) 1 1)(hg:w.heap[g]? =some (.cells #[.int .i64 y.R,.int .i64 y.N] 24 (0,0)))(hl:l.length<1073741824)
  (h:∀v' w',Aq 24 2 Bf v' (l++[y]) w'→Aa (Gp v) w w'→(v'.ownBlock=v.ownBlock∨v'.ownBlock=some w.heap.size)→wpList Tryz.prog ops Q rest (a.put o.dst v') w'):wpList Tryz.prog ops Q (o::rest) a w:=by
 obtain⟨i0,hi,hz0,hz1,hz2⟩:=info_parts S9
 have hnews:∀j u,(Bf y)[j]? =some u→w.cell? ((⟨g,0,none⟩:Addr).add j)=some u:=fun j u hj=>by
  have hadd:(⟨g,0,none⟩:Addr).add j=⟨g,j,none⟩:=by unfold Addr.add;split<;>simp_all
  rw[hadd,Cx hg]
  simpa[Bf]using hj
 refine wpList_append_own_at w hgd s x 62 ho 0 24 i0 (.agg #[.int .i64 0,.int .i64 0]) 2 16 Tryz.underlying62 hi hz0 hz1 hz2 rfl (by decide) v l.length (l.flatMap Bf) hs hrow ⟨g,0,none⟩ 1 1 (Bf y) hx rfl hnews (WM y)
  (by unfold maxLen;omega) (by omega) (Ah _) fun v' w' h1 h2 _ h4=>?_
 refine h v' w' ?_ ⟨h2.os,h2.tape,h2.output,h2.size,fun k hk hn=>h2.block k hk fun e=>hn (by unfold Gp;rw[e])⟩ h4
 unfold Aq
 rw[Ai,BU]
 simpa using h1
/-- what compare hands back: the blocks whose places differ -/
def RP(f f0:Dc.AB)(n:Nat)(w:World)(e:Ending)(w':World):Prop:=
 ∃v ch,e= .returned v∧Aq 24 2 Bf v ch w'∧(∀x,x∈ch↔f x≠f0 x)∧ch.length≤2*n∧(∀g,v.ownBlock=some g→w.heap.size≤g)∧Aa No w w'
theorem Rw(b bi bp bq:Nat)(vs vc:Value)(f f0:Dc.AB)(dom:List Off.Bid)(hd1:∀a,f a≠none→a∈dom)(hd0:∀a,f0 a≠none→a∈dom)(hN:dom.length≤100000000)(w:World)
  (h1:w.heap[b]? =some (.cells #[vs,.map (some bi),.map (some bp),vc] 194 (0,0)))(h4:A8 idV Bt bp f w)(h5:A8 idV Bt bq f0 w):
  Calls Tryz.prog 173 #[.pointer (some ⟨b,0,none⟩),.map (some bq)] w (RP f f0 dom.length w):=by
 have x2:=Cx h1 2
 have HD1:=Hx hd1
 have HD0:=Hx hd0
 clear hd1 hd0
 go_enter Tryz.func173,Tryz.ntmps173
 go_wp2_with(at_range;refine JC rfl Eh Tryz.underlying191 h4 _ rfl rfl ?_;intro w0 cnt0 hr0 k0 hs0 hcnt)
 go_frame
 have hc0:=hcnt dom HD1.out
 clear hcnt x2
 go_loopg [5] cnt0 (fun kx s5 wr=>∃(acc:List Off.Bid) (left:Off.Bid→Bool) (cnt:Nat),Aq 24 2 Bf s5 acc wr∧DU idV Bt bp w.heap.size f left cnt wr∧cnt≤kx∧
  (∀x,x∈acc↔left x=false∧f x≠none∧f x≠f0 x)∧acc.length+cnt≤dom.length∧(∀g,s5.ownBlock=some g→w.heap.size<g)∧Aa No w wr)
 case atStart=>
  refine⟨[],_,cnt0,Aq.nil,hr0,Ac _,fun x=>?_,by simpa using hc0,(fun g hg=>by cases hg),k0⟩
  cases f x<;>simp
 case round=>
  obtain⟨acc,left,cnt,hacc,hrg,hck,hmem,hlen,hown,kr⟩:=hrel
  go_wp2_with(at_next;refine Kz rfl Eh hrg _ rfl rfl ?_ ?_)
  ·intro _ hl0
   have hacc0:Hid (∀x,x∈acc↔f x≠none∧f x≠f0 x):=Hx fun x=>by rw[hmem x,hl0 x];simp
   have hle:acc.length≤dom.length:=by omega
   have hrl:=hrg.lt
   have hownlt:∀g,u5.ownBlock=some g→w.heap.size<g∧g≠wr.heap.size:=fun g hg=>⟨hown g hg,by
    rcases hacc.form with⟨rfl,_⟩|⟨g',_,_,rfl,hh,_⟩
    ·cases hg
    ·have e:g'=g:=Ap hg
     subst e
     have:=Ao hh
     omega⟩
   have hbq:=(h5.keeps kr id).lt
   have hbq0:=h5.lt
   clear hmem hlen hck hrg hl0 hown hr0 k0 hs0 hc0
   go_wp2_with(at_range;refine JC rfl Eh Tryz.underlying191 (h5.keeps kr id) _ rfl rfl ?_;intro wq cntq hrq kq hsq hcntq)
   go_frame
   have hcq:=hcntq dom HD0.out
   clear hcntq
   generalize hrr:wr.heap.size=r2 at hrq hownlt hrl hbq⊢
   have kw:Aa No w wq:=kr.trans kq
   go_loopg [5] cntq (fun kx s5 wz=>∃(acc':List Off.Bid) (left':Off.Bid→Bool) (cnt':Nat),Aq 24 2 Bf s5 acc' wz∧DU idV Bt bq r2 f0 left' cnt' wz∧cnt'≤kx∧
    (∀x,x∈acc'↔(f x≠none∧f x≠f0 x)∨(left' x=false∧f0 x≠none∧f x=none))∧acc'.length+cnt'≤2*dom.length∧(∀g,s5.ownBlock=some g→w.heap.size<g∧g≠r2)∧Aa No w wz)
   case atStart=>
    refine⟨acc,_,cntq,hacc.no kq,hrq,Ac _,fun x=>?_,by omega,hownlt,kw⟩
    rw[hacc0.out x]
    cases f0 x<;>simp
   case round=>
    clear hacc hrq hownlt kr kq hsq hcq hle hacc0 hrr kw
    obtain⟨acc2,left2,cnt2,hacc,hrg,hck,hmem,hlen,hown,kz⟩:=hrel
    go_wp2_with(at_next;refine Kz rfl Eh hrg _ rfl rfl ?_ ?_)
    ·intro _ hl0
     have hm2:Hid (∀x,x∈acc2↔f x≠f0 x):=Hx fun x=>by
      rw[hmem x,hl0 x]
      cases f x<;>cases f0 x<;>simp
     have hlen2:acc2.length<4611686018427387904:=by omega
     have hlen3:acc2.length≤2*dom.length:=by omega
     clear hmem hlen hck hrg hl0
     go_wp2_with(go_at_call 225;refine(Qr _ acc2 _ hacc hlen2).mono ?_;rintro e wf ⟨rfl,⟨l',hp,hrow'⟩,kf⟩)
     go_ret
     exact⟨_,l',rfl,hrow',fun x=>by rw[hp.mem_iff,hm2.out x],by rw[hp.length_eq];exact hlen3,fun g hg=>Nat.le_of_lt (hown g hg).1,kz.step kf fun k hk hl=>by have:=(hown k hk).1;omega⟩
    ·intro x pv w1 cnt1 hlx hfx hr1 hlt hk1 hs1 hen
     obtain⟨xR,xN⟩:=x
     have kw1:Aa No w w1:=kz.step hk1 fun k hk hl=>by unfold At1 at hk;omega
     have hacc1:=hacc.keeps hk1 fun g hg e=>by have:=hown g hg;unfold At1 at e;omega
     clear hacc hrg hk1 kz
     go_upto_region 11 with(fail)
     have kw2:Aa No w (w1.alloc (.cells #[.int .i64 xR,.int .i64 xN] 24)):=kw1.alloc _
     have hX:=Nx w1 (.cells #[.int .i64 xR,.int .i64 xN] 24)
     have hacc2:=hacc1.alloc (.cells #[.int .i64 xR,.int .i64 xN] 24)
     have hr2:=hr1.keeps ((Aa.refl No w1).alloc (.cells #[.int .i64 xR,.int .i64 xN] 24)) id id
     rw[hs1]at hX
     generalize w1.alloc (.cells #[.int .i64 xR,.int .i64 xN] 24)=w2 at kw2 hX hacc2 hr2⊢
     clear hacc1 hr1 hen
     have hnx:(⟨xR,xN⟩:Off.Bid)∉acc2∨f ⟨xR,xN⟩≠none:=by
      cases hfe:f ⟨xR,xN⟩with
      |some _=>exact .inr (by simp)
      |none=>exact .inl fun e=>by have:=(hmem _).1 e;rw[hlx,hfe]at this;simp at this
     have hnd:Hid (acc2.length+cnt1+1≤2*dom.length∧cnt1<gk):=Hx ⟨by omega,by omega⟩
     have hall:acc2.length<1073741824:=by omega
     have hmem':Hid (∀(acc':List Off.Bid),(∀z,z∈acc'↔z∈acc2∨(z=⟨xR,xN⟩∧f ⟨xR,xN⟩=none))→∀z,z∈acc'↔(f z≠none∧f z≠f0 z)∨((left2 z&& !decide (z=⟨xR,xN⟩))=false∧f0 z≠none∧f z=none)):=Hx fun acc' h z=>by
      rw[h z,hmem z]
      by_cases hz:z=⟨xR,xN⟩
      ·subst hz
       rw[hlx]
       simp[hfx]
      ·simp[hz]
     clear hmem hlx hfx hlen hck hlt hnx
     have HS:Hid (∀W,Aa No w2 W→Aa No w2 W∧W.cell? ⟨b,2,none⟩=some (.map (some bp))∧W.cell? ⟨wr.heap.size,0,none⟩=some (.int .i64 xR)∧W.cell? ⟨wr.heap.size,1,none⟩=some (.int .i64 xN)∧
       (Instr.lookup 191 (.map (some bp)) (.agg #[.int .i64 xR,.int .i64 xN]) true).run Tryz.prog W= .ok (.tuple #[Bt (pl f ⟨xR,xN⟩),.bool (f ⟨xR,xN⟩).isSome]) W):=Hx fun W k=>
      ⟨k,Cx ((kw2.trans k).heap h1 id) 2,Cx (k.heap hX id) 0,Cx (k.heap hX id) 1,DN (h4.keeps (kw2.trans k) id) xR xN⟩
     obtain⟨q,hq⟩:∃q,q=pl f ⟨xR,xN⟩:=⟨_,rfl⟩
     obtain⟨ok,hok⟩:∃ok,ok=(f ⟨xR,xN⟩).isSome:=⟨_,rfl⟩
     rw[←hq,←hok]at HS
     have HO:=Hx hok
     clear hq hok
     obtain⟨_,s2,s3,s4,s5⟩:=HS.out w2 (Aa.refl _ _)
     go_cut[12] (fun s12 wx=>s12= .bool ok∧Aa No w2 wx)
     case first=>
      go_region_held3(fun W=>Aa No w2 W∧W.cell? ⟨b,2,none⟩=some (.map (some bp))∧W.cell? ⟨wr.heap.size,0,none⟩=some (.int .i64 xR)∧W.cell? ⟨wr.heap.size,1,none⟩=some (.int .i64 xN)∧
       (Instr.lookup 191 (.map (some bp)) (.agg #[.int .i64 xR,.int .i64 xN]) true).run Tryz.prog W= .ok (.tuple #[Bt q,.bool ok]) W) (exact HS.out _ Kx) (fail)
      all_goals
       go_wp2_with fail
       go_meet
       exact⟨rfl,Kx⟩
     case rest=>
      obtain⟨rfl,kc⟩:=hcut
      have hX3:=kc.heap hX id
      have hacc3:=hacc2.no kc
      have hr3:=hr2.keeps kc id id
      have kw3:=kw2.trans kc
      have hs3:w.heap.size<wc.heap.size:=by have:=Ao hX3;have:=hr3.lt;omega
      clear s2 s3 s4 s5 HS hX hacc2 hr2 kw2 kc
      have cX0:wc.cell? ⟨wr.heap.size,0,none⟩=some (.int .i64 xR):=Cx hX3 0
      have cX1:wc.cell? ⟨wr.heap.size,1,none⟩=some (.int .i64 xN):=Cx hX3 1
      cases ok with
      |true=>
       have he:¬f ⟨xR,xN⟩=none:=fun e=>by have:=HO.out;rw[e]at this;cases this
       have HE:=Hx he
       clear he
       go_wp2_with fail
       go_roundg cnt1
       case measure=>exact hnd.out.2
       case rel=>exact⟨_,_,cnt1,hacc3,hr3,Ac _,hmem'.out _ (fun z=>by simp[HE.out]),by have:=hnd.out.1;omega,hown,kw3⟩
      |false=>
       have he:f ⟨xR,xN⟩=none:=by
        have:=HO.out
        cases hh:f ⟨xR,xN⟩with
        |none=>rfl
        |some _=>rw[hh]at this;cases this
       have HE:=Hx he
       clear he
       go_wp2_with(at_builtin;refine Gq rfl _ _ rfl rfl (hacc3.alloc _) (y:=⟨xR,xN⟩) rfl (Nx wc _) hall ?_;intro v' w4 hrow4 k4 ho4)
       go_roundg cnt1
       case measure=>exact hnd.out.2
       case rel=>
        have hrl3:=hr3.lt
        refine⟨_,_,cnt1,hrow4,(hr3.keeps ((Aa.refl No wc).alloc _) id id).keeps k4 (fun e=>?_) (fun e=>?_),Ac _,hmem'.out _ (fun z=>?_),?_,fun g hg=>?_,(kw3.alloc _).step k4 fun k hk hl=>?_⟩
        ·have:=hown _ e;omega
        ·have:=hown _ e;omega
        ·simp[HE.out]
        ·have:=hnd.out.1;simp;omega
        ·rcases ho4 with h|h
         ·exact hown g (h▸hg)
         ·rw[h]at hg
          simp only[World.size_alloc,AZ]at hg
          omega
        ·have:=hown _ hk;omega
  ·intro x pv w1 cnt1 hlx hfx hr1 hlt hk1 hs1 hen
   obtain⟨xR,xN⟩:=x
   obtain⟨⟨pR,pN⟩,pk⟩:=pv
   have kw1:Aa No w w1:=kr.step hk1 fun k hk hl=>by unfold At1 at hk;omega
   have hacc1:=hacc.keeps hk1 fun g hg e=>by have:=hown g hg;unfold At1 at e;omega
   clear hacc hrg hk1 kr
   go_upto_region 5 with(fail)
   have k2:Aa No w1 ((w1.alloc (.cells #[.int .i64 xR,.int .i64 xN] 24)).alloc (.cells #[.int .i64 pR,.int .i64 pN,.string ⟨pk.toArray⟩] 45)):=Kx
   have hX:=Ab (Nx w1 (.cells #[.int .i64 xR,.int .i64 xN] 24)) (.cells #[.int .i64 pR,.int .i64 pN,.string ⟨pk.toArray⟩] 45)
   have hY:=Nx (w1.alloc (.cells #[.int .i64 xR,.int .i64 xN] 24)) (.cells #[.int .i64 pR,.int .i64 pN,.string ⟨pk.toArray⟩] 45)
   rw[World.size_alloc,hs1]at hY
   rw[hs1]at hX
   generalize (w1.alloc (.cells #[.int .i64 xR,.int .i64 xN] 24)).alloc (.cells #[.int .i64 pR,.int .i64 pN,.string ⟨pk.toArray⟩] 45)=w2 at k2 hX hY⊢
   have kw2:=kw1.trans k2
   have hacc2:=hacc1.no k2
   have hr2:=hr1.keeps k2 id id
   have lk:=DN (h5.keeps kw2 id) xR xN
   have cX0:w2.cell? ⟨wr.heap.size,0,none⟩=some (.int .i64 xR):=Cx hX 0
   have cX1:w2.cell? ⟨wr.heap.size,1,none⟩=some (.int .i64 xN):=Cx hX 1
   have hwl:w.heap.size<wr.heap.size:=by have:=hr1.lt;omega
   clear hacc1 hr1 hen
   have hnx:(⟨xR,xN⟩:Off.Bid)∉acc:=fun e=>by have:=(hmem _).1 e;rw[hlx]at this;cases this.1
   have hall:acc.length<1073741824:=by omega
   have hnd:Hid (acc.length+cnt1+1≤dom.length∧cnt1<gk∧w.heap.size<w2.heap.size):=Hx ⟨by omega,by omega,by have:=Ao hX;omega⟩
   have hmem':Hid (∀(acc':List Off.Bid),(∀z,z∈acc'↔z∈acc∨(z=⟨xR,xN⟩∧f ⟨xR,xN⟩≠f0 ⟨xR,xN⟩))→∀z,z∈acc'↔(left z&& !decide (z=⟨xR,xN⟩))=false∧f z≠none∧f z≠f0 z):=Hx fun acc' h z=>by
    rw[h z,hmem z]
    by_cases hz:z=⟨xR,xN⟩
    ·subst hz
     rw[hlx]
     simp[hfx]
    ·simp[hz]
   have hE:=Hx hfx
   clear hlx hfx hmem hlen hck hnx hlt
   obtain⟨q,hq⟩:∃q,q=pl f0 ⟨xR,xN⟩:=⟨_,rfl⟩
   obtain⟨ok,hok⟩:∃ok,ok=(f0 ⟨xR,xN⟩).isSome:=⟨_,rfl⟩
   rw[←hq,←hok]at lk
   have HQ:=Hx hq
   have HO:=Hx hok
   clear hq hok
   go_upto_region 6 with(fail)
   have k3:Aa No w2 (w2.alloc (.cells #[.int .i64 q.parent.R,.int .i64 q.parent.N,.string ⟨q.key.toArray⟩] 45)):=Kx
   have hZ:=Nx w2 (.cells #[.int .i64 q.parent.R,.int .i64 q.parent.N,.string ⟨q.key.toArray⟩] 45)
   generalize w2.alloc (.cells #[.int .i64 q.parent.R,.int .i64 q.parent.N,.string ⟨q.key.toArray⟩] 45)=w3 at k3 hZ⊢
   have hX3:=k3.heap hX id
   have hY3:=k3.heap hY id
   have hacc3:=hacc2.no k3
   have hr3:=hr2.keeps k3 id id
   have kw3:=kw2.trans k3
   have hs3:w.heap.size<w3.heap.size:=by have:=Ao hX3;omega
   clear cX0 cX1 lk hX hY hacc2 hr2 kw2 k3 k2
   have cX0:w3.cell? ⟨wr.heap.size,0,none⟩=some (.int .i64 xR):=Cx hX3 0
   have cX1:w3.cell? ⟨wr.heap.size,1,none⟩=some (.int .i64 xN):=Cx hX3 1
   have cY0:w3.cell? ⟨wr.heap.size+1,0,none⟩=some (.int .i64 pR):=Cx hY3 0
   have cY1:w3.cell? ⟨wr.heap.size+1,1,none⟩=some (.int .i64 pN):=Cx hY3 1
   have cY2:w3.cell? ⟨wr.heap.size+1,2,none⟩=some (.string ⟨pk.toArray⟩):=Cx hY3 2
   have cZ0:w3.cell? ⟨w2.heap.size,0,none⟩=some (.int .i64 q.parent.R):=Cx hZ 0
   have cZ1:w3.cell? ⟨w2.heap.size,1,none⟩=some (.int .i64 q.parent.N):=Cx hZ 1
   have cZ2:w3.cell? ⟨w2.heap.size,2,none⟩=some (.string ⟨q.key.toArray⟩):=Cx hZ 2
   have hbl:=h4.lt
   have FIN:Hid (f ⟨xR,xN⟩≠f0 ⟨xR,xN⟩→∀(v':Value) (w4:World),Aq 24 2 Bf v' (acc++[⟨xR,xN⟩]) w4→Aa (Gp u5) (w3.alloc (.cells #[.int .i64 xR,.int .i64 xN] 24)) w4→
    (v'.ownBlock=u5.ownBlock∨v'.ownBlock=some (w3.alloc (.cells #[.int .i64 xR,.int .i64 xN] 24)).heap.size)→
    ∃(acc':List Off.Bid) (left':Off.Bid→Bool) (cnt':Nat),Aq 24 2 Bf v' acc' w4∧DU idV Bt bp w.heap.size f left' cnt' w4∧cnt'≤cnt1∧
    (∀x,x∈acc'↔left' x=false∧f x≠none∧f x≠f0 x)∧acc'.length+cnt'≤dom.length∧(∀g,v'.ownBlock=some g→w.heap.size<g)∧Aa No w w4):=Hx fun hne v' w4 hrow4 k4 ho4=>by
    refine⟨_,_,cnt1,hrow4,(hr3.keeps ((Aa.refl No w3).alloc _) id id).keeps k4 (fun e=>?_) (fun e=>?_),Ac _,hmem'.out _ (fun z=>?_),?_,fun g hg=>?_,(kw3.alloc _).step k4 fun k hk hl=>?_⟩
    ·have:=hown _ e;omega
    ·have:=hown _ e;omega
    ·simp[hne]
    ·have:=hnd.out.1;simp;omega
    ·rcases ho4 with h|h
     ·exact hown g (h▸hg)
     ·rw[h]at hg
      simp only[World.size_alloc,AZ]at hg
      omega
    ·have:=hown _ hk;omega
   have FIN0:Hid (f ⟨xR,xN⟩=f0 ⟨xR,xN⟩→∃(acc':List Off.Bid) (left':Off.Bid→Bool) (cnt':Nat),Aq 24 2 Bf u5 acc' w3∧DU idV Bt bp w.heap.size f left' cnt' w3∧cnt'≤cnt1∧
    (∀x,x∈acc'↔left' x=false∧f x≠none∧f x≠f0 x)∧acc'.length+cnt'≤dom.length∧(∀g,u5.ownBlock=some g→w.heap.size<g)∧Aa No w w3):=Hx fun he=>
    ⟨_,_,cnt1,hacc3,hr3,Ac _,hmem'.out _ (fun z=>by simp[he]),by have:=hnd.out.1;omega,hown,kw3⟩
   clear hr3 hmem' hbl
   cases ok with
   |false=>
    have hne:f ⟨xR,xN⟩≠f0 ⟨xR,xN⟩:=by
     have h:=HO.out
     rw[hE.out]
     cases hh:f0 ⟨xR,xN⟩with
     |none=>simp
     |some _=>rw[hh]at h;cases h
    clear cY0 cY1 cY2 cZ0 cZ1 cZ2
    go_wp2_with(at_builtin;refine Gq rfl _ _ rfl rfl (hacc3.alloc _) (y:=⟨xR,xN⟩) rfl (Nx w3 _) hall ?_;intro v' w4 hrow4 k4 ho4)
    go_roundg cnt1
    case measure=>exact hnd.out.2.1
    case rel=>exact FIN.out hne v' w4 hrow4 k4 ho4
   |true=>
    have hsome:f0 ⟨xR,xN⟩=some q:=by
     have h:=HO.out
     have h2:=HQ.out
     unfold pl at h2
     cases hh:f0 ⟨xR,xN⟩with
     |none=>rw[hh]at h;cases h
     |some q'=>rw[hh]at h2;rw[h2];rfl
    by_cases hpq:(⟨⟨pR,pN⟩,pk⟩:Dc.Dt)=q
    ·subst hpq
     go_wp2_with fail
     go_roundg cnt1
     case measure=>exact hnd.out.2.1
     case rel=>exact FIN0.out (hE.out.trans hsome.symm)
    ·have hne:f ⟨xR,xN⟩≠f0 ⟨xR,xN⟩:=by
      rw[hE.out,hsome]
      exact fun e=>hpq (Ap e)
     obtain⟨⟨qR,qN⟩,qk⟩:=q
     have hdis:(¬pR=qR)∨(pR=qR∧¬pN=qN)∨(pR=qR∧pN=qN∧¬pk=qk):=by
      by_cases a1:pR=qR
      ·by_cases a2:pN=qN
       ·exact .inr (.inr ⟨a1,a2,fun e=>hpq (by rw[a1,a2,e])⟩)
       ·exact .inr (.inl ⟨a1,a2⟩)
      ·exact .inl a1
     have HN:=Hx hne
     clear hpq hsome HQ hne HO
     rcases hdis with a1|⟨rfl,a2⟩|⟨rfl,rfl,a3⟩
     all_goals
      go_wp2_with(at_builtin;refine Gq rfl _ _ rfl rfl (hacc3.alloc _) (y:=⟨xR,xN⟩) rfl (Nx w3 _) hall ?_;intro v' w4 hrow4 k4 ho4)
      go_roundg cnt1
      case measure=>exact hnd.out.2.1
      case rel=>exact FIN.out HN.out v' w4 hrow4 k4 ho4
end
end Go.Proofs.YthfjefcljeamgaaGreatDoor
namespace Go.Proofs
open Go.Shelf
def Tryz.clonePlaces_ren:Go.Shelf.Ren:=⟨fun|5=>169|7=>222|n=>n,fun|23=>191|25=>24|3=>45|4=>4|20=>20|n=>n,fun|n=>n⟩
theorem Tryz.clonePlaces:Go.Proofs.SlLaysW.n5 Tryz.prog Tryz.clonePlaces_ren:={
  mixed:=by kernel_rfl
  f5:=⟨Tryz.f169.name,by decide,Tryz.func169.trans (congrArg some (by kernel_rfl))⟩
  f7:=Tryz.func222.trans (congrArg some (by kernel_rfl))
  t4:=Tryz.underlying4
  a4:=Tryz.isAgg4
  z4:=Tryz.sizeOf4
  v4:=Tryz.zeroValue4
  t20:=Tryz.underlying20
  a20:=Tryz.isAgg20
  z20:=Tryz.sizeOf20
  v20:=Tryz.zeroValue20
  t23:=Tryz.underlying191
  a23:=Tryz.isAgg191
  z23:=Tryz.sizeOf191
  v23:=Tryz.zeroValue191}
end Go.Proofs
namespace Go.Proofs.YthfjefcljeamgaaGreatDoor
open Go.RowKit
theorem LK{bp:Nat}{f:Dc.AB}{w:World}(h:A8 idV Bt bp f w):
  Calls Tryz.prog 169 #[.map (some bp)] w fun e w'=>e= .returned (.map (some w.heap.size))∧A8 idV Bt w.heap.size f w'∧Aa No w w':=by
 obtain⟨es,clock,hb,F⟩:=h
 have hcon:=AnyW.maps_Clone Tryz.clonePlaces bp es clock w hb
 change Calls Tryz.prog 169 _ _ _ at hcon
 refine hcon.mono fun e w' ⟨he,hw⟩=>⟨he,?_,?_⟩
 ·subst hw
  exact⟨es,clock,Nx _ _,F⟩
 ·subst hw
  exact(Aa.refl _ _).alloc _
/-- the steps l, one behind another from f, lead to f' -/
def Ew:Dc.AB→List Dc.CS→Dc.AB→Prop
 |f,[],f'=>f'=f
 |f,s::l,f'=>s.done=Dc.Dl f s.m∧(s.done=true→s.was=pl f s.m.block∧s.had=(f s.m.block).isSome)∧Ew (Dc.step f s.m) l f'
def GF(s:Dc.CS):Dc.CS:={s with done:=false}
noncomputable def Fa:Dc.AB→List Dc.CS→List Dc.CS
 |_,[]=>[]
 |f,s::l=>GZ f s::Fa (Dc.step f s.m) l
theorem Ew.eq:∀{l:List Dc.CS} {f f':Dc.AB},Ew f l f'→f'=(l.map (·.m)).foldl Dc.step f
 |[],_,_,h=>h
 |_::l,_,_,h=>Ew.eq (l:=l) h.2.2
theorem Ew.split:∀{l l':List Dc.CS} {f f':Dc.AB},Ew f (l++l') f'→Ew f l ((l.map (·.m)).foldl Dc.step f)∧Ew ((l.map (·.m)).foldl Dc.step f) l' f'
 |[],_,_,_,h=>⟨rfl,h⟩
 |_::l,_,_,_,h=>⟨⟨h.1,h.2.1,(Ew.split (l:=l) h.2.2).1⟩,(Ew.split (l:=l) h.2.2).2⟩
theorem Ew.join:∀{l l':List Dc.CS} {f f' f'':Dc.AB},Ew f l f'→Ew f' l' f''→Ew f (l++l') f''
 |[],_,_,_,_,h,h'=>by obtain rfl:_=_:=h;exact h'
 |_::_,_,_,_,_,h,h'=>⟨h.1,h.2.1,Ew.join h.2.2 h'⟩
theorem RZ{f:Dc.AB}{s:Dc.CS}(h1:s.done=Dc.Dl f s.m)(h2:s.done=true→s.was=pl f s.m.block∧s.had=(f s.m.block).isSome):IQ (Dc.step f s.m) s=f:=by
 unfold IQ
 cases hd:s.done with
 |false=>
  rw[hd]at h1
  exact Dc.U8 h1.symm
 |true=>
  rw[hd]at h1
  obtain⟨h3,h4⟩:=h2 hd
  have hu:=Dc.Uf h1.symm
  rw[Ak rfl]
  cases hf:f s.m.block with
  |none=>
   rw[hf]at h4 hu
   rw[h4]
   exact hu
  |some p=>
   have h5:s.was=p:=by rw[h3];unfold pl;rw[hf];rfl
   rw[hf]at h4 hu
   rw[h4,h5]
   exact hu
theorem Ew.undo{l:List Dc.CS}{s:Dc.CS}{f f':Dc.AB}(h:Ew f (l++[s]) f'):IQ f' s=(l.map (·.m)).foldl Dc.step f:=by
 have h1:=h.split.2
 obtain⟨h2,h3,rfl⟩:=h1
 exact RZ h2 h3
theorem LR(f:Dc.AB)(s:Dc.CS):(GZ f s).m=s.m:=by unfold GZ;split<;>rfl
theorem G5:∀(l:List Dc.CS) (f:Dc.AB),(Fa f l).map (·.m)=l.map (·.m)
 |[],_=>rfl
 |s::l,f=>by rw[Fa,Cd,LR,G5 l];rfl
theorem Np:∀(l:List Dc.CS) (s:Dc.CS) (f:Dc.AB),Fa f (l++[s])=Fa f l++[GZ ((l.map (·.m)).foldl Dc.step f) s]
 |[],_,_=>rfl
 |_::l,s,f=>by rw[au,Fa,Np l];rfl
theorem Ks(l:List Dc.CS)(f:Dc.AB):(Fa f l).length=l.length:=by
 have:=congrArg List.length (G5 l f)
 simpa using this
theorem LG:∀{l:List Dc.CS} (f:Dc.AB),(∀s∈l,s.done=false)→Ew f (Fa f l) ((l.map (·.m)).foldl Dc.step f)
 |[],_,_=>rfl
 |s::l,f,h=>by
  refine⟨?_,?_,?_⟩
  ·rw[LR]
   unfold GZ
   cases ha:Dc.Dl f s.m with
   |true=>rfl
   |false=>exact h s (by simp)
  ·rw[LR]
   unfold GZ
   cases ha:Dc.Dl f s.m with
   |true=>exact fun _=>⟨rfl,rfl⟩
   |false=>intro hd;rw[Ae (by simp),h s (by simp)]at hd;cases hd
  ·rw[LR]
   exact LG _ fun s' hs=>h s' (by simp[hs])
/-- a step is set within its row -/
theorem Aq.setStep{v:Value}{l:List Dc.CS}{w w':World}{g:Nat}{cur cur':Array Value}{i:Nat}{s':Dc.CS}(h:Aq 265 14 Av v l w)(hv:v.ownBlock=some g)
  (hg:w.heap[g]? =some (.cells cur 265 (0,0)))(hi:i<l.length)(hg':w'.heap[g]? =some (.cells cur' 265 (0,0)))(hz:cur'.size=cur.size)(hc:Gk cur' (i*14) s')
  (hout:∀j,(j<i*14∨i*14+14≤j)→cur'[j]? =cur[j]?):Aq 265 14 Av v (l.set i s') w':=by
 rcases h.form with⟨rfl,rfl⟩|⟨g',cap,cur0,rfl,hg0,h1,h2,h3,h4⟩
 ·simp at hi
 ·have e:g'=g:=Ap hv
  subst e
  rw[hg]at hg0
  obtain rfl:cur=cur0:=by injection hg0 with e;injection e
  have hf:∀x:Dc.CS,(Av x).length=14:=fun _=>rfl
  refine⟨Az hf _,.inr ⟨g',cap,cur',by rw[Gy],Ah _,hg',by rw[Gy];exact h1,h2,by rw[hz,h3],?_⟩⟩
  rw[Gy]
  apply List.ext_getElem?
  intro t
  by_cases ht:t<l.length*14
  ·have e1:t=t / 14*14+t % 14:=by omega
   have hk:t / 14<l.length:=by omega
   have hr:t % 14<14:=by omega
   have hA:=EL hf (l.set i s') (t / 14) (t % 14) (by simpa using hk) hr
   rw[←e1]at hA
   rw[hA,AO,Ak ht,Aw,List.getElem_set]
   by_cases hik:i=t / 14
   ·rw[Ak hik]
    have:=hc (t % 14) hr
    rw[hik,←e1]at this
    exact this
   ·rw[Ae hik,hout t (by omega),←Aw]
    have hB:=EL hf l (t / 14) (t % 14) hk hr
    rw[←e1,←h4,AO,Ak ht]at hB
    exact hB
  ·rw[DY (by simp;omega),DY (by rw[Az hf,Gy];omega)]
/-- the cells of an element, as undo and redo want them -/
theorem Aq.stepIn{l:List Dc.CS}{w:World}{g n cap:Nat}{cur:Array Value}{i:Nat}(h:Aq 265 14 Av (.slice (some ⟨g,0,none⟩) n cap) l w)(hg:w.heap[g]? =some (.cells cur 265 (0,0)))
  (hi:i<l.length):Gk cur (i*14) l[i]:=fun q hq=>by
 rw[←Cx hg]
 exact h.cell (fun _=>rfl) hi hq
end Go.Proofs.YthfjefcljeamgaaGreatDoor
