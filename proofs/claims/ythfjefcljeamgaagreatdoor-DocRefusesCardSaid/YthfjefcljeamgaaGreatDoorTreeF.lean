/- A move more: Do of the tree. -/
import Derived.Test.YthfjefcljeamgaaGreatDoorTreeE
import Derived.Test.YthfjefcljeamgaaGreatDoorBsf
import Derived.Deep.RegionLaw
namespace Go.Proofs.YthfjefcljeamgaaGreatDoor
set_option maxRecDepth 100000
set_option maxHeartbeats 4000000
open Go.RowKit
attribute [local go_sem ↓] Go.wp_at_zero Go.wp_at_succ
theorem Pm{bi:Nat}{ids:Off.Bid→Option Int}{w:World}(h:A8 idV GR bi ids w)(R N:Int):
  (Instr.lookup 43 (.map (some bi)) (.agg #[.int .i64 R,.int .i64 N]) false).run Tryz.prog w= .ok (.int .i64 ((ids ⟨R,N⟩).getD 0)) w:=by
 have:=h.look (z:= .int .i64 0) Eh Tryz.underlying43 Rx ⟨R,N⟩ false
 refine this.trans ?_
 cases ids ⟨R,N⟩<;>rfl
def WQ(ss:List Dc.CS)(ids:Off.Bid→Option Int):Prop:=(∀x,ids x≠none↔ ∃s∈ss,s.m.id=x)∧∀x n,ids x=some n→n=1
def Jb(ids:Off.Bid→Option Int)(m:Dc.C2):Int:=if IV m=false then 10 else if(ids m.id).isSome then 12 else 0
def FZ(F:Nat→Prop)(b:Nat)(ss:List Dc.CS)(ids:Off.Bid→Option Int)(f:Dc.AB)(m:Dc.C2)(w:World)(e:Ending)(w':World):Prop:=
 e= .returned (.int .i64 (Jb ids m))∧(Jb ids m≠0→Aa No w w')∧
 (Jb ids m=0→Aa F w w'∧∃F' ss' f' ch',EH F' b ss' (Db ids m.id (some 1)) f' ch' w'∧(∀g,F' g→F g∨w.heap.size≤g)∧
  ss'.map (·.m)=Dc.Ax (ss.map (·.m)) ((ss.takeWhile fun s=>decide (Dc.Bi s.m m<0)).length) m∧Ew Dc.Cj ss' f'∧(∀x,x∈ch'↔f' x≠f x)∧ch'.length≤10000000)
theorem R7(F:Nat→Prop)(b:Nat)(ss:List Dc.CS)(ids:Off.Bid→Option Int)(f:Dc.AB)(ch:List Off.Bid)(m:Dc.C2)(w:World)(hE:Env w)(h:EH F b ss ids f ch w)(hid:WQ ss ids)
  (hchain:Ew Dc.Cj ss f)(hsort:ss.Pairwise fun a c=>Dc.Bi a.m c.m<0)(hsz:ss.length≤1000000):
  Calls Tryz.prog 110 #[.pointer (some ⟨b,0,none⟩),Ln m] w (FZ F b ss ids f m w):=by
 cases hok:IV m with
 |false=>
  have he:Jb ids m=10:=by unfold Jb;rw[Ak hok]
  have HP:=Hx (show∀w',Aa No w w'→FZ F b ss ids f m w (.returned (.int .i64 10)) w' from fun w' k=>⟨by rw[he],fun _=>k,fun e=>by rw[he]at e;cases e⟩)
  generalize FZ F b ss ids f m w=Q at HP⊢
  clear h he
  go_enter Tryz.func110,Tryz.ntmps110
  go_wp2_with(go_at_call 165;refine(Hi m _ (hE.alloc _)).mono ?_;rw[hok];rintro e w1 ⟨rfl,k1⟩)
  exact HP.out _ Kx
 |true=>
  obtain⟨vs,bi,bp,vc,h1,h2,h3,h4,h5,f1,f2,f3,f4,f5,f6⟩:=h
  cases hi:ids m.id with
  |some n=>
   obtain rfl:=hid.2 _ _ hi
   have he:Jb ids m=12:=by unfold Jb;rw[Ae (by simp[hok]),hi];rfl
   have HP:=Hx (show∀w',Aa No w w'→FZ F b ss ids f m w (.returned (.int .i64 12)) w' from fun w' k=>⟨by rw[he],fun _=>k,fun e=>by rw[he]at e;cases e⟩)
   generalize FZ F b ss ids f m w=Q at HP⊢
   go_enter Tryz.func110,Tryz.ntmps110
   go_upto_region 3 with(go_at_call 165;refine(Hi m _ (hE.alloc _)).mono ?_;rw[hok];rintro e w1 ⟨rfl,k1⟩)
   have hM:=k1.own id
   have k:Aa No w w1:=((Aa.refl No w).alloc _).trans k1
   clear k1
   generalize hMM:w.heap.size=M at hM⊢
   have kd:Aa No w w1.drew:=k.drew
   have hM0:=(Aa.refl No w1).drew.heap hM id
   generalize hw0:w1.drew=w0 at kd hM0
   have hb0:=kd.heap h1 id
   have hi0:=h3.keeps kd id
   have x1:=Cx hb0 1
   have y2:w0.cell? ⟨M,2,none⟩=some (.int .i64 m.id.R):=Cx hM0 2
   have y3:w0.cell? ⟨M,3,none⟩=some (.int .i64 m.id.N):=Cx hM0 3
   have lk:=Pm hi0 m.id.R m.id.N
   have hgi:(ids ⟨m.id.R,m.id.N⟩).getD 0=1:=by rw[show(⟨m.id.R,m.id.N⟩:Off.Bid)=m.id from rfl,hi];rfl
   rw[hgi]at lk
   go_region
   go_wp2_with fail
   exact HP.out _ kd
  |none=>
   obtain⟨ao,cp,rfl⟩:∃ao cp,vs= .slice ao ss.length cp:=by
    rcases h2.form with⟨rfl,rfl⟩|⟨g',cap,_,rfl,_⟩
    ·exact⟨none,0,rfl⟩
    ·exact⟨_,cap,rfl⟩
   have he:Jb ids m=0:=by unfold Jb;rw[Ae (by simp[hok]),hi];rfl
   go_enter Tryz.func110,Tryz.ntmps110
   go_upto_region 3 with(go_at_call 165;refine(Hi m _ (hE.alloc _)).mono ?_;rw[hok];rintro e w1 ⟨rfl,k1⟩)
   have hM:=k1.own id
   have k:Aa No w w1:=((Aa.refl No w).alloc _).trans k1
   clear k1
   generalize hMM:w.heap.size=M at hM⊢
   have kd:Aa No w w1.drew:=k.drew
   have hM0:=(Aa.refl No w1).drew.heap hM id
   generalize hw0:w1.drew=w0 at kd hM0
   have hb0:=kd.heap h1 id
   have hi0:=h3.keeps kd id
   have x1:=Cx hb0 1
   have y2:w0.cell? ⟨M,2,none⟩=some (.int .i64 m.id.R):=Cx hM0 2
   have y3:w0.cell? ⟨M,3,none⟩=some (.int .i64 m.id.N):=Cx hM0 3
   have lk:=Pm hi0 m.id.R m.id.N
   have hgi:(ids ⟨m.id.R,m.id.N⟩).getD 0=0:=by rw[show(⟨m.id.R,m.id.N⟩:Off.Bid)=m.id from rfl,hi];rfl
   rw[hgi]at lk
   go_region
   go_upto_region 5 with(fail)
   clear x1 y2 y3 lk hw0 hgi hM
   have x1:=Cx hb0 1
   have y2:w0.cell? ⟨M,2,none⟩=some (.int .i64 m.id.R):=Cx hM0 2
   have y3:w0.cell? ⟨M,3,none⟩=some (.int .i64 m.id.N):=Cx hM0 3
   go_still_tail 6,Rx
   change wpList _ _ _ _ _ w0.drew
   refine EJ rfl Eh Tryz.underlying43 (hi0.keeps (Aa.refl No w0).drew id) (.tmp 26) (.tmp 28) (.const (.int .i64 1)) rfl rfl m.id rfl 1 rfl ?_
   intro w2 mi2 k2 _
   have hbl:=h3.lt
   have hMl:M≠bi:=by omega
   have hb2:=k2.heap (show w0.drew.heap[b]? =_ from hb0) (fun e=>by unfold At1 at e;subst e;obtain⟨_,_,hh,_⟩:=h3;rw[h1]at hh;cases hh)
   have hM2:=k2.heap (show w0.drew.heap[M]? =_ from hM0) hMl
   have kw2:Aa F w w2:=(kd.any (S:=F)).drew.step k2 fun g hg _=>by unfold At1 at hg;subst hg;exact f2
   have hs2:=(h2.no kd.drew).keeps k2 fun g hg e=>by
    unfold At1 at e;subst e
    rcases h2.form with⟨e0,_⟩|⟨g',_,_,e0,hh,_⟩
    ·rw[e0]at hg;cases hg
    ·rw[e0]at hg
     have e2:g'=g:=Ap hg
     subst e2
     obtain⟨_,_,hh3,_⟩:=h3
     rw[hh]at hh3;cases hh3
   have mp2:=(h4.keeps kd.drew id).keeps k2 (Ne.symm f6)
   clear x1 y2 y3 hb0 hM0 hi0 kd
   obtain⟨p,hp⟩:∃p,p=(ss.takeWhile fun s=>decide (Dc.Bi s.m m<0)).length:=⟨_,rfl⟩
   have hple:p≤ss.length:=by rw[hp];exact Dc.Fj _ _
   have hspl:∀k (hk:k<ss.length),decide (Dc.Bi (ss[k]'hk).m m<0)=decide (k<p):=fun k hk=>by
    rw[hp]
    exact Dc.IR (fun s:Dc.CS=>decide (Dc.Bi s.m m<0)) ss (fun i j hi hj hij hh=>by
     rcases BR hij with rfl|hlt
     ·exact hh
     ·simp only[Au]at hh⊢
      exact Dc.IA (C9.1 hsort i j hi hj hlt) hh) k hk
   have eg:∀args w,(callFunc 167 args).run Tryz.prog w= .ok (.enter 167 args) w:=enters_of Tryz.func167 Rx rfl
   obtain⟨bb,hcall⟩:∃bb:Bool,∀d os,Calls Tryz.prog 166 #[.slice ao ss.length cp,Ln m,.func (.func 167) #[] #[]] (Sort.grow (redrawn w2 d) os)
     fun e w''=>e= .returned (.tuple #[.int .i64 p,.bool bb])∧∃p:Regrown,w''=Sort.grow (redrawn w2 p.d) p.os:=⟨decide (p<ss.length)&&((if hk:p<ss.length then Dc.Bi (ss[p]'hk).m m else 0)==0),fun d os=>
    BV (TB (.slice ao ss.length cp) ss m 167 #[] (fun k=>if hk:k<ss.length then Dc.Bi (ss[k]'hk).m m else 0) p (Sort.grow (redrawn w2 d) os) (hs2.no (Ag w2 d os)) eg
     (fun W _ k hk=>by
      have:=Rn (ss[k]'hk) m W
      simp only[GP hk]
      exact this) hple (fun k hk=>by simp only[GP hk];exact hspl k hk) (by omega))⟩
   have z0:∀d os,(Sort.grow (redrawn w2 d) os).cell? ⟨b,0,none⟩=some (.slice ao ss.length cp):=Ex (Cx hb2 0)
   have m0:∀d os,(Sort.grow (redrawn w2 d) os).cell? ⟨M,0,none⟩=some (.int .i64 m.t):=Ex (Cx hM2 0)
   have m1:∀d os,(Sort.grow (redrawn w2 d) os).cell? ⟨M,1,none⟩=some (.int .i64 m.r):=Ex (Cx hM2 1)
   have m2:∀d os,(Sort.grow (redrawn w2 d) os).cell? ⟨M,2,none⟩=some (.int .i64 m.id.R):=Ex (Cx hM2 2)
   have m3:∀d os,(Sort.grow (redrawn w2 d) os).cell? ⟨M,3,none⟩=some (.int .i64 m.id.N):=Ex (Cx hM2 3)
   have m4:∀d os,(Sort.grow (redrawn w2 d) os).cell? ⟨M,4,none⟩=some (.int .i64 m.block.R):=Ex (Cx hM2 4)
   have m5:∀d os,(Sort.grow (redrawn w2 d) os).cell? ⟨M,5,none⟩=some (.int .i64 m.block.N):=Ex (Cx hM2 5)
   have m6:∀d os,(Sort.grow (redrawn w2 d) os).cell? ⟨M,6,none⟩=some (.int .i64 m.parent.R):=Ex (Cx hM2 6)
   have m7:∀d os,(Sort.grow (redrawn w2 d) os).cell? ⟨M,7,none⟩=some (.int .i64 m.parent.N):=Ex (Cx hM2 7)
   have m8:∀d os,(Sort.grow (redrawn w2 d) os).cell? ⟨M,8,none⟩=some (.string ⟨m.key.toArray⟩):=Ex (Cx hM2 8)
   have HP:=Hx hp
   have HSP:=Hx hspl
   clear hp hspl eg
   go_wp2_with fail
   refine wp_region_quiet_below Rx Rx ?_
   repeat(quiet_step(exact hcall _ _))
   refine wpQuiet_nil ?_
   intro _ hw'
   obtain⟨⟨dq,osq⟩,hw''⟩:=hw'
   subst hw''
   have k3:Aa No w2 (Sort.grow (redrawn w2 dq) osq):=Ag w2 dq osq
   clear hcall z0 m0 m1 m2 m3 m4 m5 m6 m7 m8
   generalize Sort.grow (redrawn w2 dq) osq=w3 at k3⊢
   have hb3:=k3.heap hb2 id
   have hM3:=k3.heap hM2 id
   have mi3:=mi2.keeps k3 id
   have mp3:=mp2.keeps k3 id
   have hs3:=hs2.no k3
   have kw3:=kw2.no k3
   clear hb2 hM2 mi2 mp2 hs2 kw2 k3 k2 k
   have hq3:w3.heap.size<w3.heap.size+1:=Nat.lt_succ_self _
   have x2:=Cx hb3 2
   have hwn:IntKind.i64.wrap ((ss.length:Int)-1)=(ss.length:Int)-1:=by rw[IntKind.wrap_i64];omega
   go_wp2_with(go_at_call 169;refine(LK mp3).mono ?_;rintro e w4 ⟨rfl,mq4,k4⟩;have x0:=Cx (k4.heap hb3 id) 0)
   have hb4:=k4.heap hb3 id
   have hM4:=k4.heap hM3 id
   have mi4:=mi3.keeps k4 id
   have mp4:=mp3.keeps k4 id
   have hs4:=hs3.no k4
   have kw4:=kw3.no k4
   have hbq3:w3.heap.size<w4.heap.size:=mq4.lt
   have hsz3:w.heap.size≤w3.heap.size:=kw3.size
   generalize w3.heap.size=bq at mq4 hbq3 hsz3⊢
   clear x0 x2 hb3 hM3 mi3 mp3 hs3 kw3 k4 hq3
   have hSb:¬((Value.slice ao ss.length cp).ownBlock=some b∨b=bp):=by
    rintro(e|e)
    ·rcases hs4.form with⟨e0,_⟩|⟨g',_,_,e0,hh,_⟩
     ·rw[e0]at e;cases e
     ·rw[e0]at e
      have e2:g'=b:=Ap e
      subst e2
      rw[hb4]at hh
      injection hh with hh
      injection hh with _ hh
      cases hh
    ·subst e
     obtain⟨_,_,hh,_⟩:=mp4
     rw[hb4]at hh;cases hh
   have hSp:(Value.slice ao ss.length cp).ownBlock≠some bp:=fun e=>by
    rcases hs4.form with⟨e0,_⟩|⟨g',_,_,e0,hh,_⟩
    ·rw[e0]at e;cases e
    ·rw[e0]at e
     have e2:g'=bp:=Ap e
     subst e2
     obtain⟨_,_,hh3,_⟩:=mp4
     rw[hh]at hh3;cases hh3
   have hlf:∀j,j≤ss.length→(ss.take j++(ss.drop j).map GF).length=ss.length:=fun j hj=>by simp;omega
   go_loopg [8] ss.length (fun kx s8 wr=>∃(j:Nat) (x:Int),s8= .int .i64 x∧x=(j:Int)-1∧p≤j∧j≤ss.length∧j-p≤kx∧Aq 265 14 Av (.slice ao ss.length cp) (ss.take j++(ss.drop j).map GF) wr∧
    A8 idV Bt bp (((ss.take j).map (·.m)).foldl Dc.step Dc.Cj) wr∧Aa (fun k=>(Value.slice ao ss.length cp).ownBlock=some k∨k=bp) w4 wr)
   case atStart=>
    refine⟨ss.length,_,rfl,rfl,hple,Ac _,Nat.sub_le _ _,by simpa using hs4,?_,Aa.refl _ _⟩
    rw[AH,←hchain.eq]
    exact mp4
   case round=>
    obtain⟨j,x,rfl,hx,hpj,hjn,hjk,hrow,hmp,kr⟩:=hrel
    by_cases hj:p<j
    ·obtain⟨i,rfl⟩:∃i,j=i+1:=⟨j-1,by omega⟩
     obtain rfl:x=(i:Int):=by omega
     have hb5:=kr.heap hb4 hSb
     have x0:=Cx hb5 0
     have hlen:=hlf (i+1) hjn
     have hil:i<(ss.take (i+1)++(ss.drop (i+1)).map GF).length:=by omega
     rcases hrow.form with⟨_,e0⟩|⟨g,cap,cur,e0,hgr,_⟩
     ·rw[e0]at hil;simp at hil
     ·injection e0 with e1 e2 e3
      subst e1 e3
      have hgi:(ss.take (i+1)++(ss.drop (i+1)).map GF)[i]=ss[i]'(by omega):=by
       rw[al (by simp;omega),List.getElem_take]
      have htk:ss.take (i+1)=ss.take i++[ss[i]'(by omega)]:=by rw[AW,Aj (by omega)];rfl
      have hund:IQ (((ss.take (i+1)).map (·.m)).foldl Dc.step Dc.Cj) (ss[i]'(by omega))=((ss.take i).map (·.m)).foldl Dc.step Dc.Cj:=by
       have h6:Ew Dc.Cj (ss.take (i+1)) (((ss.take (i+1)).map (·.m)).foldl Dc.step Dc.Cj):=by
        have h7:=hchain
        rw[←A9 (i+1) ss]at h7
        exact h7.split.1
       rw[htk]at h6⊢
       exact h6.undo
      have hcall:=U9 b g (i*14) bi bp _ vc cur (ss[i]'(by omega)) _ wr hb5 hgr (hgi▸hrow.stepIn hgr hil) hmp (fun e=>hSp (by rw[e];rfl))
      rw[hund]at hcall
      have hpi:(p:Int)≤(i:Int):=by omega
      have hi0:(0:Int)≤(i:Int):=by omega
      have hin:(i:Int)<(ss.length:Int):=by omega
      have hwi:IntKind.i64.wrap ((i:Int)-1)=(i:Int)-1:=by rw[IntKind.wrap_i64];omega
      have HT:=Hx htk
      have HG:=Hx hgi
      clear hx htk hund hgi e2
      go_wp2_with(go_at_call 170;refine hcall.mono ?_;rintro e w5 ⟨rfl,hg5,hm5,k5⟩)
      go_roundg (i-p)
      case measure=>omega
      case rel=>
       refine⟨i,_,rfl,rfl,by omega,by omega,Ac _,?_,hm5,kr.trans (k5.mono fun k hk _=>?_)⟩
       ·have hst:=hrow.stepIn hgr hil
        rw[HG.out]at hst
        have hr5:=Aq.setStep (s':=GF (ss[i]'(by omega))) hrow rfl hgr hil hg5 (by rw[Array.size_setIfInBounds]) (hst.set 9 (by decide) _ rfl) (fun j hj=>OZ (by decide) j hj)
        have hl2:(ss.take (i+1)++(ss.drop (i+1)).map GF).set i (GF (ss[i]'(by omega)))=ss.take i++(ss.drop i).map GF:=by
         have hi':i<ss.length:=by omega
         rw[HT.out,AI,List.set_append_right _ _ (by simp;omega)]
         have:i-(ss.take i).length=0:=by simp;omega
         rw[this,aQ,List.set_cons_zero,Ci hi',Cd]
        rw[←hl2]
        exact hr5
       ·rcases hk with hk|hk
        ·exact .inl (by rw[hk];rfl)
        ·exact .inr hk
    ·obtain rfl:j=p:=by omega
     have hlt:¬((j:Int)≤x):=by omega
     have hb5:=kr.heap hb4 hSb
     have hSM:¬((Value.slice ao ss.length cp).ownBlock=some M∨M=bp):=by
      have hbp:=h4.lt
      rintro(e|e)
      ·rcases h2.form with⟨e0,_⟩|⟨g',_,_,e0,hh,_⟩
       ·rw[e0]at e;cases e
       ·rw[e0]at e
        have e2:g'=M:=Ap e
        have:=Ao hh
        omega
      ·omega
     have hM5:=kr.heap hM4 hSM
     clear hx hpj hjn hjk hj
     go_wp2_with fail
     have k6:Aa No wr wr.drew:=(Aa.refl No wr).drew
     generalize hw6:wr.drew=w6 at k6
     have hb6:=k6.heap hb5 id
     have hM6:=k6.heap hM5 id
     have hrow6:=hrow.no k6
     have x0:=Cx hb6 0
     have u0:=Fx hb6 0
     have m0:w6.cell? ⟨M,0,none⟩=some (.int .i64 m.t):=Cx hM6 0
     have m1:w6.cell? ⟨M,1,none⟩=some (.int .i64 m.r):=Cx hM6 1
     have m2:w6.cell? ⟨M,2,none⟩=some (.int .i64 m.id.R):=Cx hM6 2
     have m3:w6.cell? ⟨M,3,none⟩=some (.int .i64 m.id.N):=Cx hM6 3
     have m4:w6.cell? ⟨M,4,none⟩=some (.int .i64 m.block.R):=Cx hM6 4
     have m5:w6.cell? ⟨M,5,none⟩=some (.int .i64 m.block.N):=Cx hM6 5
     have m6:w6.cell? ⟨M,6,none⟩=some (.int .i64 m.parent.R):=Cx hM6 6
     have m7:w6.cell? ⟨M,7,none⟩=some (.int .i64 m.parent.N):=Cx hM6 7
     have m8:w6.cell? ⟨M,8,none⟩=some (.string ⟨m.key.toArray⟩):=Cx hM6 8
     have hlen:=hlf j hple
     have hbl6:=Ao hb6
     have hown6:(Value.slice ao ss.length cp).ownBlock≠some w6.heap.size:=fun e=>by
      rcases hrow6.form with⟨e0,_⟩|⟨g',_,_,e0,hh,_⟩
      ·rw[e0]at e;cases e
      ·rw[e0]at e
       have e2:g'=w6.heap.size:=Ap e
       have:=Ao hh
       omega
     have hcall:=fun vb (hvb:vb=w6.heap.size)=>Q0 (.slice ao ss.length cp) (ss.take j++(ss.drop j).map GF) ⟨m,false,.z,false⟩ j vb (w6.alloc (.cells (Av ⟨m,false,.z,false⟩).toArray 265)) (hrow6.alloc _) (by subst hvb;exact Nx w6 _) (by subst hvb;exact hown6) (by omega) (by omega)
     obtain⟨LL,hLL⟩:∃LL,LL=Dc.Ax (ss.take j++(ss.drop j).map GF) j ⟨m,false,.z,false⟩:=⟨_,rfl⟩
     rw[←hLL]at hcall
     have HL:=Hx hLL
     clear hLL
     have HC:=Hx hcall
     clear hcall hlen hlf
     have hownw:∀g,(Value.slice ao ss.length cp).ownBlock=some g→g<w.heap.size∧g≠bi:=fun g hg=>by
      rcases h2.form with⟨e0,_⟩|⟨g',_,_,e0,hh,_⟩
      ·rw[e0]at hg;cases hg
      ·rw[e0]at hg
       have e2:g'=g:=Ap hg
       subst e2
       refine⟨Ao hh,fun e=>?_⟩
       subst e
       obtain⟨_,_,hh3,_⟩:=h3
       rw[hh]at hh3;cases hh3
     have hbpw:=h4.lt
     have mi6:A8 idV GR bi (Db ids m.id (some 1)) w6:=(mi4.keeps kr (fun e=>by rcases e with e|e;exact(hownw _ e).2 rfl;exact f6 e)).keeps k6 id
     have mq6:A8 idV Bt bq f w6:=(mq4.keeps kr (fun e=>by rcases e with e|e;(have:=(hownw _ e).1;omega);omega)).keeps k6 id
     have mp6:=hmp.keeps k6 id
     have kw6:Aa F w w6:=(kw4.step kr (fun k hk _=>by rcases hk with hk|hk;exact f4 k hk;subst hk;exact f3)).no k6
     have hbF:F b:=f1
     go_cut[62] (fun s62 wx=>s62= .pointer (some ⟨b,0,none⟩)∧∃ao7 c7,Aq 265 14 Av (.slice ao7 LL.length c7) LL wx∧
      wx.heap[b]? =some (.cells #[(.slice ao7 LL.length c7),.map (some bi),.map (some bp),vc] 194 (0,0))∧A8 idV Bt bp (((ss.take j).map (·.m)).foldl Dc.step Dc.Cj) wx∧A8 idV GR bi (Db ids m.id (some 1)) wx∧A8 idV Bt bq f wx∧
      Aa F w wx∧∀g,(Value.slice ao7 LL.length c7).ownBlock=some g→F g∨w.heap.size≤g)
     case first=>
      go_region_law(first
       |(go_simp;go_at_call 171;refine(HC.out _ rfl).mono ?_;rintro e w7 ⟨v7,rfl,hrow7,k7,ho7⟩;obtain⟨ao7,c7,rfl⟩:∃ao c,v7= .slice ao LL.length c:=(by rcases hrow7.form with⟨e1,e2⟩|⟨_,c,_,e1,_⟩;(exact⟨none,0,by rw[e1,e2];rfl⟩);(exact⟨_,c,e1⟩));have hb7:=k7.heap (Ab hb6 _) (fun e=>hSb (.inl e));have xx0:=Cx hb7 0;have uu0:=Fx hb7 0))
      all_goals
       go_wp2_with fail
       go_meet
       have hbv:(Value.slice ao7 LL.length c7).ownBlock≠some b:=fun e=>by
        rcases hrow7.form with⟨e0,_⟩|⟨g',_,_,e0,hh,_⟩
        ·rw[e0]at e;cases e
        ·rw[e0]at e
         have e2:g'=b:=Ap e
         subst e2
         rw[hb7]at hh
         injection hh with hh
         injection hh with _ hh
         cases hh
       have ka:Aa No w6 (w6.alloc (.cells (Av ⟨m,false,.z,false⟩).toArray 265)):=(Aa.refl No w6).alloc _
       have hob:∀{kv:Off.Bid→Value} {β:Type} {ev:β→Value} {bb:Nat} {ff:Off.Bid→Option β},A8 kv ev bb ff w7→bb≠b:=fun hm e=>by
        subst e
        obtain⟨_,_,hh,_⟩:=hm
        rw[hb7]at hh;cases hh
       have mp7:=(mp6.keeps ka id).keeps k7 (fun e=>hSp e)
       have mi7:=(mi6.keeps ka id).keeps k7 (fun e=>(hownw _ e).2 rfl)
       have mq7:=(mq6.keeps ka id).keeps k7 (fun e=>by have:=(hownw _ e).1;omega)
       refine⟨rfl,ao7,c7,hrow7.keeps ((Aa.refl (At1 b) w7).set1 (o:=0) _) (fun g hg e=>hbv (by unfold At1 at e;rw[hg,e])),heap_set hb7 0 _,mp7.setCell _ (hob mp7),mi7.setCell _ (hob mi7),mq7.setCell _ (hob mq7),
        ((kw6.no ka).step k7 (fun k hk _=>f4 k hk)).setCell (fun _=>hbF) _,fun g hg=>?_⟩
       rcases ho7 g hg with h|h
       ·exact .inl (f4 g h)
       ·refine .inr ?_
        have:=kw6.size
        rw[World.size_alloc]at h
        omega
     case rest=>
      obtain⟨rfl,ao7,c7,hrow7,hb7,mp7,mi7,mq7,kw7,ho7⟩:=hcut
      obtain⟨D,hD⟩:∃D,D=ss.take j:=⟨_,rfl⟩
      obtain⟨R,hR⟩:∃R,R=(⟨m,false,.z,false⟩:Dc.CS)::(ss.drop j).map GF:=⟨_,rfl⟩
      have hDl:D.length=j:=by rw[hD];simp;omega
      have hRd:∀s∈R,s.done=false:=fun s hs=>by
       rw[hR]at hs
       rcases A7.1 hs with rfl|hs
       ·rfl
       ·obtain⟨s',_,rfl⟩:=A5.1 hs;rfl
      have hLD:LL=D++R:=by
       rw[HL.out,hD,hR]
       unfold Dc.Ax
       rw[Dj (by simp;omega),C3,Nat.min_self,List.drop_append_of_le_length (by simp;omega)]
       have:(ss.take j).drop j=[]:=List.drop_eq_nil_of_le (by simp;omega)
       rw[this,aw]
      obtain⟨fj,hfj⟩:∃fj,fj=((ss.take j).map (·.m)).foldl Dc.step Dc.Cj:=⟨_,rfl⟩
      rw[←hfj]at mp7
      have HDl:=Hx hDl
      have HRd:=Hx hRd
      have HD:=Hx hD
      have HRR:=Hx hR
      have HFj:=Hx hfj
      have HLD:=Hx hLD
      have hLl:LL.length=j+R.length:=by rw[hLD,Ai,hDl]
      have hRl:R.length≤1000001:=by rw[hR];simp;omega
      have HLl:=Hx hLl
      clear hDl hRd hD hR hfj hLD hLl
      have hrow8:Aq 265 14 Av (.slice ao7 LL.length c7) (D++R) wc:=(fun l (e:l=LL)=>(by rw[e];exact hrow7:Aq 265 14 Av (.slice ao7 LL.length c7) l wc)) (D++R) HLD.out.symm
      go_wp2_with fail
      go_loopg [9] R.length (fun kx s9 wr=>∃q:Nat,s9= .int .i64 ((j+q:Nat):Int)∧q≤R.length∧R.length-q≤kx∧Aq 265 14 Av (.slice ao7 LL.length c7) (D++(Fa fj (R.take q)++R.drop q)) wr∧
       A8 idV Bt bp (((R.take q).map (·.m)).foldl Dc.step fj) wr∧Aa (fun k=>(Value.slice ao7 LL.length c7).ownBlock=some k∨k=bp) wc wr)
      case atStart=>exact⟨0,rfl,Ah _,Ac _,hrow8,mp7,Aa.refl _ _⟩
      case round=>
       obtain⟨q,rfl,hqR,hqk,hrow,hmp,kr⟩:=hrel
       have hkS:¬((Value.slice ao7 LL.length c7).ownBlock=some b∨b=bp):=by
        rintro(e|e)
        ·rcases hrow8.form with⟨e0,_⟩|⟨g',_,_,e0,hh,_⟩
         ·rw[e0]at e;cases e
         ·rw[e0]at e
          have e2:g'=b:=Ap e
          subst e2
          rw[hb7]at hh
          injection hh with hh
          injection hh with _ hh
          cases hh
        ·exact hSb (.inr e)
       have hkp:(Value.slice ao7 LL.length c7).ownBlock≠some bp:=fun e=>by
        rcases hrow8.form with⟨e0,_⟩|⟨g',_,_,e0,hh,_⟩
        ·rw[e0]at e;cases e
        ·rw[e0]at e
         have e2:g'=bp:=Ap e
         subst e2
         obtain⟨_,_,hh3,_⟩:=mp7
         rw[hh]at hh3;cases hh3
       have hb8:=kr.heap hb7 hkS
       have x0:=Cx hb8 0
       by_cases hq:q<R.length
       ·have hal:(Fa fj (R.take q)).length=q:=by rw[Ks];simp;omega
        have hil:j+q<(D++(Fa fj (R.take q)++R.drop q)).length:=by simp[HDl.out,hal];omega
        have hgi:(D++(Fa fj (R.take q)++R.drop q))[j+q]=R[q]:=by
         rw[List.getElem_append_right (by rw[HDl.out];omega)]
         rw[List.getElem_append_right (by rw[hal,HDl.out];omega)]
         simp[HDl.out,hal]
        obtain⟨rk,hrk⟩:=Dc.Jv ((D++R.take q).map (·.m))
        have hrk':Dc.Ce (((R.take q).map (·.m)).foldl Dc.step fj) rk:=by
         rw[HFj.out,←HD.out,←Dy,←Bo]
         exact hrk
        rcases hrow.form with⟨_,e0⟩|⟨g,cap,cur,e0,hgr,_⟩
        ·rw[e0]at hil;simp at hil
        ·injection e0 with e1 e2 e3
         subst e1 e3
         have hcall:=Vn b g ((j+q)*14) bi bp _ vc cur R[q] _ rk hrk' wr hb8 hgr (hgi▸hrow.stepIn hgr hil) hmp (fun e=>hkp (by rw[e];rfl)) (fun e=>hkS (.inl (by rw[e];rfl)))
         have hA0:(0:Int)≤((j+q:Nat):Int):=by omega
         have hA1:((j+q:Nat):Int)<(LL.length:Int):=by rw[HLl.out];omega
         have hwi:IntKind.i64.wrap (((j+q:Nat):Int)+1)=((j+q:Nat):Int)+1:=by rw[IntKind.wrap_i64];omega
         obtain⟨z,hz⟩:∃z,z=j+q:=⟨_,rfl⟩
         rw[←hz]at hcall hA0 hA1 hwi⊢
         have HZ:=Hx hz
         have HG:=Hx hgi
         have HIL:=Hx hil
         have HAL:=Hx hal
         clear hz hgi hal e2 hrk hrk'
         go_wp2_with(go_at_call 172;refine hcall.mono ?_;rintro e w9 ⟨rfl,hg9,hm9,k9⟩)
         go_roundg (R.length-(q+1))
         case measure=>omega
         case rel=>
          obtain⟨cur',hg9,hz9,hc9,ho9⟩:=hg9
          have htk:R.take (q+1)=R.take q++[R[q]]:=by rw[AW,Aj hq];rfl
          refine⟨q+1,?_,hq,Ac _,?_,?_,kr.trans (k9.mono fun k hk _=>?_)⟩
          ·rw[HZ.out]
           congr 1
          ·have hr9:=Aq.setStep hrow rfl hgr hil hg9 hz9 (HZ.out▸hc9) (HZ.out▸ho9)
           have hl2:(D++(Fa fj (R.take q)++R.drop q)).set (j+q) (GZ (((R.take q).map (·.m)).foldl Dc.step fj) R[q])=D++(Fa fj (R.take (q+1))++R.drop (q+1)):=by
            rw[List.set_append_right _ _ (by rw[HDl.out];omega),List.set_append_right _ _ (by rw[HAL.out,HDl.out];omega)]
            have:j+q-D.length-(Fa fj (R.take q)).length=0:=by rw[HAL.out,HDl.out];omega
            rw[this,Ci hq,List.set_cons_zero,htk,Np,AI,aQ]
           rw[←hl2]
           exact hr9
          ·rw[htk,Bo,Dy]
           exact hm9
          ·rcases hk with hk|hk
           ·exact .inl (by rw[hk];rfl)
           ·exact .inr hk
       ·obtain rfl:q=R.length:=by omega
        have hA1:¬(((j+R.length:Nat):Int)<(LL.length:Int)):=by rw[HLl.out];omega
        have hrow9:Aq 265 14 Av (.slice ao7 LL.length c7) (D++Fa fj R) wr:=by
         rw[AH,EE,CJ]at hrow
         exact hrow
        rw[AH]at hmp
        obtain⟨z,hz⟩:∃z,z=j+R.length:=⟨_,rfl⟩
        rw[←hz]at hA1⊢
        have HZ:=Hx hz
        clear hz hqR hqk hq hrow
        have hkq:¬((Value.slice ao7 LL.length c7).ownBlock=some bq∨bq=bp):=by
         rintro(e|e)
         ·rcases hrow8.form with⟨e0,_⟩|⟨g',_,_,e0,hh,_⟩
          ·rw[e0]at e;cases e
          ·rw[e0]at e
           have e2:g'=bq:=Ap e
           subst e2
           obtain⟨_,_,hh3,_⟩:=mq7
           rw[hh]at hh3;cases hh3
         ·have:=h4.lt;omega
        have hki:¬((Value.slice ao7 LL.length c7).ownBlock=some bi∨bi=bp):=by
         rintro(e|e)
         ·rcases hrow8.form with⟨e0,_⟩|⟨g',_,_,e0,hh,_⟩
          ·rw[e0]at e;cases e
          ·rw[e0]at e
           have e2:g'=bi:=Ap e
           subst e2
           obtain⟨_,_,hh3,_⟩:=mi7
           rw[hh]at hh3;cases hh3
         ·exact f6 e
        have mq8:=mq7.keeps kr hkq
        have mi8:=mi7.keeps kr hki
        have kw8:Aa (fun g=>F g∨w.heap.size≤g) w wr:=(kw7.mono fun g hg _=> .inl hg).step kr fun k hk _=>by
         rcases hk with hk|hk
         ·exact ho7 k hk
         ·subst hk;exact .inl f3
        obtain⟨f',hf'⟩:∃f',f'=(R.map (·.m)).foldl Dc.step fj:=⟨_,rfl⟩
        rw[←hf']at hmp
        have hch:Ew Dc.Cj (D++Fa fj R) f':=by
         have h7:=hchain
         rw[←A9 j ss]at h7
         have h8:=h7.split.1
         rw[←HFj.out,←HD.out]at h8
         rw[hf']
         exact h8.join (LG fj HRd.out)
        have hdom1:∀a,f' a≠none→a∈m.block::ss.map (·.m.block):=fun a ha=>by
         have e1:=hch.eq
         have e2:f'=Dc.Hf ((D++Fa fj R).map (·.m)):=e1
         rw[e2]at ha
         have h9:=Dc.FT ha
         rw[Bo,G5,HD.out,HRR.out]at h9
         simp only[A5,AC,A7]at h9⊢
         obtain⟨mm,h9,rfl⟩:=h9
         rcases h9 with⟨s',h9,rfl⟩|⟨s',h9,rfl⟩
         ·exact .inr ⟨s',ap h9,rfl⟩
         ·rcases h9 with rfl|⟨s'',h9,rfl⟩
          ·exact .inl rfl
          ·exact .inr ⟨s'',BC h9,rfl⟩
        have hdom0:∀a,f a≠none→a∈m.block::ss.map (·.m.block):=fun a ha=>by
         have e2:f=Dc.Hf (ss.map (·.m)):=hchain.eq
         rw[e2]at ha
         have h9:=Dc.FT ha
         simp only[A5,A7]at h9⊢
         obtain⟨mm,⟨s',h9,rfl⟩,rfl⟩:=h9
         exact .inr ⟨s',h9,rfl⟩
        have hcall:=Rw b bi bp bq _ vc f' f (m.block::ss.map (·.m.block)) hdom1 hdom0 (by simp;omega) wr hb8 hmp mq8
        have HF':=Hx hf'
        clear hf' hdom1 hdom0 hkq hki
        go_wp2_with(go_at_call 173;refine hcall.mono ?_;rintro e wa ⟨va,cha,rfl,hra,hma,hla,hoa,ka⟩;obtain⟨aoa,na,ca,rfl⟩:=hra.slice;have hb9:=ka.heap hb8 id;have xx3:=Cx hb9 3;have uu3:=Fx hb9 3)
        go_ret
        have hset:Aa (At1 b) wa (wa.setCell ⟨b,3,none⟩ (.slice aoa na ca)):=(Aa.refl _ _).set1 _
        have hnb:∀{v:Value} {α:Type} {T:TypeId} {mm:Nat} {ff:α→List Value} {l:List α},T≠194→Aq T mm ff v l wa→∀g,v.ownBlock=some g→¬At1 b g:=fun hT hr g hg e=>by
         unfold At1 at e
         subst e
         rcases hr.form with⟨e0,_⟩|⟨g',_,_,e0,hh,_⟩
         ·rw[e0]at hg;cases hg
         ·rw[e0]at hg
          have e2:g'=g:=Ap hg
          subst e2
          rw[hb9]at hh
          injection hh with hh
          injection hh with _ hh
          exact hT hh.symm
        have hob:∀{kv:Off.Bid→Value} {β:Type} {ev:β→Value} {bb:Nat} {ff:Off.Bid→Option β},A8 kv ev bb ff wa→bb≠b:=fun hm e=>by
         subst e
         obtain⟨_,_,hh,_⟩:=hm
         rw[hb9]at hh;cases hh
        have hr9:=hrow9.no ka
        have mi9:=mi8.keeps ka id
        have mp9:=hmp.keeps ka id
        refine⟨by rw[he];rfl,fun e=>absurd he e,fun _=>⟨((kw8.mono fun k hk hl=>hk.resolve_right (by omega)).no ka).setCell (fun _=>hbF) _,fun g=>F g∨w.heap.size≤g,D++Fa fj R,f',cha,
         ⟨_,bi,bp,_,heap_set hb9 3 _,?_,mi9.setCell _ (hob mi9),mp9.setCell _ (hob mp9),hra.keeps hset (hnb (by decide) hra),.inl hbF,.inl f2,.inl f3,fun g hg=>ho7 g hg,fun g hg=> .inr ?_,f6⟩,fun g hg=>hg,?_,hch,hma,AG hla (by simp;omega)⟩⟩
        ·have hlen:LL.length=(D++Fa fj R).length:=by rw[HLl.out,Ai,Ks,HDl.out]
         have h9:=hr9.keeps hset (hnb (by decide) hr9)
         exact h9
        ·have:=hoa g hg
         have:=kw8.size
         omega
        ·rw[Bo,G5,HD.out,HRR.out,←HP.out]
         unfold Dc.Ax
         rw[Cd,bu,List.map_take,List.map_drop]
         rfl
end Go.Proofs.YthfjefcljeamgaaGreatDoor
