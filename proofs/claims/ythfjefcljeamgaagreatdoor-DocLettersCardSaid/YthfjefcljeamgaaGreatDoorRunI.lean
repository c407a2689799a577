/- Runs: some characters of one gone. -/
import Derived.Test.YthfjefcljeamgaaGreatDoorRunH
namespace Go.Proofs.YthfjefcljeamgaaGreatDoor
set_option maxRecDepth 100000
set_option maxHeartbeats 4000000
open Go.RowKit
open Dc (FC E7)
attribute [local go_sem ↓] Go.wp_at_zero Go.wp_at_succ
theorem Sm(r:Dc.Run):r.right 0=r:=by unfold Dc.Run.right;simp
theorem V6(r:Dc.Run)(i j:Nat)(h:i≤j):(r.right i).left (j-i)=(r.left j).right i:=by
 unfold Dc.Run.right Dc.Run.left
 simp only[Dc.Run.mk.injEq,DW]
 rw[List.take_drop]
 congr 2
 omega
theorem V7(r:Dc.Run)(i j:Nat)(h:i≤j):(r.right i).right (j-i)=r.right j:=by
 unfold Dc.Run.right
 simp only[Dc.Run.mk.injEq,DW,List.drop_drop]
 refine⟨by omega,?_⟩
 congr 1
 omega
/-- one element in a new block -/
theorem V8{α:Type}{e:TypeId}{m:Nat}{f:α→List Value}(hf:∀x,(f x).length=m)(w:World)(x:α):Aq e m f (.slice (some ⟨w.heap.size,0,none⟩) 1 1) [x] (w.alloc (.cells (f x).toArray e)):=by
 refine⟨Az hf _,.inr ⟨w.heap.size,1,(f x).toArray,rfl,Ah _,Nx w _,Ac _,by unfold maxLen;omega,by simp[hf],?_⟩⟩
 simp
 exact CB (by rw[hf];exact Ac _)
theorem Xb(a:Off.Bid)(R N:Int):decide (a≠⟨R,N⟩)= !(decide (a.R=R)&&decide (a.N=N)):=by
 cases a
 simp
def Im(r:Dc.Run)(c:Dc.Cut):Bool:=decide (r.op≠c.op)||r.gone||decide (min c.to (r.fr+r.len)≤max c.fr r.fr)
theorem LA{r:Dc.Run}{c:Dc.Cut}(h:Im r c=true):Dc.DR r c=([r],0):=by
 unfold Im at h
 simp only[Gz,Au]at h
 unfold Dc.DR
 simp only
 rw[Ak]
 rcases h with(h|h)|h
 ·exact .inl h
 ·exact .inr (.inl h)
 ·exact .inr (.inr h)
theorem OM{r:Dc.Run}{c:Dc.Cut}(h:Im r c=false):∃i j:Nat,i<j∧j≤r.len∧(i:Int)=max c.fr r.fr-r.fr∧(j:Int)=min c.to (r.fr+r.len)-r.fr∧
  Dc.DR r c=((if 0<i then[r.left i]else[])++({(r.left j).right i with gone:=true}::if j<r.len then[r.right j]else[]),j-i):=by
 unfold Im at h
 simp only[Bool.or_eq_false_iff,decide_eq_false_iff_not]at h
 obtain⟨⟨h1,h2⟩,h3⟩:=h
 refine⟨(max c.fr r.fr-r.fr).toNat,(min c.to (r.fr+r.len)-r.fr).toNat,by omega,by omega,by omega,by omega,?_⟩
 unfold Dc.DR
 simp only
 rw[Ae (by rintro(h|h|h);exact h1 h;rw[h2]at h;cases h;exact h3 h)]
 obtain⟨i,hi⟩:∃i:Nat,(max c.fr r.fr-r.fr).toNat=i:=⟨_,rfl⟩
 obtain⟨j,hj⟩:∃j:Nat,(min c.to (r.fr+r.len)-r.fr).toNat=j:=⟨_,rfl⟩
 rw[hi,hj]
 have e1:((r.fr:Int)<max c.fr r.fr)↔0<i:=by omega
 have e2:(min c.to (r.fr+r.len)<(r.fr:Int)+r.len)↔j<r.len:=by omega
 simp only[e1,e2]
theorem I9.append_row{α:Type}{t e:TypeId}{m:Nat}{f:α→List Value}{v u:Value}{l ys:List α}{w:World}(R:I9 t e m f)(h:Aq e m f v l w)(h2:Aq e m f u ys w)(hl:l.length+ys.length≤100000000)(ty:TypeId):
  ∃v' w',(Builtin.append_ #[t,t] ty #[v,u]).run Tryz.prog w= .ok v' w'∧Aq e m f v' (l++ys) w'∧Aa (Gp v) w w'∧(v'.ownBlock=v.ownBlock∨v'.ownBlock=some w.heap.size):=by
 rcases h2.form with⟨rfl,rfl⟩|⟨g,cap,cur,rfl,_⟩
 ·exact⟨v,w,R.append_none h 0 ty,by simpa using h,Aa.refl _ _,.inl rfl⟩
 ·exact R.append h ⟨g,0,none⟩ ys.length cap ys rfl (V4 h2) hl ty
def Sep(v u:Value):Prop:=∀x,v.ownBlock=some x→u.ownBlock≠some x
theorem WS{v u:Value}{n:Nat}(h:∀x,v.ownBlock=some x→x<n)(h':∀x,u.ownBlock=some x→n≤x):Sep v u:=fun x hx e=>by have:=h x hx;have:=h' x e;omega
theorem V5(v:Value):Sep v (.slice none 0 0):=fun x _ e=>by cases e
def LX(r:Dc.Run)(c:Dc.Cut)(w:World)(e:Ending)(w':World):Prop:=
 ∃v,e= .returned (.tuple #[v,.int .i64 (Dc.DR r c).2])∧Aq 285 13 Af v (Dc.DR r c).1 w'∧(∀x,v.ownBlock=some x→w.heap.size≤x)∧Aa No w w'
theorem Sr(r:Dc.Run)(c:Dc.Cut)(hr:r.fr+r.len≤1000)(w:World):
  Calls Tryz.prog 304 #[JE r,Wu c] w (LX r c w):=by
 obtain⟨post,hpost⟩:∃post,post=LX r c w:=⟨_,rfl⟩
 rw[←hpost]
 have HP:Hid (∀(e:Ending) (w':World) (l':Dc.Row) (n:Nat) (v:Value),Dc.DR r c=(l',n)→e= .returned (.tuple #[v,.int .i64 n])→Aq 285 13 Af v l' w'→(∀x,v.ownBlock=some x→w.heap.size≤x)→Aa No w w'→post e w'):=Hx fun e w' l' n v hc he hr ho hk=>by
  rw[hpost];unfold LX;rw[hc];exact⟨v,he,hr,ho,hk⟩
 have HSK:=Hx (fun h=>LA (r:=r) (c:=c) h)
 have HDO:=Hx (fun h=>OM (r:=r) (c:=c) h)
 have hskd:Im r c=(decide (r.op≠c.op)||r.gone||decide (min c.to (r.fr+r.len)≤max c.fr r.fr)):=rfl
 obtain⟨skip,hskip⟩:∃skip,skip=Im r c:=⟨_,rfl⟩
 rw[←hskip]at HSK HDO hskd
 have HSD:=Hx hskd
 clear hskip hpost hskd
 obtain⟨⟨cR,cN⟩,cf,ct⟩:=c
 have hr0:(0:Int)≤(r.fr:Int)+(r.len:Int):=by omega
 have hr1:(r.fr:Int)+(r.len:Int)≤1000:=by omega
 go_enter Tryz.func304,Tryz.ntmps304
 go_upto_region 1 with(fail)
 have k1:Aa No w ((w.alloc (.cells #[.int .i64 r.op.R,.int .i64 r.op.N,.int .i64 r.fr,.int .i64 r.len,.int .i64 0,.int .i64 0,.int .i64 0,.int .i64 0,.int .i64 0,.int .i64 0,.bool r.gone,.bool r.mark,.string ⟨r.text.toArray⟩] 285)).alloc (.cells #[.int .i64 cR,.int .i64 cN,.int .i64 cf,.int .i64 ct] 64)):=((Aa.refl No w).alloc _).alloc _
 have hR:CQ w.heap.size r ((w.alloc (.cells #[.int .i64 r.op.R,.int .i64 r.op.N,.int .i64 r.fr,.int .i64 r.len,.int .i64 0,.int .i64 0,.int .i64 0,.int .i64 0,.int .i64 0,.int .i64 0,.bool r.gone,.bool r.mark,.string ⟨r.text.toArray⟩] 285)).alloc (.cells #[.int .i64 cR,.int .i64 cN,.int .i64 cf,.int .i64 ct] 64)):=Ab (Nx w _) _
 have hC:=Nx (w.alloc (.cells #[.int .i64 r.op.R,.int .i64 r.op.N,.int .i64 r.fr,.int .i64 r.len,.int .i64 0,.int .i64 0,.int .i64 0,.int .i64 0,.int .i64 0,.int .i64 0,.bool r.gone,.bool r.mark,.string ⟨r.text.toArray⟩] 285)) (.cells #[.int .i64 cR,.int .i64 cN,.int .i64 cf,.int .i64 ct] 64)
 rw[World.size_alloc]at hC
 generalize (w.alloc (.cells #[.int .i64 r.op.R,.int .i64 r.op.N,.int .i64 r.fr,.int .i64 r.len,.int .i64 0,.int .i64 0,.int .i64 0,.int .i64 0,.int .i64 0,.int .i64 0,.bool r.gone,.bool r.mark,.string ⟨r.text.toArray⟩] 285)).alloc (.cells #[.int .i64 cR,.int .i64 cN,.int .i64 cf,.int .i64 ct] 64)=w1 at k1 hR hC⊢
 obtain⟨C,eC⟩:∃C,C=w.heap.size+1:=⟨_,rfl⟩
 obtain⟨R,eR⟩:∃R,R=w.heap.size:=⟨_,rfl⟩
 rw[←eC]at hC
 rw[←eR]at hR
 rw[←eC,←eR]
 have hRw:w.heap.size≤R:=by omega
 clear eC eR
 have HR:=Hx hR
 have HC:=Hx hC
 clear hR hC
 go_cut[6,7] (fun s6 s7 wx=>s6= .int .i64 (max cf r.fr)∧s7= .int .i64 (min ct (r.fr+r.len))∧Aa No w1 wx)
 case first=>
  have HS:Hid (∀W,Aa No w1 W→W.cell? ⟨R,2,none⟩=some (.int .i64 r.fr)∧W.cell? ⟨R,3,none⟩=some (.int .i64 r.len)∧W.cell? ⟨C,2,none⟩=some (.int .i64 cf)∧W.cell? ⟨C,3,none⟩=some (.int .i64 ct)):=Hx fun W k=>
   ⟨Cx (k.heap HR.out id) 2,Cx (k.heap HR.out id) 3,Cx (k.heap HC.out id) 2,Cx (k.heap HC.out id) 3⟩
  obtain⟨s1,s2,s3,s4⟩:=HS.out w1 (Aa.refl _ _)
  have hwr:IntKind.i64.wrap ((r.fr:Int)+(r.len:Int))=(r.fr:Int)+(r.len:Int):=by rw[IntKind.wrap_i64];omega
  go_region_held3(fun W=>W.cell? ⟨R,2,none⟩=some (.int .i64 r.fr)∧W.cell? ⟨R,3,none⟩=some (.int .i64 r.len)∧W.cell? ⟨C,2,none⟩=some (.int .i64 cf)∧W.cell? ⟨C,3,none⟩=some (.int .i64 ct)) (exact HS.out _ Kx) (fail)
  all_goals
   go_wp2_with fail
   go_meet
   exact⟨rfl,rfl,Kx⟩
 case rest=>
  obtain⟨rfl,rfl,kc⟩:=hcut
  obtain⟨w2,hw2⟩:∃x,x=wc:=⟨_,rfl⟩
  subst hw2
  have hR2:CQ R r w2:=kc.heap HR.out id
  have hC2:=kc.heap HC.out id
  have kw2:=k1.trans kc
  have hskd:=HSD.out
  rw[Xb]at hskd
  simp only at hskd
  obtain⟨A,hA⟩:∃A,A=max cf r.fr:=⟨_,rfl⟩
  obtain⟨B,hB⟩:∃B,B=min ct (r.fr+r.len):=⟨_,rfl⟩
  simp only at HDO
  rw[←hA,←hB]at hskd HDO⊢
  have HSD2:=Hx hskd
  clear hA hB hskd HSD
  go_upto_region 2 with(fail)
  go_cut[43] (fun s43 wx=>s43= .bool skip∧wx=w2)
  case first=>
   have r0:=Cx hR2 0
   have r1:=Cx hR2 1
   have r10:=Cx hR2 10
   have c0:=Cx hC2 0
   have c1:=Cx hC2 1
   go_wp2_with fail
   all_goals
    go_meet
    refine⟨?_,rfl⟩
    rw[HSD2.out]
    clear r0 r1 r10 c0 c1
    simp[*]
  case rest=>
   obtain⟨rfl,hwx⟩:=hcut
   subst hwx
   cases skip with
   |true=>
    have HE:=Hx (HSK.out rfl)
    obtain⟨r0,r1,r2,r3,r4,r5,r6,r7,r8,r9,r10,r11,r12⟩:K5 R r wc:=hR2.c
    go_wp2_with fail
    exact HP.out _ _ _ 0 _ HE.out rfl (V8 (fun _=>rfl) wc r) (fun x hx=>by cases hx;exact kw2.size) (kw2.alloc _)
   |false=>
    obtain⟨i,j,hij,hjr,hiA,hjB,hres⟩:=HDO.out rfl
    obtain rfl:A=(r.fr:Int)+(i:Int):=by omega
    obtain rfl:B=(r.fr:Int)+(j:Int):=by omega
    have hz0:=info_parts Ij
    have HE:=Hx hres
    clear hres HDO HSK HSD2 hiA hjB hz0
    have hwi1:IntKind.i64.wrap ((r.fr:Int)+(i:Int)-(r.fr:Int))=(i:Int):=by rw[IntKind.wrap_i64];omega
    have hwi2:(r.fr:Int)+(i:Int)-(r.fr:Int)=(i:Int):=by omega
    have hrl:=Hx hjr
    rcases Nat.eq_zero_or_pos i with hi|hi
    focus
     obtain⟨L8,hL8⟩:∃L8:List Dc.Run,L8=if 0<i then[r.left i]else[]:=⟨_,rfl⟩
     rw[←hL8]at HE
     have hL8n:L8=[]:=by rw[hL8,hi];rfl
     have hri:r.right i=r:=by rw[hi,Sm]
     have HRI:=Hx hri
     have HL8:=Hx hL8n
     clear hL8 hL8n hri
     have r2:wc.cell? ⟨R,2,none⟩=some (.int .i64 r.fr):=Cx hR2 2
     have hng:¬((r.fr:Int)<(r.fr:Int)+(i:Int)):=by omega
     have HI:=Hx hi
     clear hi
     go_upto_region 10 with(fail)
     have hout:Aq 285 13 Af (.slice none 0 0) L8 wc:=by rw[HL8.out];exact Aq.nil
     have hRq:CQ R (r.right i) wc:=by rw[HRI.out];exact hR2
     have ho8:∀x,(Value.slice none 0 0).ownBlock=some x→w.heap.size≤x∧x≠R:=fun x hx=>by cases hx
     have kw3:=kw2
     clear r2 hng
    rotate_left
    focus
     obtain⟨L8,hL8⟩:∃L8:List Dc.Run,L8=if 0<i then[r.left i]else[]:=⟨_,rfl⟩
     rw[←hL8]at HE
     have hL8n:L8=[r.left i]:=by rw[hL8,Ak hi]
     have HL8:=Hx hL8n
     clear hL8 hL8n
     have r2:wc.cell? ⟨R,2,none⟩=some (.int .i64 r.fr):=Cx hR2 2
     have hng:((r.fr:Int)<(r.fr:Int)+(i:Int)):=by omega
     have HPA:=Hx (fun W=>KJ r i (by omega) (by omega) W)
     go_upto_region 7 with(fail)
     have kz:Aa No wc (wc.alloc (.cells #[.int .i64 0,.int .i64 0,.int .i64 0,.int .i64 0,.int .i64 0,.int .i64 0,.int .i64 0,.int .i64 0,.int .i64 0,.int .i64 0,.bool false,.bool false,.string ⟨#[]⟩] 285)):=(Aa.refl No wc).alloc _
     have hZ:=Nx wc (.cells #[.int .i64 0,.int .i64 0,.int .i64 0,.int .i64 0,.int .i64 0,.int .i64 0,.int .i64 0,.int .i64 0,.int .i64 0,.int .i64 0,.bool false,.bool false,.string ⟨#[]⟩] 285)
     generalize wc.alloc (.cells #[.int .i64 0,.int .i64 0,.int .i64 0,.int .i64 0,.int .i64 0,.int .i64 0,.int .i64 0,.int .i64 0,.int .i64 0,.int .i64 0,.bool false,.bool false,.string ⟨#[]⟩] 285)=w3 at kz hZ⊢
     have hZw:w.heap.size≤wc.heap.size:=kw2.size
     obtain⟨Z,eZ⟩:∃Z,Z=wc.heap.size:=⟨_,rfl⟩
     have hZR:Z≠R:=fun e=>by have:=Ao hR2;omega
     rw[←eZ]at hZ hZw⊢
     clear eZ r2
     have hR3:CQ R r w3:=kz.heap hR2 id
     have kw3':=kw2.trans kz
     obtain⟨r0,r1,r2,r3,r4,r5,r6,r7,r8,r9,r10,r11,r12⟩:K5 R r w3:=hR3.c
     obtain⟨pl,hpl⟩:∃pl,pl=r.left i:=⟨_,rfl⟩
     obtain⟨pr,hpr⟩:∃pr,pr=r.right i:=⟨_,rfl⟩
     rw[←hpl,←hpr]at HPA
     rw[←hpl]at HL8
     have HPR:=Hx hpr
     clear hpl hpr
     go_upto_region 8 with(first
      |(go_at_call 332;refine(HPA.out _).mono ?_;rintro e w4 ⟨rfl,k4⟩;have hZ4:=k4.heap hZ id;have hR4:=k4.heap hR3 id)
      |(refine Bd rfl 285 _ _ rfl Z (BW pl) _ 285 rfl rfl hZ4 (by rfl) Rx (by rfl) ?_;intro w5 hZ5 k5 hz5;have hR5:=k5.heap hR4 (Ne.symm hZR))
      |(refine Bd rfl 285 _ _ rfl R (BW pr) _ 285 rfl rfl hR5 (by rfl) Rx (by rfl) ?_;intro w6 hR6 k6 hz6;have hZ6:=k6.heap hZ5 hZR))
     have kw6:Aa No w w6:=(((kw3'.trans k4).step k5 fun x hx hl=>by unfold At1 at hx;omega).step k6 fun x hx hl=>by unfold At1 at hx;omega)
     clear r0 r1 r2 r3 r4 r5 r6 r7 r8 r9 r10 r11 r12 hz5 hz6 hZ hZ4 hR4 hZ5 hR5 hR3
     obtain⟨q0,q1,q2,q3,q4,q5,q6,q7,q8,q9,q10,q11,q12⟩:K5 Z pl w6:=CQ.c hZ6
     have ka:Aa No w6 (w6.alloc (.cells #[.int .i64 pl.op.R,.int .i64 pl.op.N,.int .i64 pl.fr,.int .i64 pl.len,.int .i64 0,.int .i64 0,.int .i64 0,.int .i64 0,.int .i64 0,.int .i64 0,.bool pl.gone,.bool pl.mark,.string ⟨pl.text.toArray⟩] 285)):=(Aa.refl No w6).alloc _
     have HAP:=Hx (fun ty=>KF.append (Aq.nil (w:=w6.alloc (.cells #[.int .i64 pl.op.R,.int .i64 pl.op.N,.int .i64 pl.fr,.int .i64 pl.len,.int .i64 0,.int .i64 0,.int .i64 0,.int .i64 0,.int .i64 0,.int .i64 0,.bool pl.gone,.bool pl.mark,.string ⟨pl.text.toArray⟩] 285))) ⟨w6.heap.size,0,none⟩ 1 1 [pl] rfl (Ey (Nx w6 _)) (by decide) ty)
     go_upto_region 10 with(at_builtin;obtain⟨v8,w7,hr7,ho7,k7,hov7⟩:=HAP.out _;refine wpList_append_run rfl _ _ 281 281 rfl _ _ rfl rfl hr7 ?_)
     have hout:Aq 285 13 Af v8 L8 w7:=by rw[HL8.out];exact ho7
     have hRq:CQ R (r.right i) w7:=by rw[←HPR.out];exact k7.heap (ka.heap hR6 id) (fun e=>by cases e)
     have hw6:=kw6.size
     have hlR:=Ao hR6
     have ho8:∀x,v8.ownBlock=some x→w.heap.size≤x∧x≠R:=fun x hx=>by
      rcases hov7 with e7|e7
      ·rw[e7]at hx;cases hx
      ·rw[e7]at hx
       have:=Ap hx
       rw[World.size_alloc]at this
       exact⟨by omega,by omega⟩
     have kw3:Aa No w w7:=(kw6.no ka).step k7 fun x hx _=>by cases hx
     clear q0 q1 q2 q3 q4 q5 q6 q7 q8 q9 q10 q11 q12 hR6 hZ6 hov7 ho7 k7 HAP ka hlR hng
     clear hR2 hC2 kw2 kc
     obtain⟨wc,hwc⟩:∃x,x=w7:=⟨_,rfl⟩
     subst hwc
    rotate_left
    all_goals
     obtain⟨rm,hrm⟩:∃rm,rm=(r.left j).right i:=⟨_,rfl⟩
     obtain⟨nm,hnm⟩:∃nm,nm=j-i:=⟨_,rfl⟩
     obtain⟨L10,hL10⟩:∃L10:List Dc.Run,L10=if j<r.len then[r.right j]else[]:=⟨_,rfl⟩
     rw[←hL10,←hrm,←hnm]at HE
     have hmid:=V6 r i j (by omega)
     have hend:=V7 r i j (by omega)
     rw[←hnm]at hmid hend
     rw[←hrm]at hmid
     have hrml:rm.len=nm:=by rw[hrm,E7,FC hjr,hnm]
     obtain⟨rq,hrq⟩:∃rq,rq=r.right i:=⟨_,rfl⟩
     rw[←hrq]at hRq hmid hend
     have hqf:(rq.fr:Int)=(r.fr:Int)+(i:Int):=by rw[hrq];unfold Dc.Run.right;simp
     have hql:rq.len=r.len-i:=by rw[hrq,E7]
     have hnq:nm≤rq.len:=by omega
     have hqb:rq.fr+rq.len≤1000000:=by omega
     have hwn:IntKind.i64.wrap ((r.fr:Int)+(j:Int)-(rq.fr:Int))=(nm:Int):=by rw[IntKind.wrap_i64];omega
     have hwn2:(r.fr:Int)+(j:Int)-(rq.fr:Int)=(nm:Int):=by omega
     have hq0:(0:Int)≤(rq.fr:Int)+(rq.len:Int):=by omega
     have hq1:(rq.fr:Int)+(rq.len:Int)≤1000000:=by omega
     have hjc:(j<r.len∧(r.fr:Int)+(j:Int)<(rq.fr:Int)+(rq.len:Int))∨(j=r.len∧¬((r.fr:Int)+(j:Int)<(rq.fr:Int)+(rq.len:Int))):=by omega
     have hrmq:j=r.len→rq=rm:=fun e=>by
      rw[hrm,hrq,e]
      have:r.left r.len=r:=by unfold Dc.Run.left Dc.Run.len;simp
      rw[this]
     have HRMQ:=Hx hrmq
     have HMID:=Hx hmid
     have HEND:=Hx hend
     have HRML:=Hx hrml
     have HL10:=Hx hL10
     clear hrmq hmid hend hrml hL10 hrm hnm hrq hqf hql hwi1 hwi2
     rcases hjc with⟨hj1,hj2⟩|⟨hj1,hj2⟩
     focus
      have hL:=HL10.out
      rw[Ak hj1]at hL
      have HL:=Hx hL
      have HPA:=Hx (fun W=>KJ rq nm hnq hqb W)
      rw[HMID.out,HEND.out]at HPA
      obtain⟨re,hre⟩:∃re,re=r.right j:=⟨_,rfl⟩
      rw[←hre]at HPA HL
      clear hL hre
      have r2:=Cx hRq 2
      have r3:=Cx hRq 3
      go_upto_region 12 with(fail)
      have kz:Aa No wc (wc.alloc (.cells #[.int .i64 0,.int .i64 0,.int .i64 0,.int .i64 0,.int .i64 0,.int .i64 0,.int .i64 0,.int .i64 0,.int .i64 0,.int .i64 0,.bool false,.bool false,.string ⟨#[]⟩] 285)):=(Aa.refl No wc).alloc _
      have hZ:=Nx wc (.cells #[.int .i64 0,.int .i64 0,.int .i64 0,.int .i64 0,.int .i64 0,.int .i64 0,.int .i64 0,.int .i64 0,.int .i64 0,.int .i64 0,.bool false,.bool false,.string ⟨#[]⟩] 285)
      generalize wc.alloc (.cells #[.int .i64 0,.int .i64 0,.int .i64 0,.int .i64 0,.int .i64 0,.int .i64 0,.int .i64 0,.int .i64 0,.int .i64 0,.int .i64 0,.bool false,.bool false,.string ⟨#[]⟩] 285)=w3 at kz hZ⊢
      have hXw:w.heap.size≤wc.heap.size:=kw3.size
      obtain⟨X,eX⟩:∃X,X=wc.heap.size:=⟨_,rfl⟩
      have hXR:X≠R:=fun e=>by have:=Ao hRq;omega
      have hX8:∀x,x=X→¬x<wc.heap.size:=fun x e=>by omega
      rw[←eX]at hZ hXw⊢
      clear eX r2 r3
      have hR3:CQ R rq w3:=kz.heap hRq id
      have hout3:=hout.no kz
      have ho8X:=fun x hx=>hout.own_lt (k:=x) hx
      obtain⟨r0,r1,r2,r3,r4,r5,r6,r7,r8,r9,r10,r11,r12⟩:K5 R rq w3:=hR3.c
      go_upto_region 13 with(first
       |(go_at_call 332;refine(HPA.out _).mono ?_;rintro e w4 ⟨rfl,k4⟩;have hZ4:=k4.heap hZ id;have hR4:=k4.heap hR3 id)
       |(refine Bd rfl 285 _ _ rfl R (BW rm) _ 285 rfl rfl hR4 (by rfl) Rx (by rfl) ?_;intro w5 hR5 k5 hz5;have hZ5:=k5.heap hZ4 hXR)
       |(refine Bd rfl 285 _ _ rfl X (BW re) _ 285 rfl rfl hZ5 (by rfl) Rx (by rfl) ?_;intro w6 hZ6 k6 hz6;have hR6:=k6.heap hR5 (Ne.symm hXR)))
      have kw6:Aa No w w6:=((((kw3.trans kz).trans k4).step k5 fun x hx hl=>by unfold At1 at hx;omega).step k6 fun x hx hl=>by unfold At1 at hx;omega)
      have hout6:=((hout3.no k4).keeps k5 (fun x hx e=>(ho8 x hx).2 e)).keeps k6 (fun x hx e=>hX8 x e (ho8X x hx))
      clear r0 r1 r2 r3 r4 r5 r6 r7 r8 r9 r10 r11 r12 hz5 hz6 hZ hZ4 hR4 hZ5 hR5 hR3 hout3
      obtain⟨q0,q1,q2,q3,q4,q5,q6,q7,q8,q9,q10,q11,q12⟩:K5 X re w6:=CQ.c hZ6
      have ka:Aa No w6 (w6.alloc (.cells #[.int .i64 re.op.R,.int .i64 re.op.N,.int .i64 re.fr,.int .i64 re.len,.int .i64 0,.int .i64 0,.int .i64 0,.int .i64 0,.int .i64 0,.int .i64 0,.bool re.gone,.bool re.mark,.string ⟨re.text.toArray⟩] 285)):=(Aa.refl No w6).alloc _
      have HAP:=Hx (fun ty=>KF.append (Aq.nil (w:=w6.alloc (.cells #[.int .i64 re.op.R,.int .i64 re.op.N,.int .i64 re.fr,.int .i64 re.len,.int .i64 0,.int .i64 0,.int .i64 0,.int .i64 0,.int .i64 0,.int .i64 0,.bool re.gone,.bool re.mark,.string ⟨re.text.toArray⟩] 285))) ⟨w6.heap.size,0,none⟩ 1 1 [re] rfl (Ey (Nx w6 _)) (by decide) ty)
      go_upto_region 14 with(at_builtin;obtain⟨v10,w7,hr7,ho7,k7,hov7⟩:=HAP.out _;refine wpList_append_run rfl _ _ 281 281 rfl _ _ rfl rfl hr7 ?_)
      have hrest:Aq 285 13 Af v10 L10 w7:=by rw[HL.out];exact ho7
      have hRm:CQ R rm w7:=k7.heap (ka.heap hR6 id) (fun e=>by cases e)
      have hout7:=(hout6.no ka).keeps k7 (fun x hx e=>by cases e)
      have hw6:=kw6.size
      have hlR:=Ao hR6
      have ho10:∀x,v10.ownBlock=some x→w6.heap.size≤x:=fun x hx=>by
       rcases hov7 with e7|e7
       ·rw[e7]at hx;cases hx
       ·rw[e7]at hx
        have:=Ap hx
        rw[World.size_alloc]at this
        omega
      have ho810:∀x y,v10.ownBlock=some x→(∀z,z=y→z<w6.heap.size)→x≠y:=fun x y hx hy e=>by have:=ho10 x hx;have:=hy x e;omega
      have ho10R:∀x,v10.ownBlock=some x→x≠R:=fun x hx e=>by have:=ho10 x hx;omega
      have hdis:∀x,v10.ownBlock=some x→∀y,y<w6.heap.size→x≠y:=fun x hx y hy e=>by have:=ho10 x hx;omega
      have ho8l:=fun x hx=>hout6.own_lt (k:=x) hx
      have kw4:Aa No w w7:=(kw6.no ka).step k7 fun x hx _=>by cases hx
      have ho8R:=fun x hx=>(ho8 x hx).2
      have ho8w:=fun x hx=>(ho8 x hx).1
      have hSEP:=WS ho8l ho10
      have hrR:=fun x hx=>ho10R x hx
      have hro:∀y,v10.ownBlock=some y→w.heap.size≤y:=fun y hy=>by have:=ho10 y hy;omega
      clear q0 q1 q2 q3 q4 q5 q6 q7 q8 q9 q10 q11 q12 hZ6 hov7 ho7 k7 HAP ka hlR hR6 hRq hout hout6 ho8X hX8 ho10R hdis ho810 ho8l ho10
     rotate_left
     focus
      have hL:=HL10.out
      rw[Ae (by omega)]at hL
      have HL:=Hx hL
      have HRQ:=Hx (HRMQ.out hj1)
      clear hL
      have r2:=Cx hRq 2
      have r3:=Cx hRq 3
      go_upto_region 14 with(fail)
      have hrest:Aq 285 13 Af (.slice none 0 0) L10 wc:=by rw[HL.out];exact Aq.nil
      have hRm:CQ R rm wc:=by rw[←HRQ.out];exact hRq
      have hout7:=hout
      have ho8R:=fun x hx=>(ho8 x hx).2
      have ho8w:=fun x hx=>(ho8 x hx).1
      have hro:∀y,(Value.slice none 0 0).ownBlock=some y→w.heap.size≤y:=fun y hy=>by cases hy
      have hSEP:=fun v=>V5 v
      have hrR:∀x,(Value.slice none 0 0).ownBlock=some x→x≠R:=fun x hx=>by cases hx
      have kw4:=kw3
      clear r2 r3 hRq hout
      obtain⟨w7,hw7⟩:∃x,x=wc:=⟨_,rfl⟩
      subst hw7
     rotate_left
     all_goals
      have u10:=Fx hRm 10
      have c10:=Cx hRm 10
      have hlR:=Ao hRm
      go_upto_region 15 with(fail)
      have kg:Aa (At1 R) w7 (w7.setCell ⟨R,10,none⟩ (.bool true)):=(Aa.refl _ _).set1 _
      obtain⟨rg,hrg⟩:∃rg:Dc.Run,rg={rm with gone:=true}:=⟨_,rfl⟩
      have hRg:CQ R rg (w7.setCell ⟨R,10,none⟩ (.bool true)):=by rw[hrg];exact heap_set hRm 10 (.bool true)
      have hgl:rg.len=nm:=by rw[hrg];exact HRML.out
      rw[←hrg]at HE
      have HGL:=Hx hgl
      have kw8:Aa No w (w7.setCell ⟨R,10,none⟩ (.bool true)):=kw4.step kg fun x hx hl=>by unfold At1 at hx;omega
      have hout8:=hout7.keeps kg fun x hx e=>ho8R x hx e
      have hrest8:=hrest.keeps kg fun x hx e=>hrR x hx e
      clear u10 c10 hRm hrg hgl hout7 hrest
      generalize w7.setCell ⟨R,10,none⟩ (.bool true)=w8 at kg hRg kw8 hout8 hrest8⊢
      obtain⟨q0,q1,q2,q3,q4,q5,q6,q7,q8,q9,q10,q11,q12⟩:K5 R rg w8:=CQ.c hRg
      have hlR8:=Ao hRg
      have ka:Aa No w8 (w8.alloc (.cells #[.int .i64 rg.op.R,.int .i64 rg.op.N,.int .i64 rg.fr,.int .i64 rg.len,.int .i64 0,.int .i64 0,.int .i64 0,.int .i64 0,.int .i64 0,.int .i64 0,.bool rg.gone,.bool rg.mark,.string ⟨rg.text.toArray⟩] 285)):=(Aa.refl No w8).alloc _
      have hl8:L8.length≤1:=by rw[HL8.out];simp
      have hl10:L10.length≤1:=by rw[HL10.out];split<;>simp
      have HAP:=Hx (fun ty=>KF.append (hout8.no ka) ⟨w8.heap.size,0,none⟩ 1 1 [rg] rfl (Ey (Nx w8 _)) (by omega) ty)
      go_upto_region 16 with(at_builtin;obtain⟨v9,w9,hr9,ho9,k9,hov9⟩:=HAP.out _;refine wpList_append_run rfl _ _ 281 281 rfl _ _ rfl rfl hr9 ?_)
      have hszw8:=kw8.size
      have ho9w:∀x,v9.ownBlock=some x→w.heap.size≤x∧x≠R:=fun x hx=>by
       rcases hov9 with e9|e9
       ·rw[e9]at hx;exact⟨ho8w x hx,ho8R x hx⟩
       ·rw[e9]at hx
        have:=Ap hx
        rw[World.size_alloc]at this
        exact⟨by omega,by omega⟩
      have hrest9:=(hrest8.no ka).keeps k9 fun x hx e=>by first|exact hSEP x e hx|exact hSEP _ x e hx
      have hRg9:CQ R rg w9:=k9.heap (ka.heap hRg id) fun e=>ho8R R e rfl
      have kw9:Aa No w w9:=(kw8.no ka).step k9 fun x hx hl=>by have:=ho8w x hx;omega
      clear q0 q1 q2 q3 q4 q5 q6 q7 q8 q9 q10 q11 q12 hr9 hov9 k9 HAP ka hlR8 hRg hout8 hrest8 kg
      have kd:Aa No w9 w9.drew:=(Aa.refl No w9).drew
      have HAR:=Hx (fun ty=>KF.append_row (ho9.no kd) (hrest9.no kd) (by rw[Ai];simp only[BO,List.length_nil];omega) ty)
      have hRgd:CQ R rg w9.drew:=kd.heap hRg9 id
      have s0:w9.drew.cell? ⟨R,3,none⟩=some (.int .i64 rg.len):=Cx hRgd 3
      have hszd:w9.drew.heap.size=w9.heap.size:=rfl
      have hsz9:=kw9.size
      go_region_held3(fun W=>W.cell? ⟨R,3,none⟩=some (.int .i64 rg.len)) (first|exact s0|exact s9)
       (first
        |(obtain⟨v11,w11,hr11,ho11,k11,hov11⟩:=HAR.out _;have s9:w11.cell? ⟨R,3,none⟩=some (.int .i64 rg.len):=Cx (k11.heap hRgd (fun e=>(ho9w R e).2 rfl)) 3;refine CW rfl _ _ 281 281 rfl _ _ (by simp[Act.eval]) (by simp[Act.eval]) hr11 ?_))
      all_goals
       go_wp2_with fail
       refine HP.out _ _ _ nm v11 HE.out (by rw[HGL.out]) ?_ (fun x hx=>?_) ((kw9.trans kd).step k11 fun x hx hl=>by have:=(ho9w x hx).1;omega)
       ·have e:L8++[rg]++L10=L8++(rg::L10):=by simp
        rw[←e]
        exact ho11
       ·rcases hov11 with e11|e11
        ·exact(ho9w x (e11▸hx)).1
        ·rw[e11]at hx
         have:=Ap hx
         omega
end Go.Proofs.YthfjefcljeamgaaGreatDoor
