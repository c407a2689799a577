/- joined: The document: its outline. The document: a new one; all its ops. The document: all its ops, told. -/
import Derived.Test.YthfjefcljeamgaaGreatDoorDoD
namespace Go.Proofs.YthfjefcljeamgaaGreatDoor
set_option maxRecDepth 100000
set_option maxHeartbeats 4000000
section
open Go.RowKit
attribute [local go_sem ↓] Go.wp_at_zero Go.wp_at_succ
def E5(x:Dc.Ky):List Value:=[.int .i64 x.id.R,.int .i64 x.id.N,.int .i64 x.depth,.bool x.fold,.string ⟨x.text.toArray⟩]
theorem UB:(Tryz.prog.info? 49).map (fun i=>(i.zero,i.size,i.bytes))=some (some (.agg #[.int .i64 0,.int .i64 0,.int .i64 0,.bool false,.string ⟨#[]⟩]),5,48):=by kernel_rfl
theorem VL:I9 37 49 5 E5:=GY UB Tryz.underlying37 (by decide) rfl (by decide) (fun _=>rfl) (fun _=>rfl)
def LV(l:List Dc.Ky)(w:World)(e:Ending)(w':World):Prop:=
 ∃v,e= .returned v∧Aq 49 5 E5 v l w'∧(∀x,v.ownBlock=some x→w.heap.size≤x)∧Aa No w w'
/-- the outline that a document on the heap tells -/
noncomputable def Vq(s:DSt)(n:Nat)(top:Off.Bid):List Dc.Ky:=(Dc.Ds n s.L top).map fun a=>⟨a,(Dc.EQ s.f a top:Nat),Dc.Hl s.words a,Dc.Dp s.tx a⟩
theorem NL{α β:Type}(f:α→β){l:List α}{k:Nat}(hk:k<l.length):(l.map f).take (k+1)=(l.map f).take k++[f l[k]]:=by
 rw[AW,Aj (by simpa using hk)]
 simp
theorem Nh{F:Nat→Prop}{b:Nat}{s:DSt}{w:World}(h:Eu F b s w)(hk:Dc.CH s.g s.L)(rk:Off.Bid→Nat)(hr:Dc.Ce s.f rk)(hrg:Dc.Ce s.g rk)(dom:List Off.Bid)(hd:∀x,s.g x≠none→x∈dom)(hn:dom.length≤1000000)
  (top:Off.Bid)(n:Nat)(hdeep:Dc.Deep s.g rk n top)(hway:∀a,(Dc.way s.f a).length≤1000000)(hrow:∀seg t,s.tx.texts seg=some t→t.row.length≤1000000)(htxt:∀a,(Dc.Dp s.tx a).length≤1000000000):
  Calls Tryz.prog 20 #[.pointer (some ⟨b,0,none⟩),idV top] w (LV (Vq s n top) w):=by
 have HDP:=Hx (fun W (k:Aa No w W) a=>PP (h.no k) rk hr a top (hway a))
 have HFO:=Hx (fun W (k:Aa No w W) a=>NY (h.no k) a)
 have hll:(Dc.Ds n s.L top).length≤1000000:=AG (Dc.Qj hk hrg hd hdeep) hn
 obtain⟨lab,vo,bk,bx,bt,bc,bw,h⟩:=h
 have HWK:=Hx (fun W (k:Aa No w W)=>Py (h.kids.keeps k fun _ _ e=>e) hk rk hrg dom hd hn top n hdeep)
 have HTX:=Hx (fun W (k:Aa No w W) a=>L1 (h.tx.keeps k fun _ _ e=>e) hrow a (htxt a))
 have hb:=h.cells
 have ho:Vq s n top=(Dc.Ds n s.L top).map fun a=>⟨a,(Dc.EQ s.f a top:Nat),Dc.Hl s.words a,Dc.Dp s.tx a⟩:=rfl
 obtain⟨tR,tN⟩:=top
 obtain⟨O,hO⟩:∃O,O=Vq s n ⟨tR,tN⟩:=⟨_,rfl⟩
 rw[←hO]at ho⊢
 generalize Dc.Ds n s.L ⟨tR,tN⟩=L at HWK ho hll
 have HO:=Hx ho
 have hOL:O.length=L.length:=by rw[ho];simp
 clear h hk hr hrg hd hdeep hway hrow htxt hO ho
 go_enter Tryz.func20,Tryz.ntmps20
 go_upto_region 2 with(fail)
 have k0:Aa No w (w.alloc (.cells #[.int .i64 tR,.int .i64 tN] 24)):=(Aa.refl No w).alloc _
 have hA:=Nx w (.cells #[.int .i64 tR,.int .i64 tN] 24)
 generalize w.alloc (.cells #[.int .i64 tR,.int .i64 tN] 24)=w1 at k0 hA⊢
 obtain⟨A,eA⟩:∃A,A=w.heap.size:=⟨_,rfl⟩
 rw[←eA]at hA⊢
 clear eA
 have kd:Aa No w1 w1.drew:=(Aa.refl No w1).drew
 have hb1:=k0.heap hb id
 have HSA:Hid (∀W:World,Aa No w1 W→W.cell? ⟨b,4,none⟩=some (.pointer (some ⟨bc,0,none⟩))∧W.cell? ⟨A,0,none⟩=some (.int .i64 tR)∧W.cell? ⟨A,1,none⟩=some (.int .i64 tN)):=Hx fun W k=>
  ⟨Cx (k.heap hb1 id) 4,Cx (k.heap hA id) 0,Cx (k.heap hA id) 1⟩
 have HS0:=HSA.out _ kd
 have HW1:=Hx (HWK.out _ (k0.trans kd))
 go_region_held3(fun W=>W.cell? ⟨b,4,none⟩=some (.pointer (some ⟨bc,0,none⟩))∧W.cell? ⟨A,0,none⟩=some (.int .i64 tR)∧W.cell? ⟨A,1,none⟩=some (.int .i64 tN))
  (first|exact HS0|exact HS1)
  (first
   |(go_at_call 73;(with_reducible refine HW1.out.mono ?_);rintro e w2 ⟨v,rfl,hrow2,hown2,k2⟩;have HR2:=Hx hrow2;(obtain⟨ao,cp,rfl⟩:∃ao cp,v= .slice ao L.length cp:=by(rcases hrow2.form with⟨rfl,rfl⟩|⟨g',cap,_,rfl,_⟩<;>exact⟨_,_,rfl⟩));have HS1:=HSA.out _ (kd.trans k2)))
 all_goals
  clear hrow2 hown2 HS0 HS1
  have k12:=kd.trans k2
  have kw2:=k0.trans k12
  have hA2:=k12.heap hA id
  clear hA hb1 HSA kd k2 k0 HW1 HWK
  go_wp2_with fail
  go_loopg [5,17] L.length (fun kx s5 s17 wr=>∃k:Nat,s17= .int .i64 k∧Aq 49 5 E5 s5 (O.take k) wr∧(∀x,s5.ownBlock=some x→w2.heap.size≤x)∧k≤L.length∧L.length-k≤kx∧Aa No w2 wr)
  case atStart=>exact⟨0,rfl,by simpa using Aq.nil,(fun x hx=>by cases hx),Ah _,Ac _,Aa.refl _ _⟩
  case round=>
   obtain⟨k,rfl,hout,hown,hk,hkx,kr⟩:=hrel
   by_cases hlt:k<L.length
   ·have hrow:=HR2.out.no kr
    obtain⟨g,cap,e1,hcap,_⟩:=hrow.at (by omega)
    injection e1 with e1 e2 e3
    subst e1 e3
    obtain⟨x0,x1⟩:=hrow.idO hlt
    have htk:=NL (fun a:Off.Bid=>(⟨a,(Dc.EQ s.f a ⟨tR,tN⟩:Nat),Dc.Hl s.words a,Dc.Dp s.tx a⟩:Dc.Ky)) hlt
    rw[←HO.out]at htk
    obtain⟨⟨yR,yN⟩,hy⟩:∃y,y=L[k]'hlt:=⟨_,rfl⟩
    rw[←hy]at x0 x1 htk
    have kI0:(0:Int)≤(k:Int):=by omega
    have kI1:(k:Int)<(L.length:Int):=by omega
    have hOk:(O.take k).length≤1000000:=by rw[Ad];omega
    have HTX1:=Hx (fun W k=>HTX.out W k ⟨yR,yN⟩)
    have HDP1:=Hx (fun W k=>HDP.out W k ⟨yR,yN⟩)
    have HFO1:=Hx (fun W k=>HFO.out W k ⟨yR,yN⟩)
    generalize Dc.Dp s.tx ⟨yR,yN⟩=tx at HTX1 htk
    generalize Dc.EQ s.f ⟨yR,yN⟩ ⟨tR,tN⟩=dp at HDP1 htk
    generalize Dc.Hl s.words ⟨yR,yN⟩=fo at HFO1 htk
    generalize Dc.D3 s.tx ⟨yR,yN⟩=so at HTX1
    have HTK:=Hx htk
    clear hrow e2 hy htk
    go_upto_region 5 with(fail)
    have k6:Aa No wr (wr.alloc (.cells #[.int .i64 yR,.int .i64 yN] 24)):=(Aa.refl No wr).alloc _
    have hY:=Nx wr (.cells #[.int .i64 yR,.int .i64 yN] 24)
    clear x0 x1
    generalize wr.alloc (.cells #[.int .i64 yR,.int .i64 yN] 24)=w6 at k6 hY⊢
    obtain⟨Y,eY⟩:∃Y,Y=wr.heap.size:=⟨_,rfl⟩
    rw[←eY]at hY⊢
    have hYr:wr.heap.size≤Y:=by omega
    clear eY
    have kr6:=kr.trans k6
    have kw6:=kw2.trans kr6
    have hb6:=kw6.heap hb id
    have hA6:=kr6.heap hA2 id
    have z1:=Ex (Cx hb6 2)
    have z2:=Ex (Cx hY 0)
    have z3:=Ex (Cx hY 1)
    have lk:=fun d os=>BV (HTX1.out _ (kw6.trans (Ag w6 d os)))
    refine wp_region_quiet_below Rx Rx ?_
    repeat(quiet_step(exact lk _ _))
    refine wpQuiet_nil ?_
    intro _ hw'
    obtain⟨⟨dq,osq⟩,hw''⟩:=hw'
    subst hw''
    have k7:Aa No w6 (Sort.grow (redrawn w6 dq) osq):=Ag w6 dq osq
    clear z1 z2 z3 lk
    generalize Sort.grow (redrawn w6 dq) osq=w7 at k7⊢
    have kr7:=kr6.trans k7
    have kw7:=kw6.trans k7
    have kwr7:=k6.trans k7
    have hY7:=k7.heap hY id
    have hA7:=k7.heap hA6 id
    clear hY hA6 hb6 k6
    have kd7:Aa No w7 w7.drew:=(Aa.refl No w7).drew
    have HSB:Hid (∀W:World,Aa No w7 W→W.cell? ⟨Y,0,none⟩=some (.int .i64 yR)∧W.cell? ⟨Y,1,none⟩=some (.int .i64 yN)∧W.cell? ⟨A,0,none⟩=some (.int .i64 tR)∧W.cell? ⟨A,1,none⟩=some (.int .i64 tN)):=Hx fun W k=>
     ⟨Cx (k.heap hY7 id) 0,Cx (k.heap hY7 id) 1,Cx (k.heap hA7 id) 0,Cx (k.heap hA7 id) 1⟩
    have HDP2:=Hx (fun W k=>HDP1.out W (kw7.trans k))
    have HFO2:=Hx (fun W k=>HFO1.out W (kw7.trans k))
    have HAP:=Hx (fun W (k:Aa No w7 W) ty=>VL.append (hout.no ((kwr7.trans k).alloc (.cells #[.int .i64 yR,.int .i64 yN,.int .i64 (dp:Nat),.bool fo,.string ⟨tx.toArray⟩] 49))) ⟨W.heap.size,0,none⟩ 1 1 [⟨⟨yR,yN⟩,(dp:Nat),fo,tx⟩] rfl (Ey (y:=(⟨⟨yR,yN⟩,(dp:Nat),fo,tx⟩:Dc.Ky)) (Nx W (.cells #[.int .i64 yR,.int .i64 yN,.int .i64 (dp:Nat),.bool fo,.string ⟨tx.toArray⟩] 49))) (by omega) ty)
    have HS7:=HSB.out _ kd7
    obtain⟨vao,vn,vc,rfl⟩:=hout.slice
    have hAl:=Ao hA2
    have HNO:Hid (∀g,Gp (.slice vao vn vc) g→w2.heap.size≤g∧g≠Y∧g≠A):=Hx fun g hg=>by
     have h1:=hown g hg
     have h2:=hout.own_lt hg
     omega
    clear hown
    go_upto_region 6 with(fail)
    go_region_held3(fun W=>W.cell? ⟨Y,0,none⟩=some (.int .i64 yR)∧W.cell? ⟨Y,1,none⟩=some (.int .i64 yN)∧W.cell? ⟨A,0,none⟩=some (.int .i64 tR)∧W.cell? ⟨A,1,none⟩=some (.int .i64 tN))
     (first|exact HS7|exact HSd|exact HSf|exact HSB.out _ (ke.alloc _)|exact HSB.out _ (kf.alloc _)|exact HS9)
     (first
      |(go_at_call 74;(with_reducible refine(HDP2.out _ (by first|exact kf|exact kd7)).mono ?_);rintro e wa ⟨rfl,ka⟩;have ke:Aa No w7 wa:=(by first|exact kf.trans ka|exact kd7.trans ka);have HSd:=HSB.out _ ke)
      |(go_at_call 27;(with_reducible refine(HFO2.out _ (by first|exact ke|exact kd7)).mono ?_);rintro e wb ⟨rfl,kb⟩;have kf:Aa No w7 wb:=(by first|exact ke.trans kb|exact kd7.trans kb);have HSf:=HSB.out _ kf)
      |(obtain⟨v',w9,hr9,ho9,k9,hov9⟩:=HAP.out _ (by first|exact kf|exact ke) _;have kx:Aa No w7 (World.alloc _ (.cells #[.int .i64 yR,.int .i64 yN,.int .i64 (dp:Nat),.bool fo,.string ⟨tx.toArray⟩] 49)):=(by first|exact kf.alloc _|exact ke.alloc _);have k79:Aa (Gp (.slice vao vn vc)) w7 w9:=kx.any.trans k9;have HS9:w9.cell? ⟨Y,0,none⟩=some (.int .i64 yR)∧w9.cell? ⟨Y,1,none⟩=some (.int .i64 yN)∧w9.cell? ⟨A,0,none⟩=some (.int .i64 tR)∧w9.cell? ⟨A,1,none⟩=some (.int .i64 tN):=⟨Cx (k79.heap hY7 (fun e=>(HNO.out _ e).2.1 rfl)) 0,Cx (k79.heap hY7 (fun e=>(HNO.out _ e).2.1 rfl)) 1,Cx (k79.heap hA7 (fun e=>(HNO.out _ e).2.2 rfl)) 0,Cx (k79.heap hA7 (fun e=>(HNO.out _ e).2.2 rfl)) 1⟩;refine CW rfl _ _ 37 37 rfl _ _ (by simp[Act.eval]) (by simp[Act.eval]) hr9 ?_))
    all_goals
     go_wp2_with fail
     go_roundg (L.length-(k+1))
     case measure=>omega
     case rel=>
      refine⟨k+1,by go_num,by rw[HTK.out];exact ho9,fun x hx=>?_,hlt,Ac _,(kr7.any).trans k79 |>.mono fun g hg hl=>by have:=(HNO.out g hg).1;omega⟩
      rcases hov9 with e7|e7
      ·exact(HNO.out x (by unfold Gp;rw[←e7];exact hx)).1
      ·rw[e7]at hx
       have e9:=Ap hx
       have h1:=kr7.size
       have h2:=kx.size
       omega
   ·obtain rfl:k=L.length:=by omega
    rw[←hOL,AH]at hout
    have HQ:Hid (LV O w (.returned u5) wr):=Hx ⟨_,rfl,hout,fun x hx=>by have:=hown x hx;have:=kw2.size;omega,kw2.trans kr⟩
    obtain⟨so,n2,c2,rfl⟩:=hout.slice
    clear hout
    go_wp2_with fail
    go_ret
    exact HQ.out
end
section
open Go.RowKit
attribute [local go_sem ↓] Go.wp_at_zero Go.wp_at_succ
attribute [local go_sem] run_makeMap
def DSt.new:DSt:=⟨[],fun _=>none,Dc.TX.new,[],fun _=>none,fun _=>none,[],fun _=>none,fun _=>[],fun _=>none⟩
def TJ(w:World)(e:Ending)(w':World):Prop:=∃b,e= .returned (.pointer (some ⟨b,0,none⟩))∧Eu (fun g=>w.heap.size≤g) b DSt.new w'∧Aa No w w'
theorem UI{w w':World}{n0 n1 n2 n3 n4 b bk bx bt bc bw:Nat}(hb:w'.heap[b]? =some (.cells (Il (.slice none 0 0) bk bx bt bc bw) 113 (0,0)))
  (hk:A8 idV GR bk (fun _=>none) w')(hx:Bg (fun g=>n0≤g∧g<n1) bx Dc.TX.new w')(ht:EH (fun g=>n1≤g∧g<n2) bt [] (fun _=>none) (fun _=>none) [] w')
  (hc:Di (fun g=>n2≤g∧g<n3) bc (fun _=>none) (fun _=>[]) w')(hw:DJ (fun g=>n3≤g∧g<n4) bw (fun _=>none) w')
  (h0:w.heap.size≤bk)(h1:bk<n0)(h2:n0≤n1)(h3:n1≤n2)(h4:n2≤n3)(h5:n3≤n4)(h6:n4≤b):Eu (fun g=>w.heap.size≤g) b DSt.new w':=by
 have hbl:=Ao hb
 refine⟨fun g=>if g=b then some .self else if g=bk then some .kinds else if n0≤g∧g<n1 then some .tx else if n1≤g∧g<n2 then some .tree else if n2≤g∧g<n3 then some .kids else if n3≤g∧g<n4 then some .words else none,
  .slice none 0 0,bk,bx,bt,bc,bw,fun g hg=>?_,hb,by simp,⟨[],rfl,Aq.nil,(fun g hg=>by cases hg),(fun p hp=>by cases hp)⟩,?_,hk,hx.mono fun g hg _=>?_,ht.mono fun g hg _=>?_,hc.mono' fun g hg _=>?_,hw.mono' fun g hg _=>?_⟩
 ·by_cases e1:g=b
  ·omega
  ·by_cases e2:g=bk
   ·omega
   ·simp only[Ae e1,Ae e2]at hg
    by_cases e3:n0≤g∧g<n1
    ·omega
    ·rw[Ae e3]at hg
     by_cases e4:n1≤g∧g<n2
     ·omega
     ·rw[Ae e4]at hg
      by_cases e5:n2≤g∧g<n3
      ·omega
      ·rw[Ae e5]at hg
       by_cases e6:n3≤g∧g<n4
       ·omega
       ·rw[Ae e6]at hg;exact absurd rfl hg
 ·show(if bk=b then _ else if bk=bk then some Nu.kinds else _)=_
  rw[Ae (by omega),Ak rfl]
 ·show(if g=b then _ else _)=_
  rw[Ae (by omega),Ae (by omega),Ak hg]
 ·show(if g=b then _ else _)=_
  rw[Ae (by omega),Ae (by omega),Ae (by omega),Ak hg]
 ·show(if g=b then _ else _)=_
  rw[Ae (by omega),Ae (by omega),Ae (by omega),Ae (by omega),Ak hg]
 ·show(if g=b then _ else _)=_
  rw[Ae (by omega),Ae (by omega),Ae (by omega),Ae (by omega),Ae (by omega),Ak hg]
theorem Tv(w:World):Calls Tryz.prog 18 #[] w (TJ w):=by
 go_enter Tryz.func18,Tryz.ntmps18
 go_wp2_with(first
  |(go_at_call 62;(with_reducible refine(Uh _).mono ?_);rintro e w1 ⟨bx,rfl,hx1,k1⟩)
  |(go_at_call 63;(with_reducible refine(Qk _).mono ?_);rintro e w2 ⟨bt,rfl,ht2,k2⟩)
  |(go_at_call 64;(with_reducible refine(QY _).mono ?_);rintro e w3 ⟨bc,rfl,hc3,k3⟩)
  |(go_at_call 65;(with_reducible refine(Qz _).mono ?_);rintro e w4 ⟨bw,rfl,hw4,k4⟩))
 have m0:A8 idV GR w.heap.size (fun _=>none) (w.alloc (.map #[] 0)):=A8.new w
 have hz:(w.alloc (.map #[] 0)).heap.size=w.heap.size+1:=World.size_alloc _ _
 have s1:=k1.size
 have s2:=k2.size
 have s3:=k3.size
 have s4:=k4.size
 have hb:=Nx w4 (.cells (Il (.slice none 0 0) w.heap.size bx bt bc bw) 113)
 have ka:Aa No w4 (w4.alloc (.cells (Il (.slice none 0 0) w.heap.size bx bt bc bw) 113)):=(Aa.refl No w4).alloc _
 have kall:=((((Aa.refl No w).alloc (.map #[] 0)).trans k1).trans k2 |>.trans k3 |>.trans k4).trans ka
 have hx:=(hx1.mono (F':=fun g=>(w.alloc (.map #[] 0)).heap.size≤g∧g<w1.heap.size) fun g hg hl=>⟨hg,hl⟩).no ((k2.trans k3).trans (k4.trans ka))
 have ht:=ht2.no (k3.trans (k4.trans ka))
 have hc:=hc3.keeps (k4.trans ka) fun _ _ e=>e
 have hw:=hw4.keeps ka fun _ _ e=>e
 have hm:=m0.keeps ((k1.trans k2).trans (k3.trans (k4.trans ka))) id
 have HD:=Hx (UI (w:=w) hb hm hx ht hc hw (Ac _) (by omega) s1 s2 s3 s4 (Ac _))
 have HK:=Hx kall
 clear hb ka kall hx ht hc hw hm hx1 ht2 hc3 hw4 m0 k1 k2 k3 k4
 go_ret
 exact⟨_,rfl,HD.out,HK.out⟩
end
section
open Go.RowKit
attribute [local go_sem ↓] Go.wp_at_zero Go.wp_at_succ
/-- an op of a readable row, as a range of cells -/
theorem BI.range{α:Type}{m:Nat}{f:α→List Value}{g o n c:Nat}{l:List α}{w:World}(h:BI m f (.slice (some ⟨g,o,none⟩) n c) l w){k:Nat}(hk:k<l.length)(hf:(f (l[k]'hk)).length≤m):w.rangeAt g (o+k*m) (f (l[k]'hk)):=fun j v hj=>by
 obtain⟨_,ao,c',e,_,_,h3⟩:=h
 obtain⟨g',o',rfl,_,h5⟩:=h3 (by intro e;rw[e]at hk;simp at hk)
 simp only[Value.slice.injEq,AZ,Addr.mk.injEq,DX]at e
 obtain⟨⟨rfl,rfl⟩,_⟩:=e
 have hjl:=(AS.1 hj).1
 rw[h5 k hk j (by omega),hj]
def T9(l:List Dc.Op)(w:World)(e:Ending)(w':World):Prop:=∃v,e= .returned v∧FO (fun g=>w.heap.size≤g) v l w'∧Aa No w w'
theorem FO.form{F:Nat→Prop}{v:Value}{l:List Dc.Op}{w:World}(h:FO F v l w):∃ao c,v= .slice ao l.length c∧l.length≤maxLen:=by
 obtain⟨ps,rfl,h2,_⟩:=h
 rcases h2.form with⟨rfl,e⟩|⟨g',cap,_,rfl,_⟩
 ·rw[e];exact⟨_,_,rfl,Ah _⟩
 ·rw[AM];exact⟨_,_,rfl,h2.len_le⟩
theorem Tt{F:Nat→Prop}{b:Nat}{s:DSt}{w:World}(h:Eu F b s w)(hsz:s.ops.length≤1000000)(hcz:∀o∈s.ops,o.cuts.length≤1000000):
  Calls Tryz.prog 21 #[.pointer (some ⟨b,0,none⟩)] w (T9 s.ops w):=by
 obtain⟨lab,vo,bk,bx,bt,bc,bw,h⟩:=h
 have hb:=h.cells
 obtain⟨ps,hps,hrow,_,hpc⟩:=h.ops
 rw[←hps]at hsz hcz⊢
 rw[AM]at hsz
 have HR:=Hx hrow
 have HPC:=Hx (fun p hp=>(hpc p hp).1)
 have HCZ:Hid (∀p∈ps,p.1.cuts.length≤1000000):=Hx fun p hp=>hcz p.1 (A5.2 ⟨p,hp,rfl⟩)
 obtain⟨ao,cp,rfl⟩:∃ao cp,vo= .slice ao ps.length cp:=by
  rcases hrow.form with⟨rfl,rfl⟩|⟨g',cap,_,rfl,_⟩
  ·exact⟨_,_,rfl⟩
  ·exact⟨_,_,rfl⟩
 have b0:=Cx hb 0
 clear h hb hrow hpc hps hcz
 go_enter Tryz.func21,Tryz.ntmps21
 go_wp2_with fail
 clear b0
 go_loopg [3,11] ps.length (fun kx s3 s11 wr=>∃k:Nat,s11= .int .i64 k∧FO (fun g=>w.heap.size≤g) s3 ((ps.take k).map (·.1)) wr∧k≤ps.length∧ps.length-k≤kx∧Aa No w wr)
 case atStart=>exact⟨0,rfl,FO.nil _ _,Ah _,Ac _,Aa.refl _ _⟩
 case round=>
  obtain⟨k,rfl,hout,hk,hkx,kr⟩:=hrel
  by_cases hlt:k<ps.length
  ·have hrow:=HR.out.no kr
   obtain⟨g,cap,e1,hcap,_⟩:=hrow.at (by omega)
   injection e1 with e1 e2 e3
   subst e1 e3
   have hrg:=(hrow.lies (fun _=>rfl)).range hlt (Ac _)
   have hcv:=(HPC.out _ (AQ hlt)).no kr
   have hcz:=HCZ.out _ (AQ hlt)
   have htk:ps.take (k+1)=ps.take k++[ps[k]'hlt]:=by rw[AW,Aj hlt];rfl
   obtain⟨⟨o,sl⟩,hy⟩:∃y,y=ps[k]'hlt:=⟨_,rfl⟩
   rw[←hy]at hrg hcv hcz htk
   have kI0:(0:Int)≤(k:Int):=by omega
   have kI1:(k:Int)<(ps.length:Int):=by omega
   have hql:((ps.take k).map (·.1)).length≤1000000:=by rw[AM,Ad];omega
   rw[Nat.zero_add]at hrg
   have HTK:=Hx htk
   clear e2 hy htk hrow
   have hZ:=Nx wr (.cells Be 29)
   have kZ:Aa No wr (wr.alloc (.cells Be 29)):=(Aa.refl No wr).alloc _
   go_upto_region 5 with(first
    |(refine wpList_load_mid rfl 29 _ rfl g (k*20) rfl (EN (o,sl)) _ hrg Tryz.underlying29 rfl Rx ?_)
    |(refine Bd rfl 29 _ _ rfl wr.heap.size _ _ 29 rfl rfl hZ (by rfl) Rx (by rfl) ?_;intro w4 hb4 k4 hz4))
   have hk4:Aa No wr w4:=kZ.step k4 fun y hy hl=>by unfold At1 at hy;omega
   have hcv4:=hcv.no hk4
   have HCL:=Hx (LC o sl.v w4 hcv4 hcz)
   clear hZ kZ hrg hz4
   go_upto_region 5 with(fail)
   go_wp2_with(first
    |(refine An rfl 29 _ rfl wr.heap.size _ 29 _ rfl hb4 Tryz.underlying29 rfl Rx ?_)
    |(go_at_call 72;(with_reducible refine HCL.out.mono ?_);rintro e w5 ⟨v5,rfl,hr5,ho5,k5⟩;(obtain⟨va,vn,vc,rfl⟩:∃a n c,v5= .slice a n c:=hr5.slice);have k45:=hk4.trans k5)
    |(at_builtin;obtain⟨v',w7,hr7,ho7,k7,hov7⟩:=hout.append hql k45 hr5 (fun g hg=>AG hk4.size (ho5 g hg)) _;refine wpList_append_run rfl _ _ 22 22 rfl _ _ rfl rfl hr7 ?_))
   go_roundg (ps.length-(k+1))
   case measure=>omega
   case rel=>
    have hwr:=kr.size
    refine⟨k+1,by go_num,?_,hlt,Ac _,kr.any.step k7 fun x hx hl=>?_⟩
    ·rw[HTK.out,Bo]
     exact ho7.mono fun g hg _=>hg.elim id fun e=>AG hwr e
    ·obtain⟨_,_,_,h3,_⟩:=hout
     have:=h3 x hx
     omega
  ·obtain rfl:k=ps.length:=by omega
   rw[AH]at hout
   obtain⟨ao3,c3,e3,_⟩:=hout.form
   rw[AM]at e3
   subst e3
   have HQ:Hid (T9 (ps.map (·.1)) w (.returned (.slice ao3 ps.length c3)) wr):=Hx ⟨_,rfl,hout,kr⟩
   clear hout
   go_wp2_with fail
   go_ret
   exact HQ.out
end
end Go.Proofs.YthfjefcljeamgaaGreatDoor
