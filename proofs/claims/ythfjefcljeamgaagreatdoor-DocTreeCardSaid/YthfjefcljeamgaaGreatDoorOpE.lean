/- Whether an op is right: kind by kind. -/
import Derived.Test.YthfjefcljeamgaaGreatDoorOpD
namespace Go.Proofs.YthfjefcljeamgaaGreatDoor
set_option maxRecDepth 100000
set_option maxHeartbeats 4000000
open Go.RowKit
theorem SR(kd:Int)(h:kd=1)(w:World):
  Calls Tryz.prog 101 #[.int .i64 kd] w fun e w'=>e= .returned (.slice (some ⟨w.heap.size,0,none⟩) 1 1)∧w.alloc (.cells #[.int .i64 2] 204)=w':=by
 subst h
 go_enter Tryz.func101,Tryz.ntmps101
 go_wp2
 go_ret
 exact⟨rfl,rfl⟩
theorem SQ(kd:Int)(h:kd=2)(w:World):
  Calls Tryz.prog 101 #[.int .i64 kd] w fun e w'=>e= .returned (.slice (some ⟨w.heap.size,0,none⟩) 2 2)∧w.alloc (.cells #[.int .i64 0,.int .i64 2] 204)=w':=by
 subst h
 go_enter Tryz.func101,Tryz.ntmps101
 go_wp2
 go_ret
 exact⟨rfl,rfl⟩
theorem SO(kd:Int)(h:kd=3)(w:World):
  Calls Tryz.prog 101 #[.int .i64 kd] w fun e w'=>e= .returned (.slice (some ⟨w.heap.size,0,none⟩) 2 2)∧w.alloc (.cells #[.int .i64 1,.int .i64 3] 204)=w':=by
 subst h
 go_enter Tryz.func101,Tryz.ntmps101
 go_wp2
 go_ret
 exact⟨rfl,rfl⟩
theorem SN(kd:Int)(h:kd=4)(w:World):
  Calls Tryz.prog 101 #[.int .i64 kd] w fun e w'=>e= .returned (.slice (some ⟨w.heap.size,0,none⟩) 1 1)∧w.alloc (.cells #[.int .i64 4] 204)=w':=by
 subst h
 go_enter Tryz.func101,Tryz.ntmps101
 go_wp2
 go_ret
 exact⟨rfl,rfl⟩
theorem SL(kd:Int)(h:kd=5)(w:World):
  Calls Tryz.prog 101 #[.int .i64 kd] w fun e w'=>e= .returned (.slice (some ⟨w.heap.size,0,none⟩) 2 2)∧w.alloc (.cells #[.int .i64 1,.int .i64 2] 204)=w':=by
 subst h
 go_enter Tryz.func101,Tryz.ntmps101
 go_wp2
 go_ret
 exact⟨rfl,rfl⟩
theorem SK(kd:Int)(h:kd=6)(w:World):
  Calls Tryz.prog 101 #[.int .i64 kd] w fun e w'=>e= .returned (.slice (some ⟨w.heap.size,0,none⟩) 2 2)∧w.alloc (.cells #[.int .i64 0,.int .i64 5] 204)=w':=by
 subst h
 go_enter Tryz.func101,Tryz.ntmps101
 go_wp2
 go_ret
 exact⟨rfl,rfl⟩
theorem ok1{o:Dc.Op}(h:o.kind=1):o.ok=(Dc.Bm o.t o.id.R&&Off.AV o.id&&(BP 2 o)&&decide ((AL 2 o.bare o)=o)):=by
 unfold Dc.Op.ok Dc.Op.parts Dc.Op.own
 simp only[h]
 rfl
theorem SE(o:Dc.Op)(cv:Value)(w:World)(hE:Env w)(hL:BI 4 AD cv o.cuts w)(hk:o.kind=1):
  Calls Tryz.prog 66 #[opV o cv] w (Bj o.ok w):=by
 obtain⟨a0,an,ac,rfl⟩:∃a0 an ac,cv= .slice a0 an ac:=by obtain⟨_,x,y,h,_⟩:=hL;exact⟨_,_,_,h⟩
 have HOK:=Hx (ok1 hk)
 have cS:=fun w=>Dh o.t o.id.R w
 have cO:=fun w=>BJ o.id.R o.id.N w
 have cB:=fun w=>H9 o (.slice a0 an ac) w
 have cQ:=fun ca w h1 h2=>FS (AL 2 o.bare o) o ca (.slice a0 an ac) w h1 h2
 have cN:=fun w=>SR o.kind hk w
 have hoid:(⟨o.id.R,o.id.N⟩:Off.Bid)=o.id:=rfl
 rw[hoid]at cO
 generalize o.ok=ok at HOK⊢
 generalize Dc.Bm o.t o.id.R=rs at HOK cS
 generalize Off.AV o.id=ro at HOK cO
 generalize decide ((AL 2 o.bare o)=o)=eqb at HOK cQ
 clear hoid hk
 have c0:=fun w (hE:Env w)=>KL o (.slice a0 an ac) w hE
 generalize BP 2 o=q0 at HOK c0
 go_enter Tryz.func66,Tryz.ntmps66
 go_upto_region 1 with(fail)
 have kA:Aa No w (w.alloc (.cells (As o (.slice a0 an ac)) 29)):=(Aa.refl _ _).alloc _
 have hA:=Nx w (.cells (As o (.slice a0 an ac)) 29)
 obtain⟨A,eA⟩:∃A,A=w.heap.size:=⟨_,rfl⟩
 rw[←eA]at hA⊢
 generalize w.alloc (.cells (As o (.slice a0 an ac)) 29)=w1 at kA hA⊢
 have EA:=Hx eA
 clear eA
 have cA:=Cx hA
 have hA1:=Ao hA
 have hNe:A≠w1.heap.size:=by omega
 go_upto_region 4 with(first
  |(go_at_call 101;refine(cN _).mono ?_;rintro e w2 ⟨rfl,rfl⟩)
  |(go_at_call 102;refine(cS _).mono ?_;rintro e w3 ⟨rfl,k3⟩;have hA:=k3.heap (Ab hA _) id;have cA:=Cx hA)
  |(go_at_call 103;refine(cO _).mono ?_;rintro e w4 ⟨rfl,k4⟩;have hA:=k4.heap hA id;have cA:=Cx hA))
 all_goals first
  |(go_ret
    exact⟨AY (by rw[HOK.out];simp_all),Kx⟩)
  |skip
 have kq:Aa No w w4:=Kx
 have hP:w4.heap[w1.heap.size]? =some (.cells #[.int .i64 2] 204 (0,0)):=k4.heap (k3.heap (Nx w1 _) id) id
 obtain⟨Pb,ePb⟩:∃b,b=w1.heap.size:=⟨_,rfl⟩
 rw[←ePb]at hP hNe⊢
 have EPb:=Hx ePb
 clear ePb
 have hro:Hid (ro=true):=Hx (by simp_all)
 have hrs:Hid (rs=true):=Hx (by assumption)
 go_upto_region 5 with(first
  |(refine An rfl 29 _ rfl A _ 29 _ rfl hA Tryz.underlying29 rfl Rx ?_)
  |(go_at_call 104;refine(cB _).mono ?_;rintro e w5 ⟨rfl,k5⟩;have hA5:=Ab (k5.heap hA id) (.cells Be 29);have hP5:=Ab (k5.heap hP id) (.cells Be 29);have hB5:=Nx w5 (.cells Be 29))
  |(refine Bd rfl 29 _ _ rfl w5.heap.size _ _ 29 rfl rfl hB5 (by rfl) Rx (by rfl) ?_;intro w6 hB k6 hz6))
 have k5':Aa No w w6:=(((kq.trans k5).alloc (.cells Be 29)).step k6 fun k hk hlt=>by have:=kq.size;have:=k5.size;unfold At1 at hk;omega)
 have hA6:=k6.heap hA5 (fun e=>by have:=Ao (k5.heap hA id);unfold At1 at e;omega)
 have hP6:=k6.heap hP5 (fun e=>by have:=Ao (k5.heap hP id);unfold At1 at e;omega)
 have hAB:A<w5.heap.size:=Ao (k5.heap hA id)
 have hPB:Pb<w5.heap.size:=Ao (k5.heap hP id)
 have hwB:w.heap.size≤w5.heap.size:=(kq.trans k5).size
 obtain⟨B,eB⟩:∃b,b=w5.heap.size:=⟨_,rfl⟩
 rw[←eB]at hB hAB hPB hwB⊢
 have EB:=Hx eB
 clear eB
 have hB0:Eo B o.bare (.slice none 0 0) w6:=hB
 have hL0:Hid (BI 4 AD (.slice none 0 0) o.bare.cuts w6):=Hx ⟨Ah _,none,0,rfl,Ac _,Ah _,fun e=>absurd rfl e⟩
 have KW:=Hx k5'
 have HL:=Hx hL
 have HE:=Hx hE
 have hAne:¬A=B:=by omega
 have hPne:¬Pb=B:=by omega
 clear hP5 hA5 hB5 hA hP hB k6 k5 kq k3 k4 kA hA1 cA hNe hE hL k5' hz6
 go_frame
 go_wp2
 refine wp_loop_rounds 2 ?_
 rw[rounds_succ]
 have cP0:=Cx hP6
 have kr0:Aa No w w6:=KW.out
 go_wp2_with(first
  |(refine An rfl 29 _ rfl A _ 29 _ rfl hA6 Tryz.underlying29 rfl Rx ?_)
  |(go_at_call 105;refine(c0 _ (HE.out.no kr0)).mono ?_;rintro e wx0 ⟨rfl,kx0⟩;have hA6:=kx0.heap hA6 id;have hP6:=kx0.heap hP6 id;have hBx0:Eo B o.bare (.slice none 0 0) wx0:=kx0.heap hB0 id;have krr0:=kr0.trans kx0)
  |(go_at_call 106;refine(KZ B o.bare o (.slice none 0 0) (.slice a0 an ac) _ hBx0).mono ?_;rintro e wy0 ⟨rfl,hB1,kc0⟩;have hA6:=kc0.heap hA6 (fun e=>hAne e);have hP6:=kc0.heap hP6 (fun e=>hPne e)))
 all_goals first
  |(go_ret
    exact⟨AY (by rw[HOK.out];simp_all),krr0⟩)
  |skip
 have KW:Hid (Aa No w wy0):=Hx (krr0.step kc0 fun k hk hlt=>by unfold At1 at hk;omega)
 have hq0:Hid (q0=true):=Hx (by simp_all)
 have hL1:Hid (BI 4 AD (.slice none 0 0) (AL 2 o.bare o).cuts wy0):=Hx ((hL0.out.no kx0).keeps kc0 fun g hg=>by simp[Value.ownBlock]at hg)
 clear kr0 krr0 kx0 kc0 cP0 hBx0
 rw[rounds_succ]
 have HB:Hid (Eo B (AL 2 o.bare o) (.slice none 0 0) wy0):=Hx hB1
 go_wp2_with(first
  |(refine An rfl 29 _ rfl A _ 29 _ rfl hA6 Tryz.underlying29 rfl Rx ?_)
  |(refine An rfl 29 _ rfl B _ 29 _ rfl HB.out Tryz.underlying29 rfl Rx ?_)
  |(go_at_call 107;refine(cQ _ _ hL1.out (HL.out.no KW.out)).mono ?_;rintro e wz ⟨rfl,kz⟩))
 go_ret
 exact⟨AY (by rw[HOK.out,hrs.out,hro.out,hq0.out];simp),KW.out.trans kz⟩
theorem ok2{o:Dc.Op}(h:o.kind=2):o.ok=(Dc.Bm o.t o.id.R&&Off.AV o.id&&(BP 0 o&&BP 2 o)&&decide ((AL 2 (AL 0 o.bare o) o)=o)):=by
 unfold Dc.Op.ok Dc.Op.parts Dc.Op.own
 simp only[h]
 rfl
theorem SD(o:Dc.Op)(cv:Value)(w:World)(hE:Env w)(hL:BI 4 AD cv o.cuts w)(hk:o.kind=2):
  Calls Tryz.prog 66 #[opV o cv] w (Bj o.ok w):=by
 obtain⟨a0,an,ac,rfl⟩:∃a0 an ac,cv= .slice a0 an ac:=by obtain⟨_,x,y,h,_⟩:=hL;exact⟨_,_,_,h⟩
 have HOK:=Hx (ok2 hk)
 have cS:=fun w=>Dh o.t o.id.R w
 have cO:=fun w=>BJ o.id.R o.id.N w
 have cB:=fun w=>H9 o (.slice a0 an ac) w
 have cQ:=fun ca w h1 h2=>FS (AL 2 (AL 0 o.bare o) o) o ca (.slice a0 an ac) w h1 h2
 have cN:=fun w=>SQ o.kind hk w
 have hoid:(⟨o.id.R,o.id.N⟩:Off.Bid)=o.id:=rfl
 rw[hoid]at cO
 generalize o.ok=ok at HOK⊢
 generalize Dc.Bm o.t o.id.R=rs at HOK cS
 generalize Off.AV o.id=ro at HOK cO
 generalize decide ((AL 2 (AL 0 o.bare o) o)=o)=eqb at HOK cQ
 clear hoid hk
 have c0:=fun w=>Om o (.slice a0 an ac) w
 generalize BP 0 o=q0 at HOK c0
 have c1:=fun w (hE:Env w)=>KL o (.slice a0 an ac) w hE
 generalize BP 2 o=q1 at HOK c1
 go_enter Tryz.func66,Tryz.ntmps66
 go_upto_region 1 with(fail)
 have kA:Aa No w (w.alloc (.cells (As o (.slice a0 an ac)) 29)):=(Aa.refl _ _).alloc _
 have hA:=Nx w (.cells (As o (.slice a0 an ac)) 29)
 obtain⟨A,eA⟩:∃A,A=w.heap.size:=⟨_,rfl⟩
 rw[←eA]at hA⊢
 generalize w.alloc (.cells (As o (.slice a0 an ac)) 29)=w1 at kA hA⊢
 have EA:=Hx eA
 clear eA
 have cA:=Cx hA
 have hA1:=Ao hA
 have hNe:A≠w1.heap.size:=by omega
 go_upto_region 4 with(first
  |(go_at_call 101;refine(cN _).mono ?_;rintro e w2 ⟨rfl,rfl⟩)
  |(go_at_call 102;refine(cS _).mono ?_;rintro e w3 ⟨rfl,k3⟩;have hA:=k3.heap (Ab hA _) id;have cA:=Cx hA)
  |(go_at_call 103;refine(cO _).mono ?_;rintro e w4 ⟨rfl,k4⟩;have hA:=k4.heap hA id;have cA:=Cx hA))
 all_goals first
  |(go_ret
    exact⟨AY (by rw[HOK.out];simp_all),Kx⟩)
  |skip
 have kq:Aa No w w4:=Kx
 have hP:w4.heap[w1.heap.size]? =some (.cells #[.int .i64 0,.int .i64 2] 204 (0,0)):=k4.heap (k3.heap (Nx w1 _) id) id
 obtain⟨Pb,ePb⟩:∃b,b=w1.heap.size:=⟨_,rfl⟩
 rw[←ePb]at hP hNe⊢
 have EPb:=Hx ePb
 clear ePb
 have hro:Hid (ro=true):=Hx (by simp_all)
 have hrs:Hid (rs=true):=Hx (by assumption)
 go_upto_region 5 with(first
  |(refine An rfl 29 _ rfl A _ 29 _ rfl hA Tryz.underlying29 rfl Rx ?_)
  |(go_at_call 104;refine(cB _).mono ?_;rintro e w5 ⟨rfl,k5⟩;have hA5:=Ab (k5.heap hA id) (.cells Be 29);have hP5:=Ab (k5.heap hP id) (.cells Be 29);have hB5:=Nx w5 (.cells Be 29))
  |(refine Bd rfl 29 _ _ rfl w5.heap.size _ _ 29 rfl rfl hB5 (by rfl) Rx (by rfl) ?_;intro w6 hB k6 hz6))
 have k5':Aa No w w6:=(((kq.trans k5).alloc (.cells Be 29)).step k6 fun k hk hlt=>by have:=kq.size;have:=k5.size;unfold At1 at hk;omega)
 have hA6:=k6.heap hA5 (fun e=>by have:=Ao (k5.heap hA id);unfold At1 at e;omega)
 have hP6:=k6.heap hP5 (fun e=>by have:=Ao (k5.heap hP id);unfold At1 at e;omega)
 have hAB:A<w5.heap.size:=Ao (k5.heap hA id)
 have hPB:Pb<w5.heap.size:=Ao (k5.heap hP id)
 have hwB:w.heap.size≤w5.heap.size:=(kq.trans k5).size
 obtain⟨B,eB⟩:∃b,b=w5.heap.size:=⟨_,rfl⟩
 rw[←eB]at hB hAB hPB hwB⊢
 have EB:=Hx eB
 clear eB
 have hB0:Eo B o.bare (.slice none 0 0) w6:=hB
 have hL0:Hid (BI 4 AD (.slice none 0 0) o.bare.cuts w6):=Hx ⟨Ah _,none,0,rfl,Ac _,Ah _,fun e=>absurd rfl e⟩
 have KW:=Hx k5'
 have HL:=Hx hL
 have HE:=Hx hE
 have hAne:¬A=B:=by omega
 have hPne:¬Pb=B:=by omega
 clear hP5 hA5 hB5 hA hP hB k6 k5 kq k3 k4 kA hA1 cA hNe hE hL k5' hz6
 go_frame
 go_wp2
 refine wp_loop_rounds 3 ?_
 rw[rounds_succ]
 have cP0:=Cx hP6
 have kr0:Aa No w w6:=KW.out
 go_wp2_with(first
  |(refine An rfl 29 _ rfl A _ 29 _ rfl hA6 Tryz.underlying29 rfl Rx ?_)
  |(go_at_call 105;refine(c0 _).mono ?_;rintro e wx0 ⟨rfl,kx0⟩;have hA6:=kx0.heap hA6 id;have hP6:=kx0.heap hP6 id;have hBx0:Eo B o.bare (.slice none 0 0) wx0:=kx0.heap hB0 id;have krr0:=kr0.trans kx0)
  |(go_at_call 106;refine(OO B o.bare o (.slice none 0 0) (.slice a0 an ac) _ hBx0).mono ?_;rintro e wy0 ⟨rfl,hB1,kc0⟩;have hA6:=kc0.heap hA6 (fun e=>hAne e);have hP6:=kc0.heap hP6 (fun e=>hPne e)))
 all_goals first
  |(go_ret
    exact⟨AY (by rw[HOK.out];simp_all),krr0⟩)
  |skip
 have KW:Hid (Aa No w wy0):=Hx (krr0.step kc0 fun k hk hlt=>by unfold At1 at hk;omega)
 have hq0:Hid (q0=true):=Hx (by simp_all)
 have hL1:Hid (BI 4 AD (.slice none 0 0) (AL 0 o.bare o).cuts wy0):=Hx ((hL0.out.no kx0).keeps kc0 fun g hg=>by simp[Value.ownBlock]at hg)
 clear kr0 krr0 kx0 kc0 cP0 hBx0
 rw[rounds_succ]
 have cP1:=Cx hP6
 have kr1:Aa No w wy0:=KW.out
 go_wp2_with(first
  |(refine An rfl 29 _ rfl A _ 29 _ rfl hA6 Tryz.underlying29 rfl Rx ?_)
  |(go_at_call 105;refine(c1 _ (HE.out.no kr1)).mono ?_;rintro e wx1 ⟨rfl,kx1⟩;have hA6:=kx1.heap hA6 id;have hP6:=kx1.heap hP6 id;have hBx1:Eo B (AL 0 o.bare o) (.slice none 0 0) wx1:=kx1.heap hB1 id;have krr1:=kr1.trans kx1)
  |(go_at_call 106;refine(KZ B (AL 0 o.bare o) o (.slice none 0 0) (.slice a0 an ac) _ hBx1).mono ?_;rintro e wy1 ⟨rfl,hB2,kc1⟩;have hA6:=kc1.heap hA6 (fun e=>hAne e);have hP6:=kc1.heap hP6 (fun e=>hPne e)))
 all_goals first
  |(go_ret
    exact⟨AY (by rw[HOK.out];simp_all),krr1⟩)
  |skip
 have KW:Hid (Aa No w wy1):=Hx (krr1.step kc1 fun k hk hlt=>by unfold At1 at hk;omega)
 have hq1:Hid (q1=true):=Hx (by simp_all)
 have hL2:Hid (BI 4 AD (.slice none 0 0) (AL 2 (AL 0 o.bare o) o).cuts wy1):=Hx ((hL1.out.no kx1).keeps kc1 fun g hg=>by simp[Value.ownBlock]at hg)
 clear kr1 krr1 kx1 kc1 cP1 hBx1
 rw[rounds_succ]
 have HB:Hid (Eo B (AL 2 (AL 0 o.bare o) o) (.slice none 0 0) wy1):=Hx hB2
 go_wp2_with(first
  |(refine An rfl 29 _ rfl A _ 29 _ rfl hA6 Tryz.underlying29 rfl Rx ?_)
  |(refine An rfl 29 _ rfl B _ 29 _ rfl HB.out Tryz.underlying29 rfl Rx ?_)
  |(go_at_call 107;refine(cQ _ _ hL2.out (HL.out.no KW.out)).mono ?_;rintro e wz ⟨rfl,kz⟩))
 go_ret
 exact⟨AY (by rw[HOK.out,hrs.out,hro.out,hq0.out,hq1.out];simp),KW.out.trans kz⟩
theorem ok3{o:Dc.Op}(h:o.kind=3):o.ok=(Dc.Bm o.t o.id.R&&Off.AV o.id&&(BP 1 o&&BP 3 o)&&decide ((AL 3 (AL 1 o.bare o) o)=o)):=by
 unfold Dc.Op.ok Dc.Op.parts Dc.Op.own
 simp only[h]
 rfl
theorem SC(o:Dc.Op)(cv:Value)(w:World)(hE:Env w)(hL:BI 4 AD cv o.cuts w)(hsz:o.text.length≤1000000000)(hk:o.kind=3):
  Calls Tryz.prog 66 #[opV o cv] w (Bj o.ok w):=by
 obtain⟨a0,an,ac,rfl⟩:∃a0 an ac,cv= .slice a0 an ac:=by obtain⟨_,x,y,h,_⟩:=hL;exact⟨_,_,_,h⟩
 have HOK:=Hx (ok3 hk)
 have cS:=fun w=>Dh o.t o.id.R w
 have cO:=fun w=>BJ o.id.R o.id.N w
 have cB:=fun w=>H9 o (.slice a0 an ac) w
 have cQ:=fun ca w h1 h2=>FS (AL 3 (AL 1 o.bare o) o) o ca (.slice a0 an ac) w h1 h2
 have cN:=fun w=>SO o.kind hk w
 have hoid:(⟨o.id.R,o.id.N⟩:Off.Bid)=o.id:=rfl
 rw[hoid]at cO
 generalize o.ok=ok at HOK⊢
 generalize Dc.Bm o.t o.id.R=rs at HOK cS
 generalize Off.AV o.id=ro at HOK cO
 generalize decide ((AL 3 (AL 1 o.bare o) o)=o)=eqb at HOK cQ
 clear hoid hk
 have c0:=fun w=>Ol o (.slice a0 an ac) w
 generalize BP 1 o=q0 at HOK c0
 have c1:=fun w=>Uo o (.slice a0 an ac) w hsz
 generalize BP 3 o=q1 at HOK c1
 go_enter Tryz.func66,Tryz.ntmps66
 go_upto_region 1 with(fail)
 have kA:Aa No w (w.alloc (.cells (As o (.slice a0 an ac)) 29)):=(Aa.refl _ _).alloc _
 have hA:=Nx w (.cells (As o (.slice a0 an ac)) 29)
 obtain⟨A,eA⟩:∃A,A=w.heap.size:=⟨_,rfl⟩
 rw[←eA]at hA⊢
 generalize w.alloc (.cells (As o (.slice a0 an ac)) 29)=w1 at kA hA⊢
 have EA:=Hx eA
 clear eA
 have cA:=Cx hA
 have hA1:=Ao hA
 have hNe:A≠w1.heap.size:=by omega
 go_upto_region 4 with(first
  |(go_at_call 101;refine(cN _).mono ?_;rintro e w2 ⟨rfl,rfl⟩)
  |(go_at_call 102;refine(cS _).mono ?_;rintro e w3 ⟨rfl,k3⟩;have hA:=k3.heap (Ab hA _) id;have cA:=Cx hA)
  |(go_at_call 103;refine(cO _).mono ?_;rintro e w4 ⟨rfl,k4⟩;have hA:=k4.heap hA id;have cA:=Cx hA))
 all_goals first
  |(go_ret
    exact⟨AY (by rw[HOK.out];simp_all),Kx⟩)
  |skip
 have kq:Aa No w w4:=Kx
 have hP:w4.heap[w1.heap.size]? =some (.cells #[.int .i64 1,.int .i64 3] 204 (0,0)):=k4.heap (k3.heap (Nx w1 _) id) id
 obtain⟨Pb,ePb⟩:∃b,b=w1.heap.size:=⟨_,rfl⟩
 rw[←ePb]at hP hNe⊢
 have EPb:=Hx ePb
 clear ePb
 have hro:Hid (ro=true):=Hx (by simp_all)
 have hrs:Hid (rs=true):=Hx (by assumption)
 go_upto_region 5 with(first
  |(refine An rfl 29 _ rfl A _ 29 _ rfl hA Tryz.underlying29 rfl Rx ?_)
  |(go_at_call 104;refine(cB _).mono ?_;rintro e w5 ⟨rfl,k5⟩;have hA5:=Ab (k5.heap hA id) (.cells Be 29);have hP5:=Ab (k5.heap hP id) (.cells Be 29);have hB5:=Nx w5 (.cells Be 29))
  |(refine Bd rfl 29 _ _ rfl w5.heap.size _ _ 29 rfl rfl hB5 (by rfl) Rx (by rfl) ?_;intro w6 hB k6 hz6))
 have k5':Aa No w w6:=(((kq.trans k5).alloc (.cells Be 29)).step k6 fun k hk hlt=>by have:=kq.size;have:=k5.size;unfold At1 at hk;omega)
 have hA6:=k6.heap hA5 (fun e=>by have:=Ao (k5.heap hA id);unfold At1 at e;omega)
 have hP6:=k6.heap hP5 (fun e=>by have:=Ao (k5.heap hP id);unfold At1 at e;omega)
 have hAB:A<w5.heap.size:=Ao (k5.heap hA id)
 have hPB:Pb<w5.heap.size:=Ao (k5.heap hP id)
 have hwB:w.heap.size≤w5.heap.size:=(kq.trans k5).size
 obtain⟨B,eB⟩:∃b,b=w5.heap.size:=⟨_,rfl⟩
 rw[←eB]at hB hAB hPB hwB⊢
 have EB:=Hx eB
 clear eB
 have hB0:Eo B o.bare (.slice none 0 0) w6:=hB
 have hL0:Hid (BI 4 AD (.slice none 0 0) o.bare.cuts w6):=Hx ⟨Ah _,none,0,rfl,Ac _,Ah _,fun e=>absurd rfl e⟩
 have KW:=Hx k5'
 have HL:=Hx hL
 have HE:=Hx hE
 have hAne:¬A=B:=by omega
 have hPne:¬Pb=B:=by omega
 clear hP5 hA5 hB5 hA hP hB k6 k5 kq k3 k4 kA hA1 cA hNe hE hL k5' hz6
 go_frame
 go_wp2
 refine wp_loop_rounds 3 ?_
 rw[rounds_succ]
 have cP0:=Cx hP6
 have kr0:Aa No w w6:=KW.out
 go_wp2_with(first
  |(refine An rfl 29 _ rfl A _ 29 _ rfl hA6 Tryz.underlying29 rfl Rx ?_)
  |(go_at_call 105;refine(c0 _).mono ?_;rintro e wx0 ⟨rfl,kx0⟩;have hA6:=kx0.heap hA6 id;have hP6:=kx0.heap hP6 id;have hBx0:Eo B o.bare (.slice none 0 0) wx0:=kx0.heap hB0 id;have krr0:=kr0.trans kx0)
  |(go_at_call 106;refine(ON B o.bare o (.slice none 0 0) (.slice a0 an ac) _ hBx0).mono ?_;rintro e wy0 ⟨rfl,hB1,kc0⟩;have hA6:=kc0.heap hA6 (fun e=>hAne e);have hP6:=kc0.heap hP6 (fun e=>hPne e)))
 all_goals first
  |(go_ret
    exact⟨AY (by rw[HOK.out];simp_all),krr0⟩)
  |skip
 have KW:Hid (Aa No w wy0):=Hx (krr0.step kc0 fun k hk hlt=>by unfold At1 at hk;omega)
 have hq0:Hid (q0=true):=Hx (by simp_all)
 have hL1:Hid (BI 4 AD (.slice none 0 0) (AL 1 o.bare o).cuts wy0):=Hx ((hL0.out.no kx0).keeps kc0 fun g hg=>by simp[Value.ownBlock]at hg)
 clear kr0 krr0 kx0 kc0 cP0 hBx0
 rw[rounds_succ]
 have cP1:=Cx hP6
 have kr1:Aa No w wy0:=KW.out
 go_wp2_with(first
  |(refine An rfl 29 _ rfl A _ 29 _ rfl hA6 Tryz.underlying29 rfl Rx ?_)
  |(go_at_call 105;refine(c1 _).mono ?_;rintro e wx1 ⟨rfl,kx1⟩;have hA6:=kx1.heap hA6 id;have hP6:=kx1.heap hP6 id;have hBx1:Eo B (AL 1 o.bare o) (.slice none 0 0) wx1:=kx1.heap hB1 id;have krr1:=kr1.trans kx1)
  |(go_at_call 106;refine(UO B (AL 1 o.bare o) o (.slice none 0 0) (.slice a0 an ac) _ hBx1).mono ?_;rintro e wy1 ⟨rfl,hB2,kc1⟩;have hA6:=kc1.heap hA6 (fun e=>hAne e);have hP6:=kc1.heap hP6 (fun e=>hPne e)))
 all_goals first
  |(go_ret
    exact⟨AY (by rw[HOK.out];simp_all),krr1⟩)
  |skip
 have KW:Hid (Aa No w wy1):=Hx (krr1.step kc1 fun k hk hlt=>by unfold At1 at hk;omega)
 have hq1:Hid (q1=true):=Hx (by simp_all)
 have hL2:Hid (BI 4 AD (.slice none 0 0) (AL 3 (AL 1 o.bare o) o).cuts wy1):=Hx ((hL1.out.no kx1).keeps kc1 fun g hg=>by simp[Value.ownBlock]at hg)
 clear kr1 krr1 kx1 kc1 cP1 hBx1
 rw[rounds_succ]
 have HB:Hid (Eo B (AL 3 (AL 1 o.bare o) o) (.slice none 0 0) wy1):=Hx hB2
 go_wp2_with(first
  |(refine An rfl 29 _ rfl A _ 29 _ rfl hA6 Tryz.underlying29 rfl Rx ?_)
  |(refine An rfl 29 _ rfl B _ 29 _ rfl HB.out Tryz.underlying29 rfl Rx ?_)
  |(go_at_call 107;refine(cQ _ _ hL2.out (HL.out.no KW.out)).mono ?_;rintro e wz ⟨rfl,kz⟩))
 go_ret
 exact⟨AY (by rw[HOK.out,hrs.out,hro.out,hq0.out,hq1.out];simp),KW.out.trans kz⟩
theorem ok4{o:Dc.Op}(h:o.kind=4):o.ok=(Dc.Bm o.t o.id.R&&Off.AV o.id&&(BP 4 o)&&decide ((AL 4 o.bare o)=o)):=by
 unfold Dc.Op.ok Dc.Op.parts Dc.Op.own
 simp only[h]
 rfl
theorem SB(o:Dc.Op)(cv:Value)(w:World)(hE:Env w)(hL:BI 4 AD cv o.cuts w)(hcz:o.cuts.length≤1000000)(hk:o.kind=4):
  Calls Tryz.prog 66 #[opV o cv] w (Bj o.ok w):=by
 obtain⟨a0,an,ac,rfl⟩:∃a0 an ac,cv= .slice a0 an ac:=by obtain⟨_,x,y,h,_⟩:=hL;exact⟨_,_,_,h⟩
 have HOK:=Hx (ok4 hk)
 have cS:=fun w=>Dh o.t o.id.R w
 have cO:=fun w=>BJ o.id.R o.id.N w
 have cB:=fun w=>H9 o (.slice a0 an ac) w
 have cQ:=fun ca w h1 h2=>FS (AL 4 o.bare o) o ca (.slice a0 an ac) w h1 h2
 have cN:=fun w=>SN o.kind hk w
 have hoid:(⟨o.id.R,o.id.N⟩:Off.Bid)=o.id:=rfl
 rw[hoid]at cO
 generalize o.ok=ok at HOK⊢
 generalize Dc.Bm o.t o.id.R=rs at HOK cS
 generalize Off.AV o.id=ro at HOK cO
 generalize decide ((AL 4 o.bare o)=o)=eqb at HOK cQ
 clear hoid hk
 have c0:=fun w (hL:BI 4 AD (.slice a0 an ac) o.cuts w)=>Un o (.slice a0 an ac) w hL
 generalize BP 4 o=q0 at HOK c0
 go_enter Tryz.func66,Tryz.ntmps66
 go_upto_region 1 with(fail)
 have kA:Aa No w (w.alloc (.cells (As o (.slice a0 an ac)) 29)):=(Aa.refl _ _).alloc _
 have hA:=Nx w (.cells (As o (.slice a0 an ac)) 29)
 obtain⟨A,eA⟩:∃A,A=w.heap.size:=⟨_,rfl⟩
 rw[←eA]at hA⊢
 generalize w.alloc (.cells (As o (.slice a0 an ac)) 29)=w1 at kA hA⊢
 have EA:=Hx eA
 clear eA
 have cA:=Cx hA
 have hA1:=Ao hA
 have hNe:A≠w1.heap.size:=by omega
 go_upto_region 4 with(first
  |(go_at_call 101;refine(cN _).mono ?_;rintro e w2 ⟨rfl,rfl⟩)
  |(go_at_call 102;refine(cS _).mono ?_;rintro e w3 ⟨rfl,k3⟩;have hA:=k3.heap (Ab hA _) id;have cA:=Cx hA)
  |(go_at_call 103;refine(cO _).mono ?_;rintro e w4 ⟨rfl,k4⟩;have hA:=k4.heap hA id;have cA:=Cx hA))
 all_goals first
  |(go_ret
    exact⟨AY (by rw[HOK.out];simp_all),Kx⟩)
  |skip
 have kq:Aa No w w4:=Kx
 have hP:w4.heap[w1.heap.size]? =some (.cells #[.int .i64 4] 204 (0,0)):=k4.heap (k3.heap (Nx w1 _) id) id
 obtain⟨Pb,ePb⟩:∃b,b=w1.heap.size:=⟨_,rfl⟩
 rw[←ePb]at hP hNe⊢
 have EPb:=Hx ePb
 clear ePb
 have hro:Hid (ro=true):=Hx (by simp_all)
 have hrs:Hid (rs=true):=Hx (by assumption)
 go_upto_region 5 with(first
  |(refine An rfl 29 _ rfl A _ 29 _ rfl hA Tryz.underlying29 rfl Rx ?_)
  |(go_at_call 104;refine(cB _).mono ?_;rintro e w5 ⟨rfl,k5⟩;have hA5:=Ab (k5.heap hA id) (.cells Be 29);have hP5:=Ab (k5.heap hP id) (.cells Be 29);have hB5:=Nx w5 (.cells Be 29))
  |(refine Bd rfl 29 _ _ rfl w5.heap.size _ _ 29 rfl rfl hB5 (by rfl) Rx (by rfl) ?_;intro w6 hB k6 hz6))
 have k5':Aa No w w6:=(((kq.trans k5).alloc (.cells Be 29)).step k6 fun k hk hlt=>by have:=kq.size;have:=k5.size;unfold At1 at hk;omega)
 have hA6:=k6.heap hA5 (fun e=>by have:=Ao (k5.heap hA id);unfold At1 at e;omega)
 have hP6:=k6.heap hP5 (fun e=>by have:=Ao (k5.heap hP id);unfold At1 at e;omega)
 have hAB:A<w5.heap.size:=Ao (k5.heap hA id)
 have hPB:Pb<w5.heap.size:=Ao (k5.heap hP id)
 have hwB:w.heap.size≤w5.heap.size:=(kq.trans k5).size
 obtain⟨B,eB⟩:∃b,b=w5.heap.size:=⟨_,rfl⟩
 rw[←eB]at hB hAB hPB hwB⊢
 have EB:=Hx eB
 clear eB
 have hB0:Eo B o.bare (.slice none 0 0) w6:=hB
 have hL0:Hid (BI 4 AD (.slice none 0 0) o.bare.cuts w6):=Hx ⟨Ah _,none,0,rfl,Ac _,Ah _,fun e=>absurd rfl e⟩
 have KW:=Hx k5'
 have HL:=Hx hL
 have HE:=Hx hE
 have hAne:¬A=B:=by omega
 have hPne:¬Pb=B:=by omega
 clear hP5 hA5 hB5 hA hP hB k6 k5 kq k3 k4 kA hA1 cA hNe hE hL k5' hz6
 go_frame
 go_wp2
 refine wp_loop_rounds 2 ?_
 rw[rounds_succ]
 have cP0:=Cx hP6
 have kr0:Aa No w w6:=KW.out
 go_wp2_with(first
  |(refine An rfl 29 _ rfl A _ 29 _ rfl hA6 Tryz.underlying29 rfl Rx ?_)
  |(go_at_call 105;refine(c0 _ (HL.out.no kr0)).mono ?_;rintro e wx0 ⟨rfl,kx0⟩;have hA6:=kx0.heap hA6 id;have hP6:=kx0.heap hP6 id;have hBx0:Eo B o.bare (.slice none 0 0) wx0:=kx0.heap hB0 id;have krr0:=kr0.trans kx0)
  |(go_at_call 106;refine(UN B o.bare o (.slice none 0 0) (.slice a0 an ac) _ hBx0 (HL.out.no krr0) hcz).mono ?_;rintro e wy0 ⟨rfl,cv0,hB1,hLn0,kc0⟩;have hA6:=kc0.heap hA6 (fun e=>hAne e);have hP6:=kc0.heap hP6 (fun e=>hPne e)))
 all_goals first
  |(go_ret
    exact⟨AY (by rw[HOK.out];simp_all),krr0⟩)
  |skip
 have KW:Hid (Aa No w wy0):=Hx (krr0.step kc0 fun k hk hlt=>by unfold At1 at hk;omega)
 have hq0:Hid (q0=true):=Hx (by simp_all)
 obtain⟨b0,bn,bc,rfl⟩:∃a0 an ac,cv0= .slice a0 an ac:=by obtain⟨_,x,y,h,_⟩:=hLn0;exact⟨_,_,_,h⟩
 have hL1:Hid (BI 4 AD (.slice b0 bn bc) (AL 4 o.bare o).cuts wy0):=Hx hLn0
 clear hLn0
 clear kr0 krr0 kx0 kc0 cP0 hBx0
 rw[rounds_succ]
 have HB:Hid (Eo B (AL 4 o.bare o) (.slice b0 bn bc) wy0):=Hx hB1
 go_wp2_with(first
  |(refine An rfl 29 _ rfl A _ 29 _ rfl hA6 Tryz.underlying29 rfl Rx ?_)
  |(refine An rfl 29 _ rfl B _ 29 _ rfl HB.out Tryz.underlying29 rfl Rx ?_)
  |(go_at_call 107;refine(cQ _ _ hL1.out (HL.out.no KW.out)).mono ?_;rintro e wz ⟨rfl,kz⟩))
 go_ret
 exact⟨AY (by rw[HOK.out,hrs.out,hro.out,hq0.out];simp),KW.out.trans kz⟩
theorem ok5{o:Dc.Op}(h:o.kind=5):o.ok=(Dc.Bm o.t o.id.R&&Off.AV o.id&&(BP 1 o&&BP 2 o)&&decide ((AL 2 (AL 1 o.bare o) o)=o)):=by
 unfold Dc.Op.ok Dc.Op.parts Dc.Op.own
 simp only[h]
 rfl
theorem SA(o:Dc.Op)(cv:Value)(w:World)(hE:Env w)(hL:BI 4 AD cv o.cuts w)(hk:o.kind=5):
  Calls Tryz.prog 66 #[opV o cv] w (Bj o.ok w):=by
 obtain⟨a0,an,ac,rfl⟩:∃a0 an ac,cv= .slice a0 an ac:=by obtain⟨_,x,y,h,_⟩:=hL;exact⟨_,_,_,h⟩
 have HOK:=Hx (ok5 hk)
 have cS:=fun w=>Dh o.t o.id.R w
 have cO:=fun w=>BJ o.id.R o.id.N w
 have cB:=fun w=>H9 o (.slice a0 an ac) w
 have cQ:=fun ca w h1 h2=>FS (AL 2 (AL 1 o.bare o) o) o ca (.slice a0 an ac) w h1 h2
 have cN:=fun w=>SL o.kind hk w
 have hoid:(⟨o.id.R,o.id.N⟩:Off.Bid)=o.id:=rfl
 rw[hoid]at cO
 generalize o.ok=ok at HOK⊢
 generalize Dc.Bm o.t o.id.R=rs at HOK cS
 generalize Off.AV o.id=ro at HOK cO
 generalize decide ((AL 2 (AL 1 o.bare o) o)=o)=eqb at HOK cQ
 clear hoid hk
 have c0:=fun w=>Ol o (.slice a0 an ac) w
 generalize BP 1 o=q0 at HOK c0
 have c1:=fun w (hE:Env w)=>KL o (.slice a0 an ac) w hE
 generalize BP 2 o=q1 at HOK c1
 go_enter Tryz.func66,Tryz.ntmps66
 go_upto_region 1 with(fail)
 have kA:Aa No w (w.alloc (.cells (As o (.slice a0 an ac)) 29)):=(Aa.refl _ _).alloc _
 have hA:=Nx w (.cells (As o (.slice a0 an ac)) 29)
 obtain⟨A,eA⟩:∃A,A=w.heap.size:=⟨_,rfl⟩
 rw[←eA]at hA⊢
 generalize w.alloc (.cells (As o (.slice a0 an ac)) 29)=w1 at kA hA⊢
 have EA:=Hx eA
 clear eA
 have cA:=Cx hA
 have hA1:=Ao hA
 have hNe:A≠w1.heap.size:=by omega
 go_upto_region 4 with(first
  |(go_at_call 101;refine(cN _).mono ?_;rintro e w2 ⟨rfl,rfl⟩)
  |(go_at_call 102;refine(cS _).mono ?_;rintro e w3 ⟨rfl,k3⟩;have hA:=k3.heap (Ab hA _) id;have cA:=Cx hA)
  |(go_at_call 103;refine(cO _).mono ?_;rintro e w4 ⟨rfl,k4⟩;have hA:=k4.heap hA id;have cA:=Cx hA))
 all_goals first
  |(go_ret
    exact⟨AY (by rw[HOK.out];simp_all),Kx⟩)
  |skip
 have kq:Aa No w w4:=Kx
 have hP:w4.heap[w1.heap.size]? =some (.cells #[.int .i64 1,.int .i64 2] 204 (0,0)):=k4.heap (k3.heap (Nx w1 _) id) id
 obtain⟨Pb,ePb⟩:∃b,b=w1.heap.size:=⟨_,rfl⟩
 rw[←ePb]at hP hNe⊢
 have EPb:=Hx ePb
 clear ePb
 have hro:Hid (ro=true):=Hx (by simp_all)
 have hrs:Hid (rs=true):=Hx (by assumption)
 go_upto_region 5 with(first
  |(refine An rfl 29 _ rfl A _ 29 _ rfl hA Tryz.underlying29 rfl Rx ?_)
  |(go_at_call 104;refine(cB _).mono ?_;rintro e w5 ⟨rfl,k5⟩;have hA5:=Ab (k5.heap hA id) (.cells Be 29);have hP5:=Ab (k5.heap hP id) (.cells Be 29);have hB5:=Nx w5 (.cells Be 29))
  |(refine Bd rfl 29 _ _ rfl w5.heap.size _ _ 29 rfl rfl hB5 (by rfl) Rx (by rfl) ?_;intro w6 hB k6 hz6))
 have k5':Aa No w w6:=(((kq.trans k5).alloc (.cells Be 29)).step k6 fun k hk hlt=>by have:=kq.size;have:=k5.size;unfold At1 at hk;omega)
 have hA6:=k6.heap hA5 (fun e=>by have:=Ao (k5.heap hA id);unfold At1 at e;omega)
 have hP6:=k6.heap hP5 (fun e=>by have:=Ao (k5.heap hP id);unfold At1 at e;omega)
 have hAB:A<w5.heap.size:=Ao (k5.heap hA id)
 have hPB:Pb<w5.heap.size:=Ao (k5.heap hP id)
 have hwB:w.heap.size≤w5.heap.size:=(kq.trans k5).size
 obtain⟨B,eB⟩:∃b,b=w5.heap.size:=⟨_,rfl⟩
 rw[←eB]at hB hAB hPB hwB⊢
 have EB:=Hx eB
 clear eB
 have hB0:Eo B o.bare (.slice none 0 0) w6:=hB
 have hL0:Hid (BI 4 AD (.slice none 0 0) o.bare.cuts w6):=Hx ⟨Ah _,none,0,rfl,Ac _,Ah _,fun e=>absurd rfl e⟩
 have KW:=Hx k5'
 have HL:=Hx hL
 have HE:=Hx hE
 have hAne:¬A=B:=by omega
 have hPne:¬Pb=B:=by omega
 clear hP5 hA5 hB5 hA hP hB k6 k5 kq k3 k4 kA hA1 cA hNe hE hL k5' hz6
 go_frame
 go_wp2
 refine wp_loop_rounds 3 ?_
 rw[rounds_succ]
 have cP0:=Cx hP6
 have kr0:Aa No w w6:=KW.out
 go_wp2_with(first
  |(refine An rfl 29 _ rfl A _ 29 _ rfl hA6 Tryz.underlying29 rfl Rx ?_)
  |(go_at_call 105;refine(c0 _).mono ?_;rintro e wx0 ⟨rfl,kx0⟩;have hA6:=kx0.heap hA6 id;have hP6:=kx0.heap hP6 id;have hBx0:Eo B o.bare (.slice none 0 0) wx0:=kx0.heap hB0 id;have krr0:=kr0.trans kx0)
  |(go_at_call 106;refine(ON B o.bare o (.slice none 0 0) (.slice a0 an ac) _ hBx0).mono ?_;rintro e wy0 ⟨rfl,hB1,kc0⟩;have hA6:=kc0.heap hA6 (fun e=>hAne e);have hP6:=kc0.heap hP6 (fun e=>hPne e)))
 all_goals first
  |(go_ret
    exact⟨AY (by rw[HOK.out];simp_all),krr0⟩)
  |skip
 have KW:Hid (Aa No w wy0):=Hx (krr0.step kc0 fun k hk hlt=>by unfold At1 at hk;omega)
 have hq0:Hid (q0=true):=Hx (by simp_all)
 have hL1:Hid (BI 4 AD (.slice none 0 0) (AL 1 o.bare o).cuts wy0):=Hx ((hL0.out.no kx0).keeps kc0 fun g hg=>by simp[Value.ownBlock]at hg)
 clear kr0 krr0 kx0 kc0 cP0 hBx0
 rw[rounds_succ]
 have cP1:=Cx hP6
 have kr1:Aa No w wy0:=KW.out
 go_wp2_with(first
  |(refine An rfl 29 _ rfl A _ 29 _ rfl hA6 Tryz.underlying29 rfl Rx ?_)
  |(go_at_call 105;refine(c1 _ (HE.out.no kr1)).mono ?_;rintro e wx1 ⟨rfl,kx1⟩;have hA6:=kx1.heap hA6 id;have hP6:=kx1.heap hP6 id;have hBx1:Eo B (AL 1 o.bare o) (.slice none 0 0) wx1:=kx1.heap hB1 id;have krr1:=kr1.trans kx1)
  |(go_at_call 106;refine(KZ B (AL 1 o.bare o) o (.slice none 0 0) (.slice a0 an ac) _ hBx1).mono ?_;rintro e wy1 ⟨rfl,hB2,kc1⟩;have hA6:=kc1.heap hA6 (fun e=>hAne e);have hP6:=kc1.heap hP6 (fun e=>hPne e)))
 all_goals first
  |(go_ret
    exact⟨AY (by rw[HOK.out];simp_all),krr1⟩)
  |skip
 have KW:Hid (Aa No w wy1):=Hx (krr1.step kc1 fun k hk hlt=>by unfold At1 at hk;omega)
 have hq1:Hid (q1=true):=Hx (by simp_all)
 have hL2:Hid (BI 4 AD (.slice none 0 0) (AL 2 (AL 1 o.bare o) o).cuts wy1):=Hx ((hL1.out.no kx1).keeps kc1 fun g hg=>by simp[Value.ownBlock]at hg)
 clear kr1 krr1 kx1 kc1 cP1 hBx1
 rw[rounds_succ]
 have HB:Hid (Eo B (AL 2 (AL 1 o.bare o) o) (.slice none 0 0) wy1):=Hx hB2
 go_wp2_with(first
  |(refine An rfl 29 _ rfl A _ 29 _ rfl hA6 Tryz.underlying29 rfl Rx ?_)
  |(refine An rfl 29 _ rfl B _ 29 _ rfl HB.out Tryz.underlying29 rfl Rx ?_)
  |(go_at_call 107;refine(cQ _ _ hL2.out (HL.out.no KW.out)).mono ?_;rintro e wz ⟨rfl,kz⟩))
 go_ret
 exact⟨AY (by rw[HOK.out,hrs.out,hro.out,hq0.out,hq1.out];simp),KW.out.trans kz⟩
theorem ok6{o:Dc.Op}(h:o.kind=6):o.ok=(Dc.Bm o.t o.id.R&&Off.AV o.id&&(BP 0 o&&BP 5 o)&&decide ((AL 5 (AL 0 o.bare o) o)=o)):=by
 unfold Dc.Op.ok Dc.Op.parts Dc.Op.own
 simp only[h]
 have e:(BP 0 o&&BP 5 o)=Off.AV o.block:=Bool.and_true _
 rw[e]
 rfl
theorem Sz(o:Dc.Op)(cv:Value)(w:World)(hE:Env w)(hL:BI 4 AD cv o.cuts w)(hk:o.kind=6):
  Calls Tryz.prog 66 #[opV o cv] w (Bj o.ok w):=by
 obtain⟨a0,an,ac,rfl⟩:∃a0 an ac,cv= .slice a0 an ac:=by obtain⟨_,x,y,h,_⟩:=hL;exact⟨_,_,_,h⟩
 have HOK:=Hx (ok6 hk)
 have cS:=fun w=>Dh o.t o.id.R w
 have cO:=fun w=>BJ o.id.R o.id.N w
 have cB:=fun w=>H9 o (.slice a0 an ac) w
 have cQ:=fun ca w h1 h2=>FS (AL 5 (AL 0 o.bare o) o) o ca (.slice a0 an ac) w h1 h2
 have cN:=fun w=>SK o.kind hk w
 have hoid:(⟨o.id.R,o.id.N⟩:Off.Bid)=o.id:=rfl
 rw[hoid]at cO
 generalize o.ok=ok at HOK⊢
 generalize Dc.Bm o.t o.id.R=rs at HOK cS
 generalize Off.AV o.id=ro at HOK cO
 generalize decide ((AL 5 (AL 0 o.bare o) o)=o)=eqb at HOK cQ
 clear hoid hk
 have c0:=fun w=>Om o (.slice a0 an ac) w
 generalize BP 0 o=q0 at HOK c0
 have c1:=fun w=>Um o (.slice a0 an ac) w
 generalize BP 5 o=q1 at HOK c1
 go_enter Tryz.func66,Tryz.ntmps66
 go_upto_region 1 with(fail)
 have kA:Aa No w (w.alloc (.cells (As o (.slice a0 an ac)) 29)):=(Aa.refl _ _).alloc _
 have hA:=Nx w (.cells (As o (.slice a0 an ac)) 29)
 obtain⟨A,eA⟩:∃A,A=w.heap.size:=⟨_,rfl⟩
 rw[←eA]at hA⊢
 generalize w.alloc (.cells (As o (.slice a0 an ac)) 29)=w1 at kA hA⊢
 have EA:=Hx eA
 clear eA
 have cA:=Cx hA
 have hA1:=Ao hA
 have hNe:A≠w1.heap.size:=by omega
 go_upto_region 4 with(first
  |(go_at_call 101;refine(cN _).mono ?_;rintro e w2 ⟨rfl,rfl⟩)
  |(go_at_call 102;refine(cS _).mono ?_;rintro e w3 ⟨rfl,k3⟩;have hA:=k3.heap (Ab hA _) id;have cA:=Cx hA)
  |(go_at_call 103;refine(cO _).mono ?_;rintro e w4 ⟨rfl,k4⟩;have hA:=k4.heap hA id;have cA:=Cx hA))
 all_goals first
  |(go_ret
    exact⟨AY (by rw[HOK.out];simp_all),Kx⟩)
  |skip
 have kq:Aa No w w4:=Kx
 have hP:w4.heap[w1.heap.size]? =some (.cells #[.int .i64 0,.int .i64 5] 204 (0,0)):=k4.heap (k3.heap (Nx w1 _) id) id
 obtain⟨Pb,ePb⟩:∃b,b=w1.heap.size:=⟨_,rfl⟩
 rw[←ePb]at hP hNe⊢
 have EPb:=Hx ePb
 clear ePb
 have hro:Hid (ro=true):=Hx (by simp_all)
 have hrs:Hid (rs=true):=Hx (by assumption)
 go_upto_region 5 with(first
  |(refine An rfl 29 _ rfl A _ 29 _ rfl hA Tryz.underlying29 rfl Rx ?_)
  |(go_at_call 104;refine(cB _).mono ?_;rintro e w5 ⟨rfl,k5⟩;have hA5:=Ab (k5.heap hA id) (.cells Be 29);have hP5:=Ab (k5.heap hP id) (.cells Be 29);have hB5:=Nx w5 (.cells Be 29))
  |(refine Bd rfl 29 _ _ rfl w5.heap.size _ _ 29 rfl rfl hB5 (by rfl) Rx (by rfl) ?_;intro w6 hB k6 hz6))
 have k5':Aa No w w6:=(((kq.trans k5).alloc (.cells Be 29)).step k6 fun k hk hlt=>by have:=kq.size;have:=k5.size;unfold At1 at hk;omega)
 have hA6:=k6.heap hA5 (fun e=>by have:=Ao (k5.heap hA id);unfold At1 at e;omega)
 have hP6:=k6.heap hP5 (fun e=>by have:=Ao (k5.heap hP id);unfold At1 at e;omega)
 have hAB:A<w5.heap.size:=Ao (k5.heap hA id)
 have hPB:Pb<w5.heap.size:=Ao (k5.heap hP id)
 have hwB:w.heap.size≤w5.heap.size:=(kq.trans k5).size
 obtain⟨B,eB⟩:∃b,b=w5.heap.size:=⟨_,rfl⟩
 rw[←eB]at hB hAB hPB hwB⊢
 have EB:=Hx eB
 clear eB
 have hB0:Eo B o.bare (.slice none 0 0) w6:=hB
 have hL0:Hid (BI 4 AD (.slice none 0 0) o.bare.cuts w6):=Hx ⟨Ah _,none,0,rfl,Ac _,Ah _,fun e=>absurd rfl e⟩
 have KW:=Hx k5'
 have HL:=Hx hL
 have HE:=Hx hE
 have hAne:¬A=B:=by omega
 have hPne:¬Pb=B:=by omega
 clear hP5 hA5 hB5 hA hP hB k6 k5 kq k3 k4 kA hA1 cA hNe hE hL k5' hz6
 go_frame
 go_wp2
 refine wp_loop_rounds 3 ?_
 rw[rounds_succ]
 have cP0:=Cx hP6
 have kr0:Aa No w w6:=KW.out
 go_wp2_with(first
  |(refine An rfl 29 _ rfl A _ 29 _ rfl hA6 Tryz.underlying29 rfl Rx ?_)
  |(go_at_call 105;refine(c0 _).mono ?_;rintro e wx0 ⟨rfl,kx0⟩;have hA6:=kx0.heap hA6 id;have hP6:=kx0.heap hP6 id;have hBx0:Eo B o.bare (.slice none 0 0) wx0:=kx0.heap hB0 id;have krr0:=kr0.trans kx0)
  |(go_at_call 106;refine(OO B o.bare o (.slice none 0 0) (.slice a0 an ac) _ hBx0).mono ?_;rintro e wy0 ⟨rfl,hB1,kc0⟩;have hA6:=kc0.heap hA6 (fun e=>hAne e);have hP6:=kc0.heap hP6 (fun e=>hPne e)))
 all_goals first
  |(go_ret
    exact⟨AY (by rw[HOK.out];simp_all),krr0⟩)
  |skip
 have KW:Hid (Aa No w wy0):=Hx (krr0.step kc0 fun k hk hlt=>by unfold At1 at hk;omega)
 have hq0:Hid (q0=true):=Hx (by simp_all)
 have hL1:Hid (BI 4 AD (.slice none 0 0) (AL 0 o.bare o).cuts wy0):=Hx ((hL0.out.no kx0).keeps kc0 fun g hg=>by simp[Value.ownBlock]at hg)
 clear kr0 krr0 kx0 kc0 cP0 hBx0
 rw[rounds_succ]
 have cP1:=Cx hP6
 have kr1:Aa No w wy0:=KW.out
 go_wp2_with(first
  |(refine An rfl 29 _ rfl A _ 29 _ rfl hA6 Tryz.underlying29 rfl Rx ?_)
  |(go_at_call 105;refine(c1 _).mono ?_;rintro e wx1 ⟨rfl,kx1⟩;have hA6:=kx1.heap hA6 id;have hP6:=kx1.heap hP6 id;have hBx1:Eo B (AL 0 o.bare o) (.slice none 0 0) wx1:=kx1.heap hB1 id;have krr1:=kr1.trans kx1)
  |(go_at_call 106;refine(UM B (AL 0 o.bare o) o (.slice none 0 0) (.slice a0 an ac) _ hBx1).mono ?_;rintro e wy1 ⟨rfl,hB2,kc1⟩;have hA6:=kc1.heap hA6 (fun e=>hAne e);have hP6:=kc1.heap hP6 (fun e=>hPne e)))
 all_goals first
  |(go_ret
    exact⟨AY (by rw[HOK.out];simp_all),krr1⟩)
  |skip
 have KW:Hid (Aa No w wy1):=Hx (krr1.step kc1 fun k hk hlt=>by unfold At1 at hk;omega)
 have hq1:Hid (q1=true):=Hx (by simp_all)
 have hL2:Hid (BI 4 AD (.slice none 0 0) (AL 5 (AL 0 o.bare o) o).cuts wy1):=Hx ((hL1.out.no kx1).keeps kc1 fun g hg=>by simp[Value.ownBlock]at hg)
 clear kr1 krr1 kx1 kc1 cP1 hBx1
 rw[rounds_succ]
 have HB:Hid (Eo B (AL 5 (AL 0 o.bare o) o) (.slice none 0 0) wy1):=Hx hB2
 go_wp2_with(first
  |(refine An rfl 29 _ rfl A _ 29 _ rfl hA6 Tryz.underlying29 rfl Rx ?_)
  |(refine An rfl 29 _ rfl B _ 29 _ rfl HB.out Tryz.underlying29 rfl Rx ?_)
  |(go_at_call 107;refine(cQ _ _ hL2.out (HL.out.no KW.out)).mono ?_;rintro e wz ⟨rfl,kz⟩))
 go_ret
 exact⟨AY (by rw[HOK.out,hrs.out,hro.out,hq0.out,hq1.out];simp),KW.out.trans kz⟩
theorem We{o:Dc.Op}(h1:o.kind≠1)(h2:o.kind≠2)(h3:o.kind≠3)(h4:o.kind≠4)(h5:o.kind≠5)(h6:o.kind≠6):o.ok=false:=by
 unfold Dc.Op.ok Dc.Op.parts
 rw[Ae h1,Ae h2,Ae h3,Ae h4,Ae h5,Ae h6]
 simp
theorem MA(o:Dc.Op)(cv:Value)(w:World)(h1:o.kind≠1)(h2:o.kind≠2)(h3:o.kind≠3)(h4:o.kind≠4)(h5:o.kind≠5)(h6:o.kind≠6):
  Calls Tryz.prog 66 #[opV o cv] w (Bj o.ok w):=by
 have HOK:=Hx (We h1 h2 h3 h4 h5 h6)
 have cN:∀w,Calls Tryz.prog 101 #[.int .i64 o.kind] w fun e w'=>e= .returned (.slice none 0 0)∧w=w':=by
  intro w
  generalize o.kind=kd at*
  have e1:(kd==1)=false:=by simp[h1]
  have e2:(kd==2)=false:=by simp[h2]
  have e3:(kd==3)=false:=by simp[h3]
  have e4:(kd==4)=false:=by simp[h4]
  have e5:(kd==5)=false:=by simp[h5]
  have e6:(kd==6)=false:=by simp[h6]
  clear HOK h1 h2 h3 h4 h5 h6
  go_enter Tryz.func101,Tryz.ntmps101
  go_wp2
  go_ret
  exact⟨rfl,rfl⟩
 generalize o.ok=ok at HOK⊢
 clear h1 h2 h3 h4 h5 h6
 go_enter Tryz.func66,Tryz.ntmps66
 go_wp2_with(go_at_call 101;refine(cN _).mono ?_;rintro e w2 ⟨rfl,rfl⟩)
 go_ret
 exact⟨AY HOK.out.symm,Kx⟩
theorem Je(o:Dc.Op)(cv:Value)(w:World)(hE:Env w)(hL:BI 4 AD cv o.cuts w)(hsz:o.text.length≤1000000000)(hcz:o.cuts.length≤1000000):
  Calls Tryz.prog 66 #[opV o cv] w (Bj o.ok w):=by
 by_cases h1:o.kind=1
 ·exact SE o cv w hE hL h1
 by_cases h2:o.kind=2
 ·exact SD o cv w hE hL h2
 by_cases h3:o.kind=3
 ·exact SC o cv w hE hL hsz h3
 by_cases h4:o.kind=4
 ·exact SB o cv w hE hL hcz h4
 by_cases h5:o.kind=5
 ·exact SA o cv w hE hL h5
 by_cases h6:o.kind=6
 ·exact Sz o cv w hE hL h6
 exact MA o cv w h1 h2 h3 h4 h5 h6
end Go.Proofs.YthfjefcljeamgaaGreatDoor
