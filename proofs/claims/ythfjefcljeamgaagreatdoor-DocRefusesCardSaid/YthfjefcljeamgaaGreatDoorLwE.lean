/- The statements of the document: a block with a text is made and shown. -/
import Derived.Test.YthfjefcljeamgaaGreatDoorLwD
namespace Go.Proofs.YthfjefcljeamgaaGreatDoor
set_option maxRecDepth 100000
set_option maxHeartbeats 4000000
open Go.RowKit
attribute [local go_sem ↓] Go.wp_at_zero Go.wp_at_succ
theorem Q9:Dc.BS Dc.I5:=Dc.BS.new.act _
theorem M6:Dc.BS Dc.B2:=Q9.act _
theorem MO(w:World):BI 4 AD (.slice none 0 0) ([]:List Dc.Cut) w:=⟨Ah _,none,0,rfl,Ac _,Ah _,fun e=>absurd rfl e⟩
theorem UY(w:World)(hE:Env w):Calls Tryz.prog 15 #[] w (BM true w):=by
 have h4:4≤w.heap.size:=hE.size
 have HPOST:Hid (∀w',Aa (BN w.heap.size) w w'→BM true w (.returned (.bool true)) w'):=Hx fun w' k=>⟨rfl,k.mono fun g hg hl=>by unfold BN at hg;omega⟩
 generalize BM true w=post at HPOST⊢
 obtain⟨base,hbase⟩:∃base,base=w.heap.size:=⟨_,rfl⟩
 have HNEW:=Hx (MS w)
 unfold Ns at HNEW
 rw[←hbase]at HNEW HPOST h4
 have HEV:Hid (∀W,Aa (BN base) w W→Env W):=Hx fun W k=>hE.keeps k fun g hg=>by unfold BN at hg;omega
 have HBS:Hid (∀W,Aa (BN base) w W→base≤W.heap.size):=Hx fun W k=>hbase▸k.size
 have HBA:Hid (∀W,Calls Tryz.prog 59 #[.int .i64 0,.int .i64 1,.int .i64 1,.agg #[.int .i64 0,.int .i64 0],.string ⟨#[97]⟩] W fun e w'=>e= .returned (.agg #[.int .i64 1,.int .i64 0,.int .i64 1,.int .i64 1,.int .i64 0,.int .i64 0,.int .i64 0,.int .i64 0,.string ⟨#[97]⟩,.int .i64 0,.int .i64 0,.int .i64 0,.int .i64 0,.int .i64 0,.int .i64 0,.int .i64 0,.int .i64 0,.string ⟨#[]⟩,.slice none 0 0,.bool false])∧Aa No W w'):=Hx fun W=>OS 0 1 1 ⟨0,0⟩ [97] W
 have HBC:Hid (∀W,Calls Tryz.prog 59 #[.int .i64 0,.int .i64 3,.int .i64 3,.agg #[.int .i64 0,.int .i64 9],.string ⟨#[97]⟩] W fun e w'=>e= .returned (.agg #[.int .i64 1,.int .i64 0,.int .i64 3,.int .i64 3,.int .i64 0,.int .i64 0,.int .i64 0,.int .i64 9,.string ⟨#[97]⟩,.int .i64 0,.int .i64 0,.int .i64 0,.int .i64 0,.int .i64 0,.int .i64 0,.int .i64 0,.int .i64 0,.string ⟨#[]⟩,.slice none 0 0,.bool false])∧Aa No W w'):=Hx fun W=>OS 0 3 3 ⟨0,9⟩ [97] W
 have HDA:Hid (∀b W,Aa (BN base) w W→C6 (BN base) b Dc.Doc.new W→Calls Tryz.prog 19 #[.pointer (some ⟨b,0,none⟩),.agg #[.int .i64 1,.int .i64 0,.int .i64 1,.int .i64 1,.int .i64 0,.int .i64 0,.int .i64 0,.int .i64 0,.string ⟨#[97]⟩,.int .i64 0,.int .i64 0,.int .i64 0,.int .i64 0,.int .i64 0,.int .i64 0,.int .i64 0,.int .i64 0,.string ⟨#[]⟩,.slice none 0 0,.bool false]] W (K8 base b 0 Dc.I5 W)):=Hx fun b W k h=>by
  have:=Ox h4 (HBS.out W k) h Dc.BS.new (by decide) (HEV.out W k) Dc.Gj (.slice none 0 0) (MO W) (fun e=>absurd rfl e) (by decide) (by decide)
  rw[Dc.TZ]at this
  exact this
 have HDB:Hid (∀b W,Aa (BN base) w W→C6 (BN base) b Dc.I5 W→Calls Tryz.prog 19 #[.pointer (some ⟨b,0,none⟩),.agg #[.int .i64 3,.int .i64 0,.int .i64 2,.int .i64 2,.int .i64 0,.int .i64 0,.int .i64 0,.int .i64 0,.string ⟨#[]⟩,.int .i64 0,.int .i64 1,.int .i64 0,.int .i64 0,.int .i64 0,.int .i64 0,.int .i64 0,.int .i64 0,.string ⟨#[97,98]⟩,.slice none 0 0,.bool false]] W (K8 base b 0 Dc.B2 W)):=Hx fun b W k h=>by
  have:=Ox h4 (HBS.out W k) h Q9 (by rw[Dc.Jl];decide) (HEV.out W k) Dc.Ir (.slice none 0 0) (MO W) (fun e=>absurd rfl e) (by decide) (by decide)
  rw[Dc.TY]at this
  exact this
 have HDC:Hid (∀F b W,(∀g,F g→base≤g)→Aa (BN base) w W→C6 F b Dc.B2 W→Calls Tryz.prog 19 #[.pointer (some ⟨b,0,none⟩),.agg #[.int .i64 1,.int .i64 0,.int .i64 3,.int .i64 3,.int .i64 0,.int .i64 0,.int .i64 0,.int .i64 9,.string ⟨#[97]⟩,.int .i64 0,.int .i64 0,.int .i64 0,.int .i64 0,.int .i64 0,.int .i64 0,.int .i64 0,.int .i64 0,.string ⟨#[]⟩,.slice none 0 0,.bool false]] W (JJ F b 13 Dc.B2 W)):=Hx fun F b W hF k h=>by
  have:=MV (fun g hg=>AG h4 (hF g hg)) h M6 (by rw[Dc.Jk];decide) (HEV.out W k) Dc.Qa (.slice none 0 0) (MO W) (fun e=>absurd rfl e) (by decide) (by decide)
  rw[Dc.TW]at this
  have h3:Dc.B2.act Dc.Qa=Dc.B2:=Dc.UZ
  rw[h3]at this
  exact this
 have HOU:Hid (∀F b W,C6 F b Dc.B2 W→Calls Tryz.prog 20 #[.pointer (some ⟨b,0,none⟩),.agg #[.int .i64 0,.int .i64 0]] W (LV [⟨⟨0,1⟩,0,false,[97,98]⟩] W)):=Hx fun _ b W h=>by
  have:=SY h M6 (by rw[Dc.Jk];decide) .z
  rw[Dc.UX]at this
  exact this
 have HH2:Hid (∀F b W,C6 F b Dc.B2 W→Calls Tryz.prog 22 #[.pointer (some ⟨b,0,none⟩),.agg #[.int .i64 0,.int .i64 2]] W (BM true W)):=Hx fun _ b W h=>by
  have:=MU h ⟨0,2⟩
  rw[Dc.TG]at this
  exact this
 have HH3:Hid (∀F b W,C6 F b Dc.B2 W→Calls Tryz.prog 22 #[.pointer (some ⟨b,0,none⟩),.agg #[.int .i64 0,.int .i64 3]] W (BM false W)):=Hx fun _ b W h=>by
  have:=MU h ⟨0,3⟩
  rw[Dc.TF]at this
  exact this
 have HTH:Hid (∀F b W,Aa (BN base) w W→C6 F b Dc.B2 W→Calls Tryz.prog 25 #[.pointer (some ⟨b,0,none⟩),.agg #[.int .i64 1,.int .i64 0]] W (BM true W)):=Hx fun _ b W k h=>by
  have:=Pq h (HEV.out W k) .t
  rw[Dc.RH]at this
  exact this
 have HOL:Hid (∀F b W,C6 F b Dc.B2 W→Calls Tryz.prog 21 #[.pointer (some ⟨b,0,none⟩)] W (Ua 2 W)):=Hx fun _ b W h=>by
  have:=NQ h M6 (by rw[Dc.Jk];decide)
  rw[Dc.Jk]at this
  exact this
 clear hE hbase h4
 go_enter Tryz.func15,Tryz.ntmps15
 go_upto_region 2 with(go_at_call 18;(with_reducible refine HNEW.out.mono ?_);rintro e w1 ⟨b,rfl,hd1,k1⟩)
 have k1':Aa (BN base) w w1:=k1.any
 have hE1:=HEV.out w1 k1'
 have r0:=hE1.root0
 have r1:=hE1.root1
 have hz0:0<w1.heap.size:=by have:=hE1.size;omega
 clear k1 hE1 HNEW
 go_upto_region 4 with(first
  |(go_at_call 59;(with_reducible refine(HBA.out _).mono ?_);rintro e w2 ⟨rfl,k2⟩;have k02:=k1'.no k2;have hd2:=hd1.no k2;have HX2:=Hx (HDA.out b w2 k02 hd2))
  |(go_at_call 19;(with_reducible refine HX2.out.mono ?_);rintro e w3 ⟨rfl,k3,hd3⟩;have k03:=k02.trans k3;have HX3:=Hx (HDB.out b w3 k03 hd3))
  |(go_at_call 19;(with_reducible refine HX3.out.mono ?_);rintro e w4 ⟨rfl,k4,hd4⟩;have k04:=k03.trans k4))
 have hE4:=HEV.out w4 k04
 have q0:=hE4.root0
 have q1:=hE4.root1
 have hz4:0<w4.heap.size:=by have:=hE4.size;omega
 have hd4':C6 (fun g=>base≤g∧g<w4.heap.size) b Dc.B2 w4:=hd4.mono fun g hg hl=>⟨hg,hl⟩
 have HO4:=Hx (HOU.out _ b w4 hd4')
 clear r0 r1 hz0 hd1 hd2 hd3 k1' k2 k3 k02 k03 HX2 HX3 hE4 HDA HDB HBA HOU
 go_upto_region 6 with(first
  |(go_at_call 20;(with_reducible refine HO4.out.mono ?_);rintro e w5 ⟨v5,rfl,hr5,ho5,k5⟩;obtain⟨g5,c5,hv5,hc5,_⟩:=hr5.at (by decide);subst hv5;have hd5:=hd4'.no k5;have k05:=k04.no k5)
  |(go_at_call 59;(with_reducible refine(HBC.out _).mono ?_);rintro e w6 ⟨rfl,k6⟩;have k06:=k05.no k6;have hd6:=hd5.no k6;have HX6:=Hx (HDC.out _ b w6 (fun g hg=>hg.1) k06 hd6))
  |(go_at_call 19;(with_reducible refine HX6.out.mono ?_);rintro e w7 ⟨rfl,k7,hd7⟩;have k07:Aa (BN base) w w7:=k06.step k7 fun g hg _=>hg.1))
 have hr7:Aq 49 5 E5 (.slice (some ⟨g5,0,none⟩) 1 c5) [⟨⟨0,1⟩,0,false,[97,98]⟩] w7:=(hr5.no k6).keeps k7 fun g hg e=>by have:=ho5 g hg;omega
 have hE7:=HEV.out w7 k07
 have t0:=hE7.trash0
 have t1:=hE7.trash1
 have hz7:1<w7.heap.size:=by have:=hE7.size;omega
 have hcl:=fun r (hr:r<5)=>hr7.cell (fun _=>rfl) (k:=0) (by decide) hr
 have x0:w7.cell? ⟨g5,0,none⟩=some (.int .i64 0):=hcl 0 (by decide)
 have x1:w7.cell? ⟨g5,1,none⟩=some (.int .i64 1):=hcl 1 (by decide)
 have x2:w7.cell? ⟨g5,2,none⟩=some (.int .i64 0):=hcl 2 (by decide)
 have x3:w7.cell? ⟨g5,3,none⟩=some (.bool false):=hcl 3 (by decide)
 have x4:w7.cell? ⟨g5,4,none⟩=some (.string ⟨#[97,98]⟩):=hcl 4 (by decide)
 have HH7:=Hx (HH2.out _ b w7 hd7)
 clear hcl hr5 ho5 hc5 hr7 q0 q1 hz4 HX6 HO4 hd4 hd4' hd5 hd6 HBC HDC hE7
 go_wp2_with(first
  |(go_at_call 22;(with_reducible refine HH7.out.mono ?_);rintro e w8 ⟨rfl,k8⟩;have hd8:=hd7.no k8;have k08:=k07.no k8;have HH8:=Hx (HH3.out _ b w8 hd8))
  |(go_at_call 22;(with_reducible refine HH8.out.mono ?_);rintro e w9 ⟨rfl,k9⟩;have hd9:=hd8.no k9;have k09:=k08.no k9;have HT9:=Hx (HTH.out _ b w9 k09 hd9);have hE9:=HEV.out w9 k09;have u0:=hE9.trash0;have u1:=hE9.trash1;have hz9:1<w9.heap.size:=(by have:=hE9.size;omega))
  |(go_at_call 25;(with_reducible refine HT9.out.mono ?_);rintro e w10 ⟨rfl,k10⟩;have hd10:=hd9.no k10;have k010:=k09.no k10;have HL10:=Hx (HOL.out _ b w10 hd10))
  |(go_at_call 21;(with_reducible refine HL10.out.mono ?_);rintro e w11 ⟨oa,oc,rfl,k11⟩))
 exact HPOST.out _ (k010.no k11)
end Go.Proofs.YthfjefcljeamgaaGreatDoor
