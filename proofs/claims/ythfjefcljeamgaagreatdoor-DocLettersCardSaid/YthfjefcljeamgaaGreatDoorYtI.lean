/- A text that many write at once: an op's characters join it. -/
import Derived.Test.YthfjefcljeamgaaGreatDoorYtH
namespace Go.Proofs.YthfjefcljeamgaaGreatDoor
set_option maxRecDepth 100000
set_option maxHeartbeats 4000000
open Go.RowKit
attribute [local go_sem ↓] Go.wp_at_zero Go.wp_at_succ
/-- all of a block is loaded, under a guard that lets it -/
theorem GW{P:Program}{ops:Array Oper}{rest:List Oper}{op:Oper}{a:Act}{w:World}{Q:Exit→Act→World→Prop}(hgw:Region.wanted op (yielded ops a.tmps)=true)(ty:TypeId)(x:Operand)(ho:op.op= .load ty x)(b:Nat)(cur:Array Value)(T:TypeId)(d:TypeDesc)(hx:a.eval x= .pointer (some ⟨b,0,none⟩))
  (hb:w.heap[b]? =some (.cells cur T (0,0)))(hu:P.underlying ty=some d)(hd:d.isRow=true)(hi:(P.info? ty).map (·.size)=some cur.size)
  (h:wpList P ops Q rest (a.put op.dst (.agg cur)) w):wpList P ops Q (op::rest) a w:=by
 refine BigFrame.wpList_want hgw fun K hK=>wp_load_mid ty x ho b 0 hx cur.toList d (DL hb (by rw[JL,AH])) hu hd (by simpa using hi) (hK _ _ ?_)
 simpa using h
theorem Nz{F:Nat→Prop}{b:Nat}{t:Dc.YT}{w:World}(h:Dx F b t w)(hE:Env w)(o:Dc.Op)(cv:Value)(hcv:BI 4 AD cv o.cuts w)(hsz:o.text.length≤1000000000)(hcz:o.cuts.length≤1000000)
  (hok:o.ok=true)(hs:0<o.size)(hf:t.nodes ⟨o.id,0⟩=none)(hlr:t.nodes o.left=none∨t.nodes o.right=none):
  Calls Tryz.prog 220 #[.pointer (some ⟨b,0,none⟩),opV o cv] w fun e w'=>e= .returned (.int .i64 13)∧Aa No w w':=by
 have HT:=Hx (fun W (k:Aa No w W) c=>N9 (h.no k) c)
 have HR:Hid (∀W,Aa No w W→Calls Tryz.prog 66 #[opV o cv] W (Bj true W)):=Hx fun W k=>hok▸Je o cv W (hE.no k) (hcv.no k) hsz hcz
 have HZ:=Hx (fun W=>JP o cv W)
 have hs0:¬((o.size:Nat):Int)=0:=by omega
 have HF:=Hx hf
 obtain⟨sz,hsz'⟩:∃sz,sz=o.size:=⟨_,rfl⟩
 rw[←hsz']at HZ hs0
 obtain⟨okl,hokl⟩:∃x,x=(t.nodes o.left).isSome:=⟨_,rfl⟩
 obtain⟨okr,hokr⟩:∃x,x=(t.nodes o.right).isSome:=⟨_,rfl⟩
 have hor:okl=false∨okl=true∧okr=false:=by
  rcases hlr with e|e
  ·exact .inl (by rw[hokl,e];rfl)
  ·cases okl
   ·exact .inl rfl
   ·exact .inr ⟨rfl,by rw[hokr,e];rfl⟩
 have HTL:Hid (∀W,Aa No w W→Calls Tryz.prog 265 #[.pointer (some ⟨b,0,none⟩),CE o.left] W (Bj okl W)):=Hx fun W k=>hokl▸HT.out W k o.left
 have HTR:Hid (∀W,Aa No w W→Calls Tryz.prog 265 #[.pointer (some ⟨b,0,none⟩),CE o.right] W (Bj okr W)):=Hx fun W k=>hokr▸HT.out W k o.right
 have HTI:Hid (∀W,Aa No w W→Calls Tryz.prog 265 #[.pointer (some ⟨b,0,none⟩),CE ⟨o.id,0⟩] W (Bj false W)):=Hx fun W k=>by have:=HT.out W k ⟨o.id,0⟩;rw[HF.out]at this;exact this
 clear h hsz hcz hcv hok hs hf hlr hokl hokr hsz' HF HT
 go_enter Tryz.func220,Tryz.ntmps220
 go_upto_region 1 with(fail)
 have k0:Aa No w (w.alloc (.cells (As o cv) 29)):=(Aa.refl No w).alloc _
 have hP:=Nx w (.cells (As o cv) 29)
 generalize w.alloc (.cells (As o cv) 29)=w1 at k0 hP⊢
 obtain⟨P,eP⟩:∃P,P=w.heap.size:=⟨_,rfl⟩
 rw[←eP]at hP⊢
 have hPw:w.heap.size≤P:=by omega
 clear eP
 have p1:=Cx hP 1
 have p2:=Cx hP 2
 go_upto_region 2 with(fail)
 have k1:Aa No w (w1.alloc (.cells #[.int .i64 o.id.R,.int .i64 o.id.N,.int .i64 0] 26)):=k0.alloc _
 have hP2:=Ab hP (.cells #[.int .i64 o.id.R,.int .i64 o.id.N,.int .i64 0] 26)
 have hC2:=Nx w1 (.cells #[.int .i64 o.id.R,.int .i64 o.id.N,.int .i64 0] 26)
 have hC1:=k0.size
 generalize w1.alloc (.cells #[.int .i64 o.id.R,.int .i64 o.id.N,.int .i64 0] 26)=w2 at k1 hP2 hC2⊢
 obtain⟨C,eC⟩:∃C,C=w1.heap.size:=⟨_,rfl⟩
 rw[←eC]at hC2 hC1⊢
 clear eC p1 p2 hP k0
 go_upto_region 4 with(first
  |(refine An rfl 29 _ rfl P _ 29 _ rfl hP2 Tryz.underlying29 rfl Rx ?_)
  |(refine GW rfl 29 _ rfl P _ 29 _ rfl hP3 Tryz.underlying29 rfl Rx ?_)
  |(go_at_call 66;(with_reducible refine(HR.out _ k1).mono ?_);rintro e w3 ⟨rfl,k3⟩;have hP3:=k3.heap hP2 id)
  |(go_at_call 162;(with_reducible refine(HZ.out _).mono ?_);rintro e w4 ⟨rfl,k4⟩))
 have hC4:=(k3.trans k4).heap hC2 id
 have hP4:=(k3.trans k4).heap hP2 id
 have kw4:=k1.trans (k3.trans k4)
 have c0:=Cx hC4 0
 have c1:=Cx hC4 1
 have c2:=Cx hC4 2
 clear hP2 hP3 hC2
 go_upto_region 6 with(go_at_call 265;(with_reducible refine(HTI.out _ kw4).mono ?_);rintro e w5 ⟨rfl,k5⟩)
 have hC5:=k5.heap hC4 id
 have hP5:=k5.heap hP4 id
 have kw5:=kw4.trans k5
 have p11:=Cx hP5 11
 have p12:=Cx hP5 12
 have p13:=Cx hP5 13
 clear hP4 hC4 c0 c1 c2
 rcases hor with rfl|⟨rfl,rfl⟩
 ·go_wp2_with(go_at_call 265;(with_reducible refine(HTL.out _ kw5).mono ?_);rintro e w6 ⟨rfl,k6⟩)
  go_ret
  exact⟨rfl,kw5.trans k6⟩
 ·go_wp2_with(first
   |(go_at_call 265;(with_reducible refine(HTL.out _ kw5).mono ?_);rintro e w6 ⟨rfl,k6⟩;have p14:=Cx (k6.heap hP5 id) 14;have p15:=Cx (k6.heap hP5 id) 15;have p16:=Cx (k6.heap hP5 id) 16)
   |(go_at_call 265;(with_reducible refine(HTR.out _ (kw5.trans k6)).mono ?_);rintro e w7 ⟨rfl,k7⟩))
  go_ret
  exact⟨rfl,(kw5.trans k6).trans k7⟩
def Xd(F:Nat→Prop)(b:Nat)(t':Dc.YT)(w:World)(e:Ending)(w':World):Prop:=
 e= .returned (.int .i64 0)∧Dx (Bv F w) b t' w'∧Aa (fun g=>F g∧g<w.heap.size) w w'
@[reducible] def JR(s:Dc.Kv):Array Value:= #[.int .i64 s.up.op.R,.int .i64 s.up.op.N,.int .i64 s.up.i,.int .i64 (Ld s.side),.int .i64 s.pos]
theorem Ny{F:Nat→Prop}{b:Nat}{t:Dc.YT}{w:World}(h:Dx F b t w)(hE:Env w){rk:Dc.Chr→Nat}{B M:Nat}(hn:Dc.BZ t.nodes rk B M)(hM:M≤1000000)(hrow:ES t.row)(hfull:Dc.Dm t)(o:Dc.Op)(cv:Value)(hcv:BI 4 AD cv o.cuts w)(hsz:o.text.length≤1000000000)(hcz:o.cuts.length≤1000000)
  (hok:o.ok=true)(hs:0<o.size)(hbig:Dc.CO t.row+o.size≤1000000)(hf:∀c:Dc.Chr,c.op=o.id→t.nodes c=none)(hl:t.nodes o.left≠none)(hr:t.nodes o.right≠none):
  Calls Tryz.prog 220 #[.pointer (some ⟨b,0,none⟩),opV o cv] w (Xd F b (Dc.Gv t o) w):=by
 have HT:=Hx (fun W (k:Aa No w W) c=>N9 (h.no k) c)
 have HR:Hid (∀W,Aa No w W→Calls Tryz.prog 66 #[opV o cv] W (Bj true W)):=Hx fun W k=>hok▸Je o cv W (hE.no k) (hcv.no k) hsz hcz
 have HZ:=Hx (fun W=>JP o cv W)
 have hs0:¬((o.size:Nat):Int)=0:=by omega
 have HTL:Hid (∀W,Aa No w W→Calls Tryz.prog 265 #[.pointer (some ⟨b,0,none⟩),CE o.left] W (Bj true W)):=Hx fun W k=>by have:=HT.out W k o.left;rw[Option.isSome_iff_ne_none.2 hl]at this;exact this
 have HTR:Hid (∀W,Aa No w W→Calls Tryz.prog 265 #[.pointer (some ⟨b,0,none⟩),CE o.right] W (Bj true W)):=Hx fun W k=>by have:=HT.out W k o.right;rw[Option.isSome_iff_ne_none.2 hr]at this;exact this
 have HTI:Hid (∀W,Aa No w W→Calls Tryz.prog 265 #[.pointer (some ⟨b,0,none⟩),CE ⟨o.id,0⟩] W (Bj false W)):=Hx fun W k=>by have:=HT.out W k ⟨o.id,0⟩;rw[hf _ rfl]at this;exact this
 have HSE:=Hx (fun W (k:Aa No w W)=>Vk (h.no k) (hE.no k) hn hM o cv hl hr)
 have HIT:=Hx (fun W=>VB o cv W hsz)
 obtain⟨n,hup⟩:=Dc.LQ hl hr
 have hpos:=Dc.Md hup
 have hple:=Dc.MC hn hfull hl hr
 have hput:=Dc.QA hn hfull hrow.1 hok hl hr hs hf
 have hins:Dc.Gv t o=⟨Dc.Jq t.row (Dc.C4 t (Dc.BG t.nodes o)) (Dc.B0 o),Dc.Ez o.id 1 (o.size-1) (Dc.sit t.nodes ⟨o.id,0⟩ (Dc.BG t.nodes o))⟩:=rfl
 obtain⟨s,hs'⟩:∃s,s=Dc.BG t.nodes o:=⟨_,rfl⟩
 rw[←hs']at HSE hup hpos hple hput hins
 have hpl:s.pos≤(n.side s.side).length:=by rw[hpos];exact Dc.H8 _ _
 have hsm:=hn.small _ _ s.side hup
 have HPL:Hid (∀W,Aa No w W→Calls Tryz.prog 268 #[.pointer (some ⟨b,0,none⟩),Me s] W (TL (Dc.C4 t s) W)):=Hx fun W k=>by
  obtain⟨up,sd,p⟩:=s
  cases sd
  ·exact QC (h.no k) (hE.no k) hn hM hrow up p n hup hpl
  ·exact QB (h.no k) (hE.no k) hn hM hrow up p n hup hpl
 obtain⟨q,hq⟩:∃q:Nat,Dc.C4 t s=(q:Int):=⟨(Dc.C4 t s).toNat,by omega⟩
 rw[hq]at HPL hput hins hple
 obtain⟨it,hit⟩:∃it,it=Dc.B0 o:=⟨_,rfl⟩
 rw[←hit]at hput hins HIT
 have hilen:it.len=o.size:=by rw[hit];exact Dc.MX hs
 obtain⟨hput1,hput2⟩:Dc.Dz it=true∧Dc.overlaps t.row it=false:=by
  unfold Dc.Hg at hput
  cases e1:Dc.Dz it
  ·rw[e1]at hput;simp at hput
  ·cases e2:Dc.overlaps t.row it
   ·exact⟨rfl,rfl⟩
   ·rw[e1,e2]at hput
    simp at hput
    omega
 have h0:Dx (fun g=>F g∧g<w.heap.size) b t w:=h.mono fun g hg hl=>⟨hg,hl⟩
 obtain⟨lab,br,bn,nv,hl1,hl2,hl3,hl4,hl5,hl6⟩:=h0
 have hlt:∀g,lab g≠none→g<w.heap.size:=fun g hg=>(hl1 g hg).2
 have HTURN:Hid (∀W (k:Aa No w W) l w8,Ec (Bv (fun k=>lab k=some .row) W) br l w8→Aa (fun k=>lab k=some .row) W w8→Dx (Bv (fun g=>F g∧g<w.heap.size) W) b ⟨l,t.nodes⟩ w8):=Hx fun W k l w8 h1 h2=>
  Dx.turnRow (fun g hg=>⟨(hl1 g hg).1,AK (hl1 g hg).2 k.size⟩) (k.heap hl2 id) hl3 hl5 (hl6.no k) h1 h2
 have HPUT:Hid (∀W,Aa No w W→Calls Tryz.prog 267 #[.pointer (some ⟨br,0,none⟩),.int .i64 q,JE it] W (T8 (fun k=>lab k=some .row) br (Dc.Jq t.row q it) W)):=Hx fun W k=>
  Ss (hl4.no k) hrow q it hput1 (by omega) hput2 (by omega)
 have HROWF:=Hx (fun g (e:lab g=some .row)=>(hl1 g (by rw[e];simp)).1)
 have hbn:¬lab b=some .row:=by rw[hl3];simp
 have HB:=Hx hl2
 have HUP:=Hx hup
 have HINS:=Hx hins
 have HFF:=Hx hf
 have hsp:=AG hsm hM
 generalize Dc.Gv t o=tfin at HINS⊢
 obtain⟨sz,hsz'⟩:∃sz,sz=o.size:=⟨_,rfl⟩
 have hs6:sz≤1000000:=by omega
 rw[←hsz']at HZ hs0 hs HINS
 clear h hE hn hrow hfull hcv hsz hcz hok hbig hf hl hr HT hl1 hl2 hl3 hl4 hl5 hl6 hins hup hpos hple hput hs' hit hilen hput1 hput2 hq hsz' hsm hM
 go_enter Tryz.func220,Tryz.ntmps220
 go_upto_region 1 with(fail)
 have k0:Aa No w (w.alloc (.cells (As o cv) 29)):=(Aa.refl No w).alloc _
 have hP:=Nx w (.cells (As o cv) 29)
 generalize w.alloc (.cells (As o cv) 29)=w1 at k0 hP⊢
 obtain⟨P,eP⟩:∃P,P=w.heap.size:=⟨_,rfl⟩
 rw[←eP]at hP⊢
 have hPw:w.heap.size≤P:=by omega
 clear eP
 have p1:=Cx hP 1
 have p2:=Cx hP 2
 go_upto_region 2 with(fail)
 have k1:Aa No w (w1.alloc (.cells #[.int .i64 o.id.R,.int .i64 o.id.N,.int .i64 0] 26)):=k0.alloc _
 have hP2:=Ab hP (.cells #[.int .i64 o.id.R,.int .i64 o.id.N,.int .i64 0] 26)
 have hC2:=Nx w1 (.cells #[.int .i64 o.id.R,.int .i64 o.id.N,.int .i64 0] 26)
 have hC1:=k0.size
 generalize w1.alloc (.cells #[.int .i64 o.id.R,.int .i64 o.id.N,.int .i64 0] 26)=w2 at k1 hP2 hC2⊢
 obtain⟨C,eC⟩:∃C,C=w1.heap.size:=⟨_,rfl⟩
 rw[←eC]at hC2 hC1⊢
 clear eC p1 p2 hP k0
 go_upto_region 4 with(first
  |(refine An rfl 29 _ rfl P _ 29 _ rfl hP2 Tryz.underlying29 rfl Rx ?_)
  |(refine GW rfl 29 _ rfl P _ 29 _ rfl hP3 Tryz.underlying29 rfl Rx ?_)
  |(go_at_call 66;(with_reducible refine(HR.out _ k1).mono ?_);rintro e w3 ⟨rfl,k3⟩;have hP3:=k3.heap hP2 id)
  |(go_at_call 162;(with_reducible refine(HZ.out _).mono ?_);rintro e w4 ⟨rfl,k4⟩))
 have hC4:=(k3.trans k4).heap hC2 id
 have hP4:=(k3.trans k4).heap hP2 id
 have kw4:=k1.trans (k3.trans k4)
 have c0:=Cx hC4 0
 have c1:=Cx hC4 1
 have c2:=Cx hC4 2
 clear hP2 hP3 hC2
 go_upto_region 6 with(go_at_call 265;(with_reducible refine(HTI.out _ kw4).mono ?_);rintro e w5 ⟨rfl,k5⟩)
 have hC5:=k5.heap hC4 id
 have hP5:=k5.heap hP4 id
 have kw5:=kw4.trans k5
 have p11:=Cx hP5 11
 have p12:=Cx hP5 12
 have p13:=Cx hP5 13
 clear hP4 hC4 c0 c1 c2
 have hbw:b<w.heap.size:=Ao HB.out
 go_upto_region 8 with(first
   |(go_at_call 265;(with_reducible refine(HTL.out _ kw5).mono ?_);rintro e w6 ⟨rfl,k6⟩;have p14:=Cx (k6.heap hP5 id) 14;have p15:=Cx (k6.heap hP5 id) 15;have p16:=Cx (k6.heap hP5 id) 16)
   |(go_at_call 265;(with_reducible refine(HTR.out _ (kw5.trans k6)).mono ?_);rintro e w7 ⟨rfl,k7⟩))
 have kw7:=(kw5.trans k6).trans k7
 have hP7:=(k6.trans k7).heap hP5 id
 have hC7:=(k6.trans k7).heap hC5 id
 clear p11 p12 p13 p14 p15 p16 hP5 hC5
 go_upto_region 9 with(first
  |(refine An rfl 29 _ rfl P _ 29 _ rfl hP7 Tryz.underlying29 rfl Rx ?_)
  |(go_at_call 266;(with_reducible refine(HSE.out _ kw7).mono ?_);rintro e w8 ⟨rfl,k8⟩))
 have kw9:=(kw7.trans k8).alloc (.cells (JR s) 377)
 have hP9:=Ab (k8.heap hP7 id) (.cells (JR s) 377)
 have hC9:=Ab (k8.heap hC7 id) (.cells (JR s) 377)
 have hS9:=Nx w8 (.cells (JR s) 377)
 have hS1:=(kw7.trans k8).size
 generalize w8.alloc (.cells (JR s) 377)=w9 at kw9 hP9 hC9 hS9⊢
 obtain⟨S,eS⟩:∃S,S=w8.heap.size:=⟨_,rfl⟩
 rw[←eS]at hS9 hS1⊢
 clear eS hP7 hC7
 have hPn:¬lab P=some .row:=fun e=>by have:=hlt P (by rw[e];simp);omega
 have hCn:¬lab C=some .row:=fun e=>by have:=hlt C (by rw[e];simp);omega
 have hSn:¬lab S=some .row:=fun e=>by have:=hlt S (by rw[e];simp);omega
 have hb9:=kw9.heap HB.out id
 go_cut[] (fun wx=>∃w10,Aa No w9 w10∧Ec (Bv (fun k=>lab k=some .row) w10) br (Dc.Jq t.row q it) wx∧Aa (fun k=>lab k=some .row) w10 wx)
 case first=>
  have HSA:Hid (∀W:World,Aa (fun k=>lab k=some .row) w9 W→((W.cell? ⟨b,0,none⟩=some (.pointer (some ⟨br,0,none⟩))∧W.cell? ⟨S,0,none⟩=some (.int .i64 s.up.op.R)∧W.cell? ⟨S,1,none⟩=some (.int .i64 s.up.op.N)∧W.cell? ⟨S,2,none⟩=some (.int .i64 s.up.i)∧W.cell? ⟨S,3,none⟩=some (.int .i64 (Ld s.side))∧W.cell? ⟨S,4,none⟩=some (.int .i64 s.pos))∧Aa (fun k=>lab k=some .row) w9 W)):=Hx fun W k=>
   ⟨⟨Cx (k.heap hb9 hbn) 0,Cx (k.heap hS9 hSn) 0,Cx (k.heap hS9 hSn) 1,Cx (k.heap hS9 hSn) 2,Cx (k.heap hS9 hSn) 3,Cx (k.heap hS9 hSn) 4⟩,k⟩
  have k9d:Aa No w9 w9.drew:=(Aa.refl No w9).drew
  refine wp_region_held_drew (S:=fun W=>(W.cell? ⟨b,0,none⟩=some (.pointer (some ⟨br,0,none⟩))∧W.cell? ⟨S,0,none⟩=some (.int .i64 s.up.op.R)∧W.cell? ⟨S,1,none⟩=some (.int .i64 s.up.op.N)∧W.cell? ⟨S,2,none⟩=some (.int .i64 s.up.i)∧W.cell? ⟨S,3,none⟩=some (.int .i64 (Ld s.side))∧W.cell? ⟨S,4,none⟩=some (.int .i64 s.pos))∧Aa (fun k=>lab k=some .row) w9 W) Rx (HSA.out _ k9d.any) (fun HS9=>?_)
  generalize w9.drew=w9d at k9d HS9⊢
  refine Tx 0 ?_ ?_ ?_
  rotate_left
  focus
   intro wH hSw
   try simp only[Gx]
   try dsimp only at hSw
   go_simp
   try with_reducible rfl
  try simp only[Gx,Act.put,Sx]
  refine Tx 1 ?_ ?_ ?_
  rotate_left
  focus
   intro wH hSw
   try simp only[Gx]
   try dsimp only at hSw
   go_simp
   try with_reducible rfl
  try simp only[Gx,Act.put,Sx]
  refine Tx 2 ?_ ?_ ?_
  rotate_left
  focus
   intro wH hSw
   try simp only[Gx]
   try dsimp only at hSw
   go_simp
   try with_reducible rfl
  try simp only[Gx,Act.put,Sx]
  refine Tx 3 ?_ ?_ ?_
  rotate_left
  focus
   intro wH hSw
   try simp only[Gx]
   try dsimp only at hSw
   go_simp
   try with_reducible rfl
  try simp only[Gx,Act.put,Sx]
  refine Tx 4 ?_ ?_ ?_
  rotate_left
  focus
   intro wH hSw
   try simp only[Gx]
   try dsimp only at hSw
   go_simp
   try with_reducible rfl
  try simp only[Gx,Act.put,Sx]
  refine Tx 5 ?_ ?_ ?_
  rotate_left
  focus
   intro wH hSw
   try simp only[Gx]
   try dsimp only at hSw
   go_simp
   try with_reducible rfl
  try simp only[Gx,Act.put,Sx]
  refine wpAnyH_take (i:=7) (v:= .agg (As o cv)) rfl Rx Rx Rx (fun _ _ _ h=>h) (BA rfl _ _ rfl P _ 29 _ rfl (fun W h=>h.2.heap hP9 hPn) Tryz.underlying29 rfl Rx) HS9 ?_
  simp only[Gx,Act.put,Sx]
  refine wpAnyH_ready (rs:=[6]) Rx (by simp) ?_
  refine AllReadyH.cons rfl (fun K hK=>?_) ?_
  try simp only[Gx]at hK⊢
  focus
   go_simp
   go_at_call 268
   (with_reducible refine(HPL.out _ (kw9.trans k9d)).mono ?_)
   rintro e wa6a6 ⟨rfl,kx⟩
   have ka6a6:=k9d.trans kx
   clear kx
   refine hK.out _ _ (HSA.out _ ka6a6.any) (fun _=>?_)
   clear hK
   try simp only[Act.put,Sx]
   refine wpAnyH_ready (rs:=[8]) Rx (by simp) ?_
   refine AllReadyH.cons rfl (fun K hK=>?_) ?_
   try simp only[Gx]at hK⊢
   rotate_left
   exact AllReadyH.nil
   go_simp
   go_at_call 269
   (with_reducible refine(HIT.out _).mono ?_)
   rintro e wa8b6 ⟨rfl,kx⟩
   have ka8b6:=ka6a6.trans kx
   clear kx
   refine hK.out _ _ (HSA.out _ ka8b6.any) (fun _=>?_)
   clear hK
   try simp only[Act.put,Sx]
   refine wpAnyH_ready (rs:=[9]) Rx (by simp) ?_
   refine AllReadyH.cons rfl (fun K hK=>?_) ?_
   try simp only[Gx]at hK⊢
   rotate_left
   exact AllReadyH.nil
   go_simp
   go_at_call 267
   (with_reducible refine(HPUT.out _ (kw9.trans ka8b6)).mono ?_)
   rintro e wp ⟨rfl,hrp,kp⟩
   refine hK.out _ _ (HSA.out _ (ka8b6.any.trans kp)) (fun _=>?_)
   clear hK
   try simp only[Act.put,Sx]
   refine wpAnyH_done Rx ?_ _
   go_wp2_with fail
   go_meet
   exact⟨wa8b6,ka8b6,hrp,kp⟩
  exact AllReadyH.nil
 case rest=>
  obtain⟨w10,k10,hrp,kp⟩:=hcut
  obtain⟨w11,hw11⟩:∃y,y=wc:=⟨_,rfl⟩
  subst hw11
  have hP11:=kp.heap (k10.heap hP9 id) hPn
  have hC11:=kp.heap (k10.heap hC9 id) hCn
  have hS11:=kp.heap (k10.heap hS9 id) hSn
  have kw10:=kw9.trans k10
  have hY:=HTURN.out _ kw10 _ _ hrp kp
  have kw11:Aa (fun g=>F g∧g<w.heap.size) w w11:=kw10.any.step kp fun y hy _=>HROWF.out y hy
  obtain⟨G,hG⟩:∃G,G=Bv (fun g=>F g∧g<w.heap.size) w10:=⟨_,rfl⟩
  rw[←hG]at hY
  have hz10:=kw10.size
  have hz11:=kp.size
  have hP10:=Ao (k10.heap hP9 id)
  have HG1:Hid (¬G P):=Hx fun e=>by
   rw[hG]at e
   rcases e with e|e
   ·have:=e.2;omega
   ·omega
  have HG2:Hid (∀W:World,w11.heap.size≤W.heap.size→∀g,Bv G W g→G g):=Hx fun W hW g hg=>by
   rcases hg with hg|hg
   ·exact hg
   ·rw[hG];exact .inr (by omega)
  have HG3:Hid (∀g,G g→Bv F w g):=Hx fun g hg=>by
   rw[hG]at hg
   rcases hg with hg|hg
   ·exact .inl hg.1
   ·exact .inr (by omega)
  have HG4:Hid (∀g,G g→g<w.heap.size→F g∧g<w.heap.size):=Hx fun g hg hl=>by
   rw[hG]at hg
   rcases hg with hg|hg
   ·exact hg
   ·omega
  obtain⟨l',hl'⟩:∃l',l'=Dc.Jq t.row q it:=⟨_,rfl⟩
  obtain⟨Nf,hNf⟩:∃Nf,Nf=Dc.Ez o.id 1 (sz-1) (Dc.sit t.nodes ⟨o.id,0⟩ s):=⟨_,rfl⟩
  rw[←hl',←hNf]at HINS
  rw[←hl']at hY
  have HSIT:=Hx (TM hY ⟨o.id,0⟩ s n HUP.out (HFF.out _ rfl) hpl hsp)
  have hN1:Dc.sit t.nodes ⟨o.id,0⟩ s ⟨o.id,0⟩=some ⟨s.up,[],[]⟩:=by rw[Dc.G9 HUP.out,Ak rfl]
  have hN2:∀j:Nat,1≤j→Dc.sit t.nodes ⟨o.id,0⟩ s ⟨o.id,j⟩=none:=fun j hj=>by
   rw[Dc.G9 HUP.out,Ae (by simp;omega),Ae,HFF.out _ rfl]
   intro e
   have:=HUP.out
   rw[←e,HFF.out _ rfl]at this
   cases this
  have HN1:=Hx hN1
  have HN2:=Hx hN2
  obtain⟨N1,hN⟩:∃N1,N1=Dc.sit t.nodes ⟨o.id,0⟩ s:=⟨_,rfl⟩
  unfold Jo at HSIT
  rw[←hN]at HN1 HN2 hNf
  simp only[←hN]at HSIT
  have HNF:=Hx hNf
  have c0:=Cx hC11 0
  have c1:=Cx hC11 1
  have c2:=Cx hC11 2
  have s0:=Cx hS11 0
  have s1:=Cx hS11 1
  have s2:=Cx hS11 2
  have s3:=Cx hS11 3
  have s4:=Cx hS11 4
  clear hN hN1 hN2 hl' hNf hG hP9 hC9 hS9 hP10 hrp hY hb9
  go_upto_region 11 with(go_at_call 270;(with_reducible refine HSIT.out.mono ?_);rintro e w12 ⟨rfl,hY12,k12⟩)
  have hP12:=k12.heap hP11 (fun e=>HG1.out e.1)
  have kw12:Aa (fun g=>F g∧g<w.heap.size) w w12:=kw11.step k12 fun y hy hl=>HG4.out y hy.1 hl
  have hY12':=hY12.mono (F':=G) fun g hg _=>HG2.out w11 (Ac _) g hg
  have hz12:=k12.size
  clear c0 c1 c2 s0 s1 s2 s3 s4 hC11 hS11 hP11 hY12 kw11 kw10 kw9 k10 kp
  go_wp2_with fail
  go_loopg [7] sz (fun kx s7 wr=>∃(i:Nat) (N:Dc.C5),s7= .int .i64 i∧1≤i∧i≤sz∧sz-i≤kx∧Dx G b ⟨l',N⟩ wr∧Hid (Dc.Ez o.id i (sz-i) N=Nf)∧(∃m,N ⟨o.id,(i:Int)-1⟩=some m∧m.r=[])∧(∀j:Nat,i≤j→N ⟨o.id,j⟩=none)∧Aa G w12 wr)
  case atStart=>exact⟨1,N1,rfl,Ac _,hs,by omega,hY12',Hx HNF.out.symm,⟨_,HN1.out,rfl⟩,HN2.out,Aa.refl _ _⟩
  case round=>
   obtain⟨i,N,rfl,hi1,hi2,hix,hYr,hrest,⟨m,hm,hmr⟩,hnone,kr⟩:=hrel
   have hPr:=kr.heap hP12 HG1.out
   have HY:=Hx hYr
   have HREST:=Hx hrest.out
   have HM:=Hx hm
   have HMR:=Hx hmr
   have HNO:=Hx hnone
   clear hYr hrest hm hmr hnone
   by_cases hlti:i<sz
   ·have hltI:(i:Int)<(sz:Int):=by omega
    have hrs:Dc.Ez o.id i (sz-i) N=Dc.Ez o.id (i+1) (sz-(i+1)) (Dc.sit N ⟨o.id,i⟩ ⟨⟨o.id,(i:Int)-1⟩,true,0⟩):=by
     rw[show sz-i=(sz-(i+1))+1 by omega];rfl
    have hsit:=fun x=>Dc.G9 (c:=⟨o.id,i⟩) (s:=⟨⟨o.id,(i:Int)-1⟩,true,0⟩) HM.out x
    have hA1:Dc.sit N ⟨o.id,i⟩ ⟨⟨o.id,(i:Int)-1⟩,true,0⟩ ⟨o.id,((i+1:Nat):Int)-1⟩=some ⟨⟨o.id,(i:Int)-1⟩,[],[]⟩:=by
     rw[show((i+1:Nat):Int)-1=(i:Int)by omega,hsit,Ak rfl]
    have hA2:∀j:Nat,i+1≤j→Dc.sit N ⟨o.id,i⟩ ⟨⟨o.id,(i:Int)-1⟩,true,0⟩ ⟨o.id,j⟩=none:=fun j hj=>by
     rw[hsit,Ae (by simp;omega),Ae (by simp;omega)]
     exact HNO.out j (by omega)
    have HA1:=Hx hA1
    have HA2:=Hx hA2
    have HRE:=Hx (hrs.symm.trans HREST.out)
    have hwi:IntKind.i64.wrap ((i:Int)-1)=(i:Int)-1:=by rw[IntKind.wrap_i64];have:=hs0;omega
    have hwi1:IntKind.i64.wrap ((i:Int)+1)=(i:Int)+1:=by rw[IntKind.wrap_i64];omega
    clear hrs hsit hA1 hA2
    go_upto_region 14 with(first
     |(refine An rfl 29 _ rfl P _ 29 _ rfl hPr Tryz.underlying29 rfl Rx ?_)
     |(go_at_call 162;(with_reducible refine(HZ.out _).mono ?_);rintro e w13 ⟨rfl,k13⟩))
    have hP13:=k13.heap hPr id
    have p1:=Cx hP13 1
    have p2:=Cx hP13 2
    go_upto_region 15 with(fail)
    have k14:Aa No wr (w13.alloc (.cells #[.int .i64 o.id.R,.int .i64 o.id.N,.int .i64 i] 26)):=k13.alloc _
    have hP14:=Ab hP13 (.cells #[.int .i64 o.id.R,.int .i64 o.id.N,.int .i64 i] 26)
    have hX14:=Nx w13 (.cells #[.int .i64 o.id.R,.int .i64 o.id.N,.int .i64 i] 26)
    clear p1 p2 hP13 k13
    generalize w13.alloc (.cells #[.int .i64 o.id.R,.int .i64 o.id.N,.int .i64 i] 26)=w14 at k14 hP14 hX14⊢
    obtain⟨X,eX⟩:∃X,X=w13.heap.size:=⟨_,rfl⟩
    rw[←eX]at hX14⊢
    clear eX
    have p1:=Cx hP14 1
    have p2:=Cx hP14 2
    have x0:=Cx hX14 0
    have x1:=Cx hX14 1
    have x2:=Cx hX14 2
    have HS:Hid (Calls Tryz.prog 270 #[.pointer (some ⟨b,0,none⟩),CE ⟨o.id,i⟩,.agg #[.int .i64 o.id.R,.int .i64 o.id.N,.int .i64 ((i:Int)-1),.int .i64 1,.int .i64 0]] w14 (Jo G b ⟨l',N⟩ ⟨o.id,i⟩ ⟨⟨o.id,(i:Int)-1⟩,true,0⟩ w14)):=
     Hx (TM (HY.out.no k14) ⟨o.id,i⟩ ⟨⟨o.id,(i:Int)-1⟩,true,0⟩ m HM.out (HNO.out i (Ac _)) (Ah _) (by show m.r.length≤_;rw[HMR.out];exact Ah _))
    unfold Jo at HS
    simp only at HS
    go_wp2_with(go_at_call 270;(with_reducible refine HS.out.mono ?_);rintro e w15 ⟨rfl,hY15,k15⟩)
    go_roundg (sz-(i+1))
    case measure=>omega
    case rel=>
     have k16:Aa G w12 w15:=(kr.no k14).step k15 fun y hy _=>hy.1
     have hz14:w12.heap.size≤w14.heap.size:=(kr.no k14).size
     exact⟨i+1,_,by go_num,by omega,hlti,Ac _,hY15.mono fun g hg _=>HG2.out w14 (by omega) g hg,Hx HRE.out,⟨_,HA1.out,rfl⟩,HA2.out,k16⟩
   ·obtain rfl:i=sz:=by omega
    have hltI:¬(i:Int)<(i:Int):=by omega
    have hNN:N=Nf:=by
     have:=HREST.out
     rw[Nat.sub_self]at this
     exact this
    have HNN:=Hx hNN
    clear hNN
    go_wp2_with(first
     |(refine An rfl 29 _ rfl P _ 29 _ rfl hPr Tryz.underlying29 rfl Rx ?_)
     |(go_at_call 162;(with_reducible refine(HZ.out _).mono ?_);rintro e w13 ⟨rfl,k13⟩))
    go_ret
    have hYf:=(HY.out.no k13).mono fun g hg _=>HG3.out g hg
    rw[HNN.out,←HINS.out]at hYf
    exact⟨rfl,hYf,(kw12.step kr fun y hy hl=>HG4.out y hy hl).no k13⟩
end Go.Proofs.YthfjefcljeamgaaGreatDoor
