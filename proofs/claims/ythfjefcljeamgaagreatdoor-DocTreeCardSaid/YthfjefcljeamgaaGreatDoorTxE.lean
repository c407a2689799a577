/- joined: The texts of blocks: characters are gone. The texts of blocks: an op of a text is done; the text of a block. -/
import Derived.Test.YthfjefcljeamgaaGreatDoorTxC
namespace Go.Proofs.YthfjefcljeamgaaGreatDoor
set_option maxRecDepth 100000
set_option maxHeartbeats 4000000
section
open Go.RowKit
attribute [local go_sem ↓] Go.wp_at_zero Go.wp_at_succ
def Ia(F:Nat→Prop)(b:Nat)(x:Dc.TX)(l:List Dc.Cut)(w:World)(e:Ending)(w':World):Prop:=
 e= .returned (.int .i64 (Dc.FK x l))∧(Dc.FK x l≠0→Aa No w w')∧(Dc.FK x l=0→Bg (Bv F w) b (Dc.delX x l) w'∧Aa (fun g=>F g∧g<w.heap.size) w w')
theorem Ro{x:Dc.TX}{l:List Dc.Cut}{k:Nat}(hk:k<l.length):Dc.FK x (l.drop k)=match x.made (l[k]'hk).op with
  |none=>13
  |some s=>if s.size<(l[k]'hk).to then 11 else Dc.FK x (l.drop (k+1)):=by
 rw[Ci hk]
 rfl
theorem UK{x:Dc.TX}{l:List Dc.Cut}{k:Nat}(hk:k<l.length):Dc.delX x (l.take (k+1))=Dc.del1 (Dc.delX x (l.take k)) (l[k]'hk):=by
 unfold Dc.delX
 rw[AW,Aj hk,Dy]
 rfl
theorem UL(x:Dc.TX)(c:Dc.Cut):(Dc.del1 x c).made=x.made:=by
 unfold Dc.del1
 split
 ·rfl
 ·split<;>rfl
theorem OI:∀(l:List Dc.Cut) (x:Dc.TX),(Dc.delX x l).made=x.made
 |[],_=>rfl
 |c::l,x=>by
  show(Dc.delX (Dc.del1 x c) l).made=_
  rw[OI l,UL]
theorem OY{F:Nat→Prop}{b:Nat}{x:Dc.TX}{w:World}(h:Bg F b x w){n:Nat}(hx:Dc.DT x n)(hn:n≤15000)(o:Dc.Op)(cv:Value)(hcv:BI 4 AD cv o.cuts w)(hcF:o.cuts≠ []→∀g,cv.ownBlock=some g→¬F g)(hcz:o.cuts.length≤1000000):
  Calls Tryz.prog 164 #[.pointer (some ⟨b,0,none⟩),opV o cv] w (Ia F b x o.cuts w):=by
 have HCV:=Hx hcv
 have HX:=Hx h
 obtain⟨bt,bm,h2,h9,_,_,_⟩:=h.turnMade
 have HLM:=Hx (fun W (k:Aa No w W) R N=>IX (h9.keeps k id) R N true)
 have HB:=Hx h2
 obtain⟨ao,cp,rfl⟩:∃ao cp,cv= .slice ao o.cuts.length cp:=by
  obtain⟨_,ao,c,e,_⟩:=hcv
  exact⟨ao,c,e⟩
 have hll:o.cuts.length≤9223372036854775807:=by omega
 clear h h2 h9 hcv
 go_enter Tryz.func164,Tryz.ntmps164
 go_upto_region 1 with(fail)
 have k0:Aa No w (w.alloc (.cells (As o (.slice ao o.cuts.length cp)) 29)):=(Aa.refl No w).alloc _
 have hP:=Nx w (.cells (As o (.slice ao o.cuts.length cp)) 29)
 generalize w.alloc (.cells (As o (.slice ao o.cuts.length cp)) 29)=w1 at k0 hP⊢
 obtain⟨P,eP⟩:∃P,P=w.heap.size:=⟨_,rfl⟩
 rw[←eP]at hP⊢
 have hPw:w.heap.size≤P:=by omega
 clear eP
 have p18:=Cx hP 18
 go_wp2_with fail
 clear p18
 go_loopg [14] o.cuts.length (fun kx s14 wr=>∃k:Nat,s14= .int .i64 k∧k≤o.cuts.length∧o.cuts.length-k≤kx∧Hid (Dc.FK x (o.cuts.drop k)=Dc.FK x o.cuts)∧Aa No w1 wr)
 case atStart=>exact⟨0,rfl,Ah _,Ac _,Hx rfl,Aa.refl _ _⟩
 case round=>
  obtain⟨k,rfl,hk,hkx,hde,kr⟩:=hrel
  by_cases hlt:k<o.cuts.length
  ·have hlies:=HCV.out.no (k0.trans kr)
   obtain⟨_,ao',c',e1,_,_,hcell⟩:=hlies
   obtain⟨g,of,rfl,hgl,hce⟩:=hcell (by intro e;rw[e]at hlt;simp at hlt)
   simp only[Value.slice.injEq,DW]at e1
   obtain⟨rfl,rfl⟩:=e1
   have x0:wr.cell? ⟨g,of+k*4,none⟩=some (.int .i64 (o.cuts[k]'hlt).op.R):=hce k hlt 0 (by decide)
   have x1:wr.cell? ⟨g,of+k*4+1,none⟩=some (.int .i64 (o.cuts[k]'hlt).op.N):=hce k hlt 1 (by decide)
   have x2:wr.cell? ⟨g,of+k*4+2,none⟩=some (.int .i64 (o.cuts[k]'hlt).fr):=hce k hlt 2 (by decide)
   have x3:wr.cell? ⟨g,of+k*4+3,none⟩=some (.int .i64 (o.cuts[k]'hlt).to):=hce k hlt 3 (by decide)
   have hdd:=Ro (x:=x) hlt
   have HDD:=Hx (hde.out.symm.trans hdd)
   obtain⟨y,hy⟩:∃y,y=o.cuts[k]'hlt:=⟨_,rfl⟩
   rw[←hy]at x0 x1 x2 x3 HDD
   have kI0:(0:Int)≤(k:Int):=by omega
   have kI1:(k:Int)<(o.cuts.length:Int):=by omega
   clear hy hdd hde hce hcell
   go_upto_region 4 with(fail)
   have k2:Aa No w1 (wr.alloc (.cells #[.int .i64 y.op.R,.int .i64 y.op.N,.int .i64 y.fr,.int .i64 y.to] 64)):=kr.alloc _
   have hC:=Nx wr (.cells #[.int .i64 y.op.R,.int .i64 y.op.N,.int .i64 y.fr,.int .i64 y.to] 64)
   clear x0 x1 x2 x3
   generalize wr.alloc (.cells #[.int .i64 y.op.R,.int .i64 y.op.N,.int .i64 y.fr,.int .i64 y.to] 64)=w2 at k2 hC⊢
   obtain⟨C,eC⟩:∃C,C=wr.heap.size:=⟨_,rfl⟩
   rw[←eC]at hC⊢
   clear eC
   have kw2:=k0.trans k2
   have hb2:=kw2.heap HB.out id
   have kd:Aa No w2 w2.drew:=(Aa.refl No w2).drew
   obtain⟨ok,hok⟩:∃ok,ok=(x.made y.op).isSome:=⟨_,rfl⟩
   obtain⟨⟨⟨sR,sN⟩,ssz,mk⟩,hsrc⟩:∃src,src=(x.made y.op).getD .z:=⟨_,rfl⟩
   have HL2:=Hx (fun W (k:Aa No w W)=>HLM.out W k y.op.R y.op.N)
   have hmm:x.made ⟨y.op.R,y.op.N⟩=x.made y.op:=rfl
   simp only[if_true,hmm,←hok,←hsrc]at HL2
   have HSA:Hid (∀W:World,Aa No w2 W→W.cell? ⟨b,1,none⟩=some (.map (some bm))∧W.cell? ⟨C,0,none⟩=some (.int .i64 y.op.R)∧W.cell? ⟨C,1,none⟩=some (.int .i64 y.op.N)):=Hx fun W k=>
    ⟨Cx (k.heap hb2 id) 1,Cx (k.heap hC id) 0,Cx (k.heap hC id) 1⟩
   have lk:=HL2.out _ (kw2.trans kd)
   have lk2:=HL2.out _ ((kw2.alloc (.cells #[.int .i64 0,.int .i64 0,.int .i64 0,.bool false] 251)).drew)
   have HOK:=Hx hok
   have HSR:=Hx hsrc
   clear hmm hok hsrc HL2
   go_region_held3(fun W=>W.cell? ⟨b,1,none⟩=some (.map (some bm))∧W.cell? ⟨C,0,none⟩=some (.int .i64 y.op.R)∧W.cell? ⟨C,1,none⟩=some (.int .i64 y.op.N))
    (first|exact HSA.out _ Kx)
    (first|fail)
   all_goals
    have k3:Aa No w2 ((w2.alloc (.cells #[.int .i64 sR,.int .i64 sN,.int .i64 ssz,.bool mk] 251)).drew):=((Aa.refl No w2).alloc _).drew
    have hM:((w2.alloc (.cells #[.int .i64 sR,.int .i64 sN,.int .i64 ssz,.bool mk] 251)).drew).heap[w2.heap.size]? =some (.cells #[.int .i64 sR,.int .i64 sN,.int .i64 ssz,.bool mk] 251 (0,0)):=Nx w2 _
    generalize (w2.alloc (.cells #[.int .i64 sR,.int .i64 sN,.int .i64 ssz,.bool mk] 251)).drew=w3 at k3 hM⊢
    have m2:=Cx hM 2
    have c3:=Cx (k3.heap hC id) 3
    have kw3:=k2.trans k3
    clear lk lk2 hM hb2
    cases ok with
    |false=>
     have hmd:x.made y.op=none:=by
      cases h:x.made y.op with
      |none=>rfl
      |some s=>have:=HOK.out;rw[h]at this;cases this
     have he:=HDD.out
     rw[hmd]at he
     have HQ:Hid (Ia F b x o.cuts w (.returned (.int .i64 13)) w3):=Hx ⟨by rw[he],fun _=>k0.trans kw3,fun e=>by rw[he]at e;cases e⟩
     clear he hmd
     go_wp2_with fail
     go_ret
     exact HQ.out
    |true=>
     have hmd:x.made y.op=some ⟨⟨sR,sN⟩,ssz,mk⟩:=by
      obtain⟨s,h⟩:=D8.1 HOK.out.symm
      have:=HSR.out
      rw[h]at this
      rw[h,this];rfl
     have he:=HDD.out
     rw[hmd]at he
     simp only at he
     by_cases hgt:ssz<y.to
     ·rw[Ak hgt]at he
      have HQ:Hid (Ia F b x o.cuts w (.returned (.int .i64 11)) w3):=Hx ⟨by rw[he],fun _=>k0.trans kw3,fun e=>by rw[he]at e;cases e⟩
      clear he hmd
      go_wp2_with fail
      go_ret
      exact HQ.out
     ·rw[Ae hgt]at he
      have HQ:=Hx he.symm
      clear he hmd
      go_wp2_with fail
      go_roundg (o.cuts.length-(k+1))
      case measure=>omega
      case rel=>exact⟨k+1,by go_num,hlt,Ac _,Hx HQ.out,kw3⟩
  ·obtain rfl:k=o.cuts.length:=by omega
   have he0:Dc.FK x o.cuts=0:=by
    have:=hde.out
    rw[EE]at this
    exact this.symm
   have HE0:=Hx he0
   clear hde he0
   have kwr:=k0.trans kr
   have hPr:=kr.heap hP id
   have hPl:=Ao hPr
   have p18:=Cx hPr 18
   have hltI:¬(o.cuts.length:Int)<(o.cuts.length:Int):=by omega
   have hY0:Bg (fun g=>F g∧g<w.heap.size) b x wr:=(HX.out.mono fun g hg hl=>⟨hg,hl⟩).no kwr
   obtain⟨G,hG⟩:∃G,G=Bv (fun g=>F g∧g<w.heap.size) wr:=⟨_,rfl⟩
   have hY1:Bg G b x wr:=hY0.mono fun g hg _=>by rw[hG];exact .inl hg
   have HG1:Hid (¬G P):=Hx fun e=>by
    rw[hG]at e
    rcases e with e|e
    ·have:=e.2;omega
    ·omega
   have HG2:Hid (∀W:World,wr.heap.size≤W.heap.size→∀g,Bv G W g→G g):=Hx fun W hW g hg=>by
    rcases hg with hg|hg
    ·exact hg
    ·rw[hG];exact .inr (by omega)
   have hwz:=kwr.size
   have HG3:Hid (∀g,G g→Bv F w g):=Hx fun g hg=>by
    rw[hG]at hg
    rcases hg with hg|hg
    ·exact .inl hg.1
    ·exact .inr (by omega)
   have HG4:Hid (∀g,G g→g<w.heap.size→F g∧g<w.heap.size):=Hx fun g hg hl=>by
    rw[hG]at hg
    rcases hg with hg|hg
    ·exact hg
    ·omega
   obtain⟨wq,hwq⟩:∃y,y=wr:=⟨_,rfl⟩
   rw[←hwq]at hY1 HG2 hPr p18 kwr kr hPl hwz⊢
   clear hG hY0 hwq
   go_wp2_with fail
   clear p18
   go_loopg [41] o.cuts.length (fun kx s41 wv=>∃k:Nat,s41= .int .i64 k∧k≤o.cuts.length∧o.cuts.length-k≤kx∧Bg G b (Dc.delX x (o.cuts.take k)) wv∧Aa G wq wv)
   case atStart=>exact⟨0,rfl,Ah _,Ac _,hY1,Aa.refl _ _⟩
   case round=>
    obtain⟨k,rfl,hk,hkx,hYk,kv⟩:=hrel
    by_cases hlt:k<o.cuts.length
    ·obtain⟨_,ao0,c0,e0,_,_,hcell0⟩:=HCV.out
     obtain⟨g,of,rfl,hgl,_⟩:=hcell0 (by intro e;rw[e]at hlt;simp at hlt)
     simp only[Value.slice.injEq,DW]at e0
     obtain⟨rfl,rfl⟩:=e0
     have hcG:∀y,(Value.slice (some ⟨g,of,none⟩) o.cuts.length cp).ownBlock=some y→¬G y:=fun y hy e=>by
      have hyg:y=g:=by cases hy;rfl
      subst hyg
      exact hcF (fun e=>by rw[e]at hlt;simp at hlt) y hy (HG4.out y e hgl).1
     obtain⟨_,ao',c',e1,_,_,hcell⟩:=(HCV.out.no kwr).keeps kv hcG
     obtain⟨g',of',e2,hgl',hce⟩:=hcell (by intro e;rw[e]at hlt;simp at hlt)
     subst e2
     simp only[Value.slice.injEq,DW,AZ,Addr.mk.injEq,DX]at e1
     obtain⟨⟨rfl,rfl⟩,rfl⟩:=e1
     have x0:wr.cell? ⟨g,of+k*4,none⟩=some (.int .i64 (o.cuts[k]'hlt).op.R):=hce k hlt 0 (by decide)
     have x1:wr.cell? ⟨g,of+k*4+1,none⟩=some (.int .i64 (o.cuts[k]'hlt).op.N):=hce k hlt 1 (by decide)
     have x2:wr.cell? ⟨g,of+k*4+2,none⟩=some (.int .i64 (o.cuts[k]'hlt).fr):=hce k hlt 2 (by decide)
     have x3:wr.cell? ⟨g,of+k*4+3,none⟩=some (.int .i64 (o.cuts[k]'hlt).to):=hce k hlt 3 (by decide)
     have hmd:=Dc.G4 HE0.out (o.cuts[k]'hlt) (AQ hlt)
     have hstep:=UK (x:=x) hlt
     obtain⟨y,hy⟩:∃y,y=o.cuts[k]'hlt:=⟨_,rfl⟩
     rw[←hy]at x0 x1 x2 x3 hmd hstep
     have kI0:(0:Int)≤(k:Int):=by omega
     have kI1:(k:Int)<(o.cuts.length:Int):=by omega
     clear hy hce hcell hcell0
     go_upto_region 13 with(fail)
     have k2:Aa No wr (wr.alloc (.cells #[.int .i64 y.op.R,.int .i64 y.op.N,.int .i64 y.fr,.int .i64 y.to] 64)):=(Aa.refl No wr).alloc _
     have hC:=Nx wr (.cells #[.int .i64 y.op.R,.int .i64 y.op.N,.int .i64 y.fr,.int .i64 y.to] 64)
     clear x0 x1 x2 x3
     generalize wr.alloc (.cells #[.int .i64 y.op.R,.int .i64 y.op.N,.int .i64 y.fr,.int .i64 y.to] 64)=w2 at k2 hC⊢
     obtain⟨C,eC⟩:∃C,C=wr.heap.size:=⟨_,rfl⟩
     rw[←eC]at hC⊢
     have hxk:=hx.delX (l:=o.cuts.take k)
     obtain⟨xk,hxk'⟩:∃z,z=Dc.delX x (o.cuts.take k):=⟨_,rfl⟩
     rw[←hxk']at hYk hxk hstep
     have hmd':xk.made y.op≠none:=by rw[hxk',OI];exact hmd
     obtain⟨⟨⟨sR,sN⟩,ssz,mk⟩,hsrc⟩:∃s,xk.made y.op=some s:=BQ.1 hmd'
     obtain⟨t,ht⟩:=(hxk.made _ _ hsrc).1
     have hrow:=hxk.row _ t ht
     have hd1:Dc.del1 xk y=⟨Dc.EF xk.texts ⟨sR,sN⟩ (Dc.PR t y),xk.made⟩:=by unfold Dc.del1;rw[hsrc];simp only;rw[ht]
     rw[hd1]at hstep
     have HST:=Hx hstep
     obtain⟨lab,bt2,bm2,tv,h1,h2,h3,h4,h5,h6,h7,h8,h9⟩:=hYk
     obtain⟨kt,hkt⟩:∃kt,tv ⟨sR,sN⟩=some kt:=by
      have:=h6 ⟨sR,sN⟩
      rw[ht]at this
      exact D8.1 this
     have hYt:=h7 _ _ _ hkt ht
     have kd:Aa No w2 w2.drew:=(Aa.refl No w2).drew
     have k2d:=k2.trans kd
     have lk1:=IX (h9.keeps k2d id) y.op.R y.op.N false
     have hmm:xk.made ⟨y.op.R,y.op.N⟩=some ⟨⟨sR,sN⟩,ssz,mk⟩:=hsrc
     rw[hmm]at lk1
     simp only[if_false,Gm,F5]at lk1
     have lk2:=NM (h5.keeps k2d id) sR sN
     rw[hkt]at lk2
     unfold D5 at lk2
     simp only at lk2
     have hfd:∀w:World,(Instr.field 251 (.agg #[.int .i64 sR,.int .i64 sN,.int .i64 ssz,.bool mk]) 0).run Tryz.prog w= .ok (.agg #[.int .i64 sR,.int .i64 sN]) w:=fun _=>by kernel_rfl
     have HC:=Hx (OU (hYt.no k2d) ⟨hrow.1,by omega⟩ y)
     have hb2:=k2d.heap h2 id
     have hC2:=kd.heap hC id
     have HLB:Hid (¬lab b=some (.text ⟨sR,sN⟩)):=Hx (by rw[h3];simp)
     have HLC:Hid (¬lab C=some (.text ⟨sR,sN⟩)):=Hx fun e=>by have:=(h1 C (by rw[e];simp)).2;omega
     have HTURN:Hid (∀w3,Aa (fun g=>lab g=some (.text ⟨sR,sN⟩)∧g<w2.drew.heap.size) w2.drew w3→Dx (Bv (fun g=>lab g=some (.text ⟨sR,sN⟩)) w2.drew) kt (Dc.PR t y) w3→Bg G b (Dc.delX x (o.cuts.take (k+1))) w3∧Aa G wq w3):=Hx fun w3 k3 hy3=>by
      have k3':Aa (fun g=>lab g=some (.text ⟨sR,sN⟩)∨g=bt2) w2.drew w3:=k3.mono fun y hy _=> .inl hy.1
      have hT:=Bg.turn (w:=w2.drew) (fun g hg=>⟨(h1 g hg).1,AK (h1 g hg).2 k2d.size⟩) (k2d.heap h2 id) h3 h4 h6 (fun s k' t' e1 e2=>(h7 s k' t' e1 e2).no k2d) h8 (h9.keeps k2d id) k3'
       ((h5.keeps k2d id).keeps k3 (fun e=>by rw[h4]at e;cases e.1)) hkt (fun _ _=>rfl) hy3
      rw[HST.out]
      exact⟨hT.mono fun g hg _=>HG2.out w2.drew (AG kv.size k2d.size) g hg,(kv.no k2d).step k3 fun g hg _=>(h1 g (by rw[hg.1];simp)).1⟩
     have HSA:Hid (∀W:World,W.heap[b]? =some (.cells #[.map (some bt2),.map (some bm2)] 135 (0,0))→W.heap[C]? =some (.cells #[.int .i64 y.op.R,.int .i64 y.op.N,.int .i64 y.fr,.int .i64 y.to] 64 (0,0))→
       W.cell? ⟨b,0,none⟩=some (.map (some bt2))∧W.cell? ⟨b,1,none⟩=some (.map (some bm2))∧W.cell? ⟨C,0,none⟩=some (.int .i64 y.op.R)∧W.cell? ⟨C,1,none⟩=some (.int .i64 y.op.N)∧W.cell? ⟨C,2,none⟩=some (.int .i64 y.fr)∧W.cell? ⟨C,3,none⟩=some (.int .i64 y.to)):=Hx fun W e0 e1=>
      ⟨Cx e0 0,Cx e0 1,Cx e1 0,Cx e1 1,Cx e1 2,Cx e1 3⟩
     have HS0:=HSA.out _ hb2 hC2
     have HB2:=Hx hb2
     have HC2:=Hx hC2
     clear h1 h2 h3 h4 h5 h6 h7 h8 h9 hYt hmm hd1 hstep hkt ht hsrc hrow hmd hmd' hxk hxk' hb2 hC2 hC k2 k2d eC
     go_region_held3(fun W=>W.cell? ⟨b,0,none⟩=some (.map (some bt2))∧W.cell? ⟨b,1,none⟩=some (.map (some bm2))∧W.cell? ⟨C,0,none⟩=some (.int .i64 y.op.R)∧W.cell? ⟨C,1,none⟩=some (.int .i64 y.op.N)∧W.cell? ⟨C,2,none⟩=some (.int .i64 y.fr)∧W.cell? ⟨C,3,none⟩=some (.int .i64 y.to))
      (first|exact HS0|exact HS1)
      (first
       |(go_at_call 221;(with_reducible refine HC.out.mono ?_);rintro e w3 ⟨n3,rfl,hr3,k3⟩;have HS1:=HSA.out _ (k3.heap HB2.out (fun e=>HLB.out e.1)) (k3.heap HC2.out (fun e=>HLC.out e.1))))
     all_goals
      have HFIN:=Hx (HTURN.out w3 k3 hr3)
      clear k3 hr3 HC HTURN HS0 HS1 lk1 lk2
      go_wp2_with fail
      go_roundg (o.cuts.length-(k+1))
      case measure=>omega
      case rel=>exact⟨k+1,by go_num,hlt,Ac _,HFIN.out.1,HFIN.out.2⟩
    ·obtain rfl:k=o.cuts.length:=by omega
     rw[AH]at hYk
     have HQ:Hid (Ia F b x o.cuts w (.returned (.int .i64 0)) wr):=Hx ⟨by rw[HE0.out],fun e=>absurd HE0.out e,fun _=>⟨hYk.mono fun g hg _=>HG3.out g hg,kwr.any.step kv fun y hy hl=>HG4.out y hy hl⟩⟩
     clear hYk
     go_wp2_with fail
     go_ret
     exact HQ.out
end
section
open Go.RowKit
attribute [local go_sem ↓] Go.wp_at_zero Go.wp_at_succ
def Ku(x:Dc.TX)(a:Off.Bid)(w:World)(e:Ending)(w':World):Prop:=
 e= .returned (.tuple #[idV ((Dc.Gs x a).getD .z),.bool (Dc.Gs x a).isSome])∧Aa No w w'
theorem Ug{F:Nat→Prop}{b:Nat}{x:Dc.TX}{w:World}(h:Bg F b x w)(a:Off.Bid):
  Calls Tryz.prog 96 #[.pointer (some ⟨b,0,none⟩),idV a] w (Ku x a w):=by
 obtain⟨R,N⟩:=a
 obtain⟨lab,bt,bm,tv,h1,h2,h3,h4,h5,h6,h7,h8,h9⟩:=h
 have HLT:=Hx (fun W (k:Aa No w W)=>FB (h5.keeps k id) R N)
 have HLM:=Hx (fun W (k:Aa No w W)=>IX (h9.keeps k id) R N false)
 have HB:=Hx h2
 have e1:(tv ⟨R,N⟩).isSome=(x.texts ⟨R,N⟩).isSome:=h6 _
 rw[e1]at HLT
 simp only[if_false,Gm]at HLM
 obtain⟨p,hp⟩:∃p,p=D5 (tv ⟨R,N⟩):=⟨_,rfl⟩
 obtain⟨ok,hok⟩:∃ok,ok=(x.texts ⟨R,N⟩).isSome:=⟨_,rfl⟩
 rw[←hp,←hok]at HLT
 obtain⟨⟨⟨sR,sN⟩,ssz,mk⟩,hsrc⟩:∃src,src=(x.made ⟨R,N⟩).getD .z:=⟨_,rfl⟩
 rw[←hsrc]at HLM
 have hseg:Dc.Gs x ⟨R,N⟩=if ok=true then some ⟨R,N⟩else if mk=true then some ⟨sR,sN⟩else none:=by unfold Dc.Gs;rw[←hok,←hsrc]
 have HP:Hid (∀w',Aa No w w'→Ku x ⟨R,N⟩ w (.returned (.tuple #[idV ((if ok=true then some ⟨R,N⟩else if mk=true then some ⟨sR,sN⟩else none:Option Off.Bid).getD .z),.bool (if ok=true then some (⟨R,N⟩:Off.Bid)else if mk=true then some ⟨sR,sN⟩else none).isSome])) w'):=Hx fun w' k=>by
  unfold Ku;rw[hseg];exact⟨rfl,k⟩
 generalize Ku x ⟨R,N⟩ w=post at HP⊢
 clear h1 h2 h3 h4 h5 h6 h7 h8 h9 hp e1 hok hsrc hseg
 go_enter Tryz.func96,Tryz.ntmps96
 go_upto_region 1 with(fail)
 have k0:Aa No w ((w.alloc (.cells #[.int .i64 R,.int .i64 N] 24)).alloc (.cells #[.int .i64 0,.int .i64 0] 24)):=Kx
 have hA:=Ab (Nx w (.cells #[.int .i64 R,.int .i64 N] 24)) (.cells #[.int .i64 0,.int .i64 0] 24)
 have hR:=Nx (w.alloc (.cells #[.int .i64 R,.int .i64 N] 24)) (.cells #[.int .i64 0,.int .i64 0] 24)
 rw[World.size_alloc]at hR
 generalize (w.alloc (.cells #[.int .i64 R,.int .i64 N] 24)).alloc (.cells #[.int .i64 0,.int .i64 0] 24)=w1 at k0 hA hR⊢
 obtain⟨A,eA⟩:∃A,A=w.heap.size:=⟨_,rfl⟩
 obtain⟨B,eB⟩:∃B,B=w.heap.size+1:=⟨_,rfl⟩
 rw[←eA]at hA
 rw[←eB]at hR
 rw[←eB,←eA]
 have hBw:w.heap.size≤B:=by omega
 have hAB:A≠B:=by omega
 clear eA eB
 have z1:=Ex (Cx (k0.heap HB.out id) 0)
 have z2:=Ex (Cx hA 0)
 have z3:=Ex (Cx hA 1)
 have lk:=fun d os=>HLT.out _ (k0.trans (Ag w1 d os))
 refine wp_region_quiet_below Rx Rx ?_
 repeat(quiet_step(fail))
 refine wpQuiet_nil ?_
 intro _ hw'
 obtain⟨⟨dq,osq⟩,hw''⟩:=hw'
 subst hw''
 have k2:Aa No w1 (Sort.grow (redrawn w1 dq) osq):=Ag w1 dq osq
 clear z1 z2 z3 lk
 generalize Sort.grow (redrawn w1 dq) osq=w2 at k2⊢
 have kw2:=k0.trans k2
 have hA2:=k2.heap hA id
 have hR2:=k2.heap hR id
 clear hA hR
 cases ok with
 |true=>
  have x0:=Cx hA2 0
  have x1:=Cx hA2 1
  have q0:=Cx hR2 0
  have q1:=Cx hR2 1
  have u:=Fx hR2
  have hf:=heap_set (heap_set hR2 0 (.int .i64 R)) 1 (.int .i64 N)
  have kf:Aa No w ((w2.setCell ⟨B,0,none⟩ (.int .i64 R)).setCell ⟨B,1,none⟩ (.int .i64 N)):=(kw2.setNew hBw _).setNew hBw _
  go_wp2_with fail
  generalize (w2.setCell ⟨B,0,none⟩ (.int .i64 R)).setCell ⟨B,1,none⟩ (.int .i64 N)=wf at hf kf⊢
  refine bodyPost_ret (EC Tryz.results96 rfl hf Tryz.underlying24 rfl Rx) rfl (HP.out _ kf)
 |false=>
  go_upto_region 4 with(fail)
  have hb2:=kw2.heap HB.out id
  have kd:Aa No w2 w2.drew:=(Aa.refl No w2).drew
  have HSA:Hid (∀W:World,Aa No w2 W→W.cell? ⟨b,1,none⟩=some (.map (some bm))∧W.cell? ⟨A,0,none⟩=some (.int .i64 R)∧W.cell? ⟨A,1,none⟩=some (.int .i64 N)):=Hx fun W k=>
   ⟨Cx (k.heap hb2 id) 1,Cx (k.heap hA2 id) 0,Cx (k.heap hA2 id) 1⟩
  have lk:=HLM.out _ (kw2.trans kd)
  have lk2:=HLM.out _ ((kw2.alloc (.cells #[.int .i64 0,.int .i64 0,.int .i64 0,.bool false] 251)).drew)
  go_region_held3(fun W=>W.cell? ⟨b,1,none⟩=some (.map (some bm))∧W.cell? ⟨A,0,none⟩=some (.int .i64 R)∧W.cell? ⟨A,1,none⟩=some (.int .i64 N))
   (first|exact HSA.out _ Kx)
   (first|fail)
  all_goals
   have k3:Aa No w2 ((w2.alloc (.cells #[.int .i64 sR,.int .i64 sN,.int .i64 ssz,.bool mk] 251)).drew):=((Aa.refl No w2).alloc _).drew
   have hM:((w2.alloc (.cells #[.int .i64 sR,.int .i64 sN,.int .i64 ssz,.bool mk] 251)).drew).heap[w2.heap.size]? =some (.cells #[.int .i64 sR,.int .i64 sN,.int .i64 ssz,.bool mk] 251 (0,0)):=Nx w2 _
   generalize (w2.alloc (.cells #[.int .i64 sR,.int .i64 sN,.int .i64 ssz,.bool mk] 251)).drew=w3 at k3 hM⊢
   obtain⟨M,eM⟩:∃M,M=w2.heap.size:=⟨_,rfl⟩
   rw[←eM]at hM⊢
   have hR3:=k3.heap hR2 id
   have kw3:=kw2.trans k3
   have hMB:M≠B:=by have:=Ao hR2;omega
   have m0:=Cx hM 0
   have m1:=Cx hM 1
   have m2:=Cx hM 2
   have m3:=Cx hM 3
   have q0:=Cx hR3 0
   have q1:=Cx hR3 1
   have u:=Fx hR3
   clear lk lk2 hM hb2 eM HSA HLM HLT
   cases mk with
   |true=>
    have hf:=heap_set (heap_set hR3 0 (.int .i64 sR)) 1 (.int .i64 sN)
    have kf:Aa No w ((w3.setCell ⟨B,0,none⟩ (.int .i64 sR)).setCell ⟨B,1,none⟩ (.int .i64 sN)):=(kw3.setNew hBw _).setNew hBw _
    go_wp2_with fail
    generalize (w3.setCell ⟨B,0,none⟩ (.int .i64 sR)).setCell ⟨B,1,none⟩ (.int .i64 sN)=wf at hf kf⊢
    refine bodyPost_ret (EC Tryz.results96 rfl hf Tryz.underlying24 rfl Rx) rfl (HP.out _ kf)
   |false=>
    have hf:=heap_set (heap_set hR3 0 (.int .i64 0)) 1 (.int .i64 0)
    have kf:Aa No w ((w3.setCell ⟨B,0,none⟩ (.int .i64 0)).setCell ⟨B,1,none⟩ (.int .i64 0)):=(kw3.setNew hBw _).setNew hBw _
    go_wp2_with fail
    generalize (w3.setCell ⟨B,0,none⟩ (.int .i64 0)).setCell ⟨B,1,none⟩ (.int .i64 0)=wf at hf kf⊢
    refine bodyPost_ret (EC Tryz.results96 rfl hf Tryz.underlying24 rfl Rx) rfl (HP.out _ kf)
end
end Go.Proofs.YthfjefcljeamgaaGreatDoor
