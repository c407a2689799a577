/- A text that many write at once: Delete, Runs, an op's characters as a run. -/
import Derived.Test.YthfjefcljeamgaaGreatDoorYtF
import Derived.Test.YthfjefcljeamgaaGreatDoorRunK
import Derived.Test.YthfjefcljeamgaaGreatDoorOpE
namespace Go.Proofs.YthfjefcljeamgaaGreatDoor
set_option maxRecDepth 100000
set_option maxHeartbeats 4000000
open Go.RowKit
attribute [local go_sem ↓] Go.wp_at_zero Go.wp_at_succ
theorem RS{F:Nat→Prop}{b:Nat}{t:Dc.YT}{w:World}(h:Dx F b t w)(hs3:t.row.length≤1000000):
  Calls Tryz.prog 80 #[.pointer (some ⟨b,0,none⟩)] w (RL t.row w):=by
 obtain⟨lab,br,bn,nv,h1,h2,h3,h4,h5,h6⟩:=h
 have HR:=Hx (Qu h4 hs3)
 have b0:=Cx h2 0
 clear h1 h2 h3 h4 h5 h6
 go_enter Tryz.func80,Tryz.ntmps80
 go_wp2_with(go_at_call 121;refine HR.out.mono ?_;rintro e w2 ⟨v,rfl,h1,h2,h3⟩;have H1:=Hx h1;obtain⟨ao,n,c,rfl⟩:=h1.slice)
 go_ret
 exact⟨_,rfl,H1.out,h2,h3⟩
/-- the row of a text is another one -/
theorem Dx.turnRow{F:Nat→Prop}{lab:Nat→Option Is}{b br bn:Nat}{nv:Dc.Chr→Option Nat}{t:Dc.YT}{l:Dc.Row}{w w':World}
  (hl1:∀k,lab k≠none→F k∧k<w.heap.size)(hl2:w.heap[b]? =some (.cells #[.pointer (some ⟨br,0,none⟩),.map (some bn)] 226 (0,0)))(hl3:lab b=some .self)(hl5:lab bn=some .nmap)(hl6:ET lab bn nv t.nodes w)
  (hr:Ec (Bv (fun k=>lab k=some .row) w) br l w')(kk:Aa (fun k=>lab k=some .row) w w'):Dx (Bv F w) b ⟨l,t.nodes⟩ w':=by
 have hn:∀g,w.heap.size≤g→lab g=none:=fun g hg=>by
  cases h:lab g with
  |none=>rfl
  |some x=>exact absurd (hl1 g (by rw[h];simp)).2 (by omega)
 have hlab:∀y,lab y≠none→(if w.heap.size≤y∧y<w'.heap.size then some Is.row else lab y)=lab y:=fun y hy=>by
  have:=(hl1 y hy).2
  rw[Ae (by omega)]
 refine⟨fun k=>if w.heap.size≤k∧k<w'.heap.size then some .row else lab k,br,bn,nv,fun k hk=>?_,kk.heap hl2 (by rw[hl3];simp),?_,?_,?_,hl6.1.keeps kk (by rw[hl5];simp),hl6.2.1,fun c k n h1 h2=>?_⟩
 ·simp only at hk
  by_cases e:w.heap.size≤k∧k<w'.heap.size
  ·exact⟨.inr e.1,e.2⟩
  ·rw[Ae e]at hk
   exact⟨.inl (hl1 k hk).1,AK (hl1 k hk).2 kk.size⟩
 ·exact(hlab b (by rw[hl3];simp)).trans hl3
 ·refine hr.low.mono fun g hg=>?_
  show(if w.heap.size≤g∧g<w'.heap.size then some Is.row else lab g)=_
  rcases hg.1 with h|h
  ·rw[hlab g (by rw[h];simp)];exact h
  ·rw[Ak ⟨h,hg.2⟩]
 ·exact(hlab bn (by rw[hl5];simp)).trans hl5
 ·refine((hl6.2.2 c k n h1 h2).keepsL kk ?_).lab hlab
  rintro g (hg|⟨s,hg⟩) h<;>rw[hg]at h<;>cases h
def WG(F:Nat→Prop)(b:Nat)(t:Dc.YT)(w:World)(e:Ending)(w':World):Prop:=
 ∃n:Nat,e= .returned (.int .i64 n)∧Dx (Bv F w) b t w'∧Aa (fun g=>F g∧g<w.heap.size) w w'
theorem OU{F:Nat→Prop}{b:Nat}{t:Dc.YT}{w:World}(h:Dx F b t w)(hs:ES t.row)(c:Dc.Cut):
  Calls Tryz.prog 221 #[.pointer (some ⟨b,0,none⟩),Wu c] w (WG F b (Dc.PR t c) w):=by
 obtain⟨lab,br,bn,nv,h1,h2,h3,h4,h5,h6⟩:=h
 have HT:=Hx (fun l w'=>Dx.turnRow (l:=l) (w':=w') h1 h2 h3 h5 h6)
 have hw:=(h1 b (by rw[h3];simp)).2
 have HL:=Hx h1
 have HB:=Hx h2
 have HR:=Hx h4
 have hb:¬lab b=some .row:=by rw[h3];simp
 clear h1 h2 h3 h4 h5 h6
 obtain⟨⟨cR,cN⟩,cf,ct⟩:=c
 go_enter Tryz.func221,Tryz.ntmps221
 go_upto_region 1 with(fail)
 have k0:Aa No w (w.alloc (.cells #[.int .i64 cR,.int .i64 cN,.int .i64 cf,.int .i64 ct] 64)):=(Aa.refl No w).alloc _
 have hA:=Nx w (.cells #[.int .i64 cR,.int .i64 cN,.int .i64 cf,.int .i64 ct] 64)
 generalize w.alloc (.cells #[.int .i64 cR,.int .i64 cN,.int .i64 cf,.int .i64 ct] 64)=w1 at k0 hA⊢
 obtain⟨A,eA⟩:∃A,A=w.heap.size:=⟨_,rfl⟩
 rw[←eA]at hA⊢
 have hAn:¬lab A=some .row:=fun e=>by have:=(HL.out A (by rw[e];simp)).2;omega
 clear eA
 have hb1:=k0.heap HB.out id
 have kd:Aa No w1 w1.drew:=(Aa.refl No w1).drew
 have HC:=Hx (Sv (HR.out.no (k0.trans kd)) hs ⟨⟨cR,cN⟩,cf,ct⟩)
 have HSA:Hid (∀W:World,W.heap[b]? =some (.cells #[.pointer (some ⟨br,0,none⟩),.map (some bn)] 226 (0,0))→W.heap[A]? =some (.cells #[.int .i64 cR,.int .i64 cN,.int .i64 cf,.int .i64 ct] 64 (0,0))→
   W.cell? ⟨b,0,none⟩=some (.pointer (some ⟨br,0,none⟩))∧W.cell? ⟨A,0,none⟩=some (.int .i64 cR)∧W.cell? ⟨A,1,none⟩=some (.int .i64 cN)∧W.cell? ⟨A,2,none⟩=some (.int .i64 cf)∧W.cell? ⟨A,3,none⟩=some (.int .i64 ct)):=Hx fun W e0 e1=>
  ⟨Cx e0 0,Cx e1 0,Cx e1 1,Cx e1 2,Cx e1 3⟩
 have HS0:=HSA.out _ (kd.heap hb1 id) (kd.heap hA id)
 have HB1:=Hx (kd.heap hb1 id)
 have HA1:=Hx (kd.heap hA id)
 have HK:=Hx (k0.trans kd)
 clear hA hb1 hs hw kd k0
 go_region_held3(fun W=>W.cell? ⟨b,0,none⟩=some (.pointer (some ⟨br,0,none⟩))∧W.cell? ⟨A,0,none⟩=some (.int .i64 cR)∧W.cell? ⟨A,1,none⟩=some (.int .i64 cN)∧W.cell? ⟨A,2,none⟩=some (.int .i64 cf)∧W.cell? ⟨A,3,none⟩=some (.int .i64 ct))
  (first|exact HS0|exact HS1)
  (first
   |(go_at_call 271;(with_reducible refine HC.out.mono ?_);rintro e w2 ⟨n,rfl,hr2,k2⟩;have HS1:=HSA.out _ (k2.heap HB1.out hb) (k2.heap HA1.out hAn)))
 all_goals
  go_wp2_with fail
  go_ret
  have k3:Aa (fun k=>lab k=some .row) w w2:=(HK.out.any).trans k2
  refine⟨n,rfl,HT.out _ _ (hr2.mono fun g hg=>?_) k3,k3.mono fun y hy hl=>HL.out y (by rw[hy];simp)⟩
  rcases hg with hg|hg
  ·exact .inl hg
  ·exact .inr (by have:=HK.out.size;omega)
@[reducible] def GV:Array Value:= #[.int .i64 0,.int .i64 0,.int .i64 0,.int .i64 0,.int .i64 0,.int .i64 0,.int .i64 0,.int .i64 0,.int .i64 0,.int .i64 0,.bool false,.bool false,.string ⟨#[]⟩]
theorem VB(o:Dc.Op)(cv:Value)(w:World)(hsz:o.text.length≤1000000000):
  Calls Tryz.prog 269 #[opV o cv] w fun e w'=>e= .returned (JE (Dc.B0 o))∧Aa No w w':=by
 by_cases h5:o.kind=5
 ·have HE:Hid (Dc.B0 o=⟨o.id,0,false,true,[0]⟩):=Hx (by unfold Dc.B0;rw[Ak h5])
  generalize Dc.B0 o=it at HE⊢
  have hk5:(o.kind==5)=true:=by simp[h5]
  clear h5
  have hlen:IntKind.i64.wrap (o.text.length:Int)=(o.text.length:Int):=by rw[IntKind.wrap_i64];omega
  go_enter Tryz.func269,Tryz.ntmps269
  go_upto_region 1 with(fail)
  have k0:Aa No w ((w.alloc (.cells (As o cv) 29)).alloc (.cells GV 127)):=((Aa.refl No w).alloc _).alloc _
  have hA:=Ab (Nx w (.cells (As o cv) 29)) (.cells GV 127)
  have hB:=Nx (w.alloc (.cells (As o cv) 29)) (.cells GV 127)
  rw[World.size_alloc]at hB
  generalize (w.alloc (.cells (As o cv) 29)).alloc (.cells GV 127)=w1 at k0 hA hB⊢
  obtain⟨A,eA⟩:∃A,A=w.heap.size:=⟨_,rfl⟩
  obtain⟨B,eB⟩:∃B,B=w.heap.size+1:=⟨_,rfl⟩
  rw[←eA]at hA
  rw[←eB]at hB
  rw[←eB,←eA]
  have hBw:w.heap.size≤B:=by omega
  clear eA eB
  have a0:=Cx hA 0
  have a1:=Cx hA 1
  have a2:=Cx hA 2
  have a17:=Cx hA 17
  go_wp2_with(refine Bd rfl 127 _ _ rfl B _ _ 127 rfl rfl hB (by rfl) Rx (by rfl) ?_;intro w4 hb4 k4 hz4;clear hz4)
  refine bodyPost_ret (CX rfl rfl hb4 Tryz.underlying127 rfl Rx) rfl ⟨?_,k0.step k4 fun y hy hl=>by unfold At1 at hy;omega⟩
  rw[HE.out]
  rfl
 ·have HE:Hid (Dc.B0 o=⟨o.id,0,false,false,o.text⟩):=Hx (by unfold Dc.B0;rw[Ae h5])
  generalize Dc.B0 o=it at HE⊢
  have hk5:(o.kind==5)=false:=by simp[h5]
  clear h5
  have hlen:IntKind.i64.wrap (o.text.length:Int)=(o.text.length:Int):=by rw[IntKind.wrap_i64];omega
  go_enter Tryz.func269,Tryz.ntmps269
  go_upto_region 1 with(fail)
  have k0:Aa No w ((w.alloc (.cells (As o cv) 29)).alloc (.cells GV 127)):=((Aa.refl No w).alloc _).alloc _
  have hA:=Ab (Nx w (.cells (As o cv) 29)) (.cells GV 127)
  have hB:=Nx (w.alloc (.cells (As o cv) 29)) (.cells GV 127)
  rw[World.size_alloc]at hB
  generalize (w.alloc (.cells (As o cv) 29)).alloc (.cells GV 127)=w1 at k0 hA hB⊢
  obtain⟨A,eA⟩:∃A,A=w.heap.size:=⟨_,rfl⟩
  obtain⟨B,eB⟩:∃B,B=w.heap.size+1:=⟨_,rfl⟩
  rw[←eA]at hA
  rw[←eB]at hB
  rw[←eB,←eA]
  have hBw:w.heap.size≤B:=by omega
  clear eA eB
  have a0:=Cx hA 0
  have a1:=Cx hA 1
  have a2:=Cx hA 2
  have a17:=Cx hA 17
  go_wp2_with(refine Bd rfl 127 _ _ rfl B _ _ 127 rfl rfl hB (by rfl) Rx (by rfl) ?_;intro w4 hb4 k4 hz4;clear hz4)
  refine bodyPost_ret (CX rfl rfl hb4 Tryz.underlying127 rfl Rx) rfl ⟨?_,k0.step k4 fun y hy hl=>by unfold At1 at hy;omega⟩
  rw[HE.out]
  rfl
end Go.Proofs.YthfjefcljeamgaaGreatDoor
