/- The texts of blocks: a text's runs with their owners. -/
import Derived.Test.YthfjefcljeamgaaGreatDoorTxE
namespace Go.Proofs.YthfjefcljeamgaaGreatDoor
set_option maxRecDepth 100000
set_option maxHeartbeats 4000000
open Go.RowKit
attribute [local go_sem ↓] Go.wp_at_zero Go.wp_at_succ
def EX(p:Dc.DK):List Value:=[.int .i64 p.run.op.R,.int .i64 p.run.op.N,.int .i64 p.run.fr,.int .i64 p.run.len,.int .i64 0,.int .i64 0,.int .i64 0,.int .i64 0,.int .i64 0,.int .i64 0,.bool p.run.gone,.bool p.run.mark,.string ⟨p.run.text.toArray⟩,.int .i64 p.owner.R,.int .i64 p.owner.N]
@[reducible] def SJ(p:Dc.DK):Value:= .agg #[.int .i64 p.run.op.R,.int .i64 p.run.op.N,.int .i64 p.run.fr,.int .i64 p.run.len,.int .i64 0,.int .i64 0,.int .i64 0,.int .i64 0,.int .i64 0,.int .i64 0,.bool p.run.gone,.bool p.run.mark,.string ⟨p.run.text.toArray⟩,.int .i64 p.owner.R,.int .i64 p.owner.N]
theorem Oo(p:Dc.DK)(w:World):
  Calls Tryz.prog 120 #[SJ p] w fun e w'=>e= .returned (.bool p.run.opens)∧Aa No w w':=by
 obtain⟨⟨⟨oR,oN⟩,fr,gone,mark,txt⟩,⟨wR,wN⟩⟩:=p
 have HP:Hid (Dc.Run.opens ⟨⟨oR,oN⟩,fr,gone,mark,txt⟩=(mark&& !gone)):=Hx rfl
 generalize Dc.Run.opens ⟨⟨oR,oN⟩,fr,gone,mark,txt⟩=r at HP⊢
 have HR:=HP
 clear HP
 cases gone<;>cases mark
 all_goals
  go_enter Tryz.func120,Tryz.ntmps120
  go_wp2_with fail
  go_ret
  exact⟨by rw[HR.out];rfl,Kx⟩
theorem L9(p:Dc.DK)(w:World):
  Calls Tryz.prog 79 #[SJ p] w fun e w'=>e= .returned (.bool p.run.shows)∧Aa No w w':=by
 obtain⟨⟨⟨oR,oN⟩,fr,gone,mark,txt⟩,⟨wR,wN⟩⟩:=p
 have HP:Hid (Dc.Run.shows ⟨⟨oR,oN⟩,fr,gone,mark,txt⟩=(!mark&& !gone)):=Hx rfl
 generalize Dc.Run.shows ⟨⟨oR,oN⟩,fr,gone,mark,txt⟩=r at HP⊢
 have HR:=HP
 clear HP
 cases gone<;>cases mark
 all_goals
  go_enter Tryz.func79,Tryz.ntmps79
  go_wp2_with fail
  go_ret
  exact⟨by rw[HR.out];rfl,Kx⟩
theorem UA:(Tryz.prog.info? 129).map (fun i=>(i.zero,i.size,i.bytes))=some (some (.agg #[.int .i64 0,.int .i64 0,.int .i64 0,.int .i64 0,.int .i64 0,.int .i64 0,.int .i64 0,.int .i64 0,.int .i64 0,.int .i64 0,.bool false,.bool false,.string ⟨#[]⟩,.int .i64 0,.int .i64 0]),15,120):=by kernel_rfl
theorem QD:I9 123 129 15 EX:=GY UA Tryz.underlying123 (by decide) rfl (by decide) (fun _=>rfl) (fun _=>rfl)
def G1(o:Off.Bid)(l:Dc.Row)(k:Nat):Off.Bid:=(l.take k).foldl (fun o r=>if r.opens then r.op else o) o
theorem SS(o:Off.Bid)(l:Dc.Row):G1 o l 0=o:=by unfold G1;simp
theorem SU{o:Off.Bid}{l:Dc.Row}{k:Nat}(hk:k<l.length):G1 o l (k+1)=if(l[k]'hk).opens then(l[k]'hk).op else G1 o l k:=by
 unfold G1
 rw[AW,Aj hk,Dy]
 rfl
theorem Ft:∀(o:Off.Bid) (l:Dc.Row),(Dc.Em o l).length=l.length
 |_,[]=>rfl
 |o,r::l=>by unfold Dc.Em;simp[Ft _ l]
theorem JU:∀(o:Off.Bid) (l:Dc.Row) (k:Nat) (hk:k<l.length),(Dc.Em o l).take (k+1)=(Dc.Em o l).take k++[⟨l[k]'hk,G1 o l (k+1)⟩]
 |o,r::l,0,hk=>by unfold Dc.Em G1;simp
 |o,r::l,k+1,hk=>by
  unfold Dc.Em
  simp only[Ix,au]
  rw[JU _ l k (by simpa using hk)]
  have e:G1 o (r::l) (k+1+1)=G1 (if r.opens=true then r.op else o) l (k+1):=by unfold G1;simp
  rw[e]
  simp
theorem Aq.itemO{l:List Dc.Run}{w:World}{g n cap:Nat}(h:Aq 127 13 Af (.slice (some ⟨g,0,none⟩) n cap) l w){k:Nat}(hk:k<l.length):
  w.cell? ⟨g,k*13,none⟩=some (.int .i64 (l[k]'hk).op.R)∧w.cell? ⟨g,k*13+1,none⟩=some (.int .i64 (l[k]'hk).op.N)∧w.cell? ⟨g,k*13+2,none⟩=some (.int .i64 (l[k]'hk).fr)∧w.cell? ⟨g,k*13+3,none⟩=some (.int .i64 (l[k]'hk).len)∧w.cell? ⟨g,k*13+4,none⟩=some (.int .i64 0)∧w.cell? ⟨g,k*13+5,none⟩=some (.int .i64 0)∧w.cell? ⟨g,k*13+6,none⟩=some (.int .i64 0)∧w.cell? ⟨g,k*13+7,none⟩=some (.int .i64 0)∧w.cell? ⟨g,k*13+8,none⟩=some (.int .i64 0)∧w.cell? ⟨g,k*13+9,none⟩=some (.int .i64 0)∧w.cell? ⟨g,k*13+10,none⟩=some (.bool (l[k]'hk).gone)∧w.cell? ⟨g,k*13+11,none⟩=some (.bool (l[k]'hk).mark)∧w.cell? ⟨g,k*13+12,none⟩=some (.string ⟨(l[k]'hk).text.toArray⟩):=by
 have hc:=fun r (hr:r<13)=>h.cell (fun _=>rfl) hk hr
 exact⟨hc 0 (by decide),hc 1 (by decide),hc 2 (by decide),hc 3 (by decide),hc 4 (by decide),hc 5 (by decide),hc 6 (by decide),hc 7 (by decide),hc 8 (by decide),hc 9 (by decide),hc 10 (by decide),hc 11 (by decide),hc 12 (by decide)⟩
def Iu(l:List Dc.DK)(w:World)(e:Ending)(w':World):Prop:=
 ∃v,e= .returned v∧Aq 129 15 EX v l w'∧(∀x,v.ownBlock=some x→w.heap.size≤x)∧Aa No w w'
theorem OW{F:Nat→Prop}{b:Nat}{x:Dc.TX}{w:World}(h:Bg F b x w)(hx:∀seg t,x.texts seg=some t→t.row.length≤1000000)(a:Off.Bid):
  Calls Tryz.prog 119 #[.pointer (some ⟨b,0,none⟩),idV a] w (Iu (Dc.EW x a) w):=by
 obtain⟨R,N⟩:=a
 obtain⟨lab,bt,bm,tv,h1,h2,h3,h4,h5,h6,h7,h8,h9⟩:=h
 have HLT:=Hx (fun W (k:Aa No w W)=>FB (h5.keeps k id) R N)
 have HB:=Hx h2
 have e1:(tv ⟨R,N⟩).isSome=(x.texts ⟨R,N⟩).isSome:=h6 _
 rw[e1]at HLT
 obtain⟨p,hp⟩:∃p,p=D5 (tv ⟨R,N⟩):=⟨_,rfl⟩
 obtain⟨ok,hok⟩:∃ok,ok=(x.texts ⟨R,N⟩).isSome:=⟨_,rfl⟩
 rw[←hp,←hok]at HLT
 have H7:=Hx h7
 have HP:=Hx hp
 have HOK:=Hx hok
 have HE1:=Hx e1
 have HX:=Hx hx
 obtain⟨L,hL⟩:∃L,L=Dc.EW x ⟨R,N⟩:=⟨_,rfl⟩
 rw[←hL]
 have HL:=Hx hL
 clear h1 h2 h3 h4 h5 h6 h7 h8 h9 hp e1 hok hx hL
 go_enter Tryz.func119,Tryz.ntmps119
 go_upto_region 1 with(fail)
 have k0:Aa No w (w.alloc (.cells #[.int .i64 R,.int .i64 N] 24)):=(Aa.refl No w).alloc _
 have hA:=Nx w (.cells #[.int .i64 R,.int .i64 N] 24)
 generalize w.alloc (.cells #[.int .i64 R,.int .i64 N] 24)=w1 at k0 hA⊢
 obtain⟨A,eA⟩:∃A,A=w.heap.size:=⟨_,rfl⟩
 rw[←eA]at hA⊢
 clear eA
 have z1:=Ex (Cx (k0.heap HB.out id) 0)
 have z2:=Ex (Cx hA 0)
 have z3:=Ex (Cx hA 1)
 have lk:=fun d os=>HLT.out _ (k0.trans (Ag w1 d os))
 refine wp_region_quiet_below Rx Rx ?_
 repeat(quiet_step(fail))
 refine wpQuiet_nil ?_
 intro _ hw'
 obtain⟨⟨dq,osq⟩,hw''⟩:=hw'
 subst hw''
 have k2:Aa No w1 (Sort.grow (redrawn w1 dq) osq):=Ag w1 dq osq
 clear z1 z2 z3 lk
 generalize Sort.grow (redrawn w1 dq) osq=w2 at k2⊢
 have kw2:=k0.trans k2
 have hA2:=k2.heap hA id
 clear hA HLT
 cases ok with
 |false=>
  have ht:x.texts ⟨R,N⟩=none:=by
   have:=HOK.out
   cases h:x.texts ⟨R,N⟩with
   |none=>rfl
   |some t=>rw[h]at this;cases this
  have HQ:Hid (Iu L w (.returned (.slice none 0 0)) w2):=Hx ⟨_,rfl,by rw[HL.out];unfold Dc.EW;rw[ht];exact Aq.nil,(fun x hx=>by cases hx),kw2⟩
  clear ht
  go_wp2_with fail
  go_ret
  exact HQ.out
 |true=>
  obtain⟨t,ht⟩:∃t,x.texts ⟨R,N⟩=some t:=D8.1 HOK.out.symm
  obtain⟨kt,hkt⟩:∃kt,tv ⟨R,N⟩=some kt:=by
   have:=HE1.out
   rw[ht]at this
   exact D8.1 this
  have hp:=HP.out
  rw[hkt]at hp
  obtain rfl:p= .pointer (some ⟨kt,0,none⟩):=hp
  have hpc:L=Dc.Em ⟨R,N⟩ t.row:=by rw[HL.out];unfold Dc.EW;rw[ht]
  have HY:=Hx (H7.out _ kt t hkt ht)
  have hrl:=HX.out _ t ht
  obtain⟨l,hl⟩:∃l,l=t.row:=⟨_,rfl⟩
  have HRN:=Hx (fun W (k:Aa No w W)=>RS (HY.out.no k) hrl)
  rw[←hl]at HRN hrl hpc
  have HPC:=Hx hpc
  clear hl hpc hkt ht HY
  have x0:=Cx hA2 0
  have x1:=Cx hA2 1
  go_upto_region 6 with(fail)
  have k3:Aa No w (w2.alloc (.cells #[.int .i64 R,.int .i64 N] 24)):=kw2.alloc _
  have hO:=Nx w2 (.cells #[.int .i64 R,.int .i64 N] 24)
  have hOw:=kw2.size
  clear x0 x1 hA2 k2 k0
  generalize w2.alloc (.cells #[.int .i64 R,.int .i64 N] 24)=w3 at k3 hO⊢
  obtain⟨O,eO⟩:∃O,O=w2.heap.size:=⟨_,rfl⟩
  rw[←eO]at hO hOw⊢
  clear eO kw2 HP HOK
  have HRN3:=Hx (HRN.out _ k3)
  go_wp2_with(go_at_call 80;refine HRN3.out.mono ?_;rintro e w4 ⟨v,rfl,hrow4,hown4,k4⟩;have HR4:=Hx hrow4;obtain⟨ao,cp,rfl⟩:∃ao cp,v= .slice ao l.length cp:=by(rcases hrow4.form with⟨rfl,rfl⟩|⟨g',cap,_,rfl,_⟩<;>exact⟨_,_,rfl⟩))
  clear hrow4
  have hO4:=k4.heap hO id
  have hOl:=Ao hO
  have HOW4:Hid (∀y,(Value.slice ao l.length cp).ownBlock=some y→¬At1 O y):=Hx fun y hy e=>by have:=hown4 y hy;unfold At1 at e;omega
  go_loopg [7,27] l.length (fun kx s7 s27 wr=>∃k:Nat,s27= .int .i64 k∧Aq 129 15 EX s7 (L.take k) wr∧(∀x,s7.ownBlock=some x→w4.heap.size≤x)∧k≤l.length∧l.length-k≤kx∧Aa (At1 O) w4 wr∧wr.heap[O]? =some (.cells #[.int .i64 (G1 ⟨R,N⟩ l k).R,.int .i64 (G1 ⟨R,N⟩ l k).N] 24 (0,0)))
  case atStart=>exact⟨0,rfl,by simpa using Aq.nil,(fun x hx=>by cases hx),Ah _,Ac _,Aa.refl _ _,by rw[SS];exact hO4⟩
  case round=>
   obtain⟨k,rfl,hout,hown,hk,hkx,kr,hOk⟩:=hrel
   by_cases hlt:k<l.length
   ·have hrow:=HR4.out.keeps kr HOW4.out
    obtain⟨g,cap,e1,hcap,_⟩:=hrow.at (by omega)
    injection e1 with e1 e2 e3
    subst e1 e3
    obtain⟨x0,x1,x2,x3,x4,x5,x6,x7,x8,x9,x10,x11,x12⟩:=hrow.itemO hlt
    have htk:=JU ⟨R,N⟩ l k hlt
    rw[←HPC.out]at htk
    have hos:=SU (o:=⟨R,N⟩) hlt
    obtain⟨y,hy⟩:∃y,y=l[k]'hlt:=⟨_,rfl⟩
    rw[←hy]at x0 x1 x2 x3 x10 x11 x12 htk hos
    obtain⟨⟨oR,oN⟩,ho⟩:∃o,o=G1 ⟨R,N⟩ l k:=⟨_,rfl⟩
    obtain⟨⟨nR,nN⟩,hn⟩:∃o,o=G1 ⟨R,N⟩ l (k+1):=⟨_,rfl⟩
    rw[←ho]at hOk hos
    rw[←hn]at htk hos
    obtain⟨bo,hbo⟩:∃bo,bo=y.opens:=⟨_,rfl⟩
    have HOPN:Hid (∀W,Calls Tryz.prog 120 #[.agg #[.int .i64 y.op.R,.int .i64 y.op.N,.int .i64 y.fr,.int .i64 y.len,.int .i64 0,.int .i64 0,.int .i64 0,.int .i64 0,.int .i64 0,.int .i64 0,.bool y.gone,.bool y.mark,.string ⟨y.text.toArray⟩,.int .i64 0,.int .i64 0]] W fun e w'=>e= .returned (.bool bo)∧Aa No W w'):=Hx (hbo▸fun W=>Oo ⟨y,.z⟩ W)
    rw[←hbo]at hos
    have HTK:=Hx htk
    have HN:=Hx hn
    have kI0:(0:Int)≤(k:Int):=by omega
    have kI1:(k:Int)<(l.length:Int):=by omega
    have hLl:(L.take k).length≤1000000:=by rw[Ad];omega
    have hOr:O<wr.heap.size:=Ao hOk
    clear hrow e2 htk hy hbo ho hn
    go_upto_region 10 with(fail)
    have k5:Aa No wr ((wr.alloc (.cells #[.int .i64 y.op.R,.int .i64 y.op.N,.int .i64 y.fr,.int .i64 y.len,.int .i64 0,.int .i64 0,.int .i64 0,.int .i64 0,.int .i64 0,.int .i64 0,.bool y.gone,.bool y.mark,.string ⟨y.text.toArray⟩] 127)).alloc (.cells #[.int .i64 y.op.R,.int .i64 y.op.N,.int .i64 y.fr,.int .i64 y.len,.int .i64 0,.int .i64 0,.int .i64 0,.int .i64 0,.int .i64 0,.int .i64 0,.bool y.gone,.bool y.mark,.string ⟨y.text.toArray⟩,.int .i64 0,.int .i64 0] 129)):=((Aa.refl No wr).alloc _).alloc _
    have hI:=Ab (Nx wr (.cells #[.int .i64 y.op.R,.int .i64 y.op.N,.int .i64 y.fr,.int .i64 y.len,.int .i64 0,.int .i64 0,.int .i64 0,.int .i64 0,.int .i64 0,.int .i64 0,.bool y.gone,.bool y.mark,.string ⟨y.text.toArray⟩] 127)) (.cells #[.int .i64 y.op.R,.int .i64 y.op.N,.int .i64 y.fr,.int .i64 y.len,.int .i64 0,.int .i64 0,.int .i64 0,.int .i64 0,.int .i64 0,.int .i64 0,.bool y.gone,.bool y.mark,.string ⟨y.text.toArray⟩,.int .i64 0,.int .i64 0] 129)
    have hPc:=Nx (wr.alloc (.cells #[.int .i64 y.op.R,.int .i64 y.op.N,.int .i64 y.fr,.int .i64 y.len,.int .i64 0,.int .i64 0,.int .i64 0,.int .i64 0,.int .i64 0,.int .i64 0,.bool y.gone,.bool y.mark,.string ⟨y.text.toArray⟩] 127)) (.cells #[.int .i64 y.op.R,.int .i64 y.op.N,.int .i64 y.fr,.int .i64 y.len,.int .i64 0,.int .i64 0,.int .i64 0,.int .i64 0,.int .i64 0,.int .i64 0,.bool y.gone,.bool y.mark,.string ⟨y.text.toArray⟩,.int .i64 0,.int .i64 0] 129)
    rw[World.size_alloc]at hPc
    clear x0 x1 x2 x3 x4 x5 x6 x7 x8 x9 x10 x11 x12
    generalize (wr.alloc (.cells #[.int .i64 y.op.R,.int .i64 y.op.N,.int .i64 y.fr,.int .i64 y.len,.int .i64 0,.int .i64 0,.int .i64 0,.int .i64 0,.int .i64 0,.int .i64 0,.bool y.gone,.bool y.mark,.string ⟨y.text.toArray⟩] 127)).alloc (.cells #[.int .i64 y.op.R,.int .i64 y.op.N,.int .i64 y.fr,.int .i64 y.len,.int .i64 0,.int .i64 0,.int .i64 0,.int .i64 0,.int .i64 0,.int .i64 0,.bool y.gone,.bool y.mark,.string ⟨y.text.toArray⟩,.int .i64 0,.int .i64 0] 129)=w5 at k5 hI hPc⊢
    obtain⟨I,eI⟩:∃I,I=wr.heap.size:=⟨_,rfl⟩
    obtain⟨P,eP⟩:∃P,P=wr.heap.size+1:=⟨_,rfl⟩
    rw[←eI]at hI
    rw[←eP]at hPc
    rw[←eP,←eI]
    have hIr:wr.heap.size≤I:=by omega
    have hPr:wr.heap.size≤P:=by omega
    clear eI eP
    have p0:=Cx hPc 0
    have p1:=Cx hPc 1
    have p2:=Cx hPc 2
    have p3:=Cx hPc 3
    have p4:=Cx hPc 4
    have p5:=Cx hPc 5
    have p6:=Cx hPc 6
    have p7:=Cx hPc 7
    have p8:=Cx hPc 8
    have p9:=Cx hPc 9
    have p10:=Cx hPc 10
    have p11:=Cx hPc 11
    have p12:=Cx hPc 12
    have p13:=Cx hPc 13
    have p14:=Cx hPc 14
    have hOP:O≠P:=by omega
    have hOI:O≠I:=by omega
    cases bo
    focus
      go_upto_region 12 with(go_at_call 120;refine(HOPN.out _).mono ?_;rintro e w6 ⟨rfl,k6⟩)
      simp only[Gm,if_false,Off.Bid.mk.injEq]at hos
      obtain⟨rfl,rfl⟩:=hos
      have hO7:=(k5.trans k6).heap hOk id
      have hP7:=k6.heap hPc id
      have k7:Aa (At1 O) wr w6:=(k5.trans k6).any
      obtain⟨w7,hw7⟩:∃z,z=w6:=⟨_,rfl⟩
      subst hw7
      clear k6
    rotate_left
    focus
      go_upto_region 11 with(go_at_call 120;refine(HOPN.out _).mono ?_;rintro e w6 ⟨rfl,k6⟩)
      simp only[if_true]at hos
      have hO6:=(k5.trans k6).heap hOk id
      have hP6:=k6.heap hPc id
      have hI6:=k6.heap hI id
      have i0:=Cx hI6 0
      have i1:=Cx hI6 1
      have q0:=Cx hO6 0
      have q1:=Cx hO6 1
      have u:=Fx hO6
      go_upto_region 12 with(fail)
      have hO7:=heap_set (heap_set hO6 0 (.int .i64 y.op.R)) 1 (.int .i64 y.op.N)
      have hP7:=AP (AP hP6 (b':=O) (j:=0) (Ne.symm hOP) (.int .i64 y.op.R)) (b':=O) (j:=1) (Ne.symm hOP) (.int .i64 y.op.N)
      have k7:Aa (At1 O) wr ((w6.setCell ⟨O,0,none⟩ (.int .i64 y.op.R)).setCell ⟨O,1,none⟩ (.int .i64 y.op.N)):=(((k5.trans k6).any).set1 _).set1 _
      clear i0 i1 q0 q1 u k6 hO6 hP6 hI6
      generalize (w6.setCell ⟨O,0,none⟩ (.int .i64 y.op.R)).setCell ⟨O,1,none⟩ (.int .i64 y.op.N)=w7 at hO7 hP7 k7⊢
      rw[←hos]at hO7
    all_goals
     have hOw4:O<w7.heap.size:=Ao hO7
     have x0:=Cx hO7 0
     have x1:=Cx hO7 1
     have q13:=Cx hP7 13
     have q14:=Cx hP7 14
     have u:=Fx hP7
     clear p0 p1 p2 p3 p4 p5 p6 p7 p8 p9 p10 p11 p12 p13 p14 hI hPc k5 hOk
     go_upto_region 13 with(fail)
     have hP8:((w7.setCell ⟨P,13,none⟩ (.int .i64 nR)).setCell ⟨P,14,none⟩ (.int .i64 nN)).heap[P]? =some (.cells #[.int .i64 y.op.R,.int .i64 y.op.N,.int .i64 y.fr,.int .i64 y.len,.int .i64 0,.int .i64 0,.int .i64 0,.int .i64 0,.int .i64 0,.int .i64 0,.bool y.gone,.bool y.mark,.string ⟨y.text.toArray⟩,.int .i64 nR,.int .i64 nN] 129 (0,0)):=heap_set (heap_set hP7 13 (.int .i64 nR)) 14 (.int .i64 nN)
     have hO8:=AP (AP hO7 (b':=P) (j:=13) hOP (.int .i64 nR)) (b':=P) (j:=14) hOP (.int .i64 nN)
     have k8:Aa (At1 O) wr ((w7.setCell ⟨P,13,none⟩ (.int .i64 nR)).setCell ⟨P,14,none⟩ (.int .i64 nN)):=(k7.setNew hPr _).setNew hPr _
     clear x0 x1 q13 q14 u hP7 hO7 k7
     generalize (w7.setCell ⟨P,13,none⟩ (.int .i64 nR)).setCell ⟨P,14,none⟩ (.int .i64 nN)=w8 at hP8 hO8 k8⊢
     have p0:=Cx hP8 0
     have p1:=Cx hP8 1
     have p2:=Cx hP8 2
     have p3:=Cx hP8 3
     have p4:=Cx hP8 4
     have p5:=Cx hP8 5
     have p6:=Cx hP8 6
     have p7:=Cx hP8 7
     have p8:=Cx hP8 8
     have p9:=Cx hP8 9
     have p10:=Cx hP8 10
     have p11:=Cx hP8 11
     have p12:=Cx hP8 12
     have p13:=Cx hP8 13
     have p14:=Cx hP8 14
     have k9:Aa (At1 O) wr (w8.alloc (.cells #[.int .i64 y.op.R,.int .i64 y.op.N,.int .i64 y.fr,.int .i64 y.len,.int .i64 0,.int .i64 0,.int .i64 0,.int .i64 0,.int .i64 0,.int .i64 0,.bool y.gone,.bool y.mark,.string ⟨y.text.toArray⟩,.int .i64 nR,.int .i64 nN] 129)):=k8.alloc _
     have hg9:=Nx w8 (.cells #[.int .i64 y.op.R,.int .i64 y.op.N,.int .i64 y.fr,.int .i64 y.len,.int .i64 0,.int .i64 0,.int .i64 0,.int .i64 0,.int .i64 0,.int .i64 0,.bool y.gone,.bool y.mark,.string ⟨y.text.toArray⟩,.int .i64 nR,.int .i64 nN] 129)
     have hO9:=Ab hO8 (.cells #[.int .i64 y.op.R,.int .i64 y.op.N,.int .i64 y.fr,.int .i64 y.len,.int .i64 0,.int .i64 0,.int .i64 0,.int .i64 0,.int .i64 0,.int .i64 0,.bool y.gone,.bool y.mark,.string ⟨y.text.toArray⟩,.int .i64 nR,.int .i64 nN] 129)
     have hwr:=kr.size
     have hout9:=hout.keeps k9 (fun x hx e=>by have:=hown x hx;have:=k4.size;unfold At1 at e;omega)
     have HAP:=Hx (fun ty=>QD.append hout9 ⟨w8.heap.size,0,none⟩ 1 1 [⟨y,⟨nR,nN⟩⟩] rfl (Ey (y:=(⟨y,⟨nR,nN⟩⟩:Dc.DK)) hg9) (by omega) ty)
     clear hg9 hout9 hout hP8
     go_wp2_with(at_builtin;obtain⟨v',w10,hr10,ho10,k10,hov10⟩:=HAP.out _;refine wpList_append_run rfl _ _ 123 123 rfl _ _ rfl rfl hr10 ?_)
     go_roundg (l.length-(k+1))
     case measure=>omega
     case rel=>
      refine⟨k+1,by go_num,by rw[HTK.out];exact ho10,fun x hx=>?_,hlt,Ac _,(kr.trans k9).step k10 fun x hx hl=>by have:=hown x hx;omega,by rw[←HN.out];exact k10.heap hO9 fun e=>by have:=hown O e;have:=k4.size;omega⟩
      rcases hov10 with e7|e7
      ·exact hown x (e7▸hx)
      ·rw[e7]at hx
       have e9:=Ap hx
       have:=k9.size
       omega
   ·obtain rfl:k=l.length:=by omega
    have hLL:L.length=l.length:=by rw[HPC.out,Ft]
    rw[←hLL,AH]at hout
    have HQ:Hid (Iu L w (.returned u7) wr):=Hx ⟨_,rfl,hout,fun x hx=>by have:=hown x hx;have:=k3.size;have:=k4.size;omega,(k3.trans k4).step kr fun x hx hl=>by unfold At1 at hx;omega⟩
    obtain⟨so,n2,c2,rfl⟩:=hout.slice
    clear hout hLL
    go_wp2_with fail
    go_ret
    exact HQ.out
end Go.Proofs.YthfjefcljeamgaaGreatDoor
