/- DocRefuses: the walk. -/
import Derived.Test.YthfjefcljeamgaaGreatDoorLwE
namespace Go.Proofs.YthfjefcljeamgaaGreatDoor
set_option maxRecDepth 100000
set_option maxHeartbeats 4000000
open Go.RowKit
attribute [local go_sem ↓] Go.wp_at_zero Go.wp_at_succ
/-- the document of a row of ops -/
noncomputable def En(l:List Dc.Op):Dc.Doc:=l.foldl Dc.Doc.act Dc.Doc.new
theorem OD:∀(l:List Dc.Op) (d:Dc.Doc),Dc.BS d→Dc.BS (l.foldl Dc.Doc.act d)
 |[],_,h=>h
 |o::l,d,h=>OD l (d.act o) (h.act o)
theorem Ni(l:List Dc.Op):Dc.BS (En l):=OD l _ Dc.BS.new
theorem Wz(d:Dc.Doc)(o:Dc.Op):(d.act o).ops.length≤d.ops.length+1:=by
 unfold Dc.Doc.act
 split
 ·show(d.ops++[o]).length≤_
  simp
 ·omega
theorem Rb:∀(l:List Dc.Op) (d:Dc.Doc),(l.foldl Dc.Doc.act d).ops.length≤d.ops.length+l.length
 |[],_=>Ac _
 |o::l,d=>by
  have h1:=Rb l (d.act o)
  have h2:=Wz d o
  simp only[Nv,BO]
  omega
theorem KX(l:List Dc.Op):(En l).ops.length≤l.length:=by
 have:=Rb l Dc.Doc.new
 have h0:Dc.Doc.new.ops.length=0:=rfl
 unfold En
 omega
theorem Tu{l:List Dc.Op}{k:Nat}(hk:k<l.length):En (l.take (k+1))=(En (l.take k)).act (l[k]'hk):=by
 unfold En
 rw[AW,Aj hk,Dy]
 rfl
theorem bQ{d:Dc.Doc}{o:Dc.Op}(h:d.err o=0):d.has o.id=false∧(d.act o).has o.id=true∧(d.act o).ops.length=d.ops.length+1∧(d.act o).err o=12:=by
 obtain⟨h1,h2,_,_⟩:=Dc.HU h
 have ha:d.act o=d.apply o:=by unfold Dc.Doc.act;rw[Ak h]
 have hh:(d.apply o).has o.id=true:=by
  show(Dc.Sj d.kinds o.id o.kind o.id).isSome=true
  unfold Dc.Sj
  rw[Ak rfl]
  rfl
 refine⟨by unfold Dc.Doc.has;rw[h2];rfl,by rw[ha];exact hh,by rw[ha];show(d.ops++[o]).length=_;simp,?_⟩
 rw[ha]
 unfold Dc.Doc.err
 rw[Ae (by simp[h1]),Ak hh]
theorem bV{d:Dc.Doc}{o:Dc.Op}(h:d.err o≠0):d.act o=d:=by unfold Dc.Doc.act;rw[Ae h]
theorem bg{d:Dc.Doc}(h:Dc.BS d)(o:Dc.Op):Dc.BS (d.act o):=h.act o
theorem EI.form{v:Value}{l:List Dc.Op}{w:World}(h:EI v l w):∃ao c,v= .slice ao l.length c∧l.length≤maxLen:=by
 obtain⟨ps,rfl,⟨h0,ao,c,rfl,_⟩,_⟩:=h
 exact⟨ao,c,by rw[AM],by rw[AM];exact h0⟩
/-- one op of the argument -/
theorem EI.at{v:Value}{l:List Dc.Op}{w:World}(h:EI v l w){k:Nat}(hk:k<l.length):∃g of c sa sc,v= .slice (some ⟨g,of,none⟩) l.length c∧g<w.heap.size∧w.rangeAt g (of+k*20) (As (l[k]'hk) (.slice sa (l[k]'hk).cuts.length sc)).toList∧
  BI 4 AD (.slice sa (l[k]'hk).cuts.length sc) (l[k]'hk).cuts w:=by
 obtain⟨ps,rfl,h2,h3⟩:=h
 rw[AM]at hk
 obtain⟨_,ao,c,rfl,_,_,h5⟩:=id h2
 obtain⟨g,of,rfl,hgl,_⟩:=h5 (by intro e;rw[e]at hk;simp at hk)
 have hr:=h2.range hk (Ac _)
 have hc:=(h3 _ (AQ hk)).1
 have hn:(ps[k]'hk).2.n=(ps[k]'hk).1.cuts.length:=by
  obtain⟨_,ao,c,e,_⟩:=hc
  have e':Value.slice (ps[k]'hk).2.a (ps[k]'hk).2.n (ps[k]'hk).2.c= .slice ao (ps[k]'hk).1.cuts.length c:=e
  injection e'
 simp only[List.getElem_map,AM]
 have hv:(ps[k]'hk).2.v= .slice (ps[k]'hk).2.a (ps[k]'hk).1.cuts.length (ps[k]'hk).2.c:=by unfold Sl.v;rw[hn]
 refine⟨g,of,c,(ps[k]'hk).2.a,(ps[k]'hk).2.c,rfl,hgl,?_,hv▸hc⟩
 rw[←hv]
 exact hr
/-- the document's part of a row of ops that is not too great -/
theorem Q8{l:List Dc.Op}(h:Hz l=false):l.length≤40∧∀o∈l,o.text.length≤200∧o.cuts.length≤40:=by
 unfold Hz at h
 rw[Bool.or_eq_false_iff]at h
 exact⟨(EZ h.1).1,fun o ho=>⟨((EZ h.1).2 o ho).1,((EZ h.1).2 o ho).2.2⟩⟩
/-- an op behind copied ops: what Great looks at -/
theorem bA{v:Value}{ps:List (Dc.Op×Sl)}{l:List Dc.Op}{o:Dc.Op}{sl:Sl}{w:World}(h:Aq 29 20 EN v (ps++[(o,sl)]) w)(hl:ps.map (·.1)=l)(hn:∀p∈ps,p.2.n=p.1.cuts.length)(ho:sl.n=o.cuts.length):K7 v (l++[o]) w:=
 ⟨ps++[(o,sl)],by simp[hl],h.lies fun _=>rfl,fun p hp=>by
  rcases AC.1 hp with hp|hp
  ·exact hn p hp
  ·rw[AU]at hp;rw[hp];exact ho⟩
theorem bE(v:Value)(l:List Dc.Op)(o:Dc.Op)(cv:Value)(w:World)(hE:Env w)(hv:EI v l w)(hb:LM (l.length+1) 192)(h63:l.length+1≤maxLen)(hcv:BI 4 AD cv o.cuts w):
  Calls Tryz.prog 3 #[v,opV o cv] w (BM true w):=by
 have hpost:∀w',Aa (BN w.heap.size) w w'→BM true w (.returned (.bool true)) w':=fun w' k=>⟨rfl,k.mono fun g hg hl=>by unfold BN at hg;omega⟩
 obtain⟨base,hbase⟩:∃base,base=w.heap.size:=⟨_,rfl⟩
 rw[←hbase]at hpost
 have h4:4≤base:=hbase▸hE.size
 have HPOST:=Hx hpost
 generalize BM true w=post at HPOST⊢
 have HEV:Hid (∀W,Aa (BN base) w W→Env W):=Hx fun W k=>hE.keeps k fun g hg=>by unfold BN at hg;omega
 have HBS:Hid (∀W,Aa (BN base) w W→base≤W.heap.size):=Hx fun W k=>hbase▸k.size
 have HAG:Hid (∀W,Aa (BN base) w W→EI v l W):=Hx fun W k=>hv.keeps k fun g hg=>by unfold BN;omega
 obtain⟨ca,cc,rfl⟩:∃ca cc,cv= .slice ca o.cuts.length cc:=by
  obtain⟨_,ca,cc,e,_⟩:=hcv
  exact⟨ca,cc,e⟩
 have hown:o.cuts≠ []→∀g,(Value.slice ca o.cuts.length cc).ownBlock=some g→g<base:=fun hne g hg=>by
  obtain⟨_,ao,c,e,_,_,h3⟩:=hcv
  obtain⟨g',o',rfl,h5,_⟩:=h3 hne
  injection e with e1 e2 e3
  subst e1
  have:=Ap hg
  simp only at this
  omega
 have HOW:=Hx hown
 have HCV:Hid (∀W,Aa (BN base) w W→BI 4 AD (.slice ca o.cuts.length cc) o.cuts W):=Hx fun W k=>hcv.keepsE k fun hne g hg e=>by have:=hown hne g hg;unfold BN at e;omega
 have hOWL:∀(k:Nat) (hk:k<l.length) sa sc,BI 4 AD (.slice sa (l[k]'hk).cuts.length sc) (l[k]'hk).cuts w→(l[k]'hk).cuts≠ []→∀g,(Value.slice sa (l[k]'hk).cuts.length sc).ownBlock=some g→g<base:=fun k hk sa sc hli hne g hg=>by
  obtain⟨_,ao,c,e,_,_,h3⟩:=hli
  obtain⟨g',o',rfl,h5,_⟩:=h3 hne
  injection e with e1 e2 e3
  subst e1
  have:=Ap hg
  simp only at this
  omega
 have hll:l.length≤9223372036854775807:=by unfold maxLen at h63;omega
 obtain⟨ao,cp,rfl,_⟩:=hv.form
 have HAL:=Hx (UY w hE)
 have HV:=Hx hv
 have HFB:=Hx hb
 have HF1:Hid (LM l.length 192):=Hx (by unfold LM at hb⊢;omega)
 have H4:=Hx h4
 have H63:=Hx h63
 clear hE hv hcv hown hb hpost h4 h63
 go_enter Tryz.func3,Tryz.ntmps3
 go_upto_region 3 with(go_at_call 15;(with_reducible refine(UY _ (HEV.out _ (Aa.alloc (Aa.refl _ _) _))).mono ?_);rintro e w2 ⟨rfl,k2⟩)
 have hP:=k2.heap (Nx w (.cells (As o (.slice ca o.cuts.length cc)) 29)) id
 have k02:Aa No w w2:=((Aa.refl No w).alloc _).trans k2
 clear k2
 have hPl:=Ao hP
 have kd:Aa No w2 w2.drew:=(Aa.refl No w2).drew
 have hPd:=kd.heap hP id
 have HCO:=Hx (fun W (k:Aa No w2 W)=>WW (.slice ao l.length cp) l W (HV.out.no (k02.trans k)) HF1.out)
 go_cut[19] (fun s19 wx=>s19= .bool (Hz (l++[o]))∧Aa No w2 wx)
 case first=>
  refine wp_region_held_drew (S:=fun W=>W.heap[w.heap.size]? =some (.cells (As o (.slice ca o.cuts.length cc)) 29 (0,0))) Rx hPd (fun HS5=>?_)
  generalize w2.drew=w2d at kd hPd HS5⊢
  refine Tx 0 ?_ ?_ ?_
  rotate_left
  focus
   intro wH hSw
   try simp only[Gx]
   try dsimp only at hSw
   go_simp
   try with_reducible rfl
  try simp only[Gx,Act.put,Sx]
  refine wpAnyH_take (i:=2) (v:= .agg (As o (.slice ca o.cuts.length cc))) rfl Rx Rx Rx (fun _ _ _ h=>h) (BA rfl _ _ rfl w.heap.size _ 29 _ rfl (fun W h=>h) Tryz.underlying29 rfl Rx) HS5 ?_
  simp only[Gx,Act.put,Sx]
  refine wpAnyH_ready (rs:=[1,3]) Rx (by simp) ?_
  refine AllReadyH.cons rfl (fun K hK=>?_) ?_
  try simp only[Gx]at hK⊢
  ·go_simp
   go_at_call 17
   (with_reducible refine(HCO.out _ kd).mono ?_)
   rintro e w3 ⟨v3,ps,rfl,hr3,hps,hpn,ho3,k3⟩
   have k23:=kd.trans k3
   have hP3:=k23.heap hP id
   refine hK.out _ _ hP3 (fun _=>?_)
   clear hK
   try simp only[Act.put,Sx]
   refine wpAnyH_ready (rs:=[3]) Rx (by simp) ?_
   refine AllReadyH.cons rfl (fun K hK=>?_) ?_
   try simp only[Gx]at hK⊢
   rotate_left
   exact AllReadyH.nil
   go_simp
   have hg3:=Nx w3 (.cells (As o (.slice ca o.cuts.length cc)) 29)
   have ka3:Aa No w3 (w3.alloc (.cells (As o (.slice ca o.cuts.length cc)) 29)):=(Aa.refl No w3).alloc _
   refine hK.out _ _ (ka3.heap hP3 id) (fun _=>?_)
   clear hK
   try simp only[Act.put,Sx]
   have hpl:ps.length=l.length:=by rw[←hps,AM]
   obtain⟨v4,w4,hrun4,hr4,k4,hov4⟩:=WL.appendB (hr3.no ka3) ⟨w3.heap.size,0,none⟩ 1 1 [((o,⟨ca,o.cuts.length,cc⟩):Dc.Op×Sl)] rfl (Ey (y:=((o,⟨ca,o.cuts.length,cc⟩):Dc.Op×Sl)) hg3) (by rw[hpl];exact H63.out) VD (by rw[hpl];exact HFB.out) 22
   have kx:Aa No w2 (w3.alloc (.cells (As o (.slice ca o.cuts.length cc)) 29)):=k23.trans ka3
   have k24:Aa No w2 w4:=kx.step k4 fun g hg hl=>by have:=ho3 g hg;have:=kd.size;omega
   have hP4:=k24.heap hP id
   obtain⟨oa4,on4,oc4,hv4⟩:=hr4.slice
   subst hv4
   refine wpAnyH_ready (rs:=[4]) Rx (by simp) ?_
   refine AllReadyH.cons rfl (fun K hK=>?_) ?_
   try simp only[Gx]at hK⊢
   rotate_left
   exact AllReadyH.nil
   refine CW (a:={tmps:=_,defers:=_}) rfl _ _ 22 22 rfl _ _ (by simp[Act.eval]) (by simp[Act.eval]) hrun4 ?_
   refine hK.out _ _ hP4 (fun _=>?_)
   clear hK
   try simp only[Act.put,Sx]
   have HGR:=Hx (UC _ _ w4 (bA hr4 hps hpn rfl))
   refine wpAnyH_ready (rs:=[5]) Rx (by simp) ?_
   refine AllReadyH.cons rfl (fun K hK=>?_) ?_
   try simp only[Gx]at hK⊢
   rotate_left
   exact AllReadyH.nil
   go_simp
   go_at_call 16
   (with_reducible refine HGR.out.mono ?_)
   rintro e w5 ⟨rfl,k5⟩
   have k25:=k24.trans k5
   have hP5:=k25.heap hP id
   refine hK.out _ _ hP5 (fun _=>?_)
   clear hK
   try simp only[Act.put,Sx]
   refine wpAnyH_done Rx ?_ _
   go_wp2_with fail
   go_meet
   exact⟨rfl,k25⟩
  refine AllReadyH.cons rfl (fun K hK=>?_) ?_
  try simp only[Gx]at hK⊢
  ·go_simp
   have hg3:=Nx w2d (.cells (As o (.slice ca o.cuts.length cc)) 29)
   have ka3:Aa No w2 (w2d.alloc (.cells (As o (.slice ca o.cuts.length cc)) 29)):=kd.alloc _
   have hPa:=ka3.heap hP id
   refine hK.out _ _ hPa (fun _=>?_)
   clear hK
   try simp only[Act.put,Sx]
   refine wpAnyH_ready (rs:=[1]) Rx (by simp) ?_
   refine AllReadyH.cons rfl (fun K hK=>?_) ?_
   try simp only[Gx]at hK⊢
   rotate_left
   exact AllReadyH.nil
   go_simp
   go_at_call 17
   (with_reducible refine(HCO.out _ ka3).mono ?_)
   rintro e w3 ⟨v3,ps,rfl,hr3,hps,hpn,ho3,k3⟩
   have k23:=ka3.trans k3
   have hP3:=k23.heap hP id
   have hg4:=k3.heap hg3 id
   refine hK.out _ _ hP3 (fun _=>?_)
   clear hK
   try simp only[Act.put,Sx]
   have hpl:ps.length=l.length:=by rw[←hps,AM]
   obtain⟨v4,w4,hrun4,hr4,k4,hov4⟩:=WL.appendB hr3 ⟨w2d.heap.size,0,none⟩ 1 1 [((o,⟨ca,o.cuts.length,cc⟩):Dc.Op×Sl)] rfl (Ey (y:=((o,⟨ca,o.cuts.length,cc⟩):Dc.Op×Sl)) hg4) (by rw[hpl];exact H63.out) VD (by rw[hpl];exact HFB.out) 22
   have k24:Aa No w2 w4:=k23.step k4 fun g hg hl=>by have:=ho3 g hg;have:=ka3.size;omega
   have hP4:=k24.heap hP id
   obtain⟨oa4,on4,oc4,hv4⟩:=hr4.slice
   subst hv4
   refine wpAnyH_ready (rs:=[4]) Rx (by simp) ?_
   refine AllReadyH.cons rfl (fun K hK=>?_) ?_
   try simp only[Gx]at hK⊢
   rotate_left
   exact AllReadyH.nil
   refine CW (a:={tmps:=_,defers:=_}) rfl _ _ 22 22 rfl _ _ (by simp[Act.eval]) (by simp[Act.eval]) hrun4 ?_
   refine hK.out _ _ hP4 (fun _=>?_)
   clear hK
   try simp only[Act.put,Sx]
   have HGR:=Hx (UC _ _ w4 (bA hr4 hps hpn rfl))
   refine wpAnyH_ready (rs:=[5]) Rx (by simp) ?_
   refine AllReadyH.cons rfl (fun K hK=>?_) ?_
   try simp only[Gx]at hK⊢
   rotate_left
   exact AllReadyH.nil
   go_simp
   go_at_call 16
   (with_reducible refine HGR.out.mono ?_)
   rintro e w5 ⟨rfl,k5⟩
   have k25:=k24.trans k5
   have hP5:=k25.heap hP id
   refine hK.out _ _ hP5 (fun _=>?_)
   clear hK
   try simp only[Act.put,Sx]
   refine wpAnyH_done Rx ?_ _
   go_wp2_with fail
   go_meet
   exact⟨rfl,k25⟩
  exact AllReadyH.nil
 case rest=>
  obtain⟨rfl,k23⟩:=hcut
  obtain⟨w3,hw3⟩:∃y,y=wc:=⟨_,rfl⟩
  subst hw3
  have k03:=k02.trans k23
  have hP3:=k23.heap hP id
  cases hg:Hz (l++[o])with
  |true=>
   go_wp2_with fail
   exact HPOST.out _ k03.any
  |false=>
   have hgf:=Q8 hg
   have hl40:l.length≤39:=by have:=hgf.1;simp at this;omega
   have HSM:Hid (∀x∈l,x.text.length≤200∧x.cuts.length≤40):=Hx fun x hx=>hgf.2 x (by simp[hx])
   have HSO:Hid (o.text.length≤200∧o.cuts.length≤40):=Hx (hgf.2 o (by simp))
   have HNW:=Hx (MS w3)
   clear hgf hg
   go_upto_region 6 with(go_at_call 18;(with_reducible refine HNW.out.mono ?_);rintro e w4 ⟨b,rfl,hd4,k4⟩)
   obtain⟨B,hB⟩:∃B,B=w3.heap.size:=⟨_,rfl⟩
   rw[←hB]at hd4
   have hBw:base<B:=by have:=Ao hP3;omega
   have k04:Aa (BN base) w w4:=k03.any.no k4
   have hP4:=k4.heap hP3 id
   have HLB:Hid (∀W,Aa (BN B) w4 W→Aa (BN base) w W):=Hx fun W k=>k04.step k fun g hg _=>by unfold BN at hg⊢;omega
   have HBZ:Hid (∀W,Aa (BN B) w4 W→B≤W.heap.size):=Hx fun W k=>by have:=k4.size;have:=k.size;omega
   have HPX:Hid (∀W,Aa (BN B) w4 W→W.heap[w.heap.size]? =some (.cells (As o (.slice ca o.cuts.length cc)) 29 (0,0))):=Hx fun W k=>k.heap hP4 fun e=>by unfold BN at e;omega
   have HDO:Hid (∀(k:Nat) (hk:k<l.length) sa sc W,Aa (BN B) w4 W→C6 (BN B) b (En (l.take k)) W→BI 4 AD (.slice sa (l[k]'hk).cuts.length sc) (l[k]'hk).cuts w→
     Calls Tryz.prog 19 #[.pointer (some ⟨b,0,none⟩),opV (l[k]'hk) (.slice sa (l[k]'hk).cuts.length sc)] W (K8 B b ((En (l.take k)).err (l[k]'hk)) (En (l.take (k+1))) W)):=Hx fun k hk sa sc W kk hd hli=>by
    rw[Tu hk]
    have hx:=HSM.out _ (AQ hk)
    have hlo:=hOWL k hk sa sc hli
    refine Ox (by have:=H4.out;omega) (HBZ.out W kk) hd (Ni _) ?_ (HEV.out W (HLB.out W kk)) _ _ (hli.keepsE (HLB.out W kk) fun hne g hg e=>by have:=hlo hne g hg;unfold BN at e;omega) (fun hne g hg=>by have:=hlo hne g hg;omega) (by omega) (by omega)
    have h1:=KX (l.take k)
    rw[Ad]at h1
    omega
   clear hOWL
   go_wp2_with fail
   go_loopg [6] l.length (fun kx s6 wr=>∃k:Nat,s6= .int .i64 k∧C6 (BN B) b (En (l.take k)) wr∧k≤l.length∧l.length-k≤kx∧Aa (BN B) w4 wr)
   case atStart=>exact⟨0,rfl,hd4,Ah _,Ac _,Aa.refl _ _⟩
   case round=>
    obtain⟨k,rfl,hdk,hk,hkx,kr⟩:=hrel
    by_cases hlt:k<l.length
    ·obtain⟨g,of,c,sa,sc,e1,hgl,hrg,hli⟩:=HV.out.at hlt
     injection e1 with e1 e2 e3
     subst e1 e3
     have kwr:=HLB.out wr kr
     have hrg':wr.rangeAt g (of+k*20) (As (l[k]'hlt) (.slice sa (l[k]'hlt).cuts.length sc)).toList:=fun j v hj=>kwr.cellOf (hrg j v hj) fun e=>by unfold BN at e;omega
     have HDK:=Hx (HDO.out k hlt sa sc wr kr hdk hli)
     obtain⟨y,hy⟩:∃y,y=l[k]'hlt:=⟨_,rfl⟩
     rw[←hy]at hrg' HDK
     have kI0:(0:Int)≤(k:Int):=by omega
     have kI1:(k:Int)<(l.length:Int):=by omega
     clear e2 hrg hli hy
     go_wp2_with(first
      |(refine wpList_load_mid rfl 29 _ rfl g (of+k*20) rfl (As y (.slice sa y.cuts.length sc)).toList _ hrg' Tryz.underlying29 rfl Rx ?_)
      |(go_at_call 19;(with_reducible refine HDK.out.mono ?_);rintro e w6 ⟨rfl,k6,hd6⟩))
     go_roundg (l.length-(k+1))
     case measure=>omega
     case rel=>exact⟨k+1,by go_num,hd6,hlt,Ac _,kr.trans k6⟩
    ·obtain rfl:k=l.length:=by omega
     rw[AH]at hdk
     have kwr:=HLB.out wr kr
     have hEr:=HEV.out wr kwr
     obtain⟨w5,hw5⟩:∃y,y=wr:=⟨_,rfl⟩
     subst hw5
     have hfull:=Ni l
     have hops:(En l).ops.length≤39:=AG (KX l) hl40
     obtain⟨D,hD⟩:∃D,D=En l:=⟨_,rfl⟩
     rw[←hD]at hdk hfull hops
     have HFL:=Hx hfull
     have hdF:C6 (fun g=>B≤g∧g<w5.heap.size) b D w5:=hdk.mono fun g hg hl=>⟨hg,hl⟩
     have HOUT:Hid (∀F W,C6 F b D W→∀t,Calls Tryz.prog 20 #[.pointer (some ⟨b,0,none⟩),idV t] W (LV (Dc.Vs D t) W)):=Hx fun F W h t=>SY h HFL.out (by omega) t
     have HLEN:Hid (∀F W,C6 F b D W→Calls Tryz.prog 21 #[.pointer (some ⟨b,0,none⟩)] W (Ua D.ops.length W)):=Hx fun F W h=>NQ h HFL.out (by omega)
     have HHAS:Hid (∀F W,C6 F b D W→Calls Tryz.prog 22 #[.pointer (some ⟨b,0,none⟩),idV o.id] W (BM (D.has o.id) W)):=Hx fun F W h=>MU h o.id
     have r0:=hEr.root0
     have r1:=hEr.root1
     have hz0:0<w5.heap.size:=by have:=hEr.size;omega
     have HO5:Hid (Calls Tryz.prog 20 #[.pointer (some ⟨b,0,none⟩),.agg #[.int .i64 0,.int .i64 0]] w5 (LV (Dc.Vs D .z) w5)):=Hx (HOUT.out _ w5 hdF .z)
     clear hdk hEr hfull hD hd4 HDO
     go_upto_region 11 with(go_at_call 20;(with_reducible refine HO5.out.mono ?_);rintro e w6 ⟨va,rfl,hra,hoa,k6⟩;(obtain⟨aA,nA,cA,rfl⟩:=hra.slice))
     have k46:Aa (BN B) w4 w6:=kr.no k6
     have hE6:=HEV.out w6 (HLB.out w6 k46)
     have hd6:=hdF.no k6
     have t0:=hE6.trash0
     have t1:=hE6.trash1
     have hz1:1<w6.heap.size:=by have:=hE6.size;omega
     have HO6:Hid (Calls Tryz.prog 20 #[.pointer (some ⟨b,0,none⟩),.agg #[.int .i64 1,.int .i64 0]] w6 (LV (Dc.Vs D .t) w6)):=Hx (HOUT.out _ w6 hd6 .t)
     clear r0 r1 hz0 HO5 hE6
     go_upto_region 12 with(go_at_call 20;(with_reducible refine HO6.out.mono ?_);rintro e w7 ⟨vb,rfl,hrb,hob,k7⟩;(obtain⟨aB,nB,cB,rfl⟩:=hrb.slice))
     have k47:Aa (BN B) w4 w7:=k46.no k7
     have hd7:=hd6.no k7
     have HL7:=Hx (HLEN.out _ w7 hd7)
     clear t0 t1 hz1 HO6
     go_upto_region 13 with(go_at_call 21;(with_reducible refine HL7.out.mono ?_);rintro e w8 ⟨oa,oc,rfl,k8⟩)
     have k48:Aa (BN B) w4 w8:=k47.no k8
     have hd8:=hd7.no k8
     have hP8:=HPX.out w8 k48
     have p1:=Cx hP8 1
     have p2:=Cx hP8 2
     have HH8:=Hx (HHAS.out _ w8 hd8)
     clear HL7
     go_upto_region 14 with(go_at_call 22;(with_reducible refine HH8.out.mono ?_);rintro e w9 ⟨rfl,k9⟩)
     have k49:Aa (BN B) w4 w9:=k48.no k9
     have hd9:=hd8.no k9
     have hP9:=HPX.out w9 k49
     have k59:Aa No w5 w9:=((k6.trans k7).trans k8).trans k9
     have HCF:Hid (∀W:World,base≤W.heap.size→o.cuts≠ []→∀g,(Value.slice ca o.cuts.length cc).ownBlock=some g→¬(B≤g∧g<w5.heap.size)∧g<W.heap.size):=Hx fun W hz hne g hg=>by have:=HOW.out hne g hg;omega
     have HD9:=Hx (MV (fun g hg=>by have:=H4.out;have h1:B≤g∧g<w5.heap.size:=hg;omega) hd9 HFL.out (by omega) (HEV.out w9 (HLB.out w9 k49)) o (.slice ca o.cuts.length cc) (HCV.out w9 (HLB.out w9 k49)) (HCF.out w9 (HBS.out w9 (HLB.out w9 k49))) (by have:=HSO.out;omega) (by have:=HSO.out;omega))
     clear p1 p2 hP8 HH8
     go_upto_region 15 with(first
      |(refine An rfl 29 _ rfl w.heap.size _ 29 _ rfl hP9 Tryz.underlying29 rfl Rx ?_)
      |(go_at_call 19;(with_reducible refine HD9.out.mono ?_);rintro e w10 ⟨rfl,k10,hd10⟩))
     have k410:Aa (BN B) w4 w10:=k49.step k10 fun g hg _=>hg.1
     have hP10:=HPX.out w10 k410
     have hz59:=k59.size
     have hz6:=k6.size
     have hra10:=(hra.no ((k7.trans k8).trans k9)).keeps k10 fun g hg e=>by have:=hoa g hg;omega
     have hrb10:=(hrb.no (k8.trans k9)).keeps k10 fun g hg e=>by have:=hob g hg;omega
     clear hP9 HD9 hdF hd6 hd7 hd8 hd9
     by_cases he:D.err o=0
     ·obtain⟨e1,e2,e3,e4⟩:=bQ he
      rw[e1,he]
      have hd10':=hd10
      have HD1:=Hx ((bg HFL.out o))
      have hHAS:=MU hd10 o.id
      rw[e2]at hHAS
      have HH10:=Hx hHAS
      have HLN:Hid (∀F W,C6 F b (D.act o) W→Calls Tryz.prog 21 #[.pointer (some ⟨b,0,none⟩)] W (Ua (D.ops.length+1) W)):=Hx fun F W h=>e3▸NQ h HD1.out (by omega)
      have HAG2:Hid (∀F W,(∀g,F g→(B≤g∧g<w5.heap.size)∨w9.heap.size≤g)→Aa (BN base) w W→C6 F b (D.act o) W→Calls Tryz.prog 19 #[.pointer (some ⟨b,0,none⟩),opV o (.slice ca o.cuts.length cc)] W (JJ F b 12 ((D.act o).act o) W)):=Hx fun F W hF kk h=>by
       have hx:=MV (fun g hg=>by have h1:=hF g hg;have h2:=H4.out;have h3:=HBS.out w9 (HLB.out w9 k49);omega) h HD1.out (by omega) (HEV.out W kk) o (.slice ca o.cuts.length cc) (HCV.out W kk) (fun hne g hg=>⟨fun e=>by have h1:=hF g e;have h2:=HOW.out hne g hg;have h3:=HBS.out w9 (HLB.out w9 k49);omega,by have h2:=HOW.out hne g hg;have h3:=HBS.out W kk;omega⟩) (by have:=HSO.out;omega) (by have:=HSO.out;omega)
       rw[e4]at hx
       exact hx
      have HLW:Hid (∀W,Aa (BN B) w4 W→Aa (BN base) w W):=HLB
      generalize D.ops.length=n at HLN hops⊢
      have hn1:(n:Int)≤39:=by omega
      have hn0:(0:Int)≤(n:Int):=by omega
      have p1:=Cx hP10 1
      have p2:=Cx hP10 2
      clear hHAS e1 e2 e3 e4 he hra10 hrb10 hra hrb hoa hob
      go_wp2_with(first
       |(go_at_call 22;(with_reducible refine HH10.out.mono ?_);rintro e w11 ⟨rfl,k11⟩;have hd11:=hd10'.no k11;have HL11:=Hx (HLN.out _ w11 hd11))
       |(go_at_call 21;(with_reducible refine HL11.out.mono ?_);rintro e w12 ⟨oa2,oc2,rfl,k12⟩;have hd12:=hd11.no k12;have k412:Aa (BN B) w4 w12:=(k410.no k11).no k12;have hP12:=HPX.out w12 k412;have HD12:=Hx (HAG2.out _ w12 (fun g hg=>hg) (HLB.out w12 k412) hd12))
       |(refine GW rfl 29 _ rfl w.heap.size _ 29 _ rfl hP12 Tryz.underlying29 rfl Rx ?_)
       |(go_at_call 19;(with_reducible refine HD12.out.mono ?_);rintro e w13 ⟨rfl,k13,hd13⟩))
      exact HPOST.out _ ((HLB.out w12 k412).step k13 fun g hg _=>by have h3:=HBS.out w9 (HLB.out w9 k49);rcases hg with hg|hg<;>(unfold BN;omega))
     ·have hact:=bV he
      rw[hact]at hd10
      have HLN10:=Hx (HLEN.out _ w10 hd10)
      generalize D.ops.length=n at HLN10 hops⊢
      have hne:(D.err o==0)=false:=by simp[he]
      obtain⟨hs,hhs⟩:∃hs,hs=D.has o.id:=⟨_,rfl⟩
      rw[←hhs]at HHAS⊢
      have HRA:=Hx hra10
      have HRB:=Hx hrb10
      clear hra hrb hra10 hrb10 he hact hhs
      have step1:True:=trivial
      go_upto_region 17 with(fail)
      go_wp2_with(first
       |(go_at_call 21;(with_reducible refine HLN10.out.mono ?_);rintro e w11 ⟨oa2,oc2,rfl,k11⟩;have hd11:=hd10.no k11;have HH11:=Hx (HHAS.out _ w11 hd11);have hP11:=k11.heap hP10 id;have p1:=Cx hP11 1;have p2:=Cx hP11 2)
       |(go_at_call 22;(with_reducible refine HH11.out.mono ?_);rintro e w12 ⟨rfl,k12⟩;have hd12:=hd11.no k12;have k412:Aa (BN B) w4 w12:=(k410.no k11).no k12;have hE12:=HEV.out w12 (HLB.out w12 k412);have r0:=hE12.root0;have r1:=hE12.root1;have hz0:0<w12.heap.size:=(by have:=hE12.size;omega);have HO12:Hid (Calls Tryz.prog 20 #[.pointer (some ⟨b,0,none⟩),.agg #[.int .i64 0,.int .i64 0]] w12 (LV (Dc.Vs D .z) w12)):=Hx (HOUT.out _ w12 hd12 .z))
       |(go_at_call 20;(with_reducible refine HO12.out.mono ?_);rintro e w13 ⟨vc,rfl,hrc,_,k13⟩;(obtain⟨aC,nC,cC,rfl⟩:=hrc.slice);have k1013:=(k11.trans k12).trans k13;have HS13:=Hx (Vm _ _ _ _ w13 (hrc.lies fun _=>rfl) ((HRA.out.no k1013).lies fun _=>rfl));rw[aG rfl]at HS13;have hd13:=hd12.no k13)
       |(go_at_call 23;(with_reducible refine HS13.out.mono ?_);rintro e w14 ⟨rfl,k14⟩;have hd14:=hd13.no k14;have k414:Aa (BN B) w4 w14:=(k412.no k13).no k14;have hE14:=HEV.out w14 (HLB.out w14 k414);have t0:=hE14.trash0;have t1:=hE14.trash1;have hz1:1<w14.heap.size:=(by have:=hE14.size;omega);have HO14:Hid (Calls Tryz.prog 20 #[.pointer (some ⟨b,0,none⟩),.agg #[.int .i64 1,.int .i64 0]] w14 (LV (Dc.Vs D .t) w14)):=Hx (HOUT.out _ w14 hd14 .t))
       |(go_at_call 20;(with_reducible refine HO14.out.mono ?_);rintro e w15 ⟨vd,rfl,hrd,_,k15⟩;(obtain⟨aD,nD,cD,rfl⟩:=hrd.slice);have k1015:=(k1013.trans k14).trans k15;have HS15:=Hx (Vm _ _ _ _ w15 (hrd.lies fun _=>rfl) ((HRB.out.no k1015).lies fun _=>rfl));rw[aG rfl]at HS15)
       |(go_at_call 23;(with_reducible refine HS15.out.mono ?_);rintro e w16 ⟨rfl,k16⟩))
      exact HPOST.out _ (((HLB.out w14 k414).no k15).no k16)
end Go.Proofs.YthfjefcljeamgaaGreatDoor
