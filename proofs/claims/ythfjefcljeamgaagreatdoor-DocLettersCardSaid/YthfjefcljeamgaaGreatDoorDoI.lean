/- The document: a block is moved as an op tells. -/
import Derived.Test.YthfjefcljeamgaaGreatDoorDoH
namespace Go.Proofs.YthfjefcljeamgaaGreatDoor
set_option maxRecDepth 100000
set_option maxHeartbeats 4000000
open Go.RowKit
attribute [local go_sem ↓] Go.wp_at_zero Go.wp_at_succ
/-- the tree and the children of a document agree -/
structure FN(s:DSt):Prop where
 same:s.g=s.f
 kids:Dc.CH s.f s.L
 ids:WQ s.ss s.ids
 chain:Ew Dc.Cj s.ss s.f
 sorted:(s.ss.map (·.m)).Pairwise fun a c=>Dc.Bi a c<0
 right:∀m∈s.ss.map (·.m),m.right=true
theorem FN.places{s:DSt}(h:FN s):s.f=Dc.Hf (s.ss.map (·.m)):=h.chain.eq
theorem FN.dom{s:DSt}(h:FN s):∀a,s.f a≠none→a∈(s.ss.map (·.m)).map (·.block):=fun a ha=>by rw[h.places]at ha;exact Dc.FT ha
/-- the places g, those of l as f' has them -/
def gAt(f':Dc.AB)(g:Dc.AB)(l:List Off.Bid):Dc.AB:=l.foldl (fun g a=>Dc.EG g a (f' a)) g
theorem Tm(f':Dc.AB):∀(l:List Off.Bid) (g:Dc.AB) (x:Off.Bid),gAt f' g l x=if x∈l then f' x else g x
 |[],_,_=>by simp[gAt]
 |a::l,g,x=>by
  show gAt f' (Dc.EG g a (f' a)) l x=_
  rw[Tm f' l]
  by_cases h1:x∈l
  ·rw[Ak h1,Ak (by simp[h1])]
  ·rw[Ae h1]
   unfold Dc.EG
   by_cases h2:x=a
   ·rw[Ak h2,Ak (by simp[h2]),h2]
   ·rw[Ae h2,Ae (by simp[h1,h2])]
theorem Wm{f' f:Dc.AB}{l:List Off.Bid}(h:∀x,x∈l↔f' x≠f x):gAt f' f l=f':=by
 funext x
 rw[Tm]
 split
 ·rfl
 ·rename_i hx
  exact Classical.byContradiction fun e=>hx ((h x).2 fun e2=>e e2.symm)
theorem VG{f' g:Dc.AB}{l:List Off.Bid}{k:Nat}(hk:k<l.length):gAt f' g (l.take (k+1))=Dc.EG (gAt f' g (l.take k)) (l[k]'hk) (f' (l[k]'hk)):=by
 unfold gAt
 rw[AW,Aj hk,Dy]
 rfl
theorem MY(ss:List Dc.CS)(m:Dc.C2):Dc.Ax (ss.map (·.m)) ((ss.takeWhile fun s=>decide (Dc.Bi s.m m<0)).length) m=Dc.DI (ss.map (·.m)) m:=by
 unfold Dc.DI Dc.Pi
 rw[List.takeWhile_map,AM]
 rfl
theorem E6.monoF{F F':Nat→Prop}{lab:Nat→Option Nu}{vo:Value}{bk bx bt bc bw b:Nat}{s:DSt}{w:World}(h:E6 F lab vo bk bx bt bc bw b s w)(hF:∀g,F g→g<w.heap.size→F' g):E6 F' lab vo bk bx bt bc bw b s w:=
 ⟨fun k hk=>⟨hF k (h.own k hk).1 (h.own k hk).2,(h.own k hk).2⟩,h.cells,h.self,h.ops,h.kindsL,h.kinds,h.tx,h.tree,h.kids,h.words⟩
def Nr(F:Nat→Prop)(b:Nat)(s:DSt)(m:Dc.C2)(w:World)(e:Ending)(w':World):Prop:=
 e= .returned (.tuple #[])∧Aa (fun g=>F g∧g<w.heap.size) w w'∧∃s',Eu (Bv F w) b s' w'∧FN s'∧s'.ss.map (·.m)=Dc.DI (s.ss.map (·.m)) m∧s'.ops=s.ops∧s'.kinds=s.kinds∧s'.tx=s.tx∧s'.words=s.words
theorem I2{F:Nat→Prop}{b:Nat}{s:DSt}{w:World}(h:Eu F b s w)(hF4:∀g,F g→4≤g)(hE:Env w)(ht:FN s)(hsz:s.ss.length≤900000)(o:Dc.Op)(cv:Value)(a:Off.Bid)(hm:(Dc.CN o a).right=true)(hid:s.ids o.id=none):
  Calls Tryz.prog 69 #[.pointer (some ⟨b,0,none⟩),opV o cv,idV a] w (Nr F b s (Dc.CN o a) w):=by
 obtain⟨lab,vo,bk,bx,bt,bc,bw,h⟩:=h
 obtain⟨aR,aN⟩:=a
 have hb:=h.cells
 have hpw:s.ss.Pairwise fun a c=>Dc.Bi a.m c.m<0:=List.pairwise_map.1 ht.sorted
 have HDO:=Hx (fun W (k:Aa No w W)=>R7 (fun g=>lab g=some .tree) bt s.ss s.ids s.f s.ch (Dc.CN o ⟨aR,aN⟩) W (hE.no k) (h.tree.keeps k fun _ _ e=>e) ht.ids ht.chain hpw (by omega))
 have herr:Jb s.ids (Dc.CN o ⟨aR,aN⟩)=0:=by
  unfold Jb
  have h1:IV (Dc.CN o ⟨aR,aN⟩)=true:=hm
  rw[Ae (by rw[h1];decide)]
  have h2:s.ids (Dc.CN o ⟨aR,aN⟩).id=none:=hid
  rw[h2]
  rfl
 have HERR:=Hx herr
 have HH:=Hx h
 have HT:=Hx ht
 have HM:=Hx hm
 have HID:=Hx hid
 have HE:=Hx hE
 have HF4:=Hx hF4
 have HPO:Hid (∀w' s',Aa (fun g=>F g∧g<w.heap.size) w w'→Eu (Bv F w) b s' w'→FN s'→s'.ss.map (·.m)=Dc.DI (s.ss.map (·.m)) (Dc.CN o ⟨aR,aN⟩)→s'.ops=s.ops→s'.kinds=s.kinds→s'.tx=s.tx→s'.words=s.words→
   Nr F b s (Dc.CN o ⟨aR,aN⟩) w (.returned (.tuple #[])) w'):=Hx fun w' s' h1 h2 h3 h4 h5 h6 h7 h8=>⟨rfl,h1,s',h2,h3,h4,h5,h6,h7,h8⟩
 generalize Nr F b s (Dc.CN o ⟨aR,aN⟩) w=post at HPO⊢
 clear h ht hpw hm hid herr hE hF4
 go_enter Tryz.func69,Tryz.ntmps69
 go_upto_region 1 with(fail)
 have k0:Aa No w ((w.alloc (.cells (As o cv) 29)).alloc (.cells #[.int .i64 aR,.int .i64 aN] 24)):=((Aa.refl No w).alloc _).alloc _
 have hP:=Ab (Nx w (.cells (As o cv) 29)) (.cells #[.int .i64 aR,.int .i64 aN] 24)
 have hA:=Nx (w.alloc (.cells (As o cv) 29)) (.cells #[.int .i64 aR,.int .i64 aN] 24)
 rw[World.size_alloc]at hA
 generalize (w.alloc (.cells (As o cv) 29)).alloc (.cells #[.int .i64 aR,.int .i64 aN] 24)=w1 at k0 hP hA⊢
 obtain⟨P,eP⟩:∃P,P=w.heap.size:=⟨_,rfl⟩
 obtain⟨A,eA⟩:∃A,A=w.heap.size+1:=⟨_,rfl⟩
 rw[←eP]at hP
 rw[←eA]at hA
 rw[←eA,←eP]
 have hPw:w.heap.size≤P:=by omega
 have hAw:w.heap.size≤A:=by omega
 clear eA eP
 have hb1:=k0.heap hb id
 have kd:Aa No w1 w1.drew:=(Aa.refl No w1).drew
 have HSA:Hid (∀W:World,W.heap[b]? =w1.heap[b]? →W.heap[P]? =w1.heap[P]? →W.heap[A]? =w1.heap[A]? →W.cell? ⟨b,3,none⟩=some (.pointer (some ⟨bt,0,none⟩))∧W.cell? ⟨P,1,none⟩=some (.int .i64 o.id.R)∧W.cell? ⟨P,2,none⟩=some (.int .i64 o.id.N)∧W.cell? ⟨A,0,none⟩=some (.int .i64 aR)∧W.cell? ⟨A,1,none⟩=some (.int .i64 aN)∧
   W.cell? ⟨P,6,none⟩=some (.int .i64 o.parent.R)∧W.cell? ⟨P,7,none⟩=some (.int .i64 o.parent.N)∧W.cell? ⟨P,8,none⟩=some (.string ⟨o.key.toArray⟩)):=Hx fun W e0 e1 e2=>
  ⟨Cx (e0.trans hb1) 3,Cx (e1.trans hP) 1,Cx (e1.trans hP) 2,Cx (e2.trans hA) 0,Cx (e2.trans hA) 1,Cx (e1.trans hP) 6,Cx (e1.trans hP) 7,Cx (e1.trans hP) 8⟩
 have hbl:=Ao hb1
 have hPl:=Ao hP
 have hAl:=Ao hA
 refine wp_region_held_drew (S:=fun W=>(W.cell? ⟨b,3,none⟩=some (.pointer (some ⟨bt,0,none⟩))∧W.cell? ⟨P,1,none⟩=some (.int .i64 o.id.R)∧W.cell? ⟨P,2,none⟩=some (.int .i64 o.id.N)∧W.cell? ⟨A,0,none⟩=some (.int .i64 aR)∧W.cell? ⟨A,1,none⟩=some (.int .i64 aN)∧
   W.cell? ⟨P,6,none⟩=some (.int .i64 o.parent.R)∧W.cell? ⟨P,7,none⟩=some (.int .i64 o.parent.N)∧W.cell? ⟨P,8,none⟩=some (.string ⟨o.key.toArray⟩))∧W.heap[P]? =w1.heap[P]?) Rx ⟨HSA.out _ (kd.block b hbl id) (kd.block P hPl id) (kd.block A hAl id),kd.block P hPl id⟩ (fun HS5=>?_)
 generalize w1.drew=w1d at kd HS5⊢
 refine Tx 0 ?_ ?_ ?_
 rotate_left
 focus
  intro wH hSw
  try simp only[Gx]
  try dsimp only at hSw
  go_simp
  try with_reducible rfl
 try simp only[Gx,Act.put,Sx]
 refine Tx 1 ?_ ?_ ?_
 rotate_left
 focus
  intro wH hSw
  try simp only[Gx]
  try dsimp only at hSw
  go_simp
  try with_reducible rfl
 try simp only[Gx,Act.put,Sx]
 refine Tx 2 ?_ ?_ ?_
 rotate_left
 focus
  intro wH hSw
  try simp only[Gx]
  try dsimp only at hSw
  go_simp
  try with_reducible rfl
 try simp only[Gx,Act.put,Sx]
 refine Tx 3 ?_ ?_ ?_
 rotate_left
 focus
  intro wH hSw
  try simp only[Gx]
  try dsimp only at hSw
  go_simp
  try with_reducible rfl
 try simp only[Gx,Act.put,Sx]
 refine wpAnyH_take (i:=4) (v:= .agg (As o cv)) rfl Rx Rx Rx (fun _ _ _ h=>h) (BA rfl _ _ rfl P _ 29 _ rfl (fun W h=>h.2.trans hP) Tryz.underlying29 rfl Rx) HS5 ?_
 simp only[Gx,Act.put,Sx]
 refine Tx 6 ?_ ?_ ?_
 rotate_left
 focus
  intro wH hSw
  try simp only[Gx]
  try dsimp only at hSw
  go_simp
  try with_reducible rfl
 try simp only[Gx,Act.put,Sx]
 refine Tx 7 ?_ ?_ ?_
 rotate_left
 focus
  intro wH hSw
  try simp only[Gx]
  try dsimp only at hSw
  go_simp
  try with_reducible rfl
 try simp only[Gx,Act.put,Sx]
 refine Tx 8 ?_ ?_ ?_
 rotate_left
 focus
  intro wH hSw
  try simp only[Gx]
  try dsimp only at hSw
  go_simp
  try with_reducible rfl
 try simp only[Gx,Act.put,Sx]
 refine Tx 9 ?_ ?_ ?_
 rotate_left
 focus
  intro wH hSw
  try simp only[Gx]
  try dsimp only at hSw
  go_simp
  try with_reducible rfl
 try simp only[Gx,Act.put,Sx]
 refine Tx 10 ?_ ?_ ?_
 rotate_left
 focus
  intro wH hSw
  try simp only[Gx]
  try dsimp only at hSw
  go_simp
  try with_reducible rfl
 try simp only[Gx,Act.put,Sx]
 refine Tx 11 ?_ ?_ ?_
 rotate_left
 focus
  intro wH hSw
  try simp only[Gx]
  try dsimp only at hSw
  go_simp
  try with_reducible rfl
 try simp only[Gx,Act.put,Sx]
 refine Tx 12 ?_ ?_ ?_
 rotate_left
 focus
  intro wH hSw
  try simp only[Gx]
  try dsimp only at hSw
  go_simp
  try with_reducible rfl
 try simp only[Gx,Act.put,Sx]
 refine wpAnyH_ready (rs:=[5]) Rx (by simp) ?_
 refine AllReadyH.cons rfl (fun K hK=>?_) ?_
 try simp only[Gx]at hK⊢
 rotate_left
 exact AllReadyH.nil
 go_simp
 go_at_call 71
 (with_reducible refine(Ko o cv _).mono ?_)
 rintro e w2 ⟨rfl,k2⟩
 have k12:=kd.trans k2
 refine hK.out _ _ ⟨HSA.out _ (k12.block b hbl id) (k12.block P hPl id) (k12.block A hAl id),k12.block P hPl id⟩ (fun HS6=>?_)
 clear hK
 try simp only[Act.put,Sx]
 refine Tx 13 ?_ ?_ ?_
 rotate_left
 focus
  intro wH hSw
  try simp only[Gx]
  try dsimp only at hSw
  go_simp
  try with_reducible rfl
 try simp only[Gx,Act.put,Sx]
 have kw2:=k0.trans k12
 have HDO2:Hid (Calls Tryz.prog 110 #[.pointer (some ⟨bt,0,none⟩),.agg #[.int .i64 o.t,.int .i64 o.id.R,.int .i64 o.id.R,.int .i64 o.id.N,.int .i64 aR,.int .i64 aN,.int .i64 o.parent.R,.int .i64 o.parent.N,.string ⟨o.key.toArray⟩]] w2 (FZ (fun g=>lab g=some .tree) bt s.ss s.ids s.f (Dc.CN o ⟨aR,aN⟩) w2)):=Hx (HDO.out _ kw2)
 refine wpAnyH_ready (rs:=[14]) Rx (by simp) ?_
 refine AllReadyH.cons rfl (fun K hK=>?_) ?_
 try simp only[Gx]at hK⊢
 rotate_left
 exact AllReadyH.nil
 go_simp
 go_at_call 110
 (with_reducible refine HDO2.out.mono ?_)
 rintro e w3 ⟨rfl,_,hdo⟩
 obtain⟨k3,F',ss',f',ch',htree,hF',hss,hchain,hch,hchl⟩:=hdo HERR.out
 have hH2:=HH.out.no kw2
 have hzw2:=kw2.size
 have hD3:=hH2.turnTree k3 htree hF'
 have hD3':=hD3.monoF (F':=Bv F w) fun g hg _=>hg.imp_right fun e=>by omega
 have hbk:∀g,lab g=some .tree→g<w.heap.size:=fun g hg=>(HH.out.own g (by rw[hg];simp)).2
 have hnb:¬lab b=some .tree:=by rw[HH.out.self];simp
 have k13b:w3.heap[b]? =w1.heap[b]? :=(k3.block b (AK hbl k12.size) hnb).trans (k12.block b hbl id)
 have k13P:w3.heap[P]? =w1.heap[P]? :=(k3.block P (AK hPl k12.size) (fun e=>by have:=hbk P e;omega)).trans (k12.block P hPl id)
 have k13A:w3.heap[A]? =w1.heap[A]? :=(k3.block A (AK hAl k12.size) (fun e=>by have:=hbk A e;omega)).trans (k12.block A hAl id)
 refine hK.out _ _ ⟨HSA.out _ k13b k13P k13A,k13P⟩ (fun HS7=>?_)
 clear hK
 try simp only[Act.put,Sx]
 refine wpAnyH_done Rx ?_ _
 have kw3:Aa (fun g=>F g∧g<w.heap.size) w w3:=kw2.any.step k3 fun g hg hl=>⟨(HH.out.own g (by rw[hg];simp)).1,hl⟩
 generalize Ee lab .tree w2.heap.size w3.heap.size=lab3 at hD3'
 have HD3:=Hx hD3'
 have HCH:=Hx hch
 have HCA:=Hx hchain
 have HSS:=Hx hss
 clear HDO HDO2 HSA HS5 HS6 HS7 hP hA hb1 hD3 hD3' htree hF' hdo hH2 k2 k3 k12 kd k0 k13b k13P k13A hch hchain hss hbk hnb hPl hAl hbl hPw hAw
 have hms:ss'.map (·.m)=Dc.DI (s.ss.map (·.m)) (Dc.CN o ⟨aR,aN⟩):=by rw[HSS.out,MY]
 have hlen':ss'.length=s.ss.length+1:=by
  have e:=congrArg List.length hms
  unfold Dc.DI at e
  rw[Dc.A3 (Dc.KR _ _),AM,AM]at e
  exact e
 have hmem:∀x,x∈ss'.map (·.m)↔x=Dc.CN o ⟨aR,aN⟩∨x∈s.ss.map (·.m):=fun x=>by rw[hms];exact Dc.FA
 have HTN:Hid (∀L,Dc.CH f' L→FN {s with ss:=ss',ids:=Db s.ids (Dc.CN o ⟨aR,aN⟩).id (some 1),f:=f',ch:=ch',g:=f',L:=L}):=Hx fun L hL=>⟨rfl,hL,by
   refine⟨fun x=>?_,fun x n hx=>?_⟩
   ·show Db s.ids o.id (some 1) x≠none↔_
    unfold Db
    have hex:(∃s∈ss',s.m.id=x)↔ ∃m∈ss'.map (·.m),m.id=x:=⟨fun⟨t,h1,h2⟩=>⟨t.m,A5.2 ⟨t,h1,rfl⟩,h2⟩,fun⟨m,h1,h2⟩=>by obtain⟨t,h3,rfl⟩:=A5.1 h1;exact⟨t,h3,h2⟩⟩
    rw[hex]
    by_cases e:x=o.id
    ·rw[Ak e]
     exact⟨fun _=>⟨_,(hmem _).2 (.inl rfl),e.symm⟩,fun _=>by simp⟩
    ·rw[Ae e,HT.out.ids.1 x]
     constructor
     ·rintro⟨t,h1,h2⟩
      exact⟨t.m,(hmem _).2 (.inr (A5.2 ⟨t,h1,rfl⟩)),h2⟩
     ·rintro⟨m,h1,h2⟩
      rcases(hmem m).1 h1 with rfl|h1
      ·exact absurd h2.symm e
      ·obtain⟨t,h3,rfl⟩:=A5.1 h1
       exact⟨t,h3,h2⟩
   ·have hx':Db s.ids o.id (some 1) x=some n:=hx
    unfold Db at hx'
    split at hx'
    ·cases hx';rfl
    ·exact HT.out.ids.2 x n hx',HCA.out,by
   show(ss'.map (·.m)).Pairwise _
   rw[hms]
   exact Dc.I6 HT.out.sorted fun x hx e=>by
    obtain⟨t,h1,rfl⟩:=A5.1 hx
    exact(HT.out.ids.1 o.id).2 ⟨t,h1,e⟩ HID.out,fun x hx=>by
   rcases(hmem x).1 hx with rfl|hx
   ·exact HM.out
   ·exact HT.out.right x hx⟩
 have hrep:f'=Dc.Hf (ss'.map (·.m)):=HCA.out.eq
 have HFI:Hid (∀x p,f' x=some p→Off.AV x=true∧Off.Bn p.parent=true∧Dc.D4 p.key=true∧x≠p.parent):=Hx fun x p hp=>by
  rw[hrep]at hp
  obtain⟨m,hm,rfl,h2,h3,h4⟩:=Dc.Lh hp
  have hmr:m.right=true:=by
   rcases(hmem m).1 hm with rfl|hm
   ·exact HM.out
   ·exact HT.out.right m hm
  unfold Dc.C2.right at hmr
  simp only[AN]at hmr
  exact⟨hmr.1.1.2,h2▸hmr.1.2,h3▸hmr.2,fun e=>h4 (by rw[h2,←e])⟩
 obtain⟨dom,hdom⟩:∃dom,dom=(ss'.map (·.m)).map (·.block):=⟨_,rfl⟩
 have hdl:dom.length≤1000000:=by rw[hdom,AM,AM,hlen'];omega
 have HDOM:Hid (∀l x,gAt f' s.g l x≠none→x∈dom):=Hx fun l x hx=>by
  rw[Tm]at hx
  rw[hdom]
  split at hx
  ·rw[hrep]at hx;exact Dc.FT hx
  ·rw[HT.out.same]at hx
   obtain⟨m,h1,h2⟩:=A5.1 (HT.out.dom x hx)
   exact A5.2 ⟨m,(hmem m).2 (.inr h1),h2⟩
 have HALL:Hid (gAt f' s.g ch'=f'):=Hx (by rw[HT.out.same];exact Wm HCH.out)
 have HMS:=Hx hms
 have HKO:Hid (Dc.CH s.g s.L):=Hx (by rw[HT.out.same];exact HT.out.kids)
 generalize Db s.ids (Dc.CN o ⟨aR,aN⟩).id (some 1)=ids' at HD3 HTN
 clear hms hlen' hmem hrep hdom hsz
 obtain⟨m0,hm0⟩:∃m0,m0=Dc.CN o ⟨aR,aN⟩:=⟨_,rfl⟩
 have hb3:=HD3.out.cells
 have b3:=Cx hb3 3
 have HCG:=Hx (RA HD3.out.tree (AG hchl (by decide)))
 go_wp2_with(go_at_call 111;(with_reducible refine HCG.out.mono ?_);rintro e w4 ⟨v,rfl,hrow4,hown4,k4⟩;(obtain⟨ao,cp,rfl⟩:∃ao cp,v= .slice ao ch'.length cp:=by(rcases hrow4.form with⟨rfl,rfl⟩|⟨g',cap,_,rfl,_⟩<;>exact⟨_,_,rfl⟩)))
 clear b3
 have HV0:Hid (∀y,(Value.slice ao ch'.length cp).ownBlock=some y→lab3 y=none):=Hx fun y hy=>by
  cases hl:lab3 y with
  |none=>rfl
  |some c=>have h1:=(HD3.out.own y (by rw[hl];simp)).2;have h2:=hown4 y hy;omega
 have hD4:=HD3.out.no k4
 have hw34:=k4.size
 go_loopg [31] ch'.length (fun kx s31 wr=>∃(k:Nat) (lab:Nat→Option Nu) (L:Dc.CZ),s31= .int .i64 k∧E6 (Bv F w) lab vo bk bx bt bc bw b {s with ss:=ss',ids:=ids',f:=f',ch:=ch',g:=gAt f' s.g (ch'.take k),L:=L} wr∧Dc.CH (gAt f' s.g (ch'.take k)) L∧(∀y,(Value.slice ao ch'.length cp).ownBlock=some y→lab y=none)∧k≤ch'.length∧ch'.length-k≤kx∧Aa (fun g=>F g∧g<w.heap.size) w wr∧Aq 24 2 Bf (.slice ao ch'.length cp) ch' wr)
 case atStart=>exact⟨0,lab3,s.L,rfl,hD4,HKO.out,HV0.out,Ah _,Ac _,kw3.no k4,hrow4⟩
 case round=>
  obtain⟨k,labk,Lk,rfl,hDk,hKk,hVk,hk,hkx,kr,hrow⟩:=hrel
  by_cases hlt:k<ch'.length
  ·obtain⟨g,cap,e1,hcap,_⟩:=hrow.at (by omega)
   injection e1 with e1 e2 e3
   subst e1 e3
   obtain⟨x0,x1⟩:=hrow.idO hlt
   have htk:=VG (f':=f') (g:=s.g) hlt
   obtain⟨⟨yR,yN⟩,hy⟩:∃y,y=ch'[k]'hlt:=⟨_,rfl⟩
   rw[←hy]at x0 x1 htk
   have kI0:(0:Int)≤(k:Int):=by omega
   have kI1:(k:Int)<(ch'.length:Int):=by omega
   have HD:=Hx hDk
   have HKO2:=Hx hKk
   have HV:=Hx hVk
   have HTK:=Hx htk
   have HRW:=Hx hrow
   have HDM:=Hx (HDOM.out (ch'.take k))
   have hEr:Env wr:=HE.out.keeps kr fun g hg=>HF4.out g hg.1
   have hwr:=kr.size
   clear e2 hy htk hDk hKk hVk hrow
   go_upto_region 5 with(fail)
   have k6:Aa No wr (wr.alloc (.cells #[.int .i64 yR,.int .i64 yN] 24)):=(Aa.refl No wr).alloc _
   have hY:=Nx wr (.cells #[.int .i64 yR,.int .i64 yN] 24)
   clear x0 x1
   generalize wr.alloc (.cells #[.int .i64 yR,.int .i64 yN] 24)=w6 at k6 hY⊢
   obtain⟨Y,eY⟩:∃Y,Y=wr.heap.size:=⟨_,rfl⟩
   rw[←eY]at hY⊢
   have hYr:wr.heap.size≤Y:=by omega
   clear eY
   have hD6:=HD.out.no k6
   have hb6:=hD6.cells
   obtain⟨vs,bi,bp,vc,t1,_,_,t4,_⟩:=hD6.tree
   have HPL:=Hx (fun W (k:Aa No w6 W)=>Ul bt bi bp vs vc f' yR yN W (k.heap t1 id) (t4.keeps k id))
   have hE6:=hEr.no k6
   clear t1 t4
   obtain⟨ok,hok⟩:∃ok,ok=(f' ⟨yR,yN⟩).isSome:=⟨_,rfl⟩
   obtain⟨pl',hpl⟩:∃p,p=pl f' ⟨yR,yN⟩:=⟨_,rfl⟩
   rw[←hok,←hpl]at HPL
   have kd6:Aa No w6 w6.drew:=(Aa.refl No w6).drew
   have HSA:Hid (∀W:World,Aa No w6 W→W.cell? ⟨b,3,none⟩=some (.pointer (some ⟨bt,0,none⟩))∧W.cell? ⟨Y,0,none⟩=some (.int .i64 yR)∧W.cell? ⟨Y,1,none⟩=some (.int .i64 yN)):=Hx fun W k=>
    ⟨Cx (k.heap hb6 id) 3,Cx (k.heap hY id) 0,Cx (k.heap hY id) 1⟩
   have HS0:=HSA.out _ kd6
   have HOKK:=Hx hok
   have HPLL:=Hx hpl
   clear hok hpl hD6 hb3
   go_cut[8,9] (fun s8 s9 wx=>∃g:Nat,s8= .pointer (some ⟨g,0,none⟩)∧s9= .bool ok∧It g pl' wx∧w6.heap.size≤g∧Aa No w6 wx)
   case first=>
    refine wp_region_held_drew (S:=fun W=>W.cell? ⟨b,3,none⟩=some (.pointer (some ⟨bt,0,none⟩))∧W.cell? ⟨Y,0,none⟩=some (.int .i64 yR)∧W.cell? ⟨Y,1,none⟩=some (.int .i64 yN)) Rx HS0 (fun HS5=>?_)
    generalize w6.drew=w6d at kd6 HS0 HS5⊢
    refine Tx 0 ?_ ?_ ?_
    rotate_left
    focus
     intro wH hSw
     try simp only[Gx]
     try dsimp only at hSw
     go_simp
     try with_reducible rfl
    try simp only[Gx,Act.put,Sx]
    refine Tx 1 ?_ ?_ ?_
    rotate_left
    focus
     intro wH hSw
     try simp only[Gx]
     try dsimp only at hSw
     go_simp
     try with_reducible rfl
    try simp only[Gx,Act.put,Sx]
    refine Tx 2 ?_ ?_ ?_
    rotate_left
    focus
     intro wH hSw
     try simp only[Gx]
     try dsimp only at hSw
     go_simp
     try with_reducible rfl
    try simp only[Gx,Act.put,Sx]
    refine Tx 3 ?_ ?_ ?_
    rotate_left
    focus
     intro wH hSw
     try simp only[Gx]
     try dsimp only at hSw
     go_simp
     try with_reducible rfl
    try simp only[Gx,Act.put,Sx]
    refine Tx 4 ?_ ?_ ?_
    rotate_left
    focus
     intro wH hSw
     try simp only[Gx]
     try dsimp only at hSw
     go_simp
     try with_reducible rfl
    try simp only[Gx,Act.put,Sx]
    refine wpAnyH_ready (rs:=[5,9]) Rx (by simp) ?_
    refine AllReadyH.cons rfl (fun K hK=>?_) ?_
    try simp only[Gx]at hK⊢
    ·go_simp
     go_at_call 75
     (with_reducible refine(HPL.out _ kd6).mono ?_)
     rintro e w7 ⟨rfl,k7⟩
     have k67:=kd6.trans k7
     refine hK.out _ _ (HSA.out _ k67) (fun HS7=>?_)
     clear hK
     try simp only[Act.put,Sx]
     refine Tx 6 ?_ ?_ ?_
     rotate_left
     focus
      intro wH hSw
      try simp only[Gx]
      try dsimp only at hSw
      go_simp
      try with_reducible rfl
     try simp only[Gx,Act.put,Sx]
     refine Tx 7 ?_ ?_ ?_
     rotate_left
     focus
      intro wH hSw
      try simp only[Gx]
      try dsimp only at hSw
      go_simp
      try with_reducible rfl
     try simp only[Gx,Act.put,Sx]
     refine Tx 8 ?_ ?_ ?_
     rotate_left
     focus
      intro wH hSw
      try simp only[Gx]
      try dsimp only at hSw
      go_simp
      try with_reducible rfl
     try simp only[Gx,Act.put,Sx]
     refine wpAnyH_ready (rs:=[9]) Rx (by simp) ?_
     refine AllReadyH.cons rfl (fun K hK=>?_) ?_
     try simp only[Gx]at hK⊢
     rotate_left
     exact AllReadyH.nil
     refine FR (a:={tmps:=_,defers:=_}) rfl 45 rfl (.agg #[.int .i64 0,.int .i64 0,.string ⟨#[]⟩]) (fun _=>by kernel_rfl) ?_
     have k68:Aa No w6 (w7.alloc (.cells #[.int .i64 0,.int .i64 0,.string ⟨#[]⟩] 45)):=k67.alloc _
     have hz8:=k67.size
     refine hK.out _ _ (HSA.out _ k68) (fun HS8=>?_)
     clear hK
     try simp only[Act.put,Sx]
     refine wpAnyH_ready (rs:=[10]) Rx (by simp) ?_
     refine AllReadyH.cons rfl (fun K hK=>?_) ?_
     try simp only[Gx]at hK⊢
     rotate_left
     exact AllReadyH.nil
     refine Df (a:={tmps:=_,defers:=_}) rfl 45 _ _ rfl w7.heap.size (D6 pl') _ 45 rfl rfl (Nx w7 (.cells #[.int .i64 0,.int .i64 0,.string ⟨#[]⟩] 45)) rfl Rx rfl ?_
     intro w8 hb8 k8
     have k69:Aa No w6 w8:=k68.step k8 fun y hy hl=>by unfold At1 at hy;omega
     refine hK.out _ _ (HSA.out _ k69) (fun HS9=>?_)
     clear hK
     try simp only[Act.put]
     refine Tx 11 ?_ ?_ ?_
     rotate_left
     focus
      intro wH hSw
      try simp only[Gx]
      try dsimp only at hSw
      go_simp
      try with_reducible rfl
     try simp only[Gx,Act.put,Sx]
     refine wpAnyH_done Rx ?_ _
     go_wp2_with fail
     go_meet
     exact⟨_,rfl,rfl,hb8,hz8,k69⟩
    refine AllReadyH.cons rfl (fun K hK=>?_) ?_
    try simp only[Gx]at hK⊢
    focus
      refine FR (a:={tmps:=_,defers:=_}) rfl 45 rfl (.agg #[.int .i64 0,.int .i64 0,.string ⟨#[]⟩]) (fun _=>by kernel_rfl) ?_
      have k67:Aa No w6 (w6d.alloc (.cells #[.int .i64 0,.int .i64 0,.string ⟨#[]⟩] 45)):=kd6.alloc _
      have hz7:=kd6.size
      have hB7:=Nx w6d (.cells #[.int .i64 0,.int .i64 0,.string ⟨#[]⟩] 45)
      refine hK.out _ _ (HSA.out _ k67) (fun HS7=>?_)
      clear hK
      try simp only[Act.put,Sx]
      refine wpAnyH_ready (rs:=[5]) Rx (by simp) ?_
      refine AllReadyH.cons rfl (fun K hK=>?_) ?_
      try simp only[Gx]at hK⊢
      rotate_left
      exact AllReadyH.nil
      go_simp
      go_at_call 75
      (with_reducible refine(HPL.out _ k67).mono ?_)
      rintro e w8 ⟨rfl,k8⟩
      have k68:=k67.trans k8
      have hB8:=k8.heap hB7 id
      refine hK.out _ _ (HSA.out _ k68) (fun HS8=>?_)
      clear hK
      try simp only[Act.put,Sx]
      refine Tx 6 ?_ ?_ ?_
      rotate_left
      focus
       intro wH hSw
       try simp only[Gx]
       try dsimp only at hSw
       go_simp
       try with_reducible rfl
      try simp only[Gx,Act.put,Sx]
      refine Tx 7 ?_ ?_ ?_
      rotate_left
      focus
       intro wH hSw
       try simp only[Gx]
       try dsimp only at hSw
       go_simp
       try with_reducible rfl
      try simp only[Gx,Act.put,Sx]
      refine Tx 8 ?_ ?_ ?_
      rotate_left
      focus
       intro wH hSw
       try simp only[Gx]
       try dsimp only at hSw
       go_simp
       try with_reducible rfl
      try simp only[Gx,Act.put,Sx]
      refine wpAnyH_ready (rs:=[10]) Rx (by simp) ?_
      refine AllReadyH.cons rfl (fun K hK=>?_) ?_
      try simp only[Gx]at hK⊢
      rotate_left
      exact AllReadyH.nil
      refine Df (a:={tmps:=_,defers:=_}) rfl 45 _ _ rfl w6d.heap.size (D6 pl') _ 45 rfl rfl hB8 rfl Rx rfl ?_
      intro w9 hb9 k9
      have k69:Aa No w6 w9:=k68.step k9 fun y hy hl=>by unfold At1 at hy;omega
      refine hK.out _ _ (HSA.out _ k69) (fun HS9=>?_)
      clear hK
      try simp only[Act.put]
      refine Tx 11 ?_ ?_ ?_
      rotate_left
      focus
       intro wH hSw
       try simp only[Gx]
       try dsimp only at hSw
       go_simp
       try with_reducible rfl
      try simp only[Gx,Act.put,Sx]
      refine wpAnyH_done Rx ?_ _
      go_wp2_with fail
      go_meet
      exact⟨_,rfl,rfl,hb9,hz7,k69⟩
    exact AllReadyH.nil
   case rest=>
    obtain⟨PB,rfl,rfl,hPB,hPBr,kc⟩:=hcut
    obtain⟨w7,hw7⟩:∃y,y=wc:=⟨_,rfl⟩
    subst hw7
    have k67:=k6.trans kc
    have hD7:=HD.out.no k67
    have hb7:=hD7.cells
    have hY7:=kc.heap hY id
    have hE7:=hE6.no kc
    have HNW:Hid (∀y,wr.heap.size≤y→¬labk y=some .kids):=Hx fun y hy e=>by have:=(HD.out.own y (by rw[e];simp)).2;omega
    have HNB:Hid (¬labk b=some .kids):=Hx (by rw[HD.out.self];simp)
    have hz6:=k6.size
    clear HPL HS0
    cases ok with
    |true=>
     obtain⟨p,hp⟩:∃p,f' ⟨yR,yN⟩=some p:=D8.1 HOKK.out.symm
     have hpl:pl'=p:=by rw[HPLL.out];unfold pl;rw[hp];rfl
     subst hpl
     obtain⟨r1,r2,r3,r4⟩:=HFI.out _ _ hp
     go_upto_region 7 with(fail)
     have kd7:Aa No w7 w7.drew:=(Aa.refl No w7).drew
     have hb7d:=kd7.heap hb7 id
     have hY7d:=kd7.heap hY7 id
     have hPB7d:w7.drew.heap[PB]? =_:=kd7.heap hPB id
     have hD7d:=hD7.no kd7
     have HST:=Hx (QX hD7d.kids HKO2.out (hE7.no kd7) ⟨yR,yN⟩ pl' dom HDM.out hdl r1 r2 r3 r4)
     have HSB:Hid (∀W:World,W.heap[b]? =some (.cells (Il vo bk bx bt bc bw) 113 (0,0))→W.heap[Y]? =some (.cells #[.int .i64 yR,.int .i64 yN] 24 (0,0))→W.heap[PB]? =some (.cells (D6 pl') 45 (0,0))→W.cell? ⟨b,4,none⟩=some (.pointer (some ⟨bc,0,none⟩))∧W.cell? ⟨Y,0,none⟩=some (.int .i64 yR)∧W.cell? ⟨Y,1,none⟩=some (.int .i64 yN)∧W.cell? ⟨PB,0,none⟩=some (.int .i64 pl'.parent.R)∧W.cell? ⟨PB,1,none⟩=some (.int .i64 pl'.parent.N)∧W.cell? ⟨PB,2,none⟩=some (.string ⟨pl'.key.toArray⟩)):=Hx fun W e0 e1 e2=>
      ⟨Cx e0 4,Cx e1 0,Cx e1 1,Cx e2 0,Cx e2 1,Cx e2 2⟩
     have HS0:=HSB.out _ hb7d hY7d hPB7d
     have HDD:=Hx hD7d
     have HB7:=Hx hb7d
     have HY7:=Hx hY7d
     have HPB7:=Hx hPB7d
     clear hD7d hD7 hb7 hY7 hPB hb7d hY7d hPB7d hb6 HSA hY
     go_region_held3(fun W=>W.cell? ⟨b,4,none⟩=some (.pointer (some ⟨bc,0,none⟩))∧W.cell? ⟨Y,0,none⟩=some (.int .i64 yR)∧W.cell? ⟨Y,1,none⟩=some (.int .i64 yN)∧W.cell? ⟨PB,0,none⟩=some (.int .i64 pl'.parent.R)∧W.cell? ⟨PB,1,none⟩=some (.int .i64 pl'.parent.N)∧W.cell? ⟨PB,2,none⟩=some (.string ⟨pl'.key.toArray⟩))
      (first|exact HS0|exact HS1)
      (first
       |(go_at_call 112;(with_reducible refine HST.out.mono ?_);rintro e w8 ⟨rfl,k8,L',hkids,hko⟩;have HS1:=HSB.out _ (k8.heap HB7.out HNB.out) (k8.heap HY7.out (HNW.out _ (by omega))) (k8.heap HPB7.out (HNW.out _ (by omega)))))
     all_goals
      have hD8:=(HDD.out.turnKids k8 hkids).monoF (F':=Bv F w) fun g hg _=>hg.elim id fun e=> .inr (by have:=(k67.trans kd7).size;omega)
      have HD8:=Hx hD8
      have HKO8:=Hx hko
      have kr8:Aa (fun g=>F g∧g<w.heap.size) w w8:=(kr.no (k67.trans kd7)).step k8 fun g hg hl=>⟨(HD.out.own g (by rw[hg];simp)).1.elim id fun e=>by omega,hl⟩
      have hrw8:=(HRW.out.no (k67.trans kd7)).keeps k8 fun g hg e=>by rw[HV.out g hg]at e;cases e
      have HV8:Hid (∀y,(Value.slice (some ⟨g,0,none⟩) ch'.length cp).ownBlock=some y→Ee labk .kids w7.drew.heap.size w8.heap.size y=none):=Hx fun y hy=>by
       unfold Ee
       have h1:=HRW.out.own_lt hy
       have h2:=(k67.trans kd7).size
       rw[Ae (by omega)]
       exact HV.out y hy
      clear hD8 hko hkids k8 HSB HST HDD
      go_wp2_with fail
      go_roundg (ch'.length-(k+1))
      case measure=>omega
      case rel=>exact⟨k+1,_,L',by go_num,by rw[HTK.out,hp];exact HD8.out,by rw[HTK.out,hp];exact HKO8.out,HV8.out,hlt,Ac _,kr8,hrw8⟩
    |false=>
     have hp:f' ⟨yR,yN⟩=none:=by
      have:=HOKK.out
      cases h:f' ⟨yR,yN⟩with
      |none=>rfl
      |some p=>rw[h]at this;cases this
     have hlz:∀q,(Lk q).length≤1000000:=fun q=>AG (Dc.J4 HKO2.out HDM.out q) hdl
     go_upto_region 8 with(fail)
     have kd7:Aa No w7 w7.drew:=(Aa.refl No w7).drew
     have hb7d:=kd7.heap hb7 id
     have hY7d:=kd7.heap hY7 id
     have hPB7d:w7.drew.heap[PB]? =_:=kd7.heap hPB id
     have hD7d:=hD7.no kd7
     have HST:=Hx (J6 hD7d.kids HKO2.out ⟨yR,yN⟩ hlz)
     have HSB:Hid (∀W:World,W.heap[b]? =some (.cells (Il vo bk bx bt bc bw) 113 (0,0))→W.heap[Y]? =some (.cells #[.int .i64 yR,.int .i64 yN] 24 (0,0))→W.heap[PB]? =some (.cells (D6 pl') 45 (0,0))→W.cell? ⟨b,4,none⟩=some (.pointer (some ⟨bc,0,none⟩))∧W.cell? ⟨Y,0,none⟩=some (.int .i64 yR)∧W.cell? ⟨Y,1,none⟩=some (.int .i64 yN)):=Hx fun W e0 e1 _=>
      ⟨Cx e0 4,Cx e1 0,Cx e1 1⟩
     have HS0:=HSB.out _ hb7d hY7d hPB7d
     have HDD:=Hx hD7d
     have HB7:=Hx hb7d
     have HY7:=Hx hY7d
     have HPB7:=Hx hPB7d
     clear hD7d hD7 hb7 hY7 hPB hb7d hY7d hPB7d hb6 HSA hY
     go_region_held3(fun W=>W.cell? ⟨b,4,none⟩=some (.pointer (some ⟨bc,0,none⟩))∧W.cell? ⟨Y,0,none⟩=some (.int .i64 yR)∧W.cell? ⟨Y,1,none⟩=some (.int .i64 yN))
      (first|exact HS0|exact HS1)
      (first
       |(go_at_call 113;(with_reducible refine HST.out.mono ?_);rintro e w8 ⟨ok8,rfl,k8,L',hkids,hko⟩;have HS1:=HSB.out _ (k8.heap HB7.out HNB.out) (k8.heap HY7.out (HNW.out _ (by omega))) (k8.heap HPB7.out (HNW.out _ (by omega)))))
     all_goals
      have hD8:=(HDD.out.turnKids k8 hkids).monoF (F':=Bv F w) fun g hg _=>hg.elim id fun e=> .inr (by have:=(k67.trans kd7).size;omega)
      have HD8:=Hx hD8
      have HKO8:=Hx hko
      have kr8:Aa (fun g=>F g∧g<w.heap.size) w w8:=(kr.no (k67.trans kd7)).step k8 fun g hg hl=>⟨(HD.out.own g (by rw[hg];simp)).1.elim id fun e=>by omega,hl⟩
      have hrw8:=(HRW.out.no (k67.trans kd7)).keeps k8 fun g hg e=>by rw[HV.out g hg]at e;cases e
      have HV8:Hid (∀y,(Value.slice (some ⟨g,0,none⟩) ch'.length cp).ownBlock=some y→Ee labk .kids w7.drew.heap.size w8.heap.size y=none):=Hx fun y hy=>by
       unfold Ee
       have h1:=HRW.out.own_lt hy
       have h2:=(k67.trans kd7).size
       rw[Ae (by omega)]
       exact HV.out y hy
      clear hD8 hko hkids k8 HSB HST HDD
      go_wp2_with fail
      go_roundg (ch'.length-(k+1))
      case measure=>omega
      case rel=>exact⟨k+1,_,L',by go_num,by rw[HTK.out,hp];exact HD8.out,by rw[HTK.out,hp];exact HKO8.out,HV8.out,hlt,Ac _,kr8,hrw8⟩
  ·obtain rfl:k=ch'.length:=by omega
   rw[AH,HALL.out]at hDk hKk
   have HQ:=Hx (HPO.out wr _ kr ⟨_,_,_,_,_,_,_,hDk⟩ (HTN.out Lk hKk) HMS.out rfl rfl rfl rfl)
   clear hDk hKk hrow
   go_wp2_with fail
   exact bodyPost_end (v:= .tuple #[]) (by simp[results,Tryz.results69]) rfl HQ.out
end Go.Proofs.YthfjefcljeamgaaGreatDoor
