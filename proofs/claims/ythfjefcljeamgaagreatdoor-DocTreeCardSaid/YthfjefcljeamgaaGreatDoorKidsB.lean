/- joined: slices.Delete of one element at the document's rows of structures. The children of blocks: what lies on the heap; none at first. The children of blocks: where one stands, or would. -/
import Derived.Test.YthfjefcljeamgaaGreatDoorIns
import Derived.Outline
import Derived.Test.YthfjefcljeamgaaGreatDoorSortIds
import Derived.Test.YthfjefcljeamgaaGreatDoorBsf
import Derived.StillTailTactics
namespace Go.Proofs.YthfjefcljeamgaaGreatDoor
set_option maxRecDepth 100000
set_option maxHeartbeats 4000000
section
open Go.RowKit
theorem PQ(v:Value)(l:List Dc.C0)(i:Nat)(w:World)(hrow0:Aq 278 3 Ar v l w)(hi:i<l.length):
  Calls Tryz.prog 177 #[v,.int .i64 i,.int .i64 ((i:Int)+1)] w (A6 278 3 Ar v (l.eraseIdx i) w):=by
 obtain⟨i0,hii,hz0,hz1,hz2⟩:=info_parts KV
 obtain⟨g,cap,rfl,hcap,hcm⟩:=hrow0.at (by omega)
 have hrow:=hrow0
 obtain⟨cur,hg,hcs,htk⟩:∃cur,w.heap[g]? =some (.cells cur 278 (0,0))∧cur.size=cap*3∧cur.toList.take (l.length*3)=l.flatMap Ar:=by
  rcases hrow.form with⟨h,_⟩|⟨g',c',cur,h,h1,_,h3,h4,h5⟩
  ·cases h
  ·simp only[Value.slice.injEq,AZ,Addr.mk.injEq,DX,DW]at h
   obtain⟨rfl,rfl⟩:=h
   exact⟨cur,h1,h4,h5⟩
 have hgl:=Ao hg
 have hL:(l.flatMap Ar).length=l.length*3:=Az BX l
 have hcell:∀j u,(l.flatMap Ar)[j]? =some u→w.cell? ⟨g,j,none⟩=some u:=fun j u hj=>by
  rw[←htk]at hj
  rw[Cx hg,←Aw]
  rw[AO]at hj
  split at hj
  ·exact hj
  ·cases hj
 have hone:∀u∈l.flatMap Ar,u.oneCell'=true:=fun u hu=>by
  obtain⟨y,_,hy⟩:=Ba.1 hu
  exact GH y u hy
 have hfin:∀(w':World) (cur':Array Value),w'.heap[g]? =some (.cells cur' 278 (0,0))→cur'.size=cap*3→cur'.toList.take ((l.length-1)*3)=(l.take i).flatMap Ar++(l.drop (i+1)).flatMap Ar→Aa (At1 g) w w'→
   A6 278 3 Ar (.slice (some ⟨g,0,none⟩) l.length cap) (l.eraseIdx i) w (.returned (.slice (some ⟨g,0,none⟩) (l.length-1) cap)) w':=by
  intro w' cur' h1 h2 h5 h6
  have hl2:(l.eraseIdx i).length=l.length-1:=by rw[List.length_eraseIdx,Ak hi]
  exact⟨_,rfl,⟨by rw[Az BX],.inr ⟨g,cap,cur',by rw[hl2],Ah _,h1,by omega,hcm,h2,by rw[hl2,List.eraseIdx_eq_take_drop_succ,BU];exact h5⟩⟩,h6.mono fun k hk _=>by(unfold At1 at hk;subst hk;rfl),fun k hk=> .inl hk⟩
 have hc0:¬cap<l.length:=by omega
 have hcm':cap≤9223372036854775807:=by unfold maxLen at hcm;omega
 generalize hN:l.length=n at*
 have HN:=Hx hN
 generalize hLL:l.flatMap Ar=L at*
 have HL:=Hx hLL
 have hcpA:∀(ad:Addr) (W:World),W.heap=w.heap→(ad=⟨g,(i+1)*3,none⟩∨i+1=n)→∀ty sc,(Builtin.append_ #[275,275] ty #[.slice (some ⟨g,0,none⟩) i cap,.slice (some ad) (n-(i+1)) sc]).run Tryz.prog W= .ok (.slice (some ⟨g,0,none⟩) (n-1) cap) (W.setCells g (i*3) (L.drop ((i+1)*3))):=fun ad W hW hh ty sc=>by
  have h:=KE W 275 ty 278 i0 3 Tryz.underlying275 hii hz1 g i cap (by rw[hW];exact hg) ad (n-(i+1)) sc (L.drop ((i+1)*3)) (by rw[Am,hL];omega)
   (fun j u hj=>by
    rw[B5]at hj
    rcases hh with rfl|hh
    ·have hadd:(⟨g,(i+1)*3,none⟩:Addr).add j=⟨g,(i+1)*3+j,none⟩:=by unfold Addr.add;split<;>simp_all
     rw[hadd,World.cell?_of_block (w:=w) (by rw[hW])]
     exact hcell _ u hj
    ·exfalso
     have:=(AS.1 hj).1
     rw[hL]at this
     omega)
   (fun u hu=>hone u (BC hu)) (by omega) (by rw[Am,hL,hcs];omega)
  rw[show i+(n-(i+1))=n-1 by omega]at h
  exact h
 obtain⟨W2,hW2⟩:∃W2,W2=w.drew.setCells g (i*3) (L.drop ((i+1)*3)):=⟨_,rfl⟩
 obtain⟨cur2,h2,h2l⟩:=Bc (L.drop ((i+1)*3)) (i*3) w.drew cur hg (by rw[Am,hL,hcs];omega)
 rw[←hW2]at h2
 have h2s:cur2.size=cap*3:=by
  have:=congrArg List.length h2l
  simp only[AX,Ai,Ad,Am,hL,hcs]at this
  omega
 have kk2:Aa (At1 g) w W2:=by
  rw[hW2]
  exact A4 _ _ _ ((Aa.refl (At1 g) w).drew)
 have hcpA':∀(ad:Addr),(ad=⟨g,(i+1)*3,none⟩∨i+1=n)→∀ty sc,(Builtin.append_ #[275,275] ty #[.slice (some ⟨g,0,none⟩) i cap,.slice (some ad) (n-(i+1)) sc]).run Tryz.prog w.drew= .ok (.slice (some ⟨g,0,none⟩) (n-1) cap) W2:=fun ad hh ty sc=>by
  rw[hW2];exact hcpA ad w.drew rfl hh ty sc
 have hzc:(Builtin.zeroCells (.agg #[.string ⟨#[]⟩,.int .i64 0,.int .i64 0]:Value).cells 1).toList=[.string ⟨#[]⟩,.int .i64 0,.int .i64 0]:=by simp[Builtin.zeroCells,Value.cells];rfl
 have hz:(Builtin.zeroCells (.agg #[.string ⟨#[]⟩,.int .i64 0,.int .i64 0]:Value).cells 1).toList.length=3:=by rw[hzc];rfl
 have hcl:∀ty c,(Builtin.clear_ #[275] ty #[.slice (some ⟨g,(n-1)*3,none⟩) 1 c]).run Tryz.prog W2= .ok (.tuple #[]) (W2.setCells g ((n-1)*3) (Builtin.zeroCells (.agg #[.string ⟨#[]⟩,.int .i64 0,.int .i64 0]:Value).cells 1).toList):=fun ty c=>
  Qs W2 275 278 ty (.agg #[.string ⟨#[]⟩,.int .i64 0,.int .i64 0]) g ((n-1)*3) 1 c Tryz.underlying275 (fun w=>by kernel_rfl) h2 (by rw[hz,h2s];omega) (fun u hu=>B9.1 (show(Builtin.zeroCells (.agg #[.string ⟨#[]⟩,.int .i64 0,.int .i64 0]:Value).cells 1).toList.all (·.oneCell')=true from by rw[hzc];rfl) u hu) (by omega)
 have hFF:A6 278 3 Ar (.slice (some ⟨g,0,none⟩) n cap) (l.eraseIdx i) w (.returned (.slice (some ⟨g,0,none⟩) (n-1) cap)) (W2.setCells g ((n-1)*3) (Builtin.zeroCells (.agg #[.string ⟨#[]⟩,.int .i64 0,.int .i64 0]:Value).cells 1).toList):=by
  obtain⟨cur3,h3,h3l⟩:=Bc (Builtin.zeroCells (.agg #[.string ⟨#[]⟩,.int .i64 0,.int .i64 0]:Value).cells 1).toList ((n-1)*3) W2 cur2 h2 (by rw[hz,h2s];omega)
  refine hfin _ cur3 h3 ?_ ?_ (A4 _ _ _ kk2)
  ·have:=congrArg List.length h3l
   simp only[AX,Ai,Ad,Am,hz,h2s]at this
   omega
  ·have hcl:cur.toList.length=cap*3:=by simpa using hcs
   have e0:cur.toList.take (i*3)=L.take (i*3):=by
    rw[←htk,C3,B8 (by omega)]
   have e1:cur2.toList.take ((n-1)*3)=L.take (i*3)++L.drop ((i+1)*3):=by
    rw[h2l,e0]
    exact Br (by rw[Ai,Ad,Am,hL];omega)
   rw[Du BX,DC BX,HL.out,h3l,AI,Dj (by rw[Ad];simp only[AX,h2s];omega),C3,Nat.min_self,e1]
 have F1:=Hx hFF
 have F2:=Hx hcpA'
 have hnc:¬((i:Int)=(i:Int)+1):=by omega
 have hw1:IntKind.i64.wrap ((i:Int)+1)=(i:Int)+1:=by rw[IntKind.wrap_i64];omega
 have hb0:(0:Int)≤(i:Int):=by omega
 have hb1:(0:Int)≤(i:Int)+1:=by omega
 have hb2:(i:Int)≤(i:Int)+1:=by omega
 have hb3:(i:Int)+1≤(n:Int):=by omega
 have hb4:(n:Int)≤(cap:Int):=by omega
 have hb5:(i:Int)≤(cap:Int):=by omega
 have htn:((i:Int)+1).toNat=i+1:=by omega
 have hci:¬(cap=i):=by omega
 have hcn1:¬(cap=n-1):=by omega
 have hn1:n-(n-1)=1:=by omega
 generalize (Builtin.zeroCells (.agg #[.string ⟨#[]⟩,.int .i64 0,.int .i64 0]:Value).cells 1).toList=zc at hcl F1
 clear hzc hz hFF hcpA hcpA' hfin hcs htk hone hcell hL hrow hrow0 hW2 h2l h2s h2
 by_cases hci1:cap=i+1
 ·have hin:i+1=n:=by omega
  have F3:=fun ad=>F2.out ad (.inr hin)
  clear F2
  subst hci1
  subst hin
  simp only[Nat.add_sub_cancel,Nat.sub_self]at F1 F3 hcl
  clear hci hcn1 hn1 hcap hb3 hb4 hb5 hc0 hi
  go_enter Tryz.func177,Tryz.ntmps177
  go_wp2
  go_region_law(refine CW rfl _ _ 275 275 rfl (.slice (some ⟨g,0,none⟩) i (i+1)) (.slice (some ⟨g,0,none⟩) 0 0) (by simp[Act.eval,Act.put]) (by simp[Act.eval,Act.put]) (F3 _ _ _) ?_)
  go_wp2_with(refine Hr _ rfl _ 275 rfl _ rfl (hcl _ _) ?_)
  go_ret
  exact F1.out
 ·have F3:=fun ty sc=>F2.out _ (.inl rfl) ty sc
  clear F2
  go_enter Tryz.func177,Tryz.ntmps177
  go_wp2
  go_region_law(refine CW rfl _ _ 275 275 rfl (.slice (some ⟨g,0,none⟩) i cap) (.slice (some ⟨g,(i+1)*3,none⟩) (n-(i+1)) (cap-(i+1))) (by simp[Act.eval,Act.put]) (by simp[Act.eval,Act.put]) (F3 _ _) ?_)
  go_wp2_with(refine Hr _ rfl _ 275 rfl _ rfl (hcl _ _) ?_)
  go_ret
  exact F1.out
end
section
open Go.RowKit
attribute [local go_sem ↓] Go.wp_at_zero Go.wp_at_succ
attribute [local go_sem] run_makeMap
@[reducible] def asV(v:Value):Value:=v
/-- the row of one parent's children -/
def DV(lv:Off.Bid→Option Value)(p:Off.Bid):Value:=(lv p).getD (.slice none 0 0)
/-- block b is the children: the places f, the lists L -/
def Di(F:Nat→Prop)(b:Nat)(f:Dc.AB)(L:Dc.CZ)(w:World):Prop:=
 ∃bp bl lv,w.heap[b]? =some (.cells #[.map (some bp),.map (some bl)] 197 (0,0))∧A8 idV Bt bp f w∧A8 idV asV bl lv w∧(∀p,Aq 278 3 Ar (DV lv p) (L p) w)∧
  F b∧F bp∧F bl∧(∀p,OT F (DV lv p))∧(∀p q g,(DV lv p).ownBlock=some g→(DV lv q).ownBlock=some g→p=q)∧bp≠bl
theorem Di.keeps{F S:Nat→Prop}{b:Nat}{f:Dc.AB}{L:Dc.CZ}{w w':World}(h:Di F b f L w)(k:Aa S w w')(hn:∀g,F g→¬S g):Di F b f L w':=by
 obtain⟨bp,bl,lv,h1,h2,h3,h4,f1,f2,f3,f4,f5,f6⟩:=h
 exact⟨bp,bl,lv,k.heap h1 (hn _ f1),h2.keeps k (hn _ f2),h3.keeps k (hn _ f3),fun p=>(h4 p).keeps k fun g hg=>hn g (f4 p g hg),f1,f2,f3,f4,f5,f6⟩
theorem QY(w:World):
  Calls Tryz.prog 64 #[] w (Qb (fun F b w=>Di F b (fun _=>none) (fun _=>[]) w) () w):=by
 go_enter Tryz.func64,Tryz.ntmps64
 go_wp2_with fail
 have m1:A8 idV Bt w.heap.size (fun _=>none) (w.alloc (.map #[] 0)):=A8.new w
 have m2:A8 idV asV (w.heap.size+1) (fun _=>none) ((w.alloc (.map #[] 0)).alloc (.map #[] 0)):=by
  have h:=A8.new (kv:=idV) (ev:=asV) (w.alloc (.map #[] 0))
  rw[World.size_alloc]at h
  exact h
 have hb:=Nx ((w.alloc (.map #[] 0)).alloc (.map #[] 0)) (.cells #[.map (some w.heap.size),.map (some (w.heap.size+1))] 197)
 rw[World.size_alloc,World.size_alloc]at hb
 have k:Aa No w (((w.alloc (.map #[] 0)).alloc (.map #[] 0)).alloc (.cells #[.map (some w.heap.size),.map (some (w.heap.size+1))] 197)):=((Aa.refl No w).alloc _ |>.alloc _ |>.alloc _)
 have m1':=(m1.alloc (.map #[] 0)).alloc (.cells #[.map (some w.heap.size),.map (some (w.heap.size+1))] 197)
 have m2':=m2.alloc (.cells #[.map (some w.heap.size),.map (some (w.heap.size+1))] 197)
 have hsz:(((w.alloc (.map #[] 0)).alloc (.map #[] 0)).alloc (.cells #[.map (some w.heap.size),.map (some (w.heap.size+1))] 197)).heap.size=w.heap.size+3:=by
  rw[World.size_alloc,World.size_alloc,World.size_alloc]
 generalize ((w.alloc (.map #[] 0)).alloc (.map #[] 0)).alloc (.cells #[.map (some w.heap.size),.map (some (w.heap.size+1))] 197)=w1 at hb k m1' m2' hsz⊢
 go_ret
 exact⟨w.heap.size+2,rfl,⟨w.heap.size,w.heap.size+1,_,hb,m1',m2',fun p=>Aq.nil,⟨by omega,by omega⟩,⟨by omega,by omega⟩,⟨by omega,by omega⟩,(fun p g hg=>by cases hg),(fun p q g hg=>by cases hg),by omega⟩,k⟩
end
section
open Go.RowKit
attribute [local go_sem ↓] Go.wp_at_zero Go.wp_at_succ
@[reducible] def TU(k:Dc.Bs)(i:Off.Bid):Value:= .agg #[.string ⟨k.toArray⟩,.int .i64 i.R,.int .i64 i.N]
/-- a look-up of a parent's row -/
theorem J0{bl:Nat}{lv:Off.Bid→Option Value}{w:World}(h:A8 idV asV bl lv w)(R N:Int):
  (Instr.lookup 195 (.map (some bl)) (.agg #[.int .i64 R,.int .i64 N]) false).run Tryz.prog w= .ok (DV lv ⟨R,N⟩) w:=by
 have:=h.look (z:= .slice none 0 0) Eh Tryz.underlying195 Rx ⟨R,N⟩ false
 refine this.trans ?_
 unfold DV
 cases lv ⟨R,N⟩<;>rfl
def VW(i:Nat)(w:World)(e:Ending)(w':World):Prop:=∃b:Bool,e= .returned (.tuple #[.int .i64 i,.bool b])∧Aa No w w'
theorem J5{F:Nat→Prop}{b:Nat}{f:Dc.AB}{L:Dc.CZ}{w:World}(h:Di F b f L w)(hs:∀p,(L p).Pairwise fun x y=>Dc.Bq x y<0)(a:Off.Bid)(p:Dc.Dt)(hsz:(L p.parent).length≤1000000):
  Calls Tryz.prog 175 #[.pointer (some ⟨b,0,none⟩),idV a,Bt p] w (VW (Dc.K0 (L p.parent) ⟨p.key,a⟩) w):=by
 obtain⟨bp,bl,lv,h1,h2,h3,h4,_⟩:=h
 obtain⟨⟨pR,pN⟩,pk⟩:=p
 obtain⟨aR,aN⟩:=a
 have hrow:=h4 ⟨pR,pN⟩
 obtain⟨l,hl⟩:∃l,l=L ⟨pR,pN⟩:=⟨_,rfl⟩
 obtain⟨v,hv⟩:∃v,v=DV lv ⟨pR,pN⟩:=⟨_,rfl⟩
 have hsl:=hs ⟨pR,pN⟩
 rw[←hl]at hrow hsz hsl⊢
 rw[←hv]at hrow
 obtain⟨i,hi⟩:∃i,i=Dc.K0 l ⟨pk,⟨aR,aN⟩⟩:=⟨_,rfl⟩
 rw[←hi]
 have hle:i≤l.length:=by rw[hi];exact Dc.PW _ _
 have hspl:∀k (hk:k<l.length),decide (Dc.Bq (l[k]'hk) ⟨pk,⟨aR,aN⟩⟩<0)=decide (k<i):=fun k hk=>by
  rw[hi];exact Dc.Ip hsl _ k hk
 have eg:∀args w,(callFunc 227 args).run Tryz.prog w= .ok (.enter 227 args) w:=enters_of Tryz.func227 Rx rfl
 have hlook:∀W,Aa No w W→(Instr.lookup 195 (.map (some bl)) (.agg #[.int .i64 pR,.int .i64 pN]) false).run Tryz.prog W= .ok v W:=fun W k=>by
  rw[hv];exact J0 (h3.keeps k id) pR pN
 obtain⟨bb,hcall⟩:∃bb:Bool,∀W,Aa No w W→Calls Tryz.prog 226 #[v,TU pk ⟨aR,aN⟩,.func (.func 227) #[] #[]] W
   fun e w''=>e= .returned (.tuple #[.int .i64 i,.bool bb])∧Aa No W w'':=⟨decide (i<l.length)&&((if hk:i<l.length then Dc.Bq (l[i]'hk) ⟨pk,⟨aR,aN⟩⟩else 0)==0),fun W k=>
  RD v l ⟨pk,⟨aR,aN⟩⟩ 227 #[] (fun k=>if hk:k<l.length then Dc.Bq (l[k]'hk) ⟨pk,⟨aR,aN⟩⟩else 0) i W (hrow.no k) eg
   (fun W' _ k hk=>by
    have:=MH (l[k]'hk).key pk (l[k]'hk).id.R (l[k]'hk).id.N aR aN W'
    simp only[GP hk]
    exact this) hle (fun k hk=>by simp only[GP hk];exact hspl k hk) (by omega)⟩
 have HC:=Hx hcall
 have HL:=Hx hlook
 clear hcall hlook hspl eg hi hl hv hsl hrow h2 h3 h4 hs hsz hle
 go_enter Tryz.func175,Tryz.ntmps175
 go_upto_region 1 with(fail)
 have k0:Aa No w ((w.alloc (.cells #[.int .i64 aR,.int .i64 aN] 24)).alloc (.cells #[.int .i64 pR,.int .i64 pN,.string ⟨pk.toArray⟩] 45)):=Kx
 have hA:=Ab (Nx w (.cells #[.int .i64 aR,.int .i64 aN] 24)) (.cells #[.int .i64 pR,.int .i64 pN,.string ⟨pk.toArray⟩] 45)
 have hB:=Nx (w.alloc (.cells #[.int .i64 aR,.int .i64 aN] 24)) (.cells #[.int .i64 pR,.int .i64 pN,.string ⟨pk.toArray⟩] 45)
 rw[World.size_alloc]at hB
 generalize (w.alloc (.cells #[.int .i64 aR,.int .i64 aN] 24)).alloc (.cells #[.int .i64 pR,.int .i64 pN,.string ⟨pk.toArray⟩] 45)=w1 at k0 hA hB⊢
 have hb:=k0.heap h1 id
 have z1:∀d os,(Sort.grow (redrawn w1 d) os).cell? ⟨b,1,none⟩=some (.map (some bl)):=Ex (Cx hb 1)
 have a0:∀d os,(Sort.grow (redrawn w1 d) os).cell? ⟨w.heap.size,0,none⟩=some (.int .i64 aR):=Ex (Cx hA 0)
 have a1:∀d os,(Sort.grow (redrawn w1 d) os).cell? ⟨w.heap.size,1,none⟩=some (.int .i64 aN):=Ex (Cx hA 1)
 have b0:∀d os,(Sort.grow (redrawn w1 d) os).cell? ⟨w.heap.size+1,0,none⟩=some (.int .i64 pR):=Ex (Cx hB 0)
 have b1:∀d os,(Sort.grow (redrawn w1 d) os).cell? ⟨w.heap.size+1,1,none⟩=some (.int .i64 pN):=Ex (Cx hB 1)
 have b2:∀d os,(Sort.grow (redrawn w1 d) os).cell? ⟨w.heap.size+1,2,none⟩=some (.string ⟨pk.toArray⟩):=Ex (Cx hB 2)
 have lk:∀d os,(Instr.lookup 195 (.map (some bl)) (.agg #[.int .i64 pR,.int .i64 pN]) false).run Tryz.prog (Sort.grow (redrawn w1 d) os)= .ok v (Sort.grow (redrawn w1 d) os):=fun d os=>HL.out _ (k0.trans (Ag w1 d os))
 have hcall:∀d os,Calls Tryz.prog 226 #[v,TU pk ⟨aR,aN⟩,.func (.func 227) #[] #[]] (Sort.grow (redrawn w1 d) os)
   fun e w''=>e= .returned (.tuple #[.int .i64 i,.bool bb])∧∃p:Regrown,w''=Sort.grow (redrawn w1 p.d) p.os:=fun d os=>BV (HC.out _ (k0.trans (Ag w1 d os)))
 clear hA hB hb HC HL
 refine wp_region_quiet_below Rx Rx ?_
 repeat(quiet_step(exact hcall _ _))
 refine wpQuiet_nil ?_
 intro _ hw'
 obtain⟨⟨dq,osq⟩,hw''⟩:=hw'
 subst hw''
 have k3:Aa No w1 (Sort.grow (redrawn w1 dq) osq):=Ag w1 dq osq
 clear hcall z1 a0 a1 b0 b1 b2 lk
 generalize Sort.grow (redrawn w1 dq) osq=w3 at k3⊢
 go_wp2
 go_ret2
 exact⟨bb,rfl,k0.trans k3⟩
end
end Go.Proofs.YthfjefcljeamgaaGreatDoor
