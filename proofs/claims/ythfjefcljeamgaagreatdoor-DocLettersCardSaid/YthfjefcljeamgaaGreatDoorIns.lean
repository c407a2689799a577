/- slices.Insert of one element at the document's rows of structures. -/
import Derived.Test.YthfjefcljeamgaaGreatDoorStruct
import Derived.Outline
namespace Go.Proofs.YthfjefcljeamgaaGreatDoor
set_option maxRecDepth 100000
set_option maxHeartbeats 4000000
open Go.RowKit
theorem KV:(Tryz.prog.info? 278).map (fun i=>(i.zero,i.size,i.bytes))=some (some (.agg #[.string ⟨#[]⟩,.int .i64 0,.int .i64 0]),3,32):=by kernel_rfl
theorem GH(x:Dc.C0):∀u∈Ar x,u.oneCell'=true:=fun u hu=>B9.1 (show(Ar x).all (·.oneCell')=true from rfl) u hu
theorem BX(x:Dc.C0):(Ar x).length=3:=rfl
theorem PE(v:Value)(l:List Dc.C0)(x:Dc.C0)(vb:Nat)(w:World)(hrow:Aq 278 3 Ar v l w)(hvb:w.heap[vb]? =some (.cells (Ar x).toArray 278 (0,0)))(hne:v.ownBlock≠some vb)(hbig:(l.length+1)*32≤140737488355328):
  Calls Tryz.prog 176 #[v,.int .i64 l.length,.slice (some ⟨vb,0,none⟩) 1 1] w (A6 278 3 Ar v (Dc.Ax l l.length x) w):=by
 obtain⟨i0,hi,hz0,hz1,hz2⟩:=info_parts KV
 have hown:w.ownsRow 0 278 3 v l.length (l.flatMap Ar):=hrow
 have hlm:=hrow.len_le
 have hnews:∀j u,(Ar x)[j]? =some u→w.cell? ((⟨vb,0,none⟩:Addr).add j)=some u:=fun j u hj=>by
  have hadd:(⟨vb,0,none⟩:Addr).add j=⟨vb,j,none⟩:=by unfold Addr.add;split<;>simp_all
  rw[hadd,Cx hvb];simpa using hj
 have hfin:∀v' w',w'.ownsRow 0 278 3 v' (l.length+1) (l.flatMap Ar++Ar x)→w.grownBy w' v.ownBlock→(v'.ownBlock=v.ownBlock∨v'.ownBlock=some w.heap.size)→A6 278 3 Ar v (Dc.Ax l l.length x) w (.returned v') w':=by
  intro v' w' h1 h2 h3
  refine⟨v',rfl,?_,⟨h2.os,h2.tape,h2.output,h2.size,fun k hk hn=>h2.block k hk fun e=>hn e.symm⟩,fun g hg=>?_⟩
  ·unfold Aq
   rw[Dc.A3 (Ac _),CY,AH,EE]
   simpa using h1
  ·rcases h3 with h3|h3
   ·exact .inl (h3▸hg)
   ·rw[h3]at hg;cases hg;exact .inr (Ac _)
 unfold maxLen at hlm
 rcases hrow.form with⟨rfl,rfl⟩|⟨g,cap,cur,rfl,hg,hcap,hcm,_,_⟩
 ·have F:=Hx hfin
  clear hfin hrow
  go_enter Tryz.func176,Tryz.ntmps176
  go_wp2_with(at_builtin;refine wpList_append_own_at _ rfl _ _ 275 rfl 0 278 i0 (.agg #[.string ⟨#[]⟩,.int .i64 0,.int .i64 0]) 3 32 Tryz.underlying275 hi hz0 hz1 hz2 rfl (by decide) _ _ _ rfl hown ⟨vb,0,none⟩ 1 1 (Ar x) rfl rfl hnews (GH x) ?c3 ?c4 (Ah _) ?_)
  case c3=>simp[maxLen]
  case c4=>simp
  intro v' w' h1 h2 _ h3
  have P:=F.out v' w' (by simpa using h1) h2 h3
  obtain⟨v2,e2,r2,k2,b2⟩:=P
  obtain rfl:v2=v':=by injection e2 with e2;exact e2.symm
  have R2:=Hx r2
  obtain⟨g2,c2,rfl,_⟩:=r2.at (by rw[Dc.A3 (Ac _)];omega)
  clear h1 h2 h3 r2 e2
  go_wp2
  go_ret
  exact⟨_,rfl,R2.out,k2,b2⟩
 ·have F:=Hx hfin
  have hc0:¬cap<l.length:=by omega
  have hcm':cap≤9223372036854775807:=by unfold maxLen at hcm;omega
  generalize hN:l.length=n at*
  have HN:=Hx hN
  clear hfin hrow hN
  by_cases hcn:cap=n
  all_goals
   go_enter Tryz.func176,Tryz.ntmps176
   go_wp2_with(at_builtin;refine wpList_append_own_at _ rfl _ _ 275 rfl 0 278 i0 (.agg #[.string ⟨#[]⟩,.int .i64 0,.int .i64 0]) 3 32 Tryz.underlying275 hi hz0 hz1 hz2 rfl (by decide) _ _ _ rfl (by first|exact hown|exact hcn▸hown) ⟨vb,0,none⟩ 1 1 (Ar x) rfl rfl hnews (GH x) (by unfold maxLen;omega) (by omega) (Ah _) ?_)
  all_goals
   intro v' w' h1 h2 _ h3
   have P:=F.out v' w' (by first|exact h1|(rw[←hcn];exact h1)) (by first|exact h2|(rw[←hcn];exact h2)) (by first|exact h3|(rw[←hcn];exact h3))
   obtain⟨v2,e2,r2,k2,b2⟩:=P
   obtain rfl:v2=v':=by injection e2 with e2;exact e2.symm
   have R2:=Hx r2
   obtain⟨g2,c2,rfl,_⟩:=r2.at (by rw[Dc.A3 (by rw[HN.out];exact Ac _)];omega)
   clear h1 h2 h3 r2 e2
   have Z:=Hx (show A6 278 3 Ar _ (Dc.Ax l n x) w _ w' from⟨_,rfl,R2.out,k2,b2⟩)
   go_wp2
   go_ret
   exact Z.out
theorem NV(l:List Dc.C0)(x:Dc.C0)(i vb g cap:Nat)(w:World)(hrow:Aq 278 3 Ar (.slice (some ⟨g,0,none⟩) l.length cap) l w)(hi:i<l.length)(hvb:w.heap[vb]? =some (.cells (Ar x).toArray 278 (0,0)))(hbig:(l.length+1)*32≤140737488355328)(hcap:cap=l.length):
  Calls Tryz.prog 176 #[.slice (some ⟨g,0,none⟩) l.length cap,.int .i64 i,.slice (some ⟨vb,0,none⟩) 1 1] w (A6 278 3 Ar (.slice (some ⟨g,0,none⟩) l.length cap) (Dc.Ax l i x) w):=by
 subst hcap
 obtain⟨i0,hii,hz0,hz1,hz2⟩:=info_parts KV
 obtain⟨cur,hg,hcs,htk⟩:∃cur,w.heap[g]? =some (.cells cur 278 (0,0))∧cur.size=l.length*3∧cur.toList.take (l.length*3)=l.flatMap Ar:=by
  rcases hrow.form with⟨h,_⟩|⟨g',c',cur,h,h1,_,_,h4,h5⟩
  ·cases h
  ·simp only[Value.slice.injEq,AZ,Addr.mk.injEq,DX,DW]at h
   obtain⟨rfl,rfl⟩:=h
   exact⟨cur,h1,h4,h5⟩
 have hgl:=Ao hg
 have hvl:=Ao hvb
 have hL:(l.flatMap Ar).length=l.length*3:=Az BX l
 have hcell:∀j u,(l.flatMap Ar)[j]? =some u→w.cell? ⟨g,j,none⟩=some u:=fun j u hj=>by
  rw[←htk]at hj
  rw[Cx hg,←Aw]
  rw[AO]at hj
  split at hj
  ·exact hj
  ·cases hj
 have hone:∀u∈l.flatMap Ar,u.oneCell'=true:=fun u hu=>by
  obtain⟨y,_,hy⟩:=Ba.1 hu
  exact GH y u hy
 have hfin:∀(w':World) (c':Nat) (cur':Array Value),w'.heap[w.heap.size]? =some (.cells cur' 278 (0,0))→cur'.size=c'*3→l.length+1≤c'→c'≤maxLen→cur'.toList.take ((l.length+1)*3)=(l.take i).flatMap Ar++Ar x++(l.drop i).flatMap Ar→Aa No w w'→
   A6 278 3 Ar (.slice (some ⟨g,0,none⟩) l.length l.length) (Dc.Ax l i x) w (.returned (.slice (some ⟨w.heap.size,0,none⟩) (l.length+1) c')) w':=by
  intro w' c' cur' h1 h2 h3 h4 h5 h6
  have hl2:(Dc.Ax l i x).length=l.length+1:=Dc.A3 (by omega)
  refine⟨_,rfl,⟨by rw[Az BX],.inr ⟨w.heap.size,c',cur',by rw[hl2],Ah _,h1,by omega,h4,h2,by rw[hl2,CY];exact h5⟩⟩,h6.any,fun k hk=>?_⟩
  have hk':some w.heap.size=some k:=hk
  injection hk' with hk'
  exact .inr (by omega)
 generalize hN:l.length=n at*
 have HN:=Hx hN
 generalize hLL:l.flatMap Ar=L at*
 have HL:=Hx hLL
 have hold:(Builtin.firstCells i0.size i (.slice (some ⟨g,0,none⟩) i n)).run Tryz.prog w.drew= .ok (L.take (i*3)).toArray w.drew:=by
  rw[hz1]
  exact run_firstCells_some w.drew 3 i ⟨g,0,none⟩ i n (L.take (i*3)) (by rw[Ad];omega) (fun j v hj=>by
   have hadd:(⟨g,0,none⟩:Addr).add j=⟨g,j,none⟩:=by unfold Addr.add;split<;>simp_all
   rw[hadd]
   rw[AO]at hj
   split at hj
   ·exact hcell j v hj
   ·cases hj)
 have hkk:(n:Int)+1-(i:Int)=((n+1-i:Nat):Int):=by omega
 have hik:i+(n+1-i)=n+1:=by omega
 obtain⟨G,hG⟩:∃G,G=grownCap w (n+1) n 278:=⟨_,rfl⟩
 have hGn:n+1≤G:=by rw[hG];exact grownCap_ge w _ _ _
 have hGm:G≤maxLen:=by rw[hG];exact grownCap_le_maxLen w (n+1) n 278 (by unfold maxLen;omega)
 obtain⟨ROW,hROW⟩:∃ROW:Array Value,ROW=(L.take (i*3)).toArray++Builtin.zeroCells (.agg #[.string ⟨#[]⟩,.int .i64 0,.int .i64 0]:Value).cells (n+1-i)++Builtin.zeroCells (.agg #[.string ⟨#[]⟩,.int .i64 0,.int .i64 0]:Value).cells (G-(n+1)):=⟨_,rfl⟩
 have hRs:ROW.size=G*3:=by
  rw[hROW]
  simp only[Array.size_append,List.size_toArray,Ad,size_zeroCells,hL]
  simp only[Value.cells]
  simp
  omega
 have hrz:∀ty,(Builtin.append_ #[275,3] ty #[.slice (some ⟨g,0,none⟩) i n,.int .i64 ((n:Int)+1-(i:Int))]).run Tryz.prog w= .ok (.slice (some ⟨w.heap.size,0,none⟩) (n+1) G) ((w.alloc (.cells ROW 278)).drew):=fun ty=>by
  have h:=Lib.run_append_grow_zeros w 275 3 ty 278 i0 _ .i64 .i64 Tryz.underlying275 Tryz.underlying3 hii hz0 (some ⟨g,0,none⟩) i n (L.take (i*3)) hold (n+1-i) (by omega) (by omega) (by omega) (by omega) (by rw[hz2];omega) (by rw[hz2,hik];exact growslice_fits (by omega) hbig)
  rw[hik]at h
  rw[hkk,hROW,hG]
  exact h
 have hW1:((w.alloc (.cells ROW 278)).drew).heap[w.heap.size]? =some (.cells ROW 278 (0,0)):=Nx w.drew _
 have hcpA:∀ty dc,(Builtin.copy_ #[275,275] ty #[.slice (some ⟨w.heap.size,i*3,none⟩) (n+1-i) dc,.slice (some ⟨vb,0,none⟩) 1 1]).run Tryz.prog ((w.alloc (.cells ROW 278)).drew)= .ok (goInt (Nat.min 1 (n+1-i))) (((w.alloc (.cells ROW 278)).drew).setCells w.heap.size (i*3) (Ar x)):=fun ty dc=>
  BK _ _ _ ty 278 3 w.heap.size (i*3) (n+1-i) dc ⟨vb,0,none⟩ 1 1 (Ar x) Tryz.underlying275 Rx (by rw[BX,show Nat.min 1 (n+1-i)=1 from by simp only[Cf];split<;>omega])
   (fun j u hj=>by
    have hadd:(⟨vb,0,none⟩:Addr).add j=⟨vb,j,none⟩:=by unfold Addr.add;split<;>simp_all
    rw[hadd];show(w.alloc (.cells ROW 278)).cell? ⟨vb,j,none⟩=some u;rw[World.cell?_alloc_past (w:=w) _ vb j hvl]
    exact(Cx hvb j).trans (by simpa using hj))
   hW1 (by rw[BX,hRs];omega) (GH x)
 obtain⟨cur2,h2,h2l⟩:=Bc (Ar x) (i*3) _ ROW hW1 (by rw[BX,hRs];omega)
 have h2s:cur2.size=G*3:=by
  have:=congrArg List.length h2l
  simp only[AX,Ai,Ad,Am,BX,hRs]at this
  omega
 obtain⟨W2,hW2⟩:∃W2,W2=((w.alloc (.cells ROW 278)).drew).setCells w.heap.size (i*3) (Ar x):=⟨_,rfl⟩
 have kk2:Aa No w W2:=by
  rw[hW2]
  refine(((Aa.refl No w).alloc (.cells ROW 278)).drew).step (A4 _ _ _ (Aa.refl (At1 w.heap.size) _)) fun k hk hlt=>?_
  unfold At1 at hk;omega
 rw[←hW2]at hcpA h2
 have hcpB:∀(W:World),W.heap=W2.heap→∀ty dc sc,(Builtin.copy_ #[275,275] ty #[.slice (some ⟨w.heap.size,(i+1)*3,none⟩) (n+1-(i+1)) dc,.slice (some ⟨g,i*3,none⟩) (n-i) sc]).run Tryz.prog W= .ok (goInt (Nat.min (n-i) (n+1-(i+1)))) (W.setCells w.heap.size ((i+1)*3) (L.drop (i*3))):=fun W hW ty dc sc=>
  BK W _ _ ty 278 3 w.heap.size ((i+1)*3) (n+1-(i+1)) dc ⟨g,i*3,none⟩ (n-i) sc (L.drop (i*3)) Tryz.underlying275 Rx (by rw[Am,hL,show Nat.min (n-i) (n+1-(i+1))=n-i from by simp only[Cf];split<;>omega];omega)
   (fun j u hj=>by
    have hadd:(⟨g,i*3,none⟩:Addr).add j=⟨g,i*3+j,none⟩:=by unfold Addr.add;split<;>simp_all
    rw[B5]at hj
    rw[hadd,World.cell?_of_block (w:=W2) (by rw[hW]),kk2.cell hgl id]
    exact hcell _ u hj)
   (by rw[hW];exact h2) (by rw[Am,hL,h2s];omega) (fun u hu=>hone u (BC hu))
 have hFF:∀(W:World),W.heap=W2.heap→Aa No w W→A6 278 3 Ar (.slice (some ⟨g,0,none⟩) n n) (Dc.Ax l i x) w (.returned (.slice (some ⟨w.heap.size,0,none⟩) (n+1) G)) (W.setCells w.heap.size ((i+1)*3) (L.drop (i*3))):=fun W hW hk=>by
  obtain⟨cur3,h3,h3l⟩:=Bc (L.drop (i*3)) ((i+1)*3) W cur2 (by rw[hW];exact h2) (by rw[Am,hL,h2s];omega)
  refine hfin _ G cur3 h3 ?_ hGn hGm ?_ ?_
  ·have:=congrArg List.length h3l
   simp only[AX,Ai,Ad,Am,hL,h2s]at this
   omega
  ·have e0:ROW.toList.take (i*3)=L.take (i*3):=by
    rw[hROW]
    simp only[Nw,AI]
    exact Br (by rw[Ad];omega)
   have e1:cur2.toList.take ((i+1)*3)=L.take (i*3)++Ar x:=by
    rw[h2l,e0]
    exact Br (by rw[Ai,Ad,BX];omega)
   rw[Du BX,DC BX,HL.out,h3l,e1]
   exact Br (by simp only[Ai,Ad,Am,BX];omega)
  ·refine hk.step (A4 _ _ _ (Aa.refl (At1 w.heap.size) W)) fun k hk' hlt=>?_
   unfold At1 at hk';omega
 have F1:=Hx hFF
 clear hW2
 have F2:=Hx hcpB
 have hnc:¬((i:Int)=(n:Int)):=by omega
 have hin:i≤n:=by omega
 have hb3:(i:Int)≤(n:Int):=by omega
 have hw1:IntKind.i64.wrap ((i:Int)+1)=(i:Int)+1:=by rw[IntKind.wrap_i64];omega
 have hb1:(0:Int)≤(i:Int)+1:=by omega
 have htn:((i:Int)+1).toNat=i+1:=by omega
 have hGi:¬(G=i):=by omega
 have hGim:¬(G=i+1):=by omega
 have hci:¬(n=i):=by omega
 have hG63:G≤9223372036854775807:=by unfold maxLen at hGm;omega
 have hgg:(n:Int)<(n:Int)+1:=by omega
 clear hFF hcpB hfin hold hkk hik hG hROW hRs hW1 h2l h2s hcs htk hone hcell hL hrow
 go_enter Tryz.func176,Tryz.ntmps176
 go_wp2_with(first
  |(at_builtin;refine Lib.wpList_append_run _ rfl _ _ _ _ rfl _ _ rfl rfl _ _ (hrz _) ?_)
  |(refine B7 _ rfl _ _ 275 275 rfl _ _ rfl rfl (hcpA _ _) ?_))
 go_region_law(refine CU rfl _ _ 275 275 rfl (.slice (some ⟨w.heap.size,(i+1)*3,none⟩) (n+1-(i+1)) (G-(i+1))) (.slice (some ⟨g,i*3,none⟩) (n-i) (n-i)) (by simp[Act.eval,Act.put]) (by simp[Act.eval,Act.put]) (F2.out W2.drew rfl _ _ _) ?_)
 go_wp2
 go_ret
 exact F1.out W2.drew rfl kk2.drew
theorem NU(l:List Dc.C0)(x:Dc.C0)(i vb g cap:Nat)(w:World)(hrow:Aq 278 3 Ar (.slice (some ⟨g,0,none⟩) l.length cap) l w)(hi:i<l.length)(hvb:w.heap[vb]? =some (.cells (Ar x).toArray 278 (0,0)))(hne:vb≠g)(hcap:l.length<cap):
  Calls Tryz.prog 176 #[.slice (some ⟨g,0,none⟩) l.length cap,.int .i64 i,.slice (some ⟨vb,0,none⟩) 1 1] w (A6 278 3 Ar (.slice (some ⟨g,0,none⟩) l.length cap) (Dc.Ax l i x) w):=by
 obtain⟨cur,hg,hcm,hcs,htk⟩:∃cur,w.heap[g]? =some (.cells cur 278 (0,0))∧cap≤maxLen∧cur.size=cap*3∧cur.toList.take (l.length*3)=l.flatMap Ar:=by
  rcases hrow.form with⟨h,_⟩|⟨g',c',cur,h,h1,_,h3,h4,h5⟩
  ·cases h
  ·simp only[Value.slice.injEq,AZ,Addr.mk.injEq,DX,DW]at h
   obtain⟨rfl,rfl⟩:=h
   exact⟨cur,h1,h3,h4,h5⟩
 have hgl:=Ao hg
 have hvl:=Ao hvb
 have hL:(l.flatMap Ar).length=l.length*3:=Az BX l
 have hcell:∀j u,(l.flatMap Ar)[j]? =some u→w.cell? ⟨g,j,none⟩=some u:=fun j u hj=>by
  rw[←htk]at hj
  rw[Cx hg,←Aw]
  rw[AO]at hj
  split at hj
  ·exact hj
  ·cases hj
 have hone:∀u∈l.flatMap Ar,u.oneCell'=true:=fun u hu=>by
  obtain⟨y,_,hy⟩:=Ba.1 hu
  exact GH y u hy
 have hfin:∀(w':World) (cur':Array Value),w'.heap[g]? =some (.cells cur' 278 (0,0))→cur'.size=cap*3→cur'.toList.take ((l.length+1)*3)=(l.take i).flatMap Ar++Ar x++(l.drop i).flatMap Ar→Aa (At1 g) w w'→
   A6 278 3 Ar (.slice (some ⟨g,0,none⟩) l.length cap) (Dc.Ax l i x) w (.returned (.slice (some ⟨g,0,none⟩) (l.length+1) cap)) w':=by
  intro w' cur' h1 h2 h5 h6
  have hl2:(Dc.Ax l i x).length=l.length+1:=Dc.A3 (by omega)
  exact⟨_,rfl,⟨by rw[Az BX],.inr ⟨g,cap,cur',by rw[hl2],Ah _,h1,by omega,hcm,h2,by rw[hl2,CY];exact h5⟩⟩,h6.mono fun k hk _=>by(unfold At1 at hk;subst hk;rfl),fun k hk=> .inl hk⟩
 have hov:∀lb cb,(callFunc 228 #[.slice (some ⟨vb,0,none⟩) 1 1,.slice (some ⟨g,(i+1)*3,none⟩) lb cb]).run Tryz.prog w= .ok (.value (.bool false)) w:=fun lb cb=>by
  rw[run_callFunc_extern Tryz.func228 Rx Rx Rx (e:=Extern.SlicesOverlaps.overlaps #[275,275] #[4]) Rx,
   Lib.run_overlaps_apart w 275 4 278 Tryz.underlying275 3 (fun w=>by kernel_rfl) ⟨vb,0,none⟩ ⟨g,(i+1)*3,none⟩ 1 1 lb cb hne 278 278 (Ar x).toArray.size cur.size (by simp[World.shape?,hvb]) (by simp[World.shape?,hg]) (by omega) (Fx hvb _) (Fx hvb _)]
  rfl
 have hc0:¬cap<l.length:=by omega
 have hcm':cap≤9223372036854775807:=by unfold maxLen at hcm;omega
 generalize hN:l.length=n at*
 have HN:=Hx hN
 generalize hLL:l.flatMap Ar=L at*
 have HL:=Hx hLL
 have hcpA:∀(W:World),W.heap=w.heap→∀ty dc sc,(Builtin.copy_ #[275,275] ty #[.slice (some ⟨g,(i+1)*3,none⟩) (n+1-(i+1)) dc,.slice (some ⟨g,i*3,none⟩) (n+1-i) sc]).run Tryz.prog W= .ok (goInt (Nat.min (n+1-i) (n+1-(i+1)))) (W.setCells g ((i+1)*3) (L.drop (i*3))):=fun W hW ty dc sc=>
  BK W _ _ ty 278 3 g ((i+1)*3) (n+1-(i+1)) dc ⟨g,i*3,none⟩ (n+1-i) sc (L.drop (i*3)) Tryz.underlying275 Rx (by rw[Am,hL,show Nat.min (n+1-i) (n+1-(i+1))=n-i from by simp only[Cf];split<;>omega];omega)
   (fun j u hj=>by
    have hadd:(⟨g,i*3,none⟩:Addr).add j=⟨g,i*3+j,none⟩:=by unfold Addr.add;split<;>simp_all
    rw[B5]at hj
    rw[hadd,World.cell?_of_block (w:=w) (by rw[hW])]
    exact hcell _ u hj)
   (by rw[hW];exact hg) (by rw[Am,hL,hcs];omega) (fun u hu=>hone u (BC hu))
 obtain⟨W2,hW2⟩:∃W2,W2=w.drew.setCells g ((i+1)*3) (L.drop (i*3)):=⟨_,rfl⟩
 obtain⟨cur2,h2,h2l⟩:=Bc (L.drop (i*3)) ((i+1)*3) w.drew cur hg (by rw[Am,hL,hcs];omega)
 rw[←hW2]at h2
 have h2s:cur2.size=cap*3:=by
  have:=congrArg List.length h2l
  simp only[AX,Ai,Ad,Am,hL,hcs]at this
  omega
 have kk2:Aa (At1 g) w W2:=by
  rw[hW2]
  exact A4 _ _ _ ((Aa.refl (At1 g) w).drew)
 have hcpA':∀ty dc sc,(Builtin.copy_ #[275,275] ty #[.slice (some ⟨g,(i+1)*3,none⟩) (n+1-(i+1)) dc,.slice (some ⟨g,i*3,none⟩) (n+1-i) sc]).run Tryz.prog w.drew= .ok (goInt (Nat.min (n+1-i) (n+1-(i+1)))) W2:=fun ty dc sc=>by
  rw[hW2];exact hcpA w.drew rfl ty dc sc
 have hcpB:∀ty dc,(Builtin.copy_ #[275,275] ty #[.slice (some ⟨g,i*3,none⟩) (n+1-i) dc,.slice (some ⟨vb,0,none⟩) 1 1]).run Tryz.prog W2= .ok (goInt (Nat.min 1 (n+1-i))) (W2.setCells g (i*3) (Ar x)):=fun ty dc=>
  BK W2 _ _ ty 278 3 g (i*3) (n+1-i) dc ⟨vb,0,none⟩ 1 1 (Ar x) Tryz.underlying275 Rx (by rw[BX,show Nat.min 1 (n+1-i)=1 from by simp only[Cf];split<;>omega])
   (fun j u hj=>by
    have hadd:(⟨vb,0,none⟩:Addr).add j=⟨vb,j,none⟩:=by unfold Addr.add;split<;>simp_all
    rw[hadd,kk2.cell hvl (fun e=>hne e)]
    exact(Cx hvb j).trans (by simpa using hj))
   h2 (by rw[BX,h2s];omega) (GH x)
 have hFF:A6 278 3 Ar (.slice (some ⟨g,0,none⟩) n cap) (Dc.Ax l i x) w (.returned (.slice (some ⟨g,0,none⟩) (n+1) cap)) (W2.setCells g (i*3) (Ar x)):=by
  obtain⟨cur3,h3,h3l⟩:=Bc (Ar x) (i*3) W2 cur2 h2 (by rw[BX,h2s];omega)
  refine hfin _ cur3 h3 ?_ ?_ (A4 _ _ _ kk2)
  ·have:=congrArg List.length h3l
   simp only[AX,Ai,Ad,Am,BX,h2s]at this
   omega
  ·have hcl:cur.toList.length=cap*3:=by simpa using hcs
   have e0:cur2.toList.take (i*3)=L.take (i*3):=by
    rw[h2l,AI,Dj (by rw[Ad,hcl];omega),C3,B8 (by omega),←htk,C3,B8 (by omega)]
   have e1:cur2.toList.drop ((i+1)*3)=L.drop (i*3)++cur.toList.drop ((i+1)*3+(L.drop (i*3)).length):=by
    rw[h2l,AI]
    exact List.drop_left' (by rw[Ad,hcl];omega)
   rw[Du BX,DC BX,HL.out,h3l,e0,BX,show i*3+3=(i+1)*3 by omega,e1,←AI]
   exact Br (by simp only[Ai,Ad,Am,BX,hL];omega)
 have F1:=Hx hFF
 have F2:=Hx hcpA'
 have hnc:¬((i:Int)=(n:Int)):=by omega
 have hin:i≤n:=by omega
 have hb3:(i:Int)≤(n:Int):=by omega
 have hb4:(i:Int)≤(n:Int)+1:=by omega
 have hw1:IntKind.i64.wrap ((i:Int)+1)=(i:Int)+1:=by rw[IntKind.wrap_i64];omega
 have hb1:(0:Int)≤(i:Int)+1:=by omega
 have htn:((i:Int)+1).toNat=i+1:=by omega
 have hci:¬(cap=i):=by omega
 have hci1:¬(cap=i+1):=by omega
 have hgg:(n:Int)+1≤(cap:Int):=by omega
 clear hFF hcpA hcpA' hfin hcs htk hone hcell hL hrow hW2 h2l h2s h2
 go_enter Tryz.func176,Tryz.ntmps176
 go_wp2_with(simp only[hov])
 go_region_law(refine CU rfl _ _ 275 275 rfl (.slice (some ⟨g,(i+1)*3,none⟩) (n+1-(i+1)) (cap-(i+1))) (.slice (some ⟨g,i*3,none⟩) (n+1-i) (cap-i)) (by simp[Act.eval,Act.put]) (by simp[Act.eval,Act.put]) (F2.out _ _ _) ?_)
 go_wp2_with(refine B7 _ rfl _ _ 275 275 rfl _ _ rfl rfl (hcpB _ _) ?_)
 go_ret
 exact F1.out
theorem PG(v:Value)(l:List Dc.C0)(x:Dc.C0)(i vb:Nat)(w:World)(hrow:Aq 278 3 Ar v l w)(hvb:w.heap[vb]? =some (.cells (Ar x).toArray 278 (0,0)))(hne:v.ownBlock≠some vb)(hbig:(l.length+1)*32≤140737488355328)(hi:i≤l.length):
  Calls Tryz.prog 176 #[v,.int .i64 i,.slice (some ⟨vb,0,none⟩) 1 1] w (A6 278 3 Ar v (Dc.Ax l i x) w):=by
 rcases BR hi with rfl|hlt
 ·exact PE v l x vb w hrow hvb hne hbig
 ·rcases hrow.form with⟨rfl,rfl⟩|⟨g,cap,cur,rfl,hg,hcap,_⟩
  ·simp at hlt
  ·rcases BR hcap with e|hc
   ·subst e
    exact NV l x i vb g _ w hrow hlt hvb hbig rfl
   ·exact NU l x i vb g cap w hrow hlt hvb (fun e=>hne (by rw[e];rfl)) hc
theorem PI:(Tryz.prog.info? 26).map (fun i=>(i.zero,i.size,i.bytes))=some (some (.agg #[.int .i64 0,.int .i64 0,.int .i64 0]),3,24):=by kernel_rfl
theorem KQ(x:Dc.Chr):∀u∈AE x,u.oneCell'=true:=fun u hu=>B9.1 (show(AE x).all (·.oneCell')=true from rfl) u hu
theorem D7(x:Dc.Chr):(AE x).length=3:=rfl
theorem S8(v:Value)(l:List Dc.Chr)(x:Dc.Chr)(vb:Nat)(w:World)(hrow:Aq 26 3 AE v l w)(hvb:w.heap[vb]? =some (.cells (AE x).toArray 26 (0,0)))(hne:v.ownBlock≠some vb)(hbig:(l.length+1)*24≤140737488355328):
  Calls Tryz.prog 303 #[v,.int .i64 l.length,.slice (some ⟨vb,0,none⟩) 1 1] w (A6 26 3 AE v (Dc.Ax l l.length x) w):=by
 obtain⟨i0,hi,hz0,hz1,hz2⟩:=info_parts PI
 have hown:w.ownsRow 0 26 3 v l.length (l.flatMap AE):=hrow
 have hlm:=hrow.len_le
 have hnews:∀j u,(AE x)[j]? =some u→w.cell? ((⟨vb,0,none⟩:Addr).add j)=some u:=fun j u hj=>by
  have hadd:(⟨vb,0,none⟩:Addr).add j=⟨vb,j,none⟩:=by unfold Addr.add;split<;>simp_all
  rw[hadd,Cx hvb];simpa using hj
 have hfin:∀v' w',w'.ownsRow 0 26 3 v' (l.length+1) (l.flatMap AE++AE x)→w.grownBy w' v.ownBlock→(v'.ownBlock=v.ownBlock∨v'.ownBlock=some w.heap.size)→A6 26 3 AE v (Dc.Ax l l.length x) w (.returned v') w':=by
  intro v' w' h1 h2 h3
  refine⟨v',rfl,?_,⟨h2.os,h2.tape,h2.output,h2.size,fun k hk hn=>h2.block k hk fun e=>hn e.symm⟩,fun g hg=>?_⟩
  ·unfold Aq
   rw[Dc.A3 (Ac _),CY,AH,EE]
   simpa using h1
  ·rcases h3 with h3|h3
   ·exact .inl (h3▸hg)
   ·rw[h3]at hg;cases hg;exact .inr (Ac _)
 unfold maxLen at hlm
 rcases hrow.form with⟨rfl,rfl⟩|⟨g,cap,cur,rfl,hg,hcap,hcm,_,_⟩
 ·have F:=Hx hfin
  clear hfin hrow
  go_enter Tryz.func303,Tryz.ntmps303
  go_wp2_with(at_builtin;refine wpList_append_own_at _ rfl _ _ 65 rfl 0 26 i0 (.agg #[.int .i64 0,.int .i64 0,.int .i64 0]) 3 24 Tryz.underlying65 hi hz0 hz1 hz2 rfl (by decide) _ _ _ rfl hown ⟨vb,0,none⟩ 1 1 (AE x) rfl rfl hnews (KQ x) ?c3 ?c4 (Ah _) ?_)
  case c3=>simp[maxLen]
  case c4=>simp
  intro v' w' h1 h2 _ h3
  have P:=F.out v' w' (by simpa using h1) h2 h3
  obtain⟨v2,e2,r2,k2,b2⟩:=P
  obtain rfl:v2=v':=by injection e2 with e2;exact e2.symm
  have R2:=Hx r2
  obtain⟨g2,c2,rfl,_⟩:=r2.at (by rw[Dc.A3 (Ac _)];omega)
  clear h1 h2 h3 r2 e2
  go_wp2
  go_ret
  exact⟨_,rfl,R2.out,k2,b2⟩
 ·have F:=Hx hfin
  have hc0:¬cap<l.length:=by omega
  have hcm':cap≤9223372036854775807:=by unfold maxLen at hcm;omega
  generalize hN:l.length=n at*
  have HN:=Hx hN
  clear hfin hrow hN
  by_cases hcn:cap=n
  all_goals
   go_enter Tryz.func303,Tryz.ntmps303
   go_wp2_with(at_builtin;refine wpList_append_own_at _ rfl _ _ 65 rfl 0 26 i0 (.agg #[.int .i64 0,.int .i64 0,.int .i64 0]) 3 24 Tryz.underlying65 hi hz0 hz1 hz2 rfl (by decide) _ _ _ rfl (by first|exact hown|exact hcn▸hown) ⟨vb,0,none⟩ 1 1 (AE x) rfl rfl hnews (KQ x) (by unfold maxLen;omega) (by omega) (Ah _) ?_)
  all_goals
   intro v' w' h1 h2 _ h3
   have P:=F.out v' w' (by first|exact h1|(rw[←hcn];exact h1)) (by first|exact h2|(rw[←hcn];exact h2)) (by first|exact h3|(rw[←hcn];exact h3))
   obtain⟨v2,e2,r2,k2,b2⟩:=P
   obtain rfl:v2=v':=by injection e2 with e2;exact e2.symm
   have R2:=Hx r2
   obtain⟨g2,c2,rfl,_⟩:=r2.at (by rw[Dc.A3 (by rw[HN.out];exact Ac _)];omega)
   clear h1 h2 h3 r2 e2
   have Z:=Hx (show A6 26 3 AE _ (Dc.Ax l n x) w _ w' from⟨_,rfl,R2.out,k2,b2⟩)
   go_wp2
   go_ret
   exact Z.out
theorem Q4(l:List Dc.Chr)(x:Dc.Chr)(i vb g cap:Nat)(w:World)(hrow:Aq 26 3 AE (.slice (some ⟨g,0,none⟩) l.length cap) l w)(hi:i<l.length)(hvb:w.heap[vb]? =some (.cells (AE x).toArray 26 (0,0)))(hbig:(l.length+1)*24≤140737488355328)(hcap:cap=l.length):
  Calls Tryz.prog 303 #[.slice (some ⟨g,0,none⟩) l.length cap,.int .i64 i,.slice (some ⟨vb,0,none⟩) 1 1] w (A6 26 3 AE (.slice (some ⟨g,0,none⟩) l.length cap) (Dc.Ax l i x) w):=by
 subst hcap
 obtain⟨i0,hii,hz0,hz1,hz2⟩:=info_parts PI
 obtain⟨cur,hg,hcs,htk⟩:∃cur,w.heap[g]? =some (.cells cur 26 (0,0))∧cur.size=l.length*3∧cur.toList.take (l.length*3)=l.flatMap AE:=by
  rcases hrow.form with⟨h,_⟩|⟨g',c',cur,h,h1,_,_,h4,h5⟩
  ·cases h
  ·simp only[Value.slice.injEq,AZ,Addr.mk.injEq,DX,DW]at h
   obtain⟨rfl,rfl⟩:=h
   exact⟨cur,h1,h4,h5⟩
 have hgl:=Ao hg
 have hvl:=Ao hvb
 have hL:(l.flatMap AE).length=l.length*3:=Az D7 l
 have hcell:∀j u,(l.flatMap AE)[j]? =some u→w.cell? ⟨g,j,none⟩=some u:=fun j u hj=>by
  rw[←htk]at hj
  rw[Cx hg,←Aw]
  rw[AO]at hj
  split at hj
  ·exact hj
  ·cases hj
 have hone:∀u∈l.flatMap AE,u.oneCell'=true:=fun u hu=>by
  obtain⟨y,_,hy⟩:=Ba.1 hu
  exact KQ y u hy
 have hfin:∀(w':World) (c':Nat) (cur':Array Value),w'.heap[w.heap.size]? =some (.cells cur' 26 (0,0))→cur'.size=c'*3→l.length+1≤c'→c'≤maxLen→cur'.toList.take ((l.length+1)*3)=(l.take i).flatMap AE++AE x++(l.drop i).flatMap AE→Aa No w w'→
   A6 26 3 AE (.slice (some ⟨g,0,none⟩) l.length l.length) (Dc.Ax l i x) w (.returned (.slice (some ⟨w.heap.size,0,none⟩) (l.length+1) c')) w':=by
  intro w' c' cur' h1 h2 h3 h4 h5 h6
  have hl2:(Dc.Ax l i x).length=l.length+1:=Dc.A3 (by omega)
  refine⟨_,rfl,⟨by rw[Az D7],.inr ⟨w.heap.size,c',cur',by rw[hl2],Ah _,h1,by omega,h4,h2,by rw[hl2,CY];exact h5⟩⟩,h6.any,fun k hk=>?_⟩
  have hk':some w.heap.size=some k:=hk
  injection hk' with hk'
  exact .inr (by omega)
 generalize hN:l.length=n at*
 have HN:=Hx hN
 generalize hLL:l.flatMap AE=L at*
 have HL:=Hx hLL
 have hold:(Builtin.firstCells i0.size i (.slice (some ⟨g,0,none⟩) i n)).run Tryz.prog w.drew= .ok (L.take (i*3)).toArray w.drew:=by
  rw[hz1]
  exact run_firstCells_some w.drew 3 i ⟨g,0,none⟩ i n (L.take (i*3)) (by rw[Ad];omega) (fun j v hj=>by
   have hadd:(⟨g,0,none⟩:Addr).add j=⟨g,j,none⟩:=by unfold Addr.add;split<;>simp_all
   rw[hadd]
   rw[AO]at hj
   split at hj
   ·exact hcell j v hj
   ·cases hj)
 have hkk:(n:Int)+1-(i:Int)=((n+1-i:Nat):Int):=by omega
 have hik:i+(n+1-i)=n+1:=by omega
 obtain⟨G,hG⟩:∃G,G=grownCap w (n+1) n 26:=⟨_,rfl⟩
 have hGn:n+1≤G:=by rw[hG];exact grownCap_ge w _ _ _
 have hGm:G≤maxLen:=by rw[hG];exact grownCap_le_maxLen w (n+1) n 26 (by unfold maxLen;omega)
 obtain⟨ROW,hROW⟩:∃ROW:Array Value,ROW=(L.take (i*3)).toArray++Builtin.zeroCells (.agg #[.int .i64 0,.int .i64 0,.int .i64 0]:Value).cells (n+1-i)++Builtin.zeroCells (.agg #[.int .i64 0,.int .i64 0,.int .i64 0]:Value).cells (G-(n+1)):=⟨_,rfl⟩
 have hRs:ROW.size=G*3:=by
  rw[hROW]
  simp only[Array.size_append,List.size_toArray,Ad,size_zeroCells,hL]
  simp only[Value.cells]
  simp
  omega
 have hrz:∀ty,(Builtin.append_ #[65,3] ty #[.slice (some ⟨g,0,none⟩) i n,.int .i64 ((n:Int)+1-(i:Int))]).run Tryz.prog w= .ok (.slice (some ⟨w.heap.size,0,none⟩) (n+1) G) ((w.alloc (.cells ROW 26)).drew):=fun ty=>by
  have h:=Lib.run_append_grow_zeros w 65 3 ty 26 i0 _ .i64 .i64 Tryz.underlying65 Tryz.underlying3 hii hz0 (some ⟨g,0,none⟩) i n (L.take (i*3)) hold (n+1-i) (by omega) (by omega) (by omega) (by omega) (by rw[hz2];omega) (by rw[hz2,hik];exact growslice_fits (by omega) hbig)
  rw[hik]at h
  rw[hkk,hROW,hG]
  exact h
 have hW1:((w.alloc (.cells ROW 26)).drew).heap[w.heap.size]? =some (.cells ROW 26 (0,0)):=Nx w.drew _
 have hcpA:∀ty dc,(Builtin.copy_ #[65,65] ty #[.slice (some ⟨w.heap.size,i*3,none⟩) (n+1-i) dc,.slice (some ⟨vb,0,none⟩) 1 1]).run Tryz.prog ((w.alloc (.cells ROW 26)).drew)= .ok (goInt (Nat.min 1 (n+1-i))) (((w.alloc (.cells ROW 26)).drew).setCells w.heap.size (i*3) (AE x)):=fun ty dc=>
  BK _ _ _ ty 26 3 w.heap.size (i*3) (n+1-i) dc ⟨vb,0,none⟩ 1 1 (AE x) Tryz.underlying65 Rx (by rw[D7,show Nat.min 1 (n+1-i)=1 from by simp only[Cf];split<;>omega])
   (fun j u hj=>by
    have hadd:(⟨vb,0,none⟩:Addr).add j=⟨vb,j,none⟩:=by unfold Addr.add;split<;>simp_all
    rw[hadd];show(w.alloc (.cells ROW 26)).cell? ⟨vb,j,none⟩=some u;rw[World.cell?_alloc_past (w:=w) _ vb j hvl]
    exact(Cx hvb j).trans (by simpa using hj))
   hW1 (by rw[D7,hRs];omega) (KQ x)
 obtain⟨cur2,h2,h2l⟩:=Bc (AE x) (i*3) _ ROW hW1 (by rw[D7,hRs];omega)
 have h2s:cur2.size=G*3:=by
  have:=congrArg List.length h2l
  simp only[AX,Ai,Ad,Am,D7,hRs]at this
  omega
 obtain⟨W2,hW2⟩:∃W2,W2=((w.alloc (.cells ROW 26)).drew).setCells w.heap.size (i*3) (AE x):=⟨_,rfl⟩
 have kk2:Aa No w W2:=by
  rw[hW2]
  refine(((Aa.refl No w).alloc (.cells ROW 26)).drew).step (A4 _ _ _ (Aa.refl (At1 w.heap.size) _)) fun k hk hlt=>?_
  unfold At1 at hk;omega
 rw[←hW2]at hcpA h2
 have hcpB:∀(W:World),W.heap=W2.heap→∀ty dc sc,(Builtin.copy_ #[65,65] ty #[.slice (some ⟨w.heap.size,(i+1)*3,none⟩) (n+1-(i+1)) dc,.slice (some ⟨g,i*3,none⟩) (n-i) sc]).run Tryz.prog W= .ok (goInt (Nat.min (n-i) (n+1-(i+1)))) (W.setCells w.heap.size ((i+1)*3) (L.drop (i*3))):=fun W hW ty dc sc=>
  BK W _ _ ty 26 3 w.heap.size ((i+1)*3) (n+1-(i+1)) dc ⟨g,i*3,none⟩ (n-i) sc (L.drop (i*3)) Tryz.underlying65 Rx (by rw[Am,hL,show Nat.min (n-i) (n+1-(i+1))=n-i from by simp only[Cf];split<;>omega];omega)
   (fun j u hj=>by
    have hadd:(⟨g,i*3,none⟩:Addr).add j=⟨g,i*3+j,none⟩:=by unfold Addr.add;split<;>simp_all
    rw[B5]at hj
    rw[hadd,World.cell?_of_block (w:=W2) (by rw[hW]),kk2.cell hgl id]
    exact hcell _ u hj)
   (by rw[hW];exact h2) (by rw[Am,hL,h2s];omega) (fun u hu=>hone u (BC hu))
 have hFF:∀(W:World),W.heap=W2.heap→Aa No w W→A6 26 3 AE (.slice (some ⟨g,0,none⟩) n n) (Dc.Ax l i x) w (.returned (.slice (some ⟨w.heap.size,0,none⟩) (n+1) G)) (W.setCells w.heap.size ((i+1)*3) (L.drop (i*3))):=fun W hW hk=>by
  obtain⟨cur3,h3,h3l⟩:=Bc (L.drop (i*3)) ((i+1)*3) W cur2 (by rw[hW];exact h2) (by rw[Am,hL,h2s];omega)
  refine hfin _ G cur3 h3 ?_ hGn hGm ?_ ?_
  ·have:=congrArg List.length h3l
   simp only[AX,Ai,Ad,Am,hL,h2s]at this
   omega
  ·have e0:ROW.toList.take (i*3)=L.take (i*3):=by
    rw[hROW]
    simp only[Nw,AI]
    exact Br (by rw[Ad];omega)
   have e1:cur2.toList.take ((i+1)*3)=L.take (i*3)++AE x:=by
    rw[h2l,e0]
    exact Br (by rw[Ai,Ad,D7];omega)
   rw[Du D7,DC D7,HL.out,h3l,e1]
   exact Br (by simp only[Ai,Ad,Am,D7];omega)
  ·refine hk.step (A4 _ _ _ (Aa.refl (At1 w.heap.size) W)) fun k hk' hlt=>?_
   unfold At1 at hk';omega
 have F1:=Hx hFF
 clear hW2
 have F2:=Hx hcpB
 have hnc:¬((i:Int)=(n:Int)):=by omega
 have hin:i≤n:=by omega
 have hb3:(i:Int)≤(n:Int):=by omega
 have hw1:IntKind.i64.wrap ((i:Int)+1)=(i:Int)+1:=by rw[IntKind.wrap_i64];omega
 have hb1:(0:Int)≤(i:Int)+1:=by omega
 have htn:((i:Int)+1).toNat=i+1:=by omega
 have hGi:¬(G=i):=by omega
 have hGim:¬(G=i+1):=by omega
 have hci:¬(n=i):=by omega
 have hG63:G≤9223372036854775807:=by unfold maxLen at hGm;omega
 have hgg:(n:Int)<(n:Int)+1:=by omega
 clear hFF hcpB hfin hold hkk hik hG hROW hRs hW1 h2l h2s hcs htk hone hcell hL hrow
 go_enter Tryz.func303,Tryz.ntmps303
 go_wp2_with(first
  |(at_builtin;refine Lib.wpList_append_run _ rfl _ _ _ _ rfl _ _ rfl rfl _ _ (hrz _) ?_)
  |(refine B7 _ rfl _ _ 65 65 rfl _ _ rfl rfl (hcpA _ _) ?_))
 go_region_law(refine CU rfl _ _ 65 65 rfl (.slice (some ⟨w.heap.size,(i+1)*3,none⟩) (n+1-(i+1)) (G-(i+1))) (.slice (some ⟨g,i*3,none⟩) (n-i) (n-i)) (by simp[Act.eval,Act.put]) (by simp[Act.eval,Act.put]) (F2.out W2.drew rfl _ _ _) ?_)
 go_wp2
 go_ret
 exact F1.out W2.drew rfl kk2.drew
theorem Q3(l:List Dc.Chr)(x:Dc.Chr)(i vb g cap:Nat)(w:World)(hrow:Aq 26 3 AE (.slice (some ⟨g,0,none⟩) l.length cap) l w)(hi:i<l.length)(hvb:w.heap[vb]? =some (.cells (AE x).toArray 26 (0,0)))(hne:vb≠g)(hcap:l.length<cap):
  Calls Tryz.prog 303 #[.slice (some ⟨g,0,none⟩) l.length cap,.int .i64 i,.slice (some ⟨vb,0,none⟩) 1 1] w (A6 26 3 AE (.slice (some ⟨g,0,none⟩) l.length cap) (Dc.Ax l i x) w):=by
 obtain⟨cur,hg,hcm,hcs,htk⟩:∃cur,w.heap[g]? =some (.cells cur 26 (0,0))∧cap≤maxLen∧cur.size=cap*3∧cur.toList.take (l.length*3)=l.flatMap AE:=by
  rcases hrow.form with⟨h,_⟩|⟨g',c',cur,h,h1,_,h3,h4,h5⟩
  ·cases h
  ·simp only[Value.slice.injEq,AZ,Addr.mk.injEq,DX,DW]at h
   obtain⟨rfl,rfl⟩:=h
   exact⟨cur,h1,h3,h4,h5⟩
 have hgl:=Ao hg
 have hvl:=Ao hvb
 have hL:(l.flatMap AE).length=l.length*3:=Az D7 l
 have hcell:∀j u,(l.flatMap AE)[j]? =some u→w.cell? ⟨g,j,none⟩=some u:=fun j u hj=>by
  rw[←htk]at hj
  rw[Cx hg,←Aw]
  rw[AO]at hj
  split at hj
  ·exact hj
  ·cases hj
 have hone:∀u∈l.flatMap AE,u.oneCell'=true:=fun u hu=>by
  obtain⟨y,_,hy⟩:=Ba.1 hu
  exact KQ y u hy
 have hfin:∀(w':World) (cur':Array Value),w'.heap[g]? =some (.cells cur' 26 (0,0))→cur'.size=cap*3→cur'.toList.take ((l.length+1)*3)=(l.take i).flatMap AE++AE x++(l.drop i).flatMap AE→Aa (At1 g) w w'→
   A6 26 3 AE (.slice (some ⟨g,0,none⟩) l.length cap) (Dc.Ax l i x) w (.returned (.slice (some ⟨g,0,none⟩) (l.length+1) cap)) w':=by
  intro w' cur' h1 h2 h5 h6
  have hl2:(Dc.Ax l i x).length=l.length+1:=Dc.A3 (by omega)
  exact⟨_,rfl,⟨by rw[Az D7],.inr ⟨g,cap,cur',by rw[hl2],Ah _,h1,by omega,hcm,h2,by rw[hl2,CY];exact h5⟩⟩,h6.mono fun k hk _=>by(unfold At1 at hk;subst hk;rfl),fun k hk=> .inl hk⟩
 have hov:∀lb cb,(callFunc 338 #[.slice (some ⟨vb,0,none⟩) 1 1,.slice (some ⟨g,(i+1)*3,none⟩) lb cb]).run Tryz.prog w= .ok (.value (.bool false)) w:=fun lb cb=>by
  rw[run_callFunc_extern Tryz.func338 Rx Rx Rx (e:=Extern.SlicesOverlaps.overlaps #[65,65] #[4]) Rx,
   Lib.run_overlaps_apart w 65 4 26 Tryz.underlying65 3 (fun w=>by kernel_rfl) ⟨vb,0,none⟩ ⟨g,(i+1)*3,none⟩ 1 1 lb cb hne 26 26 (AE x).toArray.size cur.size (by simp[World.shape?,hvb]) (by simp[World.shape?,hg]) (by omega) (Fx hvb _) (Fx hvb _)]
  rfl
 have hc0:¬cap<l.length:=by omega
 have hcm':cap≤9223372036854775807:=by unfold maxLen at hcm;omega
 generalize hN:l.length=n at*
 have HN:=Hx hN
 generalize hLL:l.flatMap AE=L at*
 have HL:=Hx hLL
 have hcpA:∀(W:World),W.heap=w.heap→∀ty dc sc,(Builtin.copy_ #[65,65] ty #[.slice (some ⟨g,(i+1)*3,none⟩) (n+1-(i+1)) dc,.slice (some ⟨g,i*3,none⟩) (n+1-i) sc]).run Tryz.prog W= .ok (goInt (Nat.min (n+1-i) (n+1-(i+1)))) (W.setCells g ((i+1)*3) (L.drop (i*3))):=fun W hW ty dc sc=>
  BK W _ _ ty 26 3 g ((i+1)*3) (n+1-(i+1)) dc ⟨g,i*3,none⟩ (n+1-i) sc (L.drop (i*3)) Tryz.underlying65 Rx (by rw[Am,hL,show Nat.min (n+1-i) (n+1-(i+1))=n-i from by simp only[Cf];split<;>omega];omega)
   (fun j u hj=>by
    have hadd:(⟨g,i*3,none⟩:Addr).add j=⟨g,i*3+j,none⟩:=by unfold Addr.add;split<;>simp_all
    rw[B5]at hj
    rw[hadd,World.cell?_of_block (w:=w) (by rw[hW])]
    exact hcell _ u hj)
   (by rw[hW];exact hg) (by rw[Am,hL,hcs];omega) (fun u hu=>hone u (BC hu))
 obtain⟨W2,hW2⟩:∃W2,W2=w.drew.setCells g ((i+1)*3) (L.drop (i*3)):=⟨_,rfl⟩
 obtain⟨cur2,h2,h2l⟩:=Bc (L.drop (i*3)) ((i+1)*3) w.drew cur hg (by rw[Am,hL,hcs];omega)
 rw[←hW2]at h2
 have h2s:cur2.size=cap*3:=by
  have:=congrArg List.length h2l
  simp only[AX,Ai,Ad,Am,hL,hcs]at this
  omega
 have kk2:Aa (At1 g) w W2:=by
  rw[hW2]
  exact A4 _ _ _ ((Aa.refl (At1 g) w).drew)
 have hcpA':∀ty dc sc,(Builtin.copy_ #[65,65] ty #[.slice (some ⟨g,(i+1)*3,none⟩) (n+1-(i+1)) dc,.slice (some ⟨g,i*3,none⟩) (n+1-i) sc]).run Tryz.prog w.drew= .ok (goInt (Nat.min (n+1-i) (n+1-(i+1)))) W2:=fun ty dc sc=>by
  rw[hW2];exact hcpA w.drew rfl ty dc sc
 have hcpB:∀ty dc,(Builtin.copy_ #[65,65] ty #[.slice (some ⟨g,i*3,none⟩) (n+1-i) dc,.slice (some ⟨vb,0,none⟩) 1 1]).run Tryz.prog W2= .ok (goInt (Nat.min 1 (n+1-i))) (W2.setCells g (i*3) (AE x)):=fun ty dc=>
  BK W2 _ _ ty 26 3 g (i*3) (n+1-i) dc ⟨vb,0,none⟩ 1 1 (AE x) Tryz.underlying65 Rx (by rw[D7,show Nat.min 1 (n+1-i)=1 from by simp only[Cf];split<;>omega])
   (fun j u hj=>by
    have hadd:(⟨vb,0,none⟩:Addr).add j=⟨vb,j,none⟩:=by unfold Addr.add;split<;>simp_all
    rw[hadd,kk2.cell hvl (fun e=>hne e)]
    exact(Cx hvb j).trans (by simpa using hj))
   h2 (by rw[D7,h2s];omega) (KQ x)
 have hFF:A6 26 3 AE (.slice (some ⟨g,0,none⟩) n cap) (Dc.Ax l i x) w (.returned (.slice (some ⟨g,0,none⟩) (n+1) cap)) (W2.setCells g (i*3) (AE x)):=by
  obtain⟨cur3,h3,h3l⟩:=Bc (AE x) (i*3) W2 cur2 h2 (by rw[D7,h2s];omega)
  refine hfin _ cur3 h3 ?_ ?_ (A4 _ _ _ kk2)
  ·have:=congrArg List.length h3l
   simp only[AX,Ai,Ad,Am,D7,h2s]at this
   omega
  ·have hcl:cur.toList.length=cap*3:=by simpa using hcs
   have e0:cur2.toList.take (i*3)=L.take (i*3):=by
    rw[h2l,AI,Dj (by rw[Ad,hcl];omega),C3,B8 (by omega),←htk,C3,B8 (by omega)]
   have e1:cur2.toList.drop ((i+1)*3)=L.drop (i*3)++cur.toList.drop ((i+1)*3+(L.drop (i*3)).length):=by
    rw[h2l,AI]
    exact List.drop_left' (by rw[Ad,hcl];omega)
   rw[Du D7,DC D7,HL.out,h3l,e0,D7,show i*3+3=(i+1)*3 by omega,e1,←AI]
   exact Br (by simp only[Ai,Ad,Am,D7,hL];omega)
 have F1:=Hx hFF
 have F2:=Hx hcpA'
 have hnc:¬((i:Int)=(n:Int)):=by omega
 have hin:i≤n:=by omega
 have hb3:(i:Int)≤(n:Int):=by omega
 have hb4:(i:Int)≤(n:Int)+1:=by omega
 have hw1:IntKind.i64.wrap ((i:Int)+1)=(i:Int)+1:=by rw[IntKind.wrap_i64];omega
 have hb1:(0:Int)≤(i:Int)+1:=by omega
 have htn:((i:Int)+1).toNat=i+1:=by omega
 have hci:¬(cap=i):=by omega
 have hci1:¬(cap=i+1):=by omega
 have hgg:(n:Int)+1≤(cap:Int):=by omega
 clear hFF hcpA hcpA' hfin hcs htk hone hcell hL hrow hW2 h2l h2s h2
 go_enter Tryz.func303,Tryz.ntmps303
 go_wp2_with(simp only[hov])
 go_region_law(refine CU rfl _ _ 65 65 rfl (.slice (some ⟨g,(i+1)*3,none⟩) (n+1-(i+1)) (cap-(i+1))) (.slice (some ⟨g,i*3,none⟩) (n+1-i) (cap-i)) (by simp[Act.eval,Act.put]) (by simp[Act.eval,Act.put]) (F2.out _ _ _) ?_)
 go_wp2_with(refine B7 _ rfl _ _ 65 65 rfl _ _ rfl rfl (hcpB _ _) ?_)
 go_ret
 exact F1.out
theorem M3(v:Value)(l:List Dc.Chr)(x:Dc.Chr)(i vb:Nat)(w:World)(hrow:Aq 26 3 AE v l w)(hvb:w.heap[vb]? =some (.cells (AE x).toArray 26 (0,0)))(hne:v.ownBlock≠some vb)(hbig:(l.length+1)*24≤140737488355328)(hi:i≤l.length):
  Calls Tryz.prog 303 #[v,.int .i64 i,.slice (some ⟨vb,0,none⟩) 1 1] w (A6 26 3 AE v (Dc.Ax l i x) w):=by
 rcases BR hi with rfl|hlt
 ·exact S8 v l x vb w hrow hvb hne hbig
 ·rcases hrow.form with⟨rfl,rfl⟩|⟨g,cap,cur,rfl,hg,hcap,_⟩
  ·simp at hlt
  ·rcases BR hcap with e|hc
   ·subst e
    exact Q4 l x i vb g _ w hrow hlt hvb hbig rfl
   ·exact Q3 l x i vb g cap w hrow hlt hvb (fun e=>hne (by rw[e];rfl)) hc
theorem Q5:(Tryz.prog.info? 265).map (fun i=>(i.zero,i.size,i.bytes))=some (some (.agg #[.int .i64 0,.int .i64 0,.int .i64 0,.int .i64 0,.int .i64 0,.int .i64 0,.int .i64 0,.int .i64 0,.string ⟨#[]⟩,.bool false,.int .i64 0,.int .i64 0,.string ⟨#[]⟩,.bool false]),14,128):=by kernel_rfl
theorem Jg(x:Dc.CS):∀u∈Av x,u.oneCell'=true:=fun u hu=>B9.1 (show(Av x).all (·.oneCell')=true from rfl) u hu
theorem Dk(x:Dc.CS):(Av x).length=14:=rfl
theorem QZ(v:Value)(l:List Dc.CS)(x:Dc.CS)(vb:Nat)(w:World)(hrow:Aq 265 14 Av v l w)(hvb:w.heap[vb]? =some (.cells (Av x).toArray 265 (0,0)))(hne:v.ownBlock≠some vb)(hbig:(l.length+1)*128≤140737488355328):
  Calls Tryz.prog 171 #[v,.int .i64 l.length,.slice (some ⟨vb,0,none⟩) 1 1] w (A6 265 14 Av v (Dc.Ax l l.length x) w):=by
 obtain⟨i0,hi,hz0,hz1,hz2⟩:=info_parts Q5
 have hown:w.ownsRow 0 265 14 v l.length (l.flatMap Av):=hrow
 have hlm:=hrow.len_le
 have hnews:∀j u,(Av x)[j]? =some u→w.cell? ((⟨vb,0,none⟩:Addr).add j)=some u:=fun j u hj=>by
  have hadd:(⟨vb,0,none⟩:Addr).add j=⟨vb,j,none⟩:=by unfold Addr.add;split<;>simp_all
  rw[hadd,Cx hvb];simpa using hj
 have hfin:∀v' w',w'.ownsRow 0 265 14 v' (l.length+1) (l.flatMap Av++Av x)→w.grownBy w' v.ownBlock→(v'.ownBlock=v.ownBlock∨v'.ownBlock=some w.heap.size)→A6 265 14 Av v (Dc.Ax l l.length x) w (.returned v') w':=by
  intro v' w' h1 h2 h3
  refine⟨v',rfl,?_,⟨h2.os,h2.tape,h2.output,h2.size,fun k hk hn=>h2.block k hk fun e=>hn e.symm⟩,fun g hg=>?_⟩
  ·unfold Aq
   rw[Dc.A3 (Ac _),CY,AH,EE]
   simpa using h1
  ·rcases h3 with h3|h3
   ·exact .inl (h3▸hg)
   ·rw[h3]at hg;cases hg;exact .inr (Ac _)
 unfold maxLen at hlm
 rcases hrow.form with⟨rfl,rfl⟩|⟨g,cap,cur,rfl,hg,hcap,hcm,_,_⟩
 ·have F:=Hx hfin
  clear hfin hrow
  go_enter Tryz.func171,Tryz.ntmps171
  go_wp2_with(at_builtin;refine wpList_append_own_at _ rfl _ _ 192 rfl 0 265 i0 (.agg #[.int .i64 0,.int .i64 0,.int .i64 0,.int .i64 0,.int .i64 0,.int .i64 0,.int .i64 0,.int .i64 0,.string ⟨#[]⟩,.bool false,.int .i64 0,.int .i64 0,.string ⟨#[]⟩,.bool false]) 14 128 Tryz.underlying192 hi hz0 hz1 hz2 rfl (by decide) _ _ _ rfl hown ⟨vb,0,none⟩ 1 1 (Av x) rfl rfl hnews (Jg x) ?c3 ?c4 (Ah _) ?_)
  case c3=>simp[maxLen]
  case c4=>simp
  intro v' w' h1 h2 _ h3
  have P:=F.out v' w' (by simpa using h1) h2 h3
  obtain⟨v2,e2,r2,k2,b2⟩:=P
  obtain rfl:v2=v':=by injection e2 with e2;exact e2.symm
  have R2:=Hx r2
  obtain⟨g2,c2,rfl,_⟩:=r2.at (by rw[Dc.A3 (Ac _)];omega)
  clear h1 h2 h3 r2 e2
  go_wp2
  go_ret
  exact⟨_,rfl,R2.out,k2,b2⟩
 ·have F:=Hx hfin
  have hc0:¬cap<l.length:=by omega
  have hcm':cap≤9223372036854775807:=by unfold maxLen at hcm;omega
  generalize hN:l.length=n at*
  have HN:=Hx hN
  clear hfin hrow hN
  by_cases hcn:cap=n
  all_goals
   go_enter Tryz.func171,Tryz.ntmps171
   go_wp2_with(at_builtin;refine wpList_append_own_at _ rfl _ _ 192 rfl 0 265 i0 (.agg #[.int .i64 0,.int .i64 0,.int .i64 0,.int .i64 0,.int .i64 0,.int .i64 0,.int .i64 0,.int .i64 0,.string ⟨#[]⟩,.bool false,.int .i64 0,.int .i64 0,.string ⟨#[]⟩,.bool false]) 14 128 Tryz.underlying192 hi hz0 hz1 hz2 rfl (by decide) _ _ _ rfl (by first|exact hown|exact hcn▸hown) ⟨vb,0,none⟩ 1 1 (Av x) rfl rfl hnews (Jg x) (by unfold maxLen;omega) (by omega) (Ah _) ?_)
  all_goals
   intro v' w' h1 h2 _ h3
   have P:=F.out v' w' (by first|exact h1|(rw[←hcn];exact h1)) (by first|exact h2|(rw[←hcn];exact h2)) (by first|exact h3|(rw[←hcn];exact h3))
   obtain⟨v2,e2,r2,k2,b2⟩:=P
   obtain rfl:v2=v':=by injection e2 with e2;exact e2.symm
   have R2:=Hx r2
   obtain⟨g2,c2,rfl,_⟩:=r2.at (by rw[Dc.A3 (by rw[HN.out];exact Ac _)];omega)
   clear h1 h2 h3 r2 e2
   have Z:=Hx (show A6 265 14 Av _ (Dc.Ax l n x) w _ w' from⟨_,rfl,R2.out,k2,b2⟩)
   go_wp2
   go_ret
   exact Z.out
theorem PC(l:List Dc.CS)(x:Dc.CS)(i vb g cap:Nat)(w:World)(hrow:Aq 265 14 Av (.slice (some ⟨g,0,none⟩) l.length cap) l w)(hi:i<l.length)(hvb:w.heap[vb]? =some (.cells (Av x).toArray 265 (0,0)))(hbig:(l.length+1)*128≤140737488355328)(hcap:cap=l.length):
  Calls Tryz.prog 171 #[.slice (some ⟨g,0,none⟩) l.length cap,.int .i64 i,.slice (some ⟨vb,0,none⟩) 1 1] w (A6 265 14 Av (.slice (some ⟨g,0,none⟩) l.length cap) (Dc.Ax l i x) w):=by
 subst hcap
 obtain⟨i0,hii,hz0,hz1,hz2⟩:=info_parts Q5
 obtain⟨cur,hg,hcs,htk⟩:∃cur,w.heap[g]? =some (.cells cur 265 (0,0))∧cur.size=l.length*14∧cur.toList.take (l.length*14)=l.flatMap Av:=by
  rcases hrow.form with⟨h,_⟩|⟨g',c',cur,h,h1,_,_,h4,h5⟩
  ·cases h
  ·simp only[Value.slice.injEq,AZ,Addr.mk.injEq,DX,DW]at h
   obtain⟨rfl,rfl⟩:=h
   exact⟨cur,h1,h4,h5⟩
 have hgl:=Ao hg
 have hvl:=Ao hvb
 have hL:(l.flatMap Av).length=l.length*14:=Az Dk l
 have hcell:∀j u,(l.flatMap Av)[j]? =some u→w.cell? ⟨g,j,none⟩=some u:=fun j u hj=>by
  rw[←htk]at hj
  rw[Cx hg,←Aw]
  rw[AO]at hj
  split at hj
  ·exact hj
  ·cases hj
 have hone:∀u∈l.flatMap Av,u.oneCell'=true:=fun u hu=>by
  obtain⟨y,_,hy⟩:=Ba.1 hu
  exact Jg y u hy
 have hfin:∀(w':World) (c':Nat) (cur':Array Value),w'.heap[w.heap.size]? =some (.cells cur' 265 (0,0))→cur'.size=c'*14→l.length+1≤c'→c'≤maxLen→cur'.toList.take ((l.length+1)*14)=(l.take i).flatMap Av++Av x++(l.drop i).flatMap Av→Aa No w w'→
   A6 265 14 Av (.slice (some ⟨g,0,none⟩) l.length l.length) (Dc.Ax l i x) w (.returned (.slice (some ⟨w.heap.size,0,none⟩) (l.length+1) c')) w':=by
  intro w' c' cur' h1 h2 h3 h4 h5 h6
  have hl2:(Dc.Ax l i x).length=l.length+1:=Dc.A3 (by omega)
  refine⟨_,rfl,⟨by rw[Az Dk],.inr ⟨w.heap.size,c',cur',by rw[hl2],Ah _,h1,by omega,h4,h2,by rw[hl2,CY];exact h5⟩⟩,h6.any,fun k hk=>?_⟩
  have hk':some w.heap.size=some k:=hk
  injection hk' with hk'
  exact .inr (by omega)
 generalize hN:l.length=n at*
 have HN:=Hx hN
 generalize hLL:l.flatMap Av=L at*
 have HL:=Hx hLL
 have hold:(Builtin.firstCells i0.size i (.slice (some ⟨g,0,none⟩) i n)).run Tryz.prog w.drew= .ok (L.take (i*14)).toArray w.drew:=by
  rw[hz1]
  exact run_firstCells_some w.drew 14 i ⟨g,0,none⟩ i n (L.take (i*14)) (by rw[Ad];omega) (fun j v hj=>by
   have hadd:(⟨g,0,none⟩:Addr).add j=⟨g,j,none⟩:=by unfold Addr.add;split<;>simp_all
   rw[hadd]
   rw[AO]at hj
   split at hj
   ·exact hcell j v hj
   ·cases hj)
 have hkk:(n:Int)+1-(i:Int)=((n+1-i:Nat):Int):=by omega
 have hik:i+(n+1-i)=n+1:=by omega
 obtain⟨G,hG⟩:∃G,G=grownCap w (n+1) n 265:=⟨_,rfl⟩
 have hGn:n+1≤G:=by rw[hG];exact grownCap_ge w _ _ _
 have hGm:G≤maxLen:=by rw[hG];exact grownCap_le_maxLen w (n+1) n 265 (by unfold maxLen;omega)
 obtain⟨ROW,hROW⟩:∃ROW:Array Value,ROW=(L.take (i*14)).toArray++Builtin.zeroCells (.agg #[.int .i64 0,.int .i64 0,.int .i64 0,.int .i64 0,.int .i64 0,.int .i64 0,.int .i64 0,.int .i64 0,.string ⟨#[]⟩,.bool false,.int .i64 0,.int .i64 0,.string ⟨#[]⟩,.bool false]:Value).cells (n+1-i)++Builtin.zeroCells (.agg #[.int .i64 0,.int .i64 0,.int .i64 0,.int .i64 0,.int .i64 0,.int .i64 0,.int .i64 0,.int .i64 0,.string ⟨#[]⟩,.bool false,.int .i64 0,.int .i64 0,.string ⟨#[]⟩,.bool false]:Value).cells (G-(n+1)):=⟨_,rfl⟩
 have hRs:ROW.size=G*14:=by
  rw[hROW]
  simp only[Array.size_append,List.size_toArray,Ad,size_zeroCells,hL]
  simp only[Value.cells]
  simp
  omega
 have hrz:∀ty,(Builtin.append_ #[192,3] ty #[.slice (some ⟨g,0,none⟩) i n,.int .i64 ((n:Int)+1-(i:Int))]).run Tryz.prog w= .ok (.slice (some ⟨w.heap.size,0,none⟩) (n+1) G) ((w.alloc (.cells ROW 265)).drew):=fun ty=>by
  have h:=Lib.run_append_grow_zeros w 192 3 ty 265 i0 _ .i64 .i64 Tryz.underlying192 Tryz.underlying3 hii hz0 (some ⟨g,0,none⟩) i n (L.take (i*14)) hold (n+1-i) (by omega) (by omega) (by omega) (by omega) (by rw[hz2];omega) (by rw[hz2,hik];exact growslice_fits (by omega) hbig)
  rw[hik]at h
  rw[hkk,hROW,hG]
  exact h
 have hW1:((w.alloc (.cells ROW 265)).drew).heap[w.heap.size]? =some (.cells ROW 265 (0,0)):=Nx w.drew _
 have hcpA:∀ty dc,(Builtin.copy_ #[192,192] ty #[.slice (some ⟨w.heap.size,i*14,none⟩) (n+1-i) dc,.slice (some ⟨vb,0,none⟩) 1 1]).run Tryz.prog ((w.alloc (.cells ROW 265)).drew)= .ok (goInt (Nat.min 1 (n+1-i))) (((w.alloc (.cells ROW 265)).drew).setCells w.heap.size (i*14) (Av x)):=fun ty dc=>
  BK _ _ _ ty 265 14 w.heap.size (i*14) (n+1-i) dc ⟨vb,0,none⟩ 1 1 (Av x) Tryz.underlying192 Rx (by rw[Dk,show Nat.min 1 (n+1-i)=1 from by simp only[Cf];split<;>omega])
   (fun j u hj=>by
    have hadd:(⟨vb,0,none⟩:Addr).add j=⟨vb,j,none⟩:=by unfold Addr.add;split<;>simp_all
    rw[hadd];show(w.alloc (.cells ROW 265)).cell? ⟨vb,j,none⟩=some u;rw[World.cell?_alloc_past (w:=w) _ vb j hvl]
    exact(Cx hvb j).trans (by simpa using hj))
   hW1 (by rw[Dk,hRs];omega) (Jg x)
 obtain⟨cur2,h2,h2l⟩:=Bc (Av x) (i*14) _ ROW hW1 (by rw[Dk,hRs];omega)
 have h2s:cur2.size=G*14:=by
  have:=congrArg List.length h2l
  simp only[AX,Ai,Ad,Am,Dk,hRs]at this
  omega
 obtain⟨W2,hW2⟩:∃W2,W2=((w.alloc (.cells ROW 265)).drew).setCells w.heap.size (i*14) (Av x):=⟨_,rfl⟩
 have kk2:Aa No w W2:=by
  rw[hW2]
  refine(((Aa.refl No w).alloc (.cells ROW 265)).drew).step (A4 _ _ _ (Aa.refl (At1 w.heap.size) _)) fun k hk hlt=>?_
  unfold At1 at hk;omega
 rw[←hW2]at hcpA h2
 have hcpB:∀(W:World),W.heap=W2.heap→∀ty dc sc,(Builtin.copy_ #[192,192] ty #[.slice (some ⟨w.heap.size,(i+1)*14,none⟩) (n+1-(i+1)) dc,.slice (some ⟨g,i*14,none⟩) (n-i) sc]).run Tryz.prog W= .ok (goInt (Nat.min (n-i) (n+1-(i+1)))) (W.setCells w.heap.size ((i+1)*14) (L.drop (i*14))):=fun W hW ty dc sc=>
  BK W _ _ ty 265 14 w.heap.size ((i+1)*14) (n+1-(i+1)) dc ⟨g,i*14,none⟩ (n-i) sc (L.drop (i*14)) Tryz.underlying192 Rx (by rw[Am,hL,show Nat.min (n-i) (n+1-(i+1))=n-i from by simp only[Cf];split<;>omega];omega)
   (fun j u hj=>by
    have hadd:(⟨g,i*14,none⟩:Addr).add j=⟨g,i*14+j,none⟩:=by unfold Addr.add;split<;>simp_all
    rw[B5]at hj
    rw[hadd,World.cell?_of_block (w:=W2) (by rw[hW]),kk2.cell hgl id]
    exact hcell _ u hj)
   (by rw[hW];exact h2) (by rw[Am,hL,h2s];omega) (fun u hu=>hone u (BC hu))
 have hFF:∀(W:World),W.heap=W2.heap→Aa No w W→A6 265 14 Av (.slice (some ⟨g,0,none⟩) n n) (Dc.Ax l i x) w (.returned (.slice (some ⟨w.heap.size,0,none⟩) (n+1) G)) (W.setCells w.heap.size ((i+1)*14) (L.drop (i*14))):=fun W hW hk=>by
  obtain⟨cur3,h3,h3l⟩:=Bc (L.drop (i*14)) ((i+1)*14) W cur2 (by rw[hW];exact h2) (by rw[Am,hL,h2s];omega)
  refine hfin _ G cur3 h3 ?_ hGn hGm ?_ ?_
  ·have:=congrArg List.length h3l
   simp only[AX,Ai,Ad,Am,hL,h2s]at this
   omega
  ·have e0:ROW.toList.take (i*14)=L.take (i*14):=by
    rw[hROW]
    simp only[Nw,AI]
    exact Br (by rw[Ad];omega)
   have e1:cur2.toList.take ((i+1)*14)=L.take (i*14)++Av x:=by
    rw[h2l,e0]
    exact Br (by rw[Ai,Ad,Dk];omega)
   rw[Du Dk,DC Dk,HL.out,h3l,e1]
   exact Br (by simp only[Ai,Ad,Am,Dk];omega)
  ·refine hk.step (A4 _ _ _ (Aa.refl (At1 w.heap.size) W)) fun k hk' hlt=>?_
   unfold At1 at hk';omega
 have F1:=Hx hFF
 clear hW2
 have F2:=Hx hcpB
 have hnc:¬((i:Int)=(n:Int)):=by omega
 have hin:i≤n:=by omega
 have hb3:(i:Int)≤(n:Int):=by omega
 have hw1:IntKind.i64.wrap ((i:Int)+1)=(i:Int)+1:=by rw[IntKind.wrap_i64];omega
 have hb1:(0:Int)≤(i:Int)+1:=by omega
 have htn:((i:Int)+1).toNat=i+1:=by omega
 have hGi:¬(G=i):=by omega
 have hGim:¬(G=i+1):=by omega
 have hci:¬(n=i):=by omega
 have hG63:G≤9223372036854775807:=by unfold maxLen at hGm;omega
 have hgg:(n:Int)<(n:Int)+1:=by omega
 clear hFF hcpB hfin hold hkk hik hG hROW hRs hW1 h2l h2s hcs htk hone hcell hL hrow
 go_enter Tryz.func171,Tryz.ntmps171
 go_wp2_with(first
  |(at_builtin;refine Lib.wpList_append_run _ rfl _ _ _ _ rfl _ _ rfl rfl _ _ (hrz _) ?_)
  |(refine B7 _ rfl _ _ 192 192 rfl _ _ rfl rfl (hcpA _ _) ?_))
 go_region_law(refine CU rfl _ _ 192 192 rfl (.slice (some ⟨w.heap.size,(i+1)*14,none⟩) (n+1-(i+1)) (G-(i+1))) (.slice (some ⟨g,i*14,none⟩) (n-i) (n-i)) (by simp[Act.eval,Act.put]) (by simp[Act.eval,Act.put]) (F2.out W2.drew rfl _ _ _) ?_)
 go_wp2
 go_ret
 exact F1.out W2.drew rfl kk2.drew
theorem Pz(l:List Dc.CS)(x:Dc.CS)(i vb g cap:Nat)(w:World)(hrow:Aq 265 14 Av (.slice (some ⟨g,0,none⟩) l.length cap) l w)(hi:i<l.length)(hvb:w.heap[vb]? =some (.cells (Av x).toArray 265 (0,0)))(hne:vb≠g)(hcap:l.length<cap):
  Calls Tryz.prog 171 #[.slice (some ⟨g,0,none⟩) l.length cap,.int .i64 i,.slice (some ⟨vb,0,none⟩) 1 1] w (A6 265 14 Av (.slice (some ⟨g,0,none⟩) l.length cap) (Dc.Ax l i x) w):=by
 obtain⟨cur,hg,hcm,hcs,htk⟩:∃cur,w.heap[g]? =some (.cells cur 265 (0,0))∧cap≤maxLen∧cur.size=cap*14∧cur.toList.take (l.length*14)=l.flatMap Av:=by
  rcases hrow.form with⟨h,_⟩|⟨g',c',cur,h,h1,_,h3,h4,h5⟩
  ·cases h
  ·simp only[Value.slice.injEq,AZ,Addr.mk.injEq,DX,DW]at h
   obtain⟨rfl,rfl⟩:=h
   exact⟨cur,h1,h3,h4,h5⟩
 have hgl:=Ao hg
 have hvl:=Ao hvb
 have hL:(l.flatMap Av).length=l.length*14:=Az Dk l
 have hcell:∀j u,(l.flatMap Av)[j]? =some u→w.cell? ⟨g,j,none⟩=some u:=fun j u hj=>by
  rw[←htk]at hj
  rw[Cx hg,←Aw]
  rw[AO]at hj
  split at hj
  ·exact hj
  ·cases hj
 have hone:∀u∈l.flatMap Av,u.oneCell'=true:=fun u hu=>by
  obtain⟨y,_,hy⟩:=Ba.1 hu
  exact Jg y u hy
 have hfin:∀(w':World) (cur':Array Value),w'.heap[g]? =some (.cells cur' 265 (0,0))→cur'.size=cap*14→cur'.toList.take ((l.length+1)*14)=(l.take i).flatMap Av++Av x++(l.drop i).flatMap Av→Aa (At1 g) w w'→
   A6 265 14 Av (.slice (some ⟨g,0,none⟩) l.length cap) (Dc.Ax l i x) w (.returned (.slice (some ⟨g,0,none⟩) (l.length+1) cap)) w':=by
  intro w' cur' h1 h2 h5 h6
  have hl2:(Dc.Ax l i x).length=l.length+1:=Dc.A3 (by omega)
  exact⟨_,rfl,⟨by rw[Az Dk],.inr ⟨g,cap,cur',by rw[hl2],Ah _,h1,by omega,hcm,h2,by rw[hl2,CY];exact h5⟩⟩,h6.mono fun k hk _=>by(unfold At1 at hk;subst hk;rfl),fun k hk=> .inl hk⟩
 have hov:∀lb cb,(callFunc 223 #[.slice (some ⟨vb,0,none⟩) 1 1,.slice (some ⟨g,(i+1)*14,none⟩) lb cb]).run Tryz.prog w= .ok (.value (.bool false)) w:=fun lb cb=>by
  rw[run_callFunc_extern Tryz.func223 Rx Rx Rx (e:=Extern.SlicesOverlaps.overlaps #[192,192] #[4]) Rx,
   Lib.run_overlaps_apart w 192 4 265 Tryz.underlying192 14 (fun w=>by kernel_rfl) ⟨vb,0,none⟩ ⟨g,(i+1)*14,none⟩ 1 1 lb cb hne 265 265 (Av x).toArray.size cur.size (by simp[World.shape?,hvb]) (by simp[World.shape?,hg]) (by omega) (Fx hvb _) (Fx hvb _)]
  rfl
 have hc0:¬cap<l.length:=by omega
 have hcm':cap≤9223372036854775807:=by unfold maxLen at hcm;omega
 generalize hN:l.length=n at*
 have HN:=Hx hN
 generalize hLL:l.flatMap Av=L at*
 have HL:=Hx hLL
 have hcpA:∀(W:World),W.heap=w.heap→∀ty dc sc,(Builtin.copy_ #[192,192] ty #[.slice (some ⟨g,(i+1)*14,none⟩) (n+1-(i+1)) dc,.slice (some ⟨g,i*14,none⟩) (n+1-i) sc]).run Tryz.prog W= .ok (goInt (Nat.min (n+1-i) (n+1-(i+1)))) (W.setCells g ((i+1)*14) (L.drop (i*14))):=fun W hW ty dc sc=>
  BK W _ _ ty 265 14 g ((i+1)*14) (n+1-(i+1)) dc ⟨g,i*14,none⟩ (n+1-i) sc (L.drop (i*14)) Tryz.underlying192 Rx (by rw[Am,hL,show Nat.min (n+1-i) (n+1-(i+1))=n-i from by simp only[Cf];split<;>omega];omega)
   (fun j u hj=>by
    have hadd:(⟨g,i*14,none⟩:Addr).add j=⟨g,i*14+j,none⟩:=by unfold Addr.add;split<;>simp_all
    rw[B5]at hj
    rw[hadd,World.cell?_of_block (w:=w) (by rw[hW])]
    exact hcell _ u hj)
   (by rw[hW];exact hg) (by rw[Am,hL,hcs];omega) (fun u hu=>hone u (BC hu))
 obtain⟨W2,hW2⟩:∃W2,W2=w.drew.setCells g ((i+1)*14) (L.drop (i*14)):=⟨_,rfl⟩
 obtain⟨cur2,h2,h2l⟩:=Bc (L.drop (i*14)) ((i+1)*14) w.drew cur hg (by rw[Am,hL,hcs];omega)
 rw[←hW2]at h2
 have h2s:cur2.size=cap*14:=by
  have:=congrArg List.length h2l
  simp only[AX,Ai,Ad,Am,hL,hcs]at this
  omega
 have kk2:Aa (At1 g) w W2:=by
  rw[hW2]
  exact A4 _ _ _ ((Aa.refl (At1 g) w).drew)
 have hcpA':∀ty dc sc,(Builtin.copy_ #[192,192] ty #[.slice (some ⟨g,(i+1)*14,none⟩) (n+1-(i+1)) dc,.slice (some ⟨g,i*14,none⟩) (n+1-i) sc]).run Tryz.prog w.drew= .ok (goInt (Nat.min (n+1-i) (n+1-(i+1)))) W2:=fun ty dc sc=>by
  rw[hW2];exact hcpA w.drew rfl ty dc sc
 have hcpB:∀ty dc,(Builtin.copy_ #[192,192] ty #[.slice (some ⟨g,i*14,none⟩) (n+1-i) dc,.slice (some ⟨vb,0,none⟩) 1 1]).run Tryz.prog W2= .ok (goInt (Nat.min 1 (n+1-i))) (W2.setCells g (i*14) (Av x)):=fun ty dc=>
  BK W2 _ _ ty 265 14 g (i*14) (n+1-i) dc ⟨vb,0,none⟩ 1 1 (Av x) Tryz.underlying192 Rx (by rw[Dk,show Nat.min 1 (n+1-i)=1 from by simp only[Cf];split<;>omega])
   (fun j u hj=>by
    have hadd:(⟨vb,0,none⟩:Addr).add j=⟨vb,j,none⟩:=by unfold Addr.add;split<;>simp_all
    rw[hadd,kk2.cell hvl (fun e=>hne e)]
    exact(Cx hvb j).trans (by simpa using hj))
   h2 (by rw[Dk,h2s];omega) (Jg x)
 have hFF:A6 265 14 Av (.slice (some ⟨g,0,none⟩) n cap) (Dc.Ax l i x) w (.returned (.slice (some ⟨g,0,none⟩) (n+1) cap)) (W2.setCells g (i*14) (Av x)):=by
  obtain⟨cur3,h3,h3l⟩:=Bc (Av x) (i*14) W2 cur2 h2 (by rw[Dk,h2s];omega)
  refine hfin _ cur3 h3 ?_ ?_ (A4 _ _ _ kk2)
  ·have:=congrArg List.length h3l
   simp only[AX,Ai,Ad,Am,Dk,h2s]at this
   omega
  ·have hcl:cur.toList.length=cap*14:=by simpa using hcs
   have e0:cur2.toList.take (i*14)=L.take (i*14):=by
    rw[h2l,AI,Dj (by rw[Ad,hcl];omega),C3,B8 (by omega),←htk,C3,B8 (by omega)]
   have e1:cur2.toList.drop ((i+1)*14)=L.drop (i*14)++cur.toList.drop ((i+1)*14+(L.drop (i*14)).length):=by
    rw[h2l,AI]
    exact List.drop_left' (by rw[Ad,hcl];omega)
   rw[Du Dk,DC Dk,HL.out,h3l,e0,Dk,show i*14+14=(i+1)*14 by omega,e1,←AI]
   exact Br (by simp only[Ai,Ad,Am,Dk,hL];omega)
 have F1:=Hx hFF
 have F2:=Hx hcpA'
 have hnc:¬((i:Int)=(n:Int)):=by omega
 have hin:i≤n:=by omega
 have hb3:(i:Int)≤(n:Int):=by omega
 have hb4:(i:Int)≤(n:Int)+1:=by omega
 have hw1:IntKind.i64.wrap ((i:Int)+1)=(i:Int)+1:=by rw[IntKind.wrap_i64];omega
 have hb1:(0:Int)≤(i:Int)+1:=by omega
 have htn:((i:Int)+1).toNat=i+1:=by omega
 have hci:¬(cap=i):=by omega
 have hci1:¬(cap=i+1):=by omega
 have hgg:(n:Int)+1≤(cap:Int):=by omega
 clear hFF hcpA hcpA' hfin hcs htk hone hcell hL hrow hW2 h2l h2s h2
 go_enter Tryz.func171,Tryz.ntmps171
 go_wp2_with(simp only[hov])
 go_region_law(refine CU rfl _ _ 192 192 rfl (.slice (some ⟨g,(i+1)*14,none⟩) (n+1-(i+1)) (cap-(i+1))) (.slice (some ⟨g,i*14,none⟩) (n+1-i) (cap-i)) (by simp[Act.eval,Act.put]) (by simp[Act.eval,Act.put]) (F2.out _ _ _) ?_)
 go_wp2_with(refine B7 _ rfl _ _ 192 192 rfl _ _ rfl rfl (hcpB _ _) ?_)
 go_ret
 exact F1.out
theorem Q0(v:Value)(l:List Dc.CS)(x:Dc.CS)(i vb:Nat)(w:World)(hrow:Aq 265 14 Av v l w)(hvb:w.heap[vb]? =some (.cells (Av x).toArray 265 (0,0)))(hne:v.ownBlock≠some vb)(hbig:(l.length+1)*128≤140737488355328)(hi:i≤l.length):
  Calls Tryz.prog 171 #[v,.int .i64 i,.slice (some ⟨vb,0,none⟩) 1 1] w (A6 265 14 Av v (Dc.Ax l i x) w):=by
 rcases BR hi with rfl|hlt
 ·exact QZ v l x vb w hrow hvb hne hbig
 ·rcases hrow.form with⟨rfl,rfl⟩|⟨g,cap,cur,rfl,hg,hcap,_⟩
  ·simp at hlt
  ·rcases BR hcap with e|hc
   ·subst e
    exact PC l x i vb g _ w hrow hlt hvb hbig rfl
   ·exact Pz l x i vb g cap w hrow hlt hvb (fun e=>hne (by rw[e];rfl)) hc
theorem Ij:(Tryz.prog.info? 285).map (fun i=>(i.zero,i.size,i.bytes))=some (some (.agg #[.int .i64 0,.int .i64 0,.int .i64 0,.int .i64 0,.int .i64 0,.int .i64 0,.int .i64 0,.int .i64 0,.int .i64 0,.int .i64 0,.bool false,.bool false,.string ⟨#[]⟩]),13,104):=by kernel_rfl
theorem EY(x:Dc.Run):∀u∈Af x,u.oneCell'=true:=fun u hu=>B9.1 (show(Af x).all (·.oneCell')=true from rfl) u hu
theorem CG(x:Dc.Run):(Af x).length=13:=rfl
theorem S5(v:Value)(l:List Dc.Run)(x:Dc.Run)(vb:Nat)(w:World)(hrow:Aq 285 13 Af v l w)(hvb:w.heap[vb]? =some (.cells (Af x).toArray 285 (0,0)))(hne:v.ownBlock≠some vb)(hbig:(l.length+1)*104≤140737488355328):
  Calls Tryz.prog 299 #[v,.int .i64 l.length,.slice (some ⟨vb,0,none⟩) 1 1] w (A6 285 13 Af v (Dc.Ax l l.length x) w):=by
 obtain⟨i0,hi,hz0,hz1,hz2⟩:=info_parts Ij
 have hown:w.ownsRow 0 285 13 v l.length (l.flatMap Af):=hrow
 have hlm:=hrow.len_le
 have hnews:∀j u,(Af x)[j]? =some u→w.cell? ((⟨vb,0,none⟩:Addr).add j)=some u:=fun j u hj=>by
  have hadd:(⟨vb,0,none⟩:Addr).add j=⟨vb,j,none⟩:=by unfold Addr.add;split<;>simp_all
  rw[hadd,Cx hvb];simpa using hj
 have hfin:∀v' w',w'.ownsRow 0 285 13 v' (l.length+1) (l.flatMap Af++Af x)→w.grownBy w' v.ownBlock→(v'.ownBlock=v.ownBlock∨v'.ownBlock=some w.heap.size)→A6 285 13 Af v (Dc.Ax l l.length x) w (.returned v') w':=by
  intro v' w' h1 h2 h3
  refine⟨v',rfl,?_,⟨h2.os,h2.tape,h2.output,h2.size,fun k hk hn=>h2.block k hk fun e=>hn e.symm⟩,fun g hg=>?_⟩
  ·unfold Aq
   rw[Dc.A3 (Ac _),CY,AH,EE]
   simpa using h1
  ·rcases h3 with h3|h3
   ·exact .inl (h3▸hg)
   ·rw[h3]at hg;cases hg;exact .inr (Ac _)
 unfold maxLen at hlm
 rcases hrow.form with⟨rfl,rfl⟩|⟨g,cap,cur,rfl,hg,hcap,hcm,_,_⟩
 ·have F:=Hx hfin
  clear hfin hrow
  go_enter Tryz.func299,Tryz.ntmps299
  go_wp2_with(at_builtin;refine wpList_append_own_at _ rfl _ _ 281 rfl 0 285 i0 (.agg #[.int .i64 0,.int .i64 0,.int .i64 0,.int .i64 0,.int .i64 0,.int .i64 0,.int .i64 0,.int .i64 0,.int .i64 0,.int .i64 0,.bool false,.bool false,.string ⟨#[]⟩]) 13 104 Tryz.underlying281 hi hz0 hz1 hz2 rfl (by decide) _ _ _ rfl hown ⟨vb,0,none⟩ 1 1 (Af x) rfl rfl hnews (EY x) ?c3 ?c4 (Ah _) ?_)
  case c3=>simp[maxLen]
  case c4=>simp
  intro v' w' h1 h2 _ h3
  have P:=F.out v' w' (by simpa using h1) h2 h3
  obtain⟨v2,e2,r2,k2,b2⟩:=P
  obtain rfl:v2=v':=by injection e2 with e2;exact e2.symm
  have R2:=Hx r2
  obtain⟨g2,c2,rfl,_⟩:=r2.at (by rw[Dc.A3 (Ac _)];omega)
  clear h1 h2 h3 r2 e2
  go_wp2
  go_ret
  exact⟨_,rfl,R2.out,k2,b2⟩
 ·have F:=Hx hfin
  have hc0:¬cap<l.length:=by omega
  have hcm':cap≤9223372036854775807:=by unfold maxLen at hcm;omega
  generalize hN:l.length=n at*
  have HN:=Hx hN
  clear hfin hrow hN
  by_cases hcn:cap=n
  all_goals
   go_enter Tryz.func299,Tryz.ntmps299
   go_wp2_with(at_builtin;refine wpList_append_own_at _ rfl _ _ 281 rfl 0 285 i0 (.agg #[.int .i64 0,.int .i64 0,.int .i64 0,.int .i64 0,.int .i64 0,.int .i64 0,.int .i64 0,.int .i64 0,.int .i64 0,.int .i64 0,.bool false,.bool false,.string ⟨#[]⟩]) 13 104 Tryz.underlying281 hi hz0 hz1 hz2 rfl (by decide) _ _ _ rfl (by first|exact hown|exact hcn▸hown) ⟨vb,0,none⟩ 1 1 (Af x) rfl rfl hnews (EY x) (by unfold maxLen;omega) (by omega) (Ah _) ?_)
  all_goals
   intro v' w' h1 h2 _ h3
   have P:=F.out v' w' (by first|exact h1|(rw[←hcn];exact h1)) (by first|exact h2|(rw[←hcn];exact h2)) (by first|exact h3|(rw[←hcn];exact h3))
   obtain⟨v2,e2,r2,k2,b2⟩:=P
   obtain rfl:v2=v':=by injection e2 with e2;exact e2.symm
   have R2:=Hx r2
   obtain⟨g2,c2,rfl,_⟩:=r2.at (by rw[Dc.A3 (by rw[HN.out];exact Ac _)];omega)
   clear h1 h2 h3 r2 e2
   have Z:=Hx (show A6 285 13 Af _ (Dc.Ax l n x) w _ w' from⟨_,rfl,R2.out,k2,b2⟩)
   go_wp2
   go_ret
   exact Z.out
theorem Q2(l:List Dc.Run)(x:Dc.Run)(i vb g cap:Nat)(w:World)(hrow:Aq 285 13 Af (.slice (some ⟨g,0,none⟩) l.length cap) l w)(hi:i<l.length)(hvb:w.heap[vb]? =some (.cells (Af x).toArray 285 (0,0)))(hbig:(l.length+1)*104≤140737488355328)(hcap:cap=l.length):
  Calls Tryz.prog 299 #[.slice (some ⟨g,0,none⟩) l.length cap,.int .i64 i,.slice (some ⟨vb,0,none⟩) 1 1] w (A6 285 13 Af (.slice (some ⟨g,0,none⟩) l.length cap) (Dc.Ax l i x) w):=by
 subst hcap
 obtain⟨i0,hii,hz0,hz1,hz2⟩:=info_parts Ij
 obtain⟨cur,hg,hcs,htk⟩:∃cur,w.heap[g]? =some (.cells cur 285 (0,0))∧cur.size=l.length*13∧cur.toList.take (l.length*13)=l.flatMap Af:=by
  rcases hrow.form with⟨h,_⟩|⟨g',c',cur,h,h1,_,_,h4,h5⟩
  ·cases h
  ·simp only[Value.slice.injEq,AZ,Addr.mk.injEq,DX,DW]at h
   obtain⟨rfl,rfl⟩:=h
   exact⟨cur,h1,h4,h5⟩
 have hgl:=Ao hg
 have hvl:=Ao hvb
 have hL:(l.flatMap Af).length=l.length*13:=Az CG l
 have hcell:∀j u,(l.flatMap Af)[j]? =some u→w.cell? ⟨g,j,none⟩=some u:=fun j u hj=>by
  rw[←htk]at hj
  rw[Cx hg,←Aw]
  rw[AO]at hj
  split at hj
  ·exact hj
  ·cases hj
 have hone:∀u∈l.flatMap Af,u.oneCell'=true:=fun u hu=>by
  obtain⟨y,_,hy⟩:=Ba.1 hu
  exact EY y u hy
 have hfin:∀(w':World) (c':Nat) (cur':Array Value),w'.heap[w.heap.size]? =some (.cells cur' 285 (0,0))→cur'.size=c'*13→l.length+1≤c'→c'≤maxLen→cur'.toList.take ((l.length+1)*13)=(l.take i).flatMap Af++Af x++(l.drop i).flatMap Af→Aa No w w'→
   A6 285 13 Af (.slice (some ⟨g,0,none⟩) l.length l.length) (Dc.Ax l i x) w (.returned (.slice (some ⟨w.heap.size,0,none⟩) (l.length+1) c')) w':=by
  intro w' c' cur' h1 h2 h3 h4 h5 h6
  have hl2:(Dc.Ax l i x).length=l.length+1:=Dc.A3 (by omega)
  refine⟨_,rfl,⟨by rw[Az CG],.inr ⟨w.heap.size,c',cur',by rw[hl2],Ah _,h1,by omega,h4,h2,by rw[hl2,CY];exact h5⟩⟩,h6.any,fun k hk=>?_⟩
  have hk':some w.heap.size=some k:=hk
  injection hk' with hk'
  exact .inr (by omega)
 generalize hN:l.length=n at*
 have HN:=Hx hN
 generalize hLL:l.flatMap Af=L at*
 have HL:=Hx hLL
 have hold:(Builtin.firstCells i0.size i (.slice (some ⟨g,0,none⟩) i n)).run Tryz.prog w.drew= .ok (L.take (i*13)).toArray w.drew:=by
  rw[hz1]
  exact run_firstCells_some w.drew 13 i ⟨g,0,none⟩ i n (L.take (i*13)) (by rw[Ad];omega) (fun j v hj=>by
   have hadd:(⟨g,0,none⟩:Addr).add j=⟨g,j,none⟩:=by unfold Addr.add;split<;>simp_all
   rw[hadd]
   rw[AO]at hj
   split at hj
   ·exact hcell j v hj
   ·cases hj)
 have hkk:(n:Int)+1-(i:Int)=((n+1-i:Nat):Int):=by omega
 have hik:i+(n+1-i)=n+1:=by omega
 obtain⟨G,hG⟩:∃G,G=grownCap w (n+1) n 285:=⟨_,rfl⟩
 have hGn:n+1≤G:=by rw[hG];exact grownCap_ge w _ _ _
 have hGm:G≤maxLen:=by rw[hG];exact grownCap_le_maxLen w (n+1) n 285 (by unfold maxLen;omega)
 obtain⟨ROW,hROW⟩:∃ROW:Array Value,ROW=(L.take (i*13)).toArray++Builtin.zeroCells (.agg #[.int .i64 0,.int .i64 0,.int .i64 0,.int .i64 0,.int .i64 0,.int .i64 0,.int .i64 0,.int .i64 0,.int .i64 0,.int .i64 0,.bool false,.bool false,.string ⟨#[]⟩]:Value).cells (n+1-i)++Builtin.zeroCells (.agg #[.int .i64 0,.int .i64 0,.int .i64 0,.int .i64 0,.int .i64 0,.int .i64 0,.int .i64 0,.int .i64 0,.int .i64 0,.int .i64 0,.bool false,.bool false,.string ⟨#[]⟩]:Value).cells (G-(n+1)):=⟨_,rfl⟩
 have hRs:ROW.size=G*13:=by
  rw[hROW]
  simp only[Array.size_append,List.size_toArray,Ad,size_zeroCells,hL]
  simp only[Value.cells]
  simp
  omega
 have hrz:∀ty,(Builtin.append_ #[281,3] ty #[.slice (some ⟨g,0,none⟩) i n,.int .i64 ((n:Int)+1-(i:Int))]).run Tryz.prog w= .ok (.slice (some ⟨w.heap.size,0,none⟩) (n+1) G) ((w.alloc (.cells ROW 285)).drew):=fun ty=>by
  have h:=Lib.run_append_grow_zeros w 281 3 ty 285 i0 _ .i64 .i64 Tryz.underlying281 Tryz.underlying3 hii hz0 (some ⟨g,0,none⟩) i n (L.take (i*13)) hold (n+1-i) (by omega) (by omega) (by omega) (by omega) (by rw[hz2];omega) (by rw[hz2,hik];exact growslice_fits (by omega) hbig)
  rw[hik]at h
  rw[hkk,hROW,hG]
  exact h
 have hW1:((w.alloc (.cells ROW 285)).drew).heap[w.heap.size]? =some (.cells ROW 285 (0,0)):=Nx w.drew _
 have hcpA:∀ty dc,(Builtin.copy_ #[281,281] ty #[.slice (some ⟨w.heap.size,i*13,none⟩) (n+1-i) dc,.slice (some ⟨vb,0,none⟩) 1 1]).run Tryz.prog ((w.alloc (.cells ROW 285)).drew)= .ok (goInt (Nat.min 1 (n+1-i))) (((w.alloc (.cells ROW 285)).drew).setCells w.heap.size (i*13) (Af x)):=fun ty dc=>
  BK _ _ _ ty 285 13 w.heap.size (i*13) (n+1-i) dc ⟨vb,0,none⟩ 1 1 (Af x) Tryz.underlying281 Rx (by rw[CG,show Nat.min 1 (n+1-i)=1 from by simp only[Cf];split<;>omega])
   (fun j u hj=>by
    have hadd:(⟨vb,0,none⟩:Addr).add j=⟨vb,j,none⟩:=by unfold Addr.add;split<;>simp_all
    rw[hadd];show(w.alloc (.cells ROW 285)).cell? ⟨vb,j,none⟩=some u;rw[World.cell?_alloc_past (w:=w) _ vb j hvl]
    exact(Cx hvb j).trans (by simpa using hj))
   hW1 (by rw[CG,hRs];omega) (EY x)
 obtain⟨cur2,h2,h2l⟩:=Bc (Af x) (i*13) _ ROW hW1 (by rw[CG,hRs];omega)
 have h2s:cur2.size=G*13:=by
  have:=congrArg List.length h2l
  simp only[AX,Ai,Ad,Am,CG,hRs]at this
  omega
 obtain⟨W2,hW2⟩:∃W2,W2=((w.alloc (.cells ROW 285)).drew).setCells w.heap.size (i*13) (Af x):=⟨_,rfl⟩
 have kk2:Aa No w W2:=by
  rw[hW2]
  refine(((Aa.refl No w).alloc (.cells ROW 285)).drew).step (A4 _ _ _ (Aa.refl (At1 w.heap.size) _)) fun k hk hlt=>?_
  unfold At1 at hk;omega
 rw[←hW2]at hcpA h2
 have hcpB:∀(W:World),W.heap=W2.heap→∀ty dc sc,(Builtin.copy_ #[281,281] ty #[.slice (some ⟨w.heap.size,(i+1)*13,none⟩) (n+1-(i+1)) dc,.slice (some ⟨g,i*13,none⟩) (n-i) sc]).run Tryz.prog W= .ok (goInt (Nat.min (n-i) (n+1-(i+1)))) (W.setCells w.heap.size ((i+1)*13) (L.drop (i*13))):=fun W hW ty dc sc=>
  BK W _ _ ty 285 13 w.heap.size ((i+1)*13) (n+1-(i+1)) dc ⟨g,i*13,none⟩ (n-i) sc (L.drop (i*13)) Tryz.underlying281 Rx (by rw[Am,hL,show Nat.min (n-i) (n+1-(i+1))=n-i from by simp only[Cf];split<;>omega];omega)
   (fun j u hj=>by
    have hadd:(⟨g,i*13,none⟩:Addr).add j=⟨g,i*13+j,none⟩:=by unfold Addr.add;split<;>simp_all
    rw[B5]at hj
    rw[hadd,World.cell?_of_block (w:=W2) (by rw[hW]),kk2.cell hgl id]
    exact hcell _ u hj)
   (by rw[hW];exact h2) (by rw[Am,hL,h2s];omega) (fun u hu=>hone u (BC hu))
 have hFF:∀(W:World),W.heap=W2.heap→Aa No w W→A6 285 13 Af (.slice (some ⟨g,0,none⟩) n n) (Dc.Ax l i x) w (.returned (.slice (some ⟨w.heap.size,0,none⟩) (n+1) G)) (W.setCells w.heap.size ((i+1)*13) (L.drop (i*13))):=fun W hW hk=>by
  obtain⟨cur3,h3,h3l⟩:=Bc (L.drop (i*13)) ((i+1)*13) W cur2 (by rw[hW];exact h2) (by rw[Am,hL,h2s];omega)
  refine hfin _ G cur3 h3 ?_ hGn hGm ?_ ?_
  ·have:=congrArg List.length h3l
   simp only[AX,Ai,Ad,Am,hL,h2s]at this
   omega
  ·have e0:ROW.toList.take (i*13)=L.take (i*13):=by
    rw[hROW]
    simp only[Nw,AI]
    exact Br (by rw[Ad];omega)
   have e1:cur2.toList.take ((i+1)*13)=L.take (i*13)++Af x:=by
    rw[h2l,e0]
    exact Br (by rw[Ai,Ad,CG];omega)
   rw[Du CG,DC CG,HL.out,h3l,e1]
   exact Br (by simp only[Ai,Ad,Am,CG];omega)
  ·refine hk.step (A4 _ _ _ (Aa.refl (At1 w.heap.size) W)) fun k hk' hlt=>?_
   unfold At1 at hk';omega
 have F1:=Hx hFF
 clear hW2
 have F2:=Hx hcpB
 have hnc:¬((i:Int)=(n:Int)):=by omega
 have hin:i≤n:=by omega
 have hb3:(i:Int)≤(n:Int):=by omega
 have hw1:IntKind.i64.wrap ((i:Int)+1)=(i:Int)+1:=by rw[IntKind.wrap_i64];omega
 have hb1:(0:Int)≤(i:Int)+1:=by omega
 have htn:((i:Int)+1).toNat=i+1:=by omega
 have hGi:¬(G=i):=by omega
 have hGim:¬(G=i+1):=by omega
 have hci:¬(n=i):=by omega
 have hG63:G≤9223372036854775807:=by unfold maxLen at hGm;omega
 have hgg:(n:Int)<(n:Int)+1:=by omega
 clear hFF hcpB hfin hold hkk hik hG hROW hRs hW1 h2l h2s hcs htk hone hcell hL hrow
 go_enter Tryz.func299,Tryz.ntmps299
 go_wp2_with(first
  |(at_builtin;refine Lib.wpList_append_run _ rfl _ _ _ _ rfl _ _ rfl rfl _ _ (hrz _) ?_)
  |(refine B7 _ rfl _ _ 281 281 rfl _ _ rfl rfl (hcpA _ _) ?_))
 go_region_law(refine CU rfl _ _ 281 281 rfl (.slice (some ⟨w.heap.size,(i+1)*13,none⟩) (n+1-(i+1)) (G-(i+1))) (.slice (some ⟨g,i*13,none⟩) (n-i) (n-i)) (by simp[Act.eval,Act.put]) (by simp[Act.eval,Act.put]) (F2.out W2.drew rfl _ _ _) ?_)
 go_wp2
 go_ret
 exact F1.out W2.drew rfl kk2.drew
theorem Q1(l:List Dc.Run)(x:Dc.Run)(i vb g cap:Nat)(w:World)(hrow:Aq 285 13 Af (.slice (some ⟨g,0,none⟩) l.length cap) l w)(hi:i<l.length)(hvb:w.heap[vb]? =some (.cells (Af x).toArray 285 (0,0)))(hne:vb≠g)(hcap:l.length<cap):
  Calls Tryz.prog 299 #[.slice (some ⟨g,0,none⟩) l.length cap,.int .i64 i,.slice (some ⟨vb,0,none⟩) 1 1] w (A6 285 13 Af (.slice (some ⟨g,0,none⟩) l.length cap) (Dc.Ax l i x) w):=by
 obtain⟨cur,hg,hcm,hcs,htk⟩:∃cur,w.heap[g]? =some (.cells cur 285 (0,0))∧cap≤maxLen∧cur.size=cap*13∧cur.toList.take (l.length*13)=l.flatMap Af:=by
  rcases hrow.form with⟨h,_⟩|⟨g',c',cur,h,h1,_,h3,h4,h5⟩
  ·cases h
  ·simp only[Value.slice.injEq,AZ,Addr.mk.injEq,DX,DW]at h
   obtain⟨rfl,rfl⟩:=h
   exact⟨cur,h1,h3,h4,h5⟩
 have hgl:=Ao hg
 have hvl:=Ao hvb
 have hL:(l.flatMap Af).length=l.length*13:=Az CG l
 have hcell:∀j u,(l.flatMap Af)[j]? =some u→w.cell? ⟨g,j,none⟩=some u:=fun j u hj=>by
  rw[←htk]at hj
  rw[Cx hg,←Aw]
  rw[AO]at hj
  split at hj
  ·exact hj
  ·cases hj
 have hone:∀u∈l.flatMap Af,u.oneCell'=true:=fun u hu=>by
  obtain⟨y,_,hy⟩:=Ba.1 hu
  exact EY y u hy
 have hfin:∀(w':World) (cur':Array Value),w'.heap[g]? =some (.cells cur' 285 (0,0))→cur'.size=cap*13→cur'.toList.take ((l.length+1)*13)=(l.take i).flatMap Af++Af x++(l.drop i).flatMap Af→Aa (At1 g) w w'→
   A6 285 13 Af (.slice (some ⟨g,0,none⟩) l.length cap) (Dc.Ax l i x) w (.returned (.slice (some ⟨g,0,none⟩) (l.length+1) cap)) w':=by
  intro w' cur' h1 h2 h5 h6
  have hl2:(Dc.Ax l i x).length=l.length+1:=Dc.A3 (by omega)
  exact⟨_,rfl,⟨by rw[Az CG],.inr ⟨g,cap,cur',by rw[hl2],Ah _,h1,by omega,hcm,h2,by rw[hl2,CY];exact h5⟩⟩,h6.mono fun k hk _=>by(unfold At1 at hk;subst hk;rfl),fun k hk=> .inl hk⟩
 have hov:∀lb cb,(callFunc 334 #[.slice (some ⟨vb,0,none⟩) 1 1,.slice (some ⟨g,(i+1)*13,none⟩) lb cb]).run Tryz.prog w= .ok (.value (.bool false)) w:=fun lb cb=>by
  rw[run_callFunc_extern Tryz.func334 Rx Rx Rx (e:=Extern.SlicesOverlaps.overlaps #[281,281] #[4]) Rx,
   Lib.run_overlaps_apart w 281 4 285 Tryz.underlying281 13 (fun w=>by kernel_rfl) ⟨vb,0,none⟩ ⟨g,(i+1)*13,none⟩ 1 1 lb cb hne 285 285 (Af x).toArray.size cur.size (by simp[World.shape?,hvb]) (by simp[World.shape?,hg]) (by omega) (Fx hvb _) (Fx hvb _)]
  rfl
 have hc0:¬cap<l.length:=by omega
 have hcm':cap≤9223372036854775807:=by unfold maxLen at hcm;omega
 generalize hN:l.length=n at*
 have HN:=Hx hN
 generalize hLL:l.flatMap Af=L at*
 have HL:=Hx hLL
 have hcpA:∀(W:World),W.heap=w.heap→∀ty dc sc,(Builtin.copy_ #[281,281] ty #[.slice (some ⟨g,(i+1)*13,none⟩) (n+1-(i+1)) dc,.slice (some ⟨g,i*13,none⟩) (n+1-i) sc]).run Tryz.prog W= .ok (goInt (Nat.min (n+1-i) (n+1-(i+1)))) (W.setCells g ((i+1)*13) (L.drop (i*13))):=fun W hW ty dc sc=>
  BK W _ _ ty 285 13 g ((i+1)*13) (n+1-(i+1)) dc ⟨g,i*13,none⟩ (n+1-i) sc (L.drop (i*13)) Tryz.underlying281 Rx (by rw[Am,hL,show Nat.min (n+1-i) (n+1-(i+1))=n-i from by simp only[Cf];split<;>omega];omega)
   (fun j u hj=>by
    have hadd:(⟨g,i*13,none⟩:Addr).add j=⟨g,i*13+j,none⟩:=by unfold Addr.add;split<;>simp_all
    rw[B5]at hj
    rw[hadd,World.cell?_of_block (w:=w) (by rw[hW])]
    exact hcell _ u hj)
   (by rw[hW];exact hg) (by rw[Am,hL,hcs];omega) (fun u hu=>hone u (BC hu))
 obtain⟨W2,hW2⟩:∃W2,W2=w.drew.setCells g ((i+1)*13) (L.drop (i*13)):=⟨_,rfl⟩
 obtain⟨cur2,h2,h2l⟩:=Bc (L.drop (i*13)) ((i+1)*13) w.drew cur hg (by rw[Am,hL,hcs];omega)
 rw[←hW2]at h2
 have h2s:cur2.size=cap*13:=by
  have:=congrArg List.length h2l
  simp only[AX,Ai,Ad,Am,hL,hcs]at this
  omega
 have kk2:Aa (At1 g) w W2:=by
  rw[hW2]
  exact A4 _ _ _ ((Aa.refl (At1 g) w).drew)
 have hcpA':∀ty dc sc,(Builtin.copy_ #[281,281] ty #[.slice (some ⟨g,(i+1)*13,none⟩) (n+1-(i+1)) dc,.slice (some ⟨g,i*13,none⟩) (n+1-i) sc]).run Tryz.prog w.drew= .ok (goInt (Nat.min (n+1-i) (n+1-(i+1)))) W2:=fun ty dc sc=>by
  rw[hW2];exact hcpA w.drew rfl ty dc sc
 have hcpB:∀ty dc,(Builtin.copy_ #[281,281] ty #[.slice (some ⟨g,i*13,none⟩) (n+1-i) dc,.slice (some ⟨vb,0,none⟩) 1 1]).run Tryz.prog W2= .ok (goInt (Nat.min 1 (n+1-i))) (W2.setCells g (i*13) (Af x)):=fun ty dc=>
  BK W2 _ _ ty 285 13 g (i*13) (n+1-i) dc ⟨vb,0,none⟩ 1 1 (Af x) Tryz.underlying281 Rx (by rw[CG,show Nat.min 1 (n+1-i)=1 from by simp only[Cf];split<;>omega])
   (fun j u hj=>by
    have hadd:(⟨vb,0,none⟩:Addr).add j=⟨vb,j,none⟩:=by unfold Addr.add;split<;>simp_all
    rw[hadd,kk2.cell hvl (fun e=>hne e)]
    exact(Cx hvb j).trans (by simpa using hj))
   h2 (by rw[CG,h2s];omega) (EY x)
 have hFF:A6 285 13 Af (.slice (some ⟨g,0,none⟩) n cap) (Dc.Ax l i x) w (.returned (.slice (some ⟨g,0,none⟩) (n+1) cap)) (W2.setCells g (i*13) (Af x)):=by
  obtain⟨cur3,h3,h3l⟩:=Bc (Af x) (i*13) W2 cur2 h2 (by rw[CG,h2s];omega)
  refine hfin _ cur3 h3 ?_ ?_ (A4 _ _ _ kk2)
  ·have:=congrArg List.length h3l
   simp only[AX,Ai,Ad,Am,CG,h2s]at this
   omega
  ·have hcl:cur.toList.length=cap*13:=by simpa using hcs
   have e0:cur2.toList.take (i*13)=L.take (i*13):=by
    rw[h2l,AI,Dj (by rw[Ad,hcl];omega),C3,B8 (by omega),←htk,C3,B8 (by omega)]
   have e1:cur2.toList.drop ((i+1)*13)=L.drop (i*13)++cur.toList.drop ((i+1)*13+(L.drop (i*13)).length):=by
    rw[h2l,AI]
    exact List.drop_left' (by rw[Ad,hcl];omega)
   rw[Du CG,DC CG,HL.out,h3l,e0,CG,show i*13+13=(i+1)*13 by omega,e1,←AI]
   exact Br (by simp only[Ai,Ad,Am,CG,hL];omega)
 have F1:=Hx hFF
 have F2:=Hx hcpA'
 have hnc:¬((i:Int)=(n:Int)):=by omega
 have hin:i≤n:=by omega
 have hb3:(i:Int)≤(n:Int):=by omega
 have hb4:(i:Int)≤(n:Int)+1:=by omega
 have hw1:IntKind.i64.wrap ((i:Int)+1)=(i:Int)+1:=by rw[IntKind.wrap_i64];omega
 have hb1:(0:Int)≤(i:Int)+1:=by omega
 have htn:((i:Int)+1).toNat=i+1:=by omega
 have hci:¬(cap=i):=by omega
 have hci1:¬(cap=i+1):=by omega
 have hgg:(n:Int)+1≤(cap:Int):=by omega
 clear hFF hcpA hcpA' hfin hcs htk hone hcell hL hrow hW2 h2l h2s h2
 go_enter Tryz.func299,Tryz.ntmps299
 go_wp2_with(simp only[hov])
 go_region_law(refine CU rfl _ _ 281 281 rfl (.slice (some ⟨g,(i+1)*13,none⟩) (n+1-(i+1)) (cap-(i+1))) (.slice (some ⟨g,i*13,none⟩) (n+1-i) (cap-i)) (by simp[Act.eval,Act.put]) (by simp[Act.eval,Act.put]) (F2.out _ _ _) ?_)
 go_wp2_with(refine B7 _ rfl _ _ 281 281 rfl _ _ rfl rfl (hcpB _ _) ?_)
 go_ret
 exact F1.out
theorem S7(v:Value)(l:List Dc.Run)(x:Dc.Run)(i vb:Nat)(w:World)(hrow:Aq 285 13 Af v l w)(hvb:w.heap[vb]? =some (.cells (Af x).toArray 285 (0,0)))(hne:v.ownBlock≠some vb)(hbig:(l.length+1)*104≤140737488355328)(hi:i≤l.length):
  Calls Tryz.prog 299 #[v,.int .i64 i,.slice (some ⟨vb,0,none⟩) 1 1] w (A6 285 13 Af v (Dc.Ax l i x) w):=by
 rcases BR hi with rfl|hlt
 ·exact S5 v l x vb w hrow hvb hne hbig
 ·rcases hrow.form with⟨rfl,rfl⟩|⟨g,cap,cur,rfl,hg,hcap,_⟩
  ·simp at hlt
  ·rcases BR hcap with e|hc
   ·subst e
    exact Q2 l x i vb g _ w hrow hlt hvb hbig rfl
   ·exact Q1 l x i vb g cap w hrow hlt hvb (fun e=>hne (by rw[e];rfl)) hc
end Go.Proofs.YthfjefcljeamgaaGreatDoor
