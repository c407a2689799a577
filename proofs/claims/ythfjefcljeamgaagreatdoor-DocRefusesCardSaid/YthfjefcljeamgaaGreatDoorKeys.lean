/- joined: What the package variables of the document hold; names, stamps, keys, each by its contract. The orders of names, stamps, keys, children, moves, and cmp's functions, each by its contract. Rows of elements of several cells: what they hold, what keeps them; values and cells of the document's data. Names and characters as keys of maps. -/
import Derived.Test.YthfjefcljeamgaaGreatDoorChecked
import Derived.Test.YthfjefcljeamgaaGreatDoorMapF
import Derived.Test.YthfjefcljeamgaaGreatDoorShelf
import Derived.Test.YthfjefcljeamgaaGreatDoorDcTree
import Derived.Outline
import Derived.Deep.RegionHeld3
import Derived.Deep.DrawnRows
import Derived.Laws.StructEq
namespace Go.Proofs.YthfjefcljeamgaaGreatDoor
set_option maxRecDepth 100000
set_option maxHeartbeats 4000000
section
open Go.RowKit
/-- What the variables of the packages hold, in the world w. -/
structure Env(w:World):Prop where
 size:4≤w.heap.size
 root0:w.cell? ⟨0,0,none⟩=some (.int .i64 0)
 root1:w.cell? ⟨0,1,none⟩=some (.int .i64 0)
 trash0:w.cell? ⟨1,0,none⟩=some (.int .i64 1)
 trash1:w.cell? ⟨1,1,none⟩=some (.int .i64 0)
 start0:w.cell? ⟨2,0,none⟩=some (.int .i64 0)
 start1:w.cell? ⟨2,1,none⟩=some (.int .i64 0)
 start2:w.cell? ⟨2,2,none⟩=some (.int .i64 0)
theorem Env.keep{w w':World}(h:Env w)(hb:∀k,k<4→w'.heap[k]? =w.heap[k]?)(hs:w.heap.size≤w'.heap.size):Env w':=by
 have hc:∀k o,k<4→w'.cell? ⟨k,o,none⟩=w.cell? ⟨k,o,none⟩:=fun k o hk=>World.cell?_of_block (w:=w) (hb k hk)
 exact⟨AG h.size hs,(hc _ _ (by decide)).trans h.root0,(hc _ _ (by decide)).trans h.root1,(hc _ _ (by decide)).trans h.trash0,(hc _ _ (by decide)).trans h.trash1,
  (hc _ _ (by decide)).trans h.start0,(hc _ _ (by decide)).trans h.start1,(hc _ _ (by decide)).trans h.start2⟩
theorem Env.keeps{S:Nat→Prop}{w w':World}(h:Env w)(k:Aa S w w')(hS:∀b,S b→4≤b):Env w':=
 h.keep (fun b hb=>k.block b (AK hb h.size) fun e=>by have:=hS b e;omega) k.size
theorem Env.no{w w':World}(h:Env w)(k:Aa No w w'):Env w':=h.keeps k fun _ e=>e.elim
theorem Env.alloc{w:World}(h:Env w)(o:Obj):Env (w.alloc o):=h.no ((Aa.refl _ _).alloc o)
theorem Env.drew{w:World}(h:Env w):Env w.drew:=h.no ((Aa.refl _ _).drew)
theorem Env.drewN{w:World}(h:Env w)(n:Nat):Env (w.drewN n):=h.no ((Aa.refl _ _).drewN n)
theorem AY{a b:Bool}(h:a=b):Ending.returned (.bool a)= .returned (.bool b):=by rw[h]
theorem F7{k:IntKind}{a b:Int}(h:a=b):Ending.returned (.int k a)= .returned (.int k b):=by rw[h]
/-! values of plain data -/
@[reducible] def idV(i:Off.Bid):Value:= .agg #[.int .i64 i.R,.int .i64 i.N]
@[reducible] def CE(c:Dc.Chr):Value:= .agg #[.int .i64 c.op.R,.int .i64 c.op.N,.int .i64 c.i]
@[reducible] def Bt(p:Dc.Dt):Value:= .agg #[.int .i64 p.parent.R,.int .i64 p.parent.N,.string ⟨p.key.toArray⟩]
theorem BJ(R N:Int)(w:World):
  Calls Tryz.prog 103 #[.agg #[.int .i64 R,.int .i64 N]] w fun e w'=>
   e= .returned (.bool (Off.AV ⟨R,N⟩))∧Aa No w w':=by
 by_cases h:0≤R∧R<16∧1≤N∧N≤1048576
 ·obtain⟨h0,h1,h2,h3⟩:=h
  have H:Hid (Off.AV ⟨R,N⟩=true):=Off.DF.2 ⟨h0,h1,h2,h3⟩
  go_enter Tryz.func103,Tryz.ntmps103
  go_wp2
  go_ret
  exact⟨AY H.out.symm,(Aa.refl _ _).alloc _⟩
 ·have H:Hid (Off.AV ⟨R,N⟩=false):=by
   have:¬Off.AV ⟨R,N⟩=true:=fun e=>h (Off.DF.1 e)
   exact Ej.2 this
  go_enter Tryz.func103,Tryz.ntmps103
  go_wp2
  all_goals
   go_ret
   refine⟨AY ?_,(Aa.refl _ _).alloc _⟩
   rw[H.out]
   try(simp;omega)
theorem Fq(R N:Int)(w:World)(hE:Env w):
  Calls Tryz.prog 114 #[.agg #[.int .i64 R,.int .i64 N]] w fun e w'=>
   e= .returned (.bool (Off.Bn ⟨R,N⟩))∧Aa No w w':=by
 have r0:=hE.root0
 have r1:=hE.root1
 have t0:=hE.trash0
 have t1:=hE.trash1
 have hz0:0<w.heap.size:=by have:=hE.size;omega
 have hz1:1<w.heap.size:=by have:=hE.size;omega
 go_enter Tryz.func114,Tryz.ntmps114
 go_wp2_with(go_at_call 103;refine(BJ _ _ _).mono ?_;rintro e w1 ⟨rfl,k1⟩)
 all_goals
  go_ret
  refine⟨AY ?_,Kx⟩
  simp[Off.Bn,Off.Bid.z,Off.Bid.t, *]
theorem Dh(T R:Int)(w:World):
  Calls Tryz.prog 102 #[.agg #[.int .i64 T,.int .i64 R]] w fun e w'=>
   e= .returned (.bool (Dc.Bm T R))∧Aa No w w':=by
 by_cases h:1≤T∧T≤1099511627776∧0≤R∧R<16
 ·obtain⟨h0,h1,h2,h3⟩:=h
  have H:Hid (Dc.Bm T R=true):=Hx (by unfold Dc.Bm;simp[h0,h1,h2,h3])
  go_enter Tryz.func102,Tryz.ntmps102
  go_wp2
  go_ret
  exact⟨AY H.out.symm,(Aa.refl _ _).alloc _⟩
 ·have H:Hid (Dc.Bm T R=false):=by
   unfold Dc.Bm
   refine Ej.2 fun e=>h ?_
   simp only[AN,Au]at e
   exact⟨e.1.1.1,e.1.1.2,e.1.2,e.2⟩
  go_enter Tryz.func102,Tryz.ntmps102
  go_wp2
  all_goals
   go_ret
   refine⟨AY ?_,(Aa.refl _ _).alloc _⟩
   rw[H.out]
   try(simp;omega)
end
section
open Go.RowKit
attribute [local go_sem ↓] Go.wp_at_zero Go.wp_at_succ
theorem O3(R N I:Int)(w:World):
  Calls Tryz.prog 156 #[.agg #[.int .i64 R,.int .i64 N,.int .i64 I]] w fun e w'=>
   e= .returned (.bool (Dc.Hv ⟨⟨R,N⟩,I⟩))∧Aa No w w':=by
 go_enter Tryz.func156,Tryz.ntmps156
 go_wp2_with(go_at_call 103;refine(BJ _ _ _).mono ?_;rintro e w1 ⟨rfl,k1⟩;have hc:=Cx (k1.own id))
 all_goals
  go_ret
  refine⟨AY ?_,Kx⟩
  simp_all [Dc.Hv,Dc.Chr.z,Off.Bid.z]
  try omega
theorem JI(a b:Int)(w:World):
  Calls Tryz.prog 149 #[.int .i64 a,.int .i64 b] w fun e w'=>e= .returned (.int .i64 (Dc.LJ a b))∧w=w':=by
 have nan:∀(x:Int) (w:World),Calls Tryz.prog 207 #[.int .i64 x] w fun e w'=>e= .returned (.bool false)∧w=w':=by
  intro x w
  go_enter Tryz.func207,Tryz.ntmps207
  go_wp2
  go_ret
  exact⟨rfl,rfl⟩
 have H:Hid (Dc.LJ a b=if a<b then-1 else if b<a then 1 else 0):=rfl
 by_cases h1:a<b
 ·go_enter Tryz.func149,Tryz.ntmps149
  go_wp2_with(go_at_call 207;refine(nan _ _).mono ?_;rintro e w1 ⟨rfl,rfl⟩)
  go_ret
  exact⟨F7 (by rw[H.out,Ak h1]),rfl⟩
 ·by_cases h2:b<a
  ·go_enter Tryz.func149,Tryz.ntmps149
   go_wp2_with(go_at_call 207;refine(nan _ _).mono ?_;rintro e w1 ⟨rfl,rfl⟩)
   go_ret
   exact⟨F7 (by rw[H.out,Ae (by omega),Ak (by omega)]),rfl⟩
  ·go_enter Tryz.func149,Tryz.ntmps149
   go_wp2_with(go_at_call 207;refine(nan _ _).mono ?_;rintro e w1 ⟨rfl,rfl⟩)
   go_ret
   exact⟨F7 (by rw[H.out,Ae (by omega),Ae (by omega)]),rfl⟩
theorem KP(a b:Int)(sb:Nat)(w:World)(hb:w.heap[sb]? =some (.cells #[.int .i64 a,.int .i64 b] 3 (0,0))):
  Calls Tryz.prog 154 #[.slice (some ⟨sb,0,none⟩) 2 2] w fun e w'=>e= .returned (.int .i64 (Dc.or2 a b))∧w=w':=by
 have hc:=Cx hb
 have H:Hid (Dc.or2 a b=if a≠0 then a else b):=rfl
 by_cases h1:a=0
 ·subst h1
  by_cases h2:b=0
  ·subst h2
   go_enter Tryz.func154,Tryz.ntmps154
   go_wp2
   refine wp_loop_rounds 3 ?_
   rw[rounds_succ]
   go_wp2
   rw[rounds_succ]
   go_wp2
   rw[rounds_succ]
   go_wp2
   go_ret
   exact⟨F7 (by rw[H.out,Ae (by simp)]),rfl⟩
  ·go_enter Tryz.func154,Tryz.ntmps154
   go_wp2
   refine wp_loop_rounds 2 ?_
   rw[rounds_succ]
   go_wp2
   rw[rounds_succ]
   go_wp2
   go_ret
   exact⟨F7 (by rw[H.out,Ae (by simp)]),rfl⟩
 ·go_enter Tryz.func154,Tryz.ntmps154
  go_wp2
  refine wp_loop_rounds 1 ?_
  rw[rounds_succ]
  go_wp2
  go_ret
  exact⟨F7 (by rw[H.out,Ak h1]),rfl⟩
theorem Gt(R N R' N':Int)(w:World):
  Calls Tryz.prog 155 #[.agg #[.int .i64 R,.int .i64 N],.agg #[.int .i64 R',.int .i64 N']] w fun e w'=>e= .returned (.int .i64 (Dc.BD ⟨R,N⟩ ⟨R',N'⟩))∧Aa No w w':=by
 go_enter Tryz.func155,Tryz.ntmps155
 go_wp2
 have k0:Aa No w ((w.alloc (.cells #[.int .i64 R,.int .i64 N] 24)).alloc (.cells #[.int .i64 R',.int .i64 N'] 24)):=Kx
 have hA:=Ab (Nx w (.cells #[.int .i64 R,.int .i64 N] 24)) (.cells #[.int .i64 R',.int .i64 N'] 24)
 have hB:=Nx (w.alloc (.cells #[.int .i64 R,.int .i64 N] 24)) (.cells #[.int .i64 R',.int .i64 N'] 24)
 have hB':(w.alloc (.cells #[.int .i64 R,.int .i64 N] 24)).heap.size=w.heap.size+1:=by simp
 rw[hB']at hB
 generalize (w.alloc (.cells #[.int .i64 R,.int .i64 N] 24)).alloc (.cells #[.int .i64 R',.int .i64 N'] 24)=w1 at k0 hA hB⊢
 have cA:=Cx hA
 have cB:=Cx hB
 have a0:=cA 0
 have a1:=cA 1
 have b0:=cB 0
 have b1:=cB 1
 clear hB' cA cB
 go_region_held3(fun w'=>w'.cell? ⟨w.heap.size,0,none⟩=some (.int .i64 R)∧w'.cell? ⟨w.heap.size,1,none⟩=some (.int .i64 N)∧w'.cell? ⟨w.heap.size+1,0,none⟩=some (.int .i64 R')∧w'.cell? ⟨w.heap.size+1,1,none⟩=some (.int .i64 N')) (go_keep)
  (first
   |(go_at_call 149;refine(JI _ _ _).mono ?_;rintro e w1 ⟨rfl,rfl⟩)
   |(go_at_call 154;refine(KP _ _ _ _ (by exact Nx w1 _)).mono ?_;rintro e w1 ⟨rfl,rfl⟩))
 go_wp2
 go_ret
 exact⟨rfl,(k0.alloc _).drew⟩
theorem Iz(R N R' N':Int)(w:World):
  Calls Tryz.prog 178 #[.agg #[.int .i64 R,.int .i64 N],.agg #[.int .i64 R',.int .i64 N']] w fun e w'=>e= .returned (.int .i64 (Dc.Fv R N R' N'))∧Aa No w w':=by
 go_enter Tryz.func178,Tryz.ntmps178
 go_wp2
 have k0:Aa No w ((w.alloc (.cells #[.int .i64 R,.int .i64 N] 119)).alloc (.cells #[.int .i64 R',.int .i64 N'] 119)):=Kx
 have hA:=Ab (Nx w (.cells #[.int .i64 R,.int .i64 N] 119)) (.cells #[.int .i64 R',.int .i64 N'] 119)
 have hB:=Nx (w.alloc (.cells #[.int .i64 R,.int .i64 N] 119)) (.cells #[.int .i64 R',.int .i64 N'] 119)
 have hB':(w.alloc (.cells #[.int .i64 R,.int .i64 N] 119)).heap.size=w.heap.size+1:=by simp
 rw[hB']at hB
 generalize (w.alloc (.cells #[.int .i64 R,.int .i64 N] 119)).alloc (.cells #[.int .i64 R',.int .i64 N'] 119)=w1 at k0 hA hB⊢
 have cA:=Cx hA
 have cB:=Cx hB
 have a0:=cA 0
 have a1:=cA 1
 have b0:=cB 0
 have b1:=cB 1
 clear hB' cA cB
 go_region_held3(fun w'=>w'.cell? ⟨w.heap.size,0,none⟩=some (.int .i64 R)∧w'.cell? ⟨w.heap.size,1,none⟩=some (.int .i64 N)∧w'.cell? ⟨w.heap.size+1,0,none⟩=some (.int .i64 R')∧w'.cell? ⟨w.heap.size+1,1,none⟩=some (.int .i64 N')) (go_keep)
  (first
   |(go_at_call 149;refine(JI _ _ _).mono ?_;rintro e w1 ⟨rfl,rfl⟩)
   |(go_at_call 154;refine(KP _ _ _ _ (by exact Nx w1 _)).mono ?_;rintro e w1 ⟨rfl,rfl⟩))
 go_wp2
 go_ret
 exact⟨rfl,(k0.alloc _).drew⟩
theorem NW(a b:List UInt8)(w:World):
  Calls Tryz.prog 274 #[.string ⟨a.toArray⟩,.string ⟨b.toArray⟩] w fun e w'=>e= .returned (.int .i64 (Dc.Gi a b))∧w=w':=by
 have hS:∀w:World,Calls Tryz.prog 314 #[.string ⟨a.toArray⟩,.string ⟨b.toArray⟩] w fun e w'=>e= .returned (.int .i64 (Dc.Gi a b))∧w=w':=fun w=>
  (Tryz.strings_Compare ⟨a.toArray⟩ ⟨b.toArray⟩ w).mono fun e w' ⟨h1,h2⟩=>⟨by rw[h1];simp[Dc.Gi],h2.symm⟩
 go_enter Tryz.func274,Tryz.ntmps274
 go_wp2_with(go_at_call 314;refine(hS _).mono ?_;rintro e w1 ⟨rfl,rfl⟩)
 go_ret
 exact⟨rfl,rfl⟩
@[reducible] def TA(c:Dc.C0):Value:= .agg #[.string ⟨c.key.toArray⟩,.int .i64 c.id.R,.int .i64 c.id.N]
theorem MH(a b:List UInt8)(R N R' N':Int)(w:World):
  Calls Tryz.prog 227 #[.agg #[.string ⟨a.toArray⟩,.int .i64 R,.int .i64 N],.agg #[.string ⟨b.toArray⟩,.int .i64 R',.int .i64 N']] w fun e w'=>
   e= .returned (.int .i64 (Dc.Bq ⟨a,⟨R,N⟩⟩ ⟨b,⟨R',N'⟩⟩))∧Aa No w w':=by
 go_enter Tryz.func227,Tryz.ntmps227
 go_wp2
 have k0:Aa No w ((w.alloc (.cells #[.string ⟨a.toArray⟩,.int .i64 R,.int .i64 N] 278)).alloc (.cells #[.string ⟨b.toArray⟩,.int .i64 R',.int .i64 N'] 278)):=Kx
 have hA:=Ab (Nx w (.cells #[.string ⟨a.toArray⟩,.int .i64 R,.int .i64 N] 278)) (.cells #[.string ⟨b.toArray⟩,.int .i64 R',.int .i64 N'] 278)
 have hB:=Nx (w.alloc (.cells #[.string ⟨a.toArray⟩,.int .i64 R,.int .i64 N] 278)) (.cells #[.string ⟨b.toArray⟩,.int .i64 R',.int .i64 N'] 278)
 have hB':(w.alloc (.cells #[.string ⟨a.toArray⟩,.int .i64 R,.int .i64 N] 278)).heap.size=w.heap.size+1:=by simp
 rw[hB']at hB
 generalize (w.alloc (.cells #[.string ⟨a.toArray⟩,.int .i64 R,.int .i64 N] 278)).alloc (.cells #[.string ⟨b.toArray⟩,.int .i64 R',.int .i64 N'] 278)=w1 at k0 hA hB⊢
 have l1:=Ao hB
 have cA:=Cx hA
 have cB:=Cx hB
 have a0:=cA 0
 have a1:=cA 1
 have a2:=cA 2
 have b0:=cB 0
 have b1:=cB 1
 have b2:=cB 2
 clear hB' cA cB hA hB
 go_region_held3(fun w'=>w'.cell? ⟨w.heap.size,0,none⟩=some (.string ⟨a.toArray⟩)∧w'.cell? ⟨w.heap.size,1,none⟩=some (.int .i64 R)∧w'.cell? ⟨w.heap.size,2,none⟩=some (.int .i64 N)∧w'.cell? ⟨w.heap.size+1,0,none⟩=some (.string ⟨b.toArray⟩)∧w'.cell? ⟨w.heap.size+1,1,none⟩=some (.int .i64 R')∧w'.cell? ⟨w.heap.size+1,2,none⟩=some (.int .i64 N')) (go_keep)
  (first
   |(go_at_call 274;refine(NW _ _ _).mono ?_;rintro e w2 ⟨rfl,rfl⟩)
   |(go_at_call 155;refine(Gt _ _ _ _ _).mono ?_;rintro e w2 ⟨rfl,k2⟩
     have q0:=k2.cellOf a0 id
     have q1:=k2.cellOf a1 id
     have q2:=k2.cellOf a2 id
     have q3:=k2.cellOf b0 id
     have q4:=k2.cellOf b1 id
     have q5:=k2.cellOf b2 id)
   |(go_at_call 154;refine(KP _ _ _ _ (by exact Nx w2 _)).mono ?_;rintro e w3 ⟨rfl,rfl⟩))
 go_wp2
 go_ret
 exact⟨rfl,((k0.drew).trans k2.any).alloc _⟩
@[reducible] def Ln(m:Dc.C2):Value:= .agg #[.int .i64 m.t,.int .i64 m.r,.int .i64 m.id.R,.int .i64 m.id.N,.int .i64 m.block.R,.int .i64 m.block.N,.int .i64 m.parent.R,.int .i64 m.parent.N,.string ⟨m.key.toArray⟩]
theorem NJ(m m':Dc.C2)(w:World):
  Calls Tryz.prog 168 #[Ln m,Ln m'] w fun e w'=>e= .returned (.int .i64 (Dc.Bi m m'))∧Aa No w w':=by
 obtain⟨t,r,⟨R,N⟩,⟨b1,b2⟩,⟨p1,p2⟩,key⟩:=m
 obtain⟨t',r',⟨R',N'⟩,⟨b1',b2'⟩,⟨p1',p2'⟩,key'⟩:=m'
 have H:Hid (Dc.Bi ⟨t,r,⟨R,N⟩,⟨b1,b2⟩,⟨p1,p2⟩,key⟩ ⟨t',r',⟨R',N'⟩,⟨b1',b2'⟩,⟨p1',p2'⟩,key'⟩=Dc.or2 (Dc.Fv t r t' r') (Dc.BD ⟨R,N⟩ ⟨R',N'⟩)):=rfl
 generalize hr:Dc.Bi ⟨t,r,⟨R,N⟩,⟨b1,b2⟩,⟨p1,p2⟩,key⟩ ⟨t',r',⟨R',N'⟩,⟨b1',b2'⟩,⟨p1',p2'⟩,key'⟩=res at H⊢
 clear hr
 go_enter Tryz.func168,Tryz.ntmps168
 go_wp2
 obtain⟨oA,hoA⟩:∃o,o=Obj.cells #[.int .i64 t,.int .i64 r,.int .i64 R,.int .i64 N,.int .i64 b1,.int .i64 b2,.int .i64 p1,.int .i64 p2,.string ⟨key.toArray⟩] 211:=⟨_,rfl⟩
 obtain⟨oB,hoB⟩:∃o,o=Obj.cells #[.int .i64 t',.int .i64 r',.int .i64 R',.int .i64 N',.int .i64 b1',.int .i64 b2',.int .i64 p1',.int .i64 p2',.string ⟨key'.toArray⟩] 211:=⟨_,rfl⟩
 rw[←hoA,←hoB]
 have k0:Aa No w ((w.alloc oA).alloc oB):=Kx
 have hA:=Ab (Nx w oA) oB
 have hB:=Nx (w.alloc oA) oB
 have hB':(w.alloc oA).heap.size=w.heap.size+1:=by simp
 rw[hB']at hB
 generalize (w.alloc oA).alloc oB=w1 at k0 hA hB⊢
 subst hoA hoB
 have cA:=Cx hA
 have cB:=Cx hB
 have a0:=cA 0
 have a1:=cA 1
 have a2:=cA 2
 have a3:=cA 3
 have b0:=cB 0
 have b1:=cB 1
 have b2:=cB 2
 have b3:=cB 3
 clear hB' cA cB hA hB
 go_region_held3(fun w'=>w'.cell? ⟨w.heap.size,0,none⟩=some (.int .i64 t)∧w'.cell? ⟨w.heap.size,1,none⟩=some (.int .i64 r)∧w'.cell? ⟨w.heap.size,2,none⟩=some (.int .i64 R)∧w'.cell? ⟨w.heap.size,3,none⟩=some (.int .i64 N)∧
   w'.cell? ⟨w.heap.size+1,0,none⟩=some (.int .i64 t')∧w'.cell? ⟨w.heap.size+1,1,none⟩=some (.int .i64 r')∧w'.cell? ⟨w.heap.size+1,2,none⟩=some (.int .i64 R')∧w'.cell? ⟨w.heap.size+1,3,none⟩=some (.int .i64 N')) (go_keep)
  (first
   |(go_at_call 178;refine(Iz _ _ _ _ _).mono ?_;rintro e w2 ⟨rfl,k2⟩
     have q0:=k2.cellOf (by assumption:_=some (.int .i64 t)) id
     have q1:=k2.cellOf (by assumption:_=some (.int .i64 r)) id
     have q2:=k2.cellOf (by assumption:_=some (.int .i64 R)) id
     have q3:=k2.cellOf (by assumption:_=some (.int .i64 N)) id
     have q4:=k2.cellOf (by assumption:_=some (.int .i64 t')) id
     have q5:=k2.cellOf (by assumption:_=some (.int .i64 r')) id
     have q6:=k2.cellOf (by assumption:_=some (.int .i64 R')) id
     have q7:=k2.cellOf (by assumption:_=some (.int .i64 N')) id)
   |(go_at_call 155;refine(Gt _ _ _ _ _).mono ?_;rintro e w3 ⟨rfl,k3⟩
     have q0:=k3.cellOf (by assumption:_=some (.int .i64 t)) id
     have q1:=k3.cellOf (by assumption:_=some (.int .i64 r)) id
     have q2:=k3.cellOf (by assumption:_=some (.int .i64 R)) id
     have q3:=k3.cellOf (by assumption:_=some (.int .i64 N)) id
     have q4:=k3.cellOf (by assumption:_=some (.int .i64 t')) id
     have q5:=k3.cellOf (by assumption:_=some (.int .i64 r')) id
     have q6:=k3.cellOf (by assumption:_=some (.int .i64 R')) id
     have q7:=k3.cellOf (by assumption:_=some (.int .i64 N')) id)
   |(go_at_call 154;refine(KP _ _ _ _ (by exact Nx w3 _)).mono ?_;rintro e w4 ⟨rfl,rfl⟩))
 go_wp2
 go_ret
 exact⟨F7 H.out.symm,Kx⟩
end
section
open Go.RowKit
theorem Az{α:Type}{m:Nat}{f:α→List Value}(hf:∀x,(f x).length=m):∀l:List α,(l.flatMap f).length=l.length*m
 |[]=>by simp
 |x::l=>by
  have:=Az hf l
  rw[BE,Ai,hf,this,BO,N4];omega
theorem EL{α:Type}{m:Nat}{f:α→List Value}(hf:∀x,(f x).length=m):∀(l:List α) (k r:Nat) (hk:k<l.length),r<m→(l.flatMap f)[k*m+r]? =(f l[k])[r]?
 |[],k,r,hk,_=>absurd hk (aK _)
 |x::l,0,r,_,hr=>by
  rw[BE,Nat.zero_mul,Nat.zero_add,av (by rw[hf];exact hr)];rfl
 |x::l,k+1,r,hk,hr=>by
  rw[BE,List.getElem?_append_right (by rw[hf,N4];omega),hf]
  have:(k+1)*m+r-m=k*m+r:=by rw[N4];omega
  rw[this,EL hf l k r (by simpa using hk) hr];rfl
/-- the slice value v holds the elements l -/
def Aq{α:Type}(T:TypeId)(m:Nat)(f:α→List Value)(v:Value)(l:List α)(w:World):Prop:=w.ownsRow 0 T m v l.length (l.flatMap f)
section
variable {α:Type} {T:TypeId} {m:Nat} {f:α→List Value} {v:Value} {l:List α} {w w':World}
theorem Aq.form(h:Aq T m f v l w):(v= .slice none 0 0∧l=[])∨∃g cap cur,v= .slice (some ⟨g,0,none⟩) l.length cap∧w.heap[g]? =some (.cells cur T (0,0))∧l.length≤cap∧cap≤maxLen∧cur.size=cap*m∧cur.toList.take (l.length*m)=l.flatMap f:=by
 rcases h.2 with⟨h1,h2⟩|⟨g,cap,cur,h1,_,h3,h4,h5,h6,h7⟩
 ·exact .inl ⟨h1,LN h2⟩
 ·exact .inr ⟨g,cap,cur,h1,h3,h4,h5,h6,h7⟩
theorem Aq.keeps{S:Nat→Prop}(h:Aq T m f v l w)(k:Aa S w w')(hn:∀g,v.ownBlock=some g→¬S g):Aq T m f v l w':=by
 refine⟨h.1,?_⟩
 rcases h.2 with hn'|⟨g,cap,cur,rfl,hb,hgg,rest⟩
 ·exact .inl hn'
 ·exact .inr ⟨g,cap,cur,rfl,hb,k.heap hgg (hn g rfl),rest⟩
theorem Aq.no(h:Aq T m f v l w)(k:Aa No w w'):Aq T m f v l w':=h.keeps k fun _ _ e=>e
theorem Aq.alloc(h:Aq T m f v l w)(o:Obj):Aq T m f v l (w.alloc o):=h.no ((Aa.refl _ _).alloc o)
theorem Aq.nil:Aq T m f (.slice none 0 0) ([]:List α) w:=World.ownsRow_nil _ _ _ _
theorem Aq.len_le(h:Aq T m f v l w):l.length≤maxLen:=by
 rcases h.form with⟨_,rfl⟩|⟨g,cap,cur,_,_,h1,h2,_⟩
 ·exact Ah _
 ·exact AG h1 h2
/-- where it owns a block -/
theorem Aq.at(h:Aq T m f v l w)(hl:0<l.length):∃g cap,v= .slice (some ⟨g,0,none⟩) l.length cap∧l.length≤cap∧cap≤maxLen:=by
 rcases h.form with⟨_,rfl⟩|⟨g,cap,cur,h1,_,h2,h3,_⟩
 ·simp at hl
 ·exact⟨g,cap,h1,h2,h3⟩
theorem Aq.cell{g n cap:Nat}(h:Aq T m f (.slice (some ⟨g,0,none⟩) n cap) l w)(hf:∀x,(f x).length=m){k:Nat}(hk:k<l.length){r:Nat}(hr:r<m):
  w.cell? ⟨g,k*m+r,none⟩=(f l[k])[r]? :=by
 have hlt:k*m+r<l.length*m:=by
  have:(k+1)*m≤l.length*m:=Ho m hk
  rw[N4]at this;omega
 have hg:(l.flatMap f)[k*m+r]? =(f l[k])[r]? :=EL hf l k r hk hr
 rw[←hg]
 rcases h.form with⟨h1,_⟩|⟨g',cap',cur,h1,h2,_,_,h5,h6⟩
 ·cases h1
 ·simp only[Value.slice.injEq,AZ,Addr.mk.injEq,DX]at h1
  obtain⟨rfl,_,rfl⟩:=h1
  rw[Cx h2,←Aw,←h6,AO,Ak hlt]
end
/-! cells of the document's data -/
def Ar(c:Dc.C0):List Value:=[.string ⟨c.key.toArray⟩,.int .i64 c.id.R,.int .i64 c.id.N]
def AE(c:Dc.Chr):List Value:=[.int .i64 c.op.R,.int .i64 c.op.N,.int .i64 c.i]
def Bf(c:Off.Bid):List Value:=[.int .i64 c.R,.int .i64 c.N]
def Av(s:Dc.CS):List Value:=[.int .i64 s.m.t,.int .i64 s.m.r,.int .i64 s.m.id.R,.int .i64 s.m.id.N,.int .i64 s.m.block.R,.int .i64 s.m.block.N,.int .i64 s.m.parent.R,.int .i64 s.m.parent.N,.string ⟨s.m.key.toArray⟩,
 .bool s.done,.int .i64 s.was.parent.R,.int .i64 s.was.parent.N,.string ⟨s.was.key.toArray⟩,.bool s.had]
def Af(r:Dc.Run):List Value:=[.int .i64 r.op.R,.int .i64 r.op.N,.int .i64 r.fr,.int .i64 r.len,.int .i64 0,.int .i64 0,.int .i64 0,.int .i64 0,.int .i64 0,.int .i64 0,.bool r.gone,.bool r.mark,.string ⟨r.text.toArray⟩]
@[reducible] def WI(s:Dc.CS):Value:= .agg #[.int .i64 s.m.t,.int .i64 s.m.r,.int .i64 s.m.id.R,.int .i64 s.m.id.N,.int .i64 s.m.block.R,.int .i64 s.m.block.N,.int .i64 s.m.parent.R,.int .i64 s.m.parent.N,.string ⟨s.m.key.toArray⟩,
 .bool s.done,.int .i64 s.was.parent.R,.int .i64 s.was.parent.N,.string ⟨s.was.key.toArray⟩,.bool s.had]
@[reducible] def JE(r:Dc.Run):Value:= .agg #[.int .i64 r.op.R,.int .i64 r.op.N,.int .i64 r.fr,.int .i64 r.len,.int .i64 0,.int .i64 0,.int .i64 0,.int .i64 0,.int .i64 0,.int .i64 0,.bool r.gone,.bool r.mark,.string ⟨r.text.toArray⟩]
@[reducible] def GX(s:Dc.I7):Value:= .agg #[.bool s.on,.int .i64 s.t,.int .i64 s.r,.int .i64 s.from'.R,.int .i64 s.from'.N]
end
section
open Go.RowKit
theorem PV{a b:Dc.Chr}(h1:a.op.R=b.op.R)(h2:a.op.N=b.op.N)(h3:a.i=b.i):a=b:=by
 obtain⟨⟨r,n⟩,i⟩:=a;obtain⟨⟨r',n'⟩,i'⟩:=b
 simp at h1 h2 h3;simp[h1,h2,h3]
theorem VF{a b:Off.Bid}(h1:a.R=b.R)(h2:a.N=b.N):a=b:=by
 obtain⟨r,n⟩:=a;obtain⟨r',n'⟩:=b
 simp at h1 h2;simp[h1,h2]
theorem Wy(a:Off.Bid)(n:Nat):Instr.sameBits (n+2) (idV a) (idV a)=true:=by
 simp[Instr.sameBits]
theorem VM(a:Dc.Chr)(n:Nat):Instr.sameBits (n+2) (CE a) (CE a)=true:=by
 simp[Instr.sameBits]
theorem OQ(w:World)(em:Bool)(a:Int)(n:Nat):(Instr.checkKey em (n+1) 3 (.int .i64 a)).run Tryz.prog w= .ok () w:=by
 simp[Instr.checkKey,run_underlying Tryz.underlying3]
theorem Rz(w:World)(em:Bool)(a:Off.Bid)(n:Nat):(Instr.checkKey em (n+2) 24 (idV a)).run Tryz.prog w= .ok () w:=by
 have hS:Tryz.prog.underlying 24=some (.struct (Tryz.prog.fieldsOf 24)):=by kernel_rfl
 have u3:=Tryz.underlying3
 have a3:=Tryz.isAgg3
 have z3:=Tryz.sizeOf3
 have hc:=fun w a=>OQ w em a n
 unfold Instr.checkKey
 simp only[idV,Sem.run_bind,run_underlying hS,Result.andThen_ok]
 simp only[Program.fieldsOf,Tryz.underlying24]
 go_simp
theorem US(w:World)(em:Bool)(a:Dc.Chr)(n:Nat):(Instr.checkKey em (n+3) 26 (CE a)).run Tryz.prog w= .ok () w:=by
 have hS:Tryz.prog.underlying 26=some (.struct (Tryz.prog.fieldsOf 26)):=by kernel_rfl
 have u3:=Tryz.underlying3
 have a3:=Tryz.isAgg3
 have z3:=Tryz.sizeOf3
 have a24:=Tryz.isAgg24
 have z24:=Tryz.sizeOf24
 have hc:=fun w a=>OQ w em a (n+1)
 have hd:=fun w R N=>Rz w em ⟨R,N⟩ n
 unfold Instr.checkKey
 simp only[CE,Sem.run_bind,run_underlying hS,Result.andThen_ok]
 simp only[Program.fieldsOf,Tryz.underlying26]
 go_simp
theorem Eh:FP Tryz.prog 24 (.struct (Tryz.prog.fieldsOf 24)) idV where
 und:=by kernel_rfl
 inj h:=by
  simp only[idV,Value.agg.injEq]at h
  have h1:=congrArg (fun a:Array Value=>a[0]?) h
  have h2:=congrArg (fun a:Array Value=>a[1]?) h
  simp at h1 h2
  exact VF h1 h2
 check w em a:=Rz w em a 9998
 eq w a b:=by
  have hS:Tryz.prog.underlying 24=some (.struct (Tryz.prog.fieldsOf 24)):=by kernel_rfl
  have hp:Tryz.prog.stoodInHeld 24=false:=by kernel_rfl
  have u3:=Tryz.underlying3
  have a3:=Tryz.isAgg3
  have z3:=Tryz.sizeOf3
  have heq:Op.equal 24 (idV a) (idV b)=Op.equalIn (9999+1) 24 (idV a) (idV b):=rfl
  rw[heq]
  simp only[idV]
  rw[run_equalIn_struct w 9999 24 _ _ hS hp]
  simp only[Program.fieldsOf,Tryz.underlying24]
  go_simp
  by_cases h1:a.R=b.R<;>by_cases h2:a.N=b.N
  ·obtain rfl:=VF h1 h2;simp
  ·have:a≠b:=fun e=>h2 (by rw[e])
   simp[h1,h2,this]
  ·have:a≠b:=fun e=>h1 (by rw[e])
   simp[h1,this]
  ·have:a≠b:=fun e=>h1 (by rw[e])
   simp[h1,this]
 now a b:=rfl
 stays w a:=by
  have h:Instr.sameBits 10000 (idV a) (idV a)=true:=Wy a 9998
  simp[Instr.keyThatStays,h]
theorem Eb:FP Tryz.prog 26 (.struct (Tryz.prog.fieldsOf 26)) CE where
 und:=by kernel_rfl
 inj h:=by
  simp only[CE,Value.agg.injEq]at h
  have h1:=congrArg (fun a:Array Value=>a[0]?) h
  have h2:=congrArg (fun a:Array Value=>a[1]?) h
  have h3:=congrArg (fun a:Array Value=>a[2]?) h
  simp at h1 h2 h3
  exact PV h1 h2 h3
 check w em a:=US w em a 9997
 eq w a b:=by
  have hS:Tryz.prog.underlying 26=some (.struct (Tryz.prog.fieldsOf 26)):=by kernel_rfl
  have hp:Tryz.prog.stoodInHeld 26=false:=by kernel_rfl
  have hS2:Tryz.prog.underlying 24=some (.struct (Tryz.prog.fieldsOf 24)):=by kernel_rfl
  have hp2:Tryz.prog.stoodInHeld 24=false:=by kernel_rfl
  have u3:=Tryz.underlying3
  have a3:=Tryz.isAgg3
  have z3:=Tryz.sizeOf3
  have a24:=Tryz.isAgg24
  have z24:=Tryz.sizeOf24
  have heq:Op.equal 26 (CE a) (CE b)=Op.equalIn (9998+1+1) 26 (CE a) (CE b):=rfl
  have hq:=fun(w:World) (xs ys:Array Value)=>run_equalIn_struct w 9998 24 xs ys hS2 hp2
  rw[heq]
  simp only[CE]
  rw[run_equalIn_struct w (9998+1) 26 _ _ hS hp]
  simp only[Program.fieldsOf,Tryz.underlying26]
  simp only[Program.fieldsOf,Tryz.underlying24]at hq
  go_simp
  by_cases h1:a.op.R=b.op.R<;>by_cases h2:a.op.N=b.op.N<;>by_cases h3:a.i=b.i
  ·obtain rfl:=PV h1 h2 h3;simp
  all_goals
   have:a≠b:=fun e=>by subst e;first|exact h1 rfl|exact h2 rfl|exact h3 rfl
   simp[h1,h2,h3,this]
 now a b:=rfl
 stays w a:=by
  have h:Instr.sameBits 10000 (CE a) (CE a)=true:=VM a 9998
  simp[Instr.keyThatStays,h]
end
end Go.Proofs.YthfjefcljeamgaaGreatDoor
