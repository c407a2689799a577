/- joined: The tree's small functions: the right of a move, a new tree, a block's place, the order within Do. A map that says a function, ranged over: what is still to come, in whatever order. slices.SortFunc over ids: the row holds the same ids in another order. -/
import Derived.Test.YthfjefcljeamgaaGreatDoorTreeB
import Derived.Carry
import Derived.Test.YthfjefcljeamgaaGreatDoorMapF
import Derived.Test.YthfjefcljeamgaaGreatDoorKeys
import Derived.Shelf.SlSortCmp.WholeK
import Derived.Shelf.SlSortCmp.NoneTotal
import Derived.Shelf.Lay
import Derived.Ground.SlsfProg
namespace Go.Proofs.YthfjefcljeamgaaGreatDoor
set_option maxRecDepth 100000
set_option maxHeartbeats 4000000
section
open Go.RowKit
attribute [local go_sem ↓] Go.wp_at_zero Go.wp_at_succ
attribute [local go_sem] run_makeMap
def IV(m:Dc.C2):Bool:=Dc.Bm m.t m.r&&Off.AV m.id&&Off.AV m.block&&Off.Bn m.parent&&Dc.D4 m.key
theorem Hi(m:Dc.C2)(w:World)(hE:Env w):
  Calls Tryz.prog 165 #[Ln m] w (Bj (IV m) w):=by
 obtain⟨t,r,⟨iR,iN⟩,⟨bR,bN⟩,⟨pR,pN⟩,key⟩:=m
 have hall:Dc.Bm t r=false∨(Dc.Bm t r=true∧Off.AV ⟨iR,iN⟩=false)∨(Dc.Bm t r=true∧Off.AV ⟨iR,iN⟩=true∧Off.AV ⟨bR,bN⟩=false)∨
   (Dc.Bm t r=true∧Off.AV ⟨iR,iN⟩=true∧Off.AV ⟨bR,bN⟩=true∧Off.Bn ⟨pR,pN⟩=false)∨
   (Dc.Bm t r=true∧Off.AV ⟨iR,iN⟩=true∧Off.AV ⟨bR,bN⟩=true∧Off.Bn ⟨pR,pN⟩=true):=by
  cases Dc.Bm t r<;>cases Off.AV ⟨iR,iN⟩<;>cases Off.AV ⟨bR,bN⟩<;>cases Off.Bn ⟨pR,pN⟩<;>simp
 have HE:=Hx hE
 clear hE
 rcases hall with h1|⟨h1,h2⟩|⟨h1,h2,h3⟩|⟨h1,h2,h3,h4⟩|⟨h1,h2,h3,h4⟩
 all_goals
  have HR:Hid (IV ⟨t,r,⟨iR,iN⟩,⟨bR,bN⟩,⟨pR,pN⟩,key⟩=IV ⟨t,r,⟨iR,iN⟩,⟨bR,bN⟩,⟨pR,pN⟩,key⟩):=Hx rfl
  generalize hq:IV ⟨t,r,⟨iR,iN⟩,⟨bR,bN⟩,⟨pR,pN⟩,key⟩=q at HR⊢
  unfold IV at hq
  dsimp only at hq
  simp only[*,Bool.false_and,Bool.true_and]at hq
  subst hq
  clear HR
  go_enter Tryz.func165,Tryz.ntmps165
  go_wp2_with(first
   |go_at_call 102;refine(Dh _ _ _).mono ?_;rintro e w1 ⟨rfl,k1⟩;rw[h1];have hs:=k1.own id;have hc:=Cx hs
   |go_at_call 103;refine(BJ _ _ _).mono ?_;first|(rw[h2];rintro e w2 ⟨rfl,k2⟩;have hs2:=k2.heap hs id;have hc2:=Cx hs2)|(rw[h3];rintro e w3 ⟨rfl,k3⟩;have hs3:=k3.heap hs2 id;have hc3:=Cx hs3)
   |go_at_call 114;refine(Fq _ _ _ (((((HE.out).alloc _).no k1).no k2).no k3)).mono ?_;rintro e w4 ⟨rfl,k4⟩;rw[h4];have hs4:=k4.heap hs3 id;have hc4:=Cx hs4
   |go_at_call 157;refine(Hk _ _).mono ?_;rintro e w5 ⟨rfl,rfl⟩)
 all_goals
  go_ret
  exact⟨rfl,Kx⟩
/-- a tree without moves -/
def Qb{α:Type}(P:(Nat→Prop)→Nat→World→Prop)(_:α)(w:World)(e:Ending)(w':World):Prop:=
 ∃b,e= .returned (.pointer (some ⟨b,0,none⟩))∧P (fun g=>w.heap.size≤g∧g<w'.heap.size) b w'∧Aa No w w'
theorem Qk(w:World):
  Calls Tryz.prog 63 #[] w (Qb (fun F b w=>EH F b [] (fun _=>none) (fun _=>none) [] w) () w):=by
 go_enter Tryz.func63,Tryz.ntmps63
 go_wp2_with fail
 have m1:A8 idV GR w.heap.size (fun _=>none) (w.alloc (.map #[] 0)):=A8.new w
 have m2:A8 idV Bt (w.heap.size+1) (fun _=>none) ((w.alloc (.map #[] 0)).alloc (.map #[] 0)):=by
  have h:=A8.new (kv:=idV) (ev:=Bt) (w.alloc (.map #[] 0))
  rw[World.size_alloc]at h
  exact h
 have hb:=Nx ((w.alloc (.map #[] 0)).alloc (.map #[] 0)) (.cells #[.slice none 0 0,.map (some w.heap.size),.map (some (w.heap.size+1)),.slice none 0 0] 194)
 rw[World.size_alloc,World.size_alloc]at hb
 have k:Aa No w (((w.alloc (.map #[] 0)).alloc (.map #[] 0)).alloc (.cells #[.slice none 0 0,.map (some w.heap.size),.map (some (w.heap.size+1)),.slice none 0 0] 194)):=((Aa.refl No w).alloc _ |>.alloc _ |>.alloc _)
 have m1':=(m1.alloc (.map #[] 0)).alloc (.cells #[.slice none 0 0,.map (some w.heap.size),.map (some (w.heap.size+1)),.slice none 0 0] 194)
 have m2':=m2.alloc (.cells #[.slice none 0 0,.map (some w.heap.size),.map (some (w.heap.size+1)),.slice none 0 0] 194)
 have hsz:(((w.alloc (.map #[] 0)).alloc (.map #[] 0)).alloc (.cells #[.slice none 0 0,.map (some w.heap.size),.map (some (w.heap.size+1)),.slice none 0 0] 194)).heap.size=w.heap.size+3:=by
  rw[World.size_alloc,World.size_alloc,World.size_alloc]
 generalize ((w.alloc (.map #[] 0)).alloc (.map #[] 0)).alloc (.cells #[.slice none 0 0,.map (some w.heap.size),.map (some (w.heap.size+1)),.slice none 0 0] 194)=w1 at hb k m1' m2' hsz⊢
 go_ret
 exact⟨w.heap.size+2,rfl,⟨.slice none 0 0,w.heap.size,w.heap.size+1,.slice none 0 0,hb,Aq.nil,m1',m2',Aq.nil,⟨by omega,by omega⟩,⟨by omega,by omega⟩,⟨by omega,by omega⟩,(fun g hg=>by cases hg),(fun g hg=>by cases hg),by omega⟩,k⟩
theorem Rn(s:Dc.CS)(m:Dc.C2)(w:World):
  Calls Tryz.prog 167 #[WI s,Ln m] w fun e w'=>e= .returned (.int .i64 (Dc.Bi s.m m))∧Aa No w w':=by
 go_enter Tryz.func167,Tryz.ntmps167
 go_wp2_with(go_at_call 168;refine(NJ s.m m _).mono ?_;rintro e w1 ⟨rfl,k1⟩)
 go_ret
 exact⟨rfl,Kx⟩
def U1(p:Dc.Dt)(ok:Bool)(w:World)(e:Ending)(w':World):Prop:=e= .returned (.tuple #[Bt p,.bool ok])∧Aa No w w'
theorem Ul(b bi bp:Nat)(vs vc:Value)(f:Dc.AB)(R N:Int)(w:World)
  (h1:w.heap[b]? =some (.cells #[vs,.map (some bi),.map (some bp),vc] 194 (0,0)))(h4:A8 idV Bt bp f w):
  Calls Tryz.prog 75 #[.pointer (some ⟨b,0,none⟩),.agg #[.int .i64 R,.int .i64 N]] w (U1 (pl f ⟨R,N⟩) (f ⟨R,N⟩).isSome w):=by
 obtain⟨p,hp⟩:∃p,p=pl f ⟨R,N⟩:=⟨_,rfl⟩
 obtain⟨ok,hok⟩:∃ok,ok=(f ⟨R,N⟩).isSome:=⟨_,rfl⟩
 rw[←hp,←hok]
 have HP:=Hx hp
 have HO:=Hx hok
 clear hp hok
 go_enter Tryz.func75,Tryz.ntmps75
 go_upto_region 1 with(fail)
 have k0:Aa No w ((w.alloc (.cells #[.int .i64 R,.int .i64 N] 24)).alloc (.cells #[.int .i64 0,.int .i64 0,.string ⟨#[]⟩] 45)):=Kx
 have hA:=Ab (Nx w (.cells #[.int .i64 R,.int .i64 N] 24)) (.cells #[.int .i64 0,.int .i64 0,.string ⟨#[]⟩] 45)
 have hB:=Nx (w.alloc (.cells #[.int .i64 R,.int .i64 N] 24)) (.cells #[.int .i64 0,.int .i64 0,.string ⟨#[]⟩] 45)
 rw[World.size_alloc]at hB
 generalize (w.alloc (.cells #[.int .i64 R,.int .i64 N] 24)).alloc (.cells #[.int .i64 0,.int .i64 0,.string ⟨#[]⟩] 45)=w1 at k0 hA hB⊢
 have hb1:=k0.heap h1 id
 have hf1:=h4.keeps k0 id
 have HS:Hid (∀W,Aa No w1 W→Aa No w1 W∧W.cell? ⟨b,2,none⟩=some (.map (some bp))∧W.cell? ⟨w.heap.size,0,none⟩=some (.int .i64 R)∧W.cell? ⟨w.heap.size,1,none⟩=some (.int .i64 N)∧
   (Instr.lookup 191 (.map (some bp)) (.agg #[.int .i64 R,.int .i64 N]) true).run Tryz.prog W= .ok (.tuple #[Bt p,.bool ok]) W):=Hx fun W k=>
  ⟨k,Cx (k.heap hb1 id) 2,Cx (k.heap hA id) 0,Cx (k.heap hA id) 1,by rw[HP.out,HO.out];exact DN (hf1.keeps k id) R N⟩
 have HB:=Hx hB
 clear h1 h4 hb1 hf1 hA hB
 obtain⟨_,s2,s3,s4,s5⟩:=HS.out w1 (Aa.refl _ _)
 go_cut[6,7] (fun s6 s7 wx=>∃g:Nat,s6= .pointer (some ⟨g,0,none⟩)∧s7= .bool ok∧It g p wx∧Aa No w1 wx)
 case first=>
  go_region_held3(fun W=>Aa No w1 W∧W.cell? ⟨b,2,none⟩=some (.map (some bp))∧W.cell? ⟨w.heap.size,0,none⟩=some (.int .i64 R)∧W.cell? ⟨w.heap.size,1,none⟩=some (.int .i64 N)∧
   (Instr.lookup 191 (.map (some bp)) (.agg #[.int .i64 R,.int .i64 N]) true).run Tryz.prog W= .ok (.tuple #[Bt p,.bool ok]) W) (exact HS.out _ Kx) (fail)
  all_goals
   go_wp2_with fail
   go_meet
   exact⟨w1.heap.size,rfl,rfl,by first|exact Nx w1 _|exact Nx w1.drew _,Kx⟩
 case rest=>
  obtain⟨g,rfl,rfl,hg,kc⟩:=hcut
  have hB:=kc.heap HB.out id
  have hne:w.heap.size+1<wc.heap.size:=Ao hB
  clear s2 s3 s4 s5
  have g0:=Cx hg 0
  have g1:=Cx hg 1
  have g2:=Cx hg 2
  have q0:=Cx hB 0
  have q1:=Cx hB 1
  have q2:=Cx hB 2
  have u:=Fx hB
  have hf:=heap_set (heap_set (heap_set hB 0 (.int .i64 p.parent.R)) 1 (.int .i64 p.parent.N)) 2 (.string ⟨p.key.toArray⟩)
  have kf:Aa No w (((wc.setCell ⟨w.heap.size+1,0,none⟩ (.int .i64 p.parent.R)).setCell ⟨w.heap.size+1,1,none⟩ (.int .i64 p.parent.N)).setCell ⟨w.heap.size+1,2,none⟩ (.string ⟨p.key.toArray⟩)):=
   (((k0.trans kc).setNew (Hq _) _).setNew (Hq _) _).setNew (Hq _) _
  go_wp2_with fail
  generalize ((wc.setCell ⟨w.heap.size+1,0,none⟩ (.int .i64 p.parent.R)).setCell ⟨w.heap.size+1,1,none⟩ (.int .i64 p.parent.N)).setCell ⟨w.heap.size+1,2,none⟩ (.string ⟨p.key.toArray⟩)=wf at hf kf⊢
  refine bodyPost_ret (EC Tryz.results75 rfl hf Tryz.underlying45 rfl Rx) rfl ⟨rfl,kf⟩
end
section
open Go.RowKit
open Go.ChangeMaps (setBlock heap_setBlock_same heap_setBlock_other)
open Go.MapKept (stamped_iff)
section
variable {α β:Type} {P:Program} {kv:α→Value} {ev:β→Value}
/-- 'for a, v := range m' under way over the map of block b that says f: left: what is still to come -/
def DU(kv:α→Value)(ev:β→Value)(b r:Nat)(f:α→Option β)(left:α→Bool)(cnt:Nat)(w:World):Prop:=
 ∃es clock since seen c0,w.heap[b]? =some (.map es clock)∧EsF kv ev es clock f∧w.heap[r]? =some (.mapIter (some b) since seen c0)∧(∀x∈es.toList,x.born<since)∧(leftOf es seen).size=cnt∧
  (∀x∈es.toList,∀a,x.key=kv a→left a= !seen.contains x.born)∧(∀a,left a=true→f a≠none)∧since≤c0∧since≤clock
variable {f:α→Option β} {left:α→Bool} {b r cnt:Nat} {w w':World}
theorem DU.keeps{S:Nat→Prop}(h:DU kv ev b r f left cnt w)(k:Aa S w w')(hb:¬S b)(hr:¬S r):DU kv ev b r f left cnt w':=by
 obtain⟨es,clock,since,seen,c0,h1,h2,h3,h4⟩:=h
 exact⟨es,clock,since,seen,c0,k.heap h1 hb,h2,k.heap h3 hr,h4⟩
theorem DU.lt(h:DU kv ev b r f left cnt w):r<w.heap.size:=by
 obtain⟨es,clock,since,seen,c0,h1,h2,h3,h4⟩:=h
 exact Ao h3
theorem DU.map(h:DU kv ev b r f left cnt w):A8 kv ev b f w:=by
 obtain⟨es,clock,since,seen,c0,h1,h2,h3,h4⟩:=h
 exact⟨es,clock,h1,h2⟩
theorem DU.ne(h:DU kv ev b r f left cnt w):r≠b:=by
 obtain⟨es,clock,since,seen,c0,h1,h2,h3,h4⟩:=h
 intro e
 rw[e,h1]at h3
 cases h3
theorem A8.range[DecidableEq α]{k:TypeId}{d:TypeDesc}(K:FP P k d kv){t e:TypeId}(h:A8 kv ev b f w)(ht:P.underlying t=some (.map k e)):
  ∃w' cnt,(Instr.range t (.map (some b))).run P w= .ok (.pointer (some ⟨w.heap.size,0,none⟩)) w'∧DU kv ev b w.heap.size f (fun a=>(f a).isSome) cnt w'∧Aa No w w'∧w'.heap.size=w.heap.size+1∧
   ∀m:List α,(∀a,f a≠none→a∈m)→cnt≤m.length:=by
 have hlt:=h.lt
 obtain⟨es,clock,hb,F⟩:=h
 refine⟨_,es.size,run_range_map w t k e b es clock ht hb,⟨es,clock,clock,#[],clock,Ab hb _,F,Nx w _,F.stamped.1,?_,?_,?_,Ac _,Ac _⟩,(Aa.refl _ _).alloc _,by simp,fun m hm=>F.size_le hm⟩
 ·simp[leftOf]
 ·intro x hx a ha
  obtain⟨a',v,h1,h2,h3⟩:=F.sound x hx
  obtain rfl:=K.inj (ha.symm.trans h1)
  show(f a).isSome=_
  rw[h3]
  simp
 ·intro a (ha:(f a).isSome=true) e
  rw[e]at ha
  cases ha
theorem DU.next[DecidableEq α]{k:TypeId}{d:TypeDesc}(K:FP P k d kv)(h:DU kv ev b r f left cnt w)(ty:TypeId):
  (cnt=0∧(∀a,left a=false)∧(Instr.next (.pointer (some ⟨r,0,none⟩)) false ty).run P w= .ok (.tuple #[.bool false]) w)∨
  ∃a v w' cnt',left a=true∧f a=some v∧(Instr.next (.pointer (some ⟨r,0,none⟩)) false ty).run P w= .ok (.tuple #[.bool true,kv a,ev v]) w'∧
   DU kv ev b r f (fun z=>left z&& !decide (z=a)) cnt' w'∧cnt'<cnt∧Aa (At1 r) w w'∧w'.heap.size=w.heap.size∧(Instr.entry (.pointer (some ⟨r,0,none⟩))).run P w'= .ok (.tuple #[kv a,ev v]) w':=by
 have hne:=h.ne
 obtain⟨es,clock,since,seen,c0,hb,F,hr,hold,rfl,hl1,hl2,hsc,hsk⟩:=h
 have hst:=(stamped_iff es clock).1 F.stamped
 rcases run_next_at (P:=P) w ty r b since c0 seen es clock hr hb hold hsc with⟨h0,hrun⟩|⟨e,he,w1,hal,hrun⟩
 ·refine Or.inl ⟨h0,fun a=>?_,hrun⟩
  cases hk:left a with
  |false=>rfl
  |true=>
   cases hfa:f a with
   |none=>exact absurd hfa (hl2 a hk)
   |some v=>
    obtain⟨x,hx,hxk,_⟩:=F.full a v hfa
    rw[hl1 x hx a hxk,all_seen es seen h0 x hx]at hk
    cases hk
 ·obtain⟨hem,hes⟩:=mem_left he
  obtain⟨a,v,h1,h2,h3⟩:=F.sound e hem
  have hr1:w1.heap[r]? =some (.mapIter (some b) since seen c0):=by rcases hal with rfl|rfl<;>exact hr
  have hb1:w1.heap[b]? =some (.map es clock):=by rcases hal with rfl|rfl<;>exact hb
  have kw:Aa (At1 r) w w1:=by rcases hal with rfl|rfl;exact Aa.refl _ _;exact(Aa.refl _ _).drew
  have hset:(setBlock w1 r (.mapIter (some b) since (seen.push e.born) clock)).heap[r]? =some (.mapIter (some b) since (seen.push e.born) clock):=(MapKept.heap_set hr1).1
  have hb':(setBlock w1 r (.mapIter (some b) since (seen.push e.born) clock)).heap[b]? =some (.map es clock):=((MapKept.heap_set hr1).2 b (fun e1=>hne e1.symm)).trans hb1
  rw[h1,h2]at hrun
  refine Or.inr ⟨a,v,_,_,by rw[hl1 e hem a h1,hes];rfl,h3,hrun,
   ⟨es,clock,since,seen.push e.born,clock,hb',F,hset,hold,rfl,fun x hx a' ha'=>?_,fun a' ha'=>hl2 a' (by simp at ha';exact ha'.1),hsk,hsk⟩,left_shrinks es seen e he,
   kw.trans (Es _ _ _),?_,?_⟩
  ·show(left a'&& !decide (a'=a))=_
   rw[hl1 x hx a' ha',contains_push]
   have hiff:decide (a'=a)=(x.born==e.born):=by
    by_cases hbe:x.born=e.born
    ·obtain rfl:=born_inj hst.2.1 hx hem hbe
     have:=K.inj (ha'.symm.trans h1)
     simp[this]
    ·have:a'≠a:=fun haa=>hbe (by
      have:=entry_eq_of_key hst.2.2 hx hem (ha'.trans ((congrArg kv haa).trans h1.symm))
      rw[this])
     simp[this,hbe]
   rw[hiff]
   cases seen.contains x.born<;>cases (x.born==e.born)<;>rfl
  ·rcases hal with rfl|rfl<;>simp[setBlock]
  ·have:=run_entry_at (P:=P) _ r b since seen es clock e hset hb' hem hst.2.1
   rw[h1,h2]at this
   exact this
end
section
variable {α β:Type} [DecidableEq α] {P:Program} {k:TypeId} {d:TypeDesc} {kv:α→Value} {ev:β→Value} {f:α→Option β}
 {ops:Array Oper} {rest:List Oper} {o:Oper} {a:Act} {w:World} {Q:Exit→Act→World→Prop}
theorem JC(hg:o.guard=none)(K:FP P k d kv){t e:TypeId}(ht:P.underlying t=some (.map k e)){b:Nat}(h:A8 kv ev b f w)(m:Operand)(hop:o.op=Op.range t m)(hm:a.eval m= .map (some b))
  (hK:∀w' cnt,DU kv ev b w.heap.size f (fun a=>(f a).isSome) cnt w'→Aa No w w'→w'.heap.size=w.heap.size+1→(∀m:List α,(∀a,f a≠none→a∈m)→cnt≤m.length)→
   wpList P ops Q rest (a.put o.dst (.pointer (some ⟨w.heap.size,0,none⟩))) w'):wpList P ops Q (o::rest) a w:=by
 refine wpList_plain hg fun K' hK'=>?_
 obtain⟨w',cnt,hrun,r1,r2,r3,r4⟩:=h.range K ht
 unfold Oper.wp
 simp[execOp,hop,hm,hrun,Result.andThen]
 exact hK' _ _ (hK w' cnt r1 r2 r3 r4)
theorem Kz(hg:o.guard=none)(K:FP P k d kv){b r cnt:Nat}{left:α→Bool}(h:DU kv ev b r f left cnt w)(it:Operand)(hop:o.op=Op.next it false)(hit:a.eval it= .pointer (some ⟨r,0,none⟩))
  (hDone:cnt=0→(∀x,left x=false)→wpList P ops Q rest (a.put o.dst (.tuple #[.bool false])) w)
  (hMore:∀x v w' cnt',left x=true→f x=some v→DU kv ev b r f (fun z=>left z&& !decide (z=x)) cnt' w'→cnt'<cnt→Aa (At1 r) w w'→w'.heap.size=w.heap.size→
   (Instr.entry (.pointer (some ⟨r,0,none⟩))).run P w'= .ok (.tuple #[kv x,ev v]) w'→wpList P ops Q rest (a.put o.dst (.tuple #[.bool true,kv x,ev v])) w'):wpList P ops Q (o::rest) a w:=by
 refine wpList_plain hg fun K' hK'=>?_
 unfold Oper.wp
 rcases h.next K o.type with⟨h0,hl,hrun⟩|⟨x,v,w',cnt',h1,h2,hrun,h3,h4,h5,h6,h7⟩
 ·simp[execOp,hop,hit,hrun,Result.andThen]
  exact hK' _ _ (hDone h0 hl)
 ·simp[execOp,hop,hit,hrun,Result.andThen]
  exact hK' _ _ (hMore x v w' cnt' h1 h2 h3 h4 h5 h6 h7)
end
end
end Go.Proofs.YthfjefcljeamgaaGreatDoor
namespace Go.Proofs
set_option maxRecDepth 100000
set_option maxHeartbeats 4000000
open Go.Shelf
def Tryz.sortIds_ren:Go.Shelf.Ren:=⟨fun|6=>225|15=>153|14=>273|28=>217|29=>218|20=>306|21=>307|22=>308|23=>309|24=>310|25=>311|26=>312|27=>313|46=>340|47=>261|48=>262|49=>341|50=>342|57=>359|n=>n,fun|22=>62|24=>24|25=>101|3=>3|39=>256|0=>0|53=>147|55=>326|4=>4|46=>319|45=>318|50=>50|5=>5|9=>9|66=>370|70=>374|76=>399|77=>400|n=>n,fun|n=>n⟩
theorem Tryz.sortIds:Go.Proofs.SlLaysF0.n6 Tryz.prog Tryz.sortIds_ren:={
  mixed:=by kernel_rfl
  f6:=⟨Tryz.f225.name,by decide,Tryz.func225.trans (congrArg some (by kernel_rfl))⟩
  f14:=⟨Tryz.f273.name,by decide,Tryz.func273.trans (congrArg some (by kernel_rfl))⟩
  f15:=Tryz.func153.trans (congrArg some (by kernel_rfl))
  f20:=⟨Tryz.f306.name,by decide,Tryz.func306.trans (congrArg some (by kernel_rfl))⟩
  f21:=⟨Tryz.f307.name,by decide,Tryz.func307.trans (congrArg some (by kernel_rfl))⟩
  f22:=⟨Tryz.f308.name,by decide,Tryz.func308.trans (congrArg some (by kernel_rfl))⟩
  f23:=⟨Tryz.f309.name,by decide,Tryz.func309.trans (congrArg some (by kernel_rfl))⟩
  f24:=⟨Tryz.f310.name,by decide,Tryz.func310.trans (congrArg some (by kernel_rfl))⟩
  f25:=⟨Tryz.f311.name,by decide,Tryz.func311.trans (congrArg some (by kernel_rfl))⟩
  f26:=⟨Tryz.f312.name,by decide,Tryz.func312.trans (congrArg some (by kernel_rfl))⟩
  f27:=⟨Tryz.f313.name,by decide,Tryz.func313.trans (congrArg some (by kernel_rfl))⟩
  f28:=Tryz.func217.trans (congrArg some (by kernel_rfl))
  f29:=Tryz.func218.trans (congrArg some (by kernel_rfl))
  f46:=⟨Tryz.f340.name,by decide,Tryz.func340.trans (congrArg some (by kernel_rfl))⟩
  f47:=Tryz.func261.trans (congrArg some (by kernel_rfl))
  f48:=Tryz.func262.trans (congrArg some (by kernel_rfl))
  f49:=⟨Tryz.f341.name,by decide,Tryz.func341.trans (congrArg some (by kernel_rfl))⟩
  f50:=⟨Tryz.f342.name,by decide,Tryz.func342.trans (congrArg some (by kernel_rfl))⟩
  f57:=⟨Tryz.f359.name,by decide,Tryz.func359.trans (congrArg some (by kernel_rfl))⟩
  t0:=Tryz.underlying0
  a0:=Tryz.isAgg0
  z0:=Tryz.sizeOf0
  v0:=Tryz.zeroValue0
  t3:=Tryz.underlying3
  a3:=Tryz.isAgg3
  z3:=Tryz.sizeOf3
  v3:=Tryz.zeroValue3
  t4:=Tryz.underlying4
  a4:=Tryz.isAgg4
  z4:=Tryz.sizeOf4
  v4:=Tryz.zeroValue4
  t5:=Tryz.underlying5
  a5:=Tryz.isAgg5
  z5:=Tryz.sizeOf5
  v5:=Tryz.zeroValue5
  t9:=Tryz.underlying9
  a9:=Tryz.isAgg9
  z9:=Tryz.sizeOf9
  v9:=Tryz.zeroValue9
  t22:=Tryz.underlying62
  a22:=Tryz.isAgg62
  z22:=Tryz.sizeOf62
  v22:=Tryz.zeroValue62
  t25:=Tryz.underlying101
  a25:=Tryz.isAgg101
  z25:=Tryz.sizeOf101
  v25:=Tryz.zeroValue101
  t39:=Tryz.underlying256
  a39:=Tryz.isAgg256
  z39:=Tryz.sizeOf256
  v39:=Tryz.zeroValue256
  t45:=Tryz.underlying318
  a45:=Tryz.isAgg318
  z45:=Tryz.sizeOf318
  v45:=Tryz.zeroValue318
  t46:=Tryz.underlying319
  a46:=Tryz.isAgg319
  z46:=Tryz.sizeOf319
  v46:=Tryz.zeroValue319
  t50:=Tryz.underlying50
  a50:=Tryz.isAgg50
  z50:=Tryz.sizeOf50
  v50:=Tryz.zeroValue50
  t53:=Tryz.underlying147
  a53:=Tryz.isAgg147
  z53:=Tryz.sizeOf147
  v53:=Tryz.zeroValue147
  t55:=Tryz.underlying326
  a55:=Tryz.isAgg326
  z55:=Tryz.sizeOf326
  v55:=Tryz.zeroValue326
  t66:=Tryz.underlying370
  a66:=Tryz.isAgg370
  z66:=Tryz.sizeOf370
  v66:=Tryz.zeroValue370
  t70:=Tryz.underlying374
  a70:=Tryz.isAgg374
  z70:=Tryz.sizeOf374
  v70:=Tryz.zeroValue374
  t76:=Tryz.underlying399
  a76:=Tryz.isAgg399
  z76:=Tryz.sizeOf399
  v76:=Tryz.zeroValue399
  t77:=Tryz.underlying400
  a77:=Tryz.isAgg400
  z77:=Tryz.sizeOf400
  v77:=Tryz.zeroValue400}
end Go.Proofs
namespace Go.Proofs.YthfjefcljeamgaaGreatDoor
open Go.RowKit Go.Shelf
open Go.Lib Go.Sort
attribute [local go_sem ↓] Go.wp_at_zero Go.wp_at_succ
/-- draws and new blocks, nothing else -/
def Onw(w w':World):Prop:=∃q os,w'=grow (w.drewN q) os
theorem Onw.refl(w:World):Onw w w:=⟨0,#[],by rw[Sort.grow_empty];rfl⟩
theorem Onw.alloc{w w':World}(h:Onw w w')(o:Obj):Onw w (w'.alloc o):=by
 obtain⟨q,os,rfl⟩:=h
 exact⟨q,os++ #[o],by rw[Sort.alloc_eq_grow,Sort.grow_grow]⟩
theorem Onw.drew{w w':World}(h:Onw w w'):Onw w w'.drew:=by
 obtain⟨q,os,rfl⟩:=h
 exact⟨q+1,os,rfl⟩
theorem QG(R N R' N':Int)(w:World):
  Calls Tryz.prog 155 #[.agg #[.int .i64 R,.int .i64 N],.agg #[.int .i64 R',.int .i64 N']] w fun e w'=>e= .returned (.int .i64 (Dc.BD ⟨R,N⟩ ⟨R',N'⟩))∧Onw w w':=by
 go_enter Tryz.func155,Tryz.ntmps155
 go_wp2
 have k0:Onw w ((w.alloc (.cells #[.int .i64 R,.int .i64 N] 24)).alloc (.cells #[.int .i64 R',.int .i64 N'] 24)):=((Onw.refl w).alloc _).alloc _
 have hA:=Ab (Nx w (.cells #[.int .i64 R,.int .i64 N] 24)) (.cells #[.int .i64 R',.int .i64 N'] 24)
 have hB:=Nx (w.alloc (.cells #[.int .i64 R,.int .i64 N] 24)) (.cells #[.int .i64 R',.int .i64 N'] 24)
 have hB':(w.alloc (.cells #[.int .i64 R,.int .i64 N] 24)).heap.size=w.heap.size+1:=by simp
 rw[hB']at hB
 generalize (w.alloc (.cells #[.int .i64 R,.int .i64 N] 24)).alloc (.cells #[.int .i64 R',.int .i64 N'] 24)=w1 at k0 hA hB⊢
 have cA:=Cx hA
 have cB:=Cx hB
 have a0:=cA 0
 have a1:=cA 1
 have b0:=cB 0
 have b1:=cB 1
 clear hB' cA cB
 go_region_held3(fun w'=>w'.cell? ⟨w.heap.size,0,none⟩=some (.int .i64 R)∧w'.cell? ⟨w.heap.size,1,none⟩=some (.int .i64 N)∧w'.cell? ⟨w.heap.size+1,0,none⟩=some (.int .i64 R')∧w'.cell? ⟨w.heap.size+1,1,none⟩=some (.int .i64 N')) (go_keep)
  (first
   |(go_at_call 149;refine(JI _ _ _).mono ?_;rintro e w1 ⟨rfl,rfl⟩)
   |(go_at_call 154;refine(KP _ _ _ _ (by exact Nx w1 _)).mono ?_;rintro e w1 ⟨rfl,rfl⟩))
 go_wp2
 go_ret
 exact⟨rfl,(k0.alloc _).drew⟩
/-! a row at k cells, in the sort's words -/
section
variable {α:Type} [Inhabited α] {enc:α→List Value} {k:Nat}
theorem M8(hk:∀x,(enc x).length=k)(d:Array α):(flatK enc k d).toList=d.toList.flatMap enc:=by
 apply List.ext_getElem?
 intro t
 have hl:=Az hk d.toList
 by_cases ht:t<d.size*k
 ·have hk0:0<k:=Nat.pos_of_ne_zero fun e=>by rw[e]at ht;simp at ht
  have hq:t / k<d.size:=Nat.div_lt_of_lt_mul (by rw[Nat.mul_comm];exact ht)
  have hr:t % k<k:=ay _ hk0
  have e1:t=t / k*k+t % k:=by rw[Nat.mul_comm];exact(Nat.div_add_mod t k).symm
  have h1:=EL hk d.toList (t / k) (t % k) (by simpa using hq) hr
  rw[←e1]at h1
  rw[h1]
  have h2:=get_flatK enc k d t ht
  have h3:(flatK enc k d).toList[t]? =some ((enc d[t / k]!)[t % k]!):=by
   rw[Aw,Da (by simpa using ht),←h2,getElem!_pos _ t (by simpa using ht)]
  rw[h3,getElem!_pos d _ hq,Array.getElem_toList]
  rw[Aj (by rw[hk];exact hr),getElem!_pos _ _ (by rw[hk];exact hr)]
 ·rw[DY (by simp;omega),DY (by rw[hl];simp;omega)]
end
local instance:Inhabited Off.Bid:=⟨⟨0,0⟩⟩
theorem NE{g n cap:Nat}{cur:Array Value}{T:TypeId}{l:List Off.Bid}{d':Array Off.Bid}{os:Array Obj}{m:Nat}{w:World}(hn:n=l.length)(hg:w.heap[g]? =some (.cells cur T (0,0)))(hp:PermIn 0 l.toArray.size l.toArray d')
  (h1:l.length≤cap)(h2:cap≤maxLen)(h3:cur.size=cap*2):
  (∃l',l'.Perm l∧Aq T 2 Bf (.slice (some ⟨g,0,none⟩) n cap) l' (sortWorldK Bf 2 w g 0 m d' os))∧Aa (At1 g) w (sortWorldK Bf 2 w g 0 m d' os):=by
 subst hn
 have hlt:=Ao hg
 obtain⟨hz,_,hperm⟩:=hp
 have hz':d'.size=l.length:=by simpa using hz
 have e1:d'.extract 0 l.toArray.size=d':=by rw[←hz];simp
 have e2:l.toArray.extract 0 l.toArray.size=l.toArray:=by simp
 rw[e1,e2]at hperm
 have hFl:=M8 (enc:=Bf) (k:=2) (fun _=>rfl) d'
 have hFs:=size_flatK Bf 2 d'
 have hheap:(sortWorldK Bf 2 w g 0 m d' os).heap[g]? =some (.cells (putCells id 0 (flatK Bf 2 d') cur) T (0,0)):=by
  show(w.heap.modify g (onCells (putCells id 0 (flatK Bf 2 d')))++os)[g]? =_
  rw[Array.getElem?_append_left (by simpa using hlt),Array.getElem?_modify,Ak rfl,hg]
  rfl
 refine⟨⟨d'.toList,by simpa using hperm,?_⟩,?_⟩
 ·have hlen:d'.toList.length=l.length:=by simpa using hz'
  refine⟨(Az (m:=2) (fun _=>rfl) _),.inr ⟨g,cap,_,by rw[hlen],Ah _,hheap,by omega,h2,by simp[putCells,h3],?_⟩⟩
  rw[hlen,←hFl]
  apply List.ext_getElem?
  intro t
  have hc2:l.length*2≤cap*2:=Ho 2 h1
  by_cases ht:t<l.length*2
  ·rw[AO,Ak ht,Aw,Aw]
   unfold putCells
   rw[Array.getElem?_mapIdx,Da (by omega),Da (by omega)]
   simp only[Option.map_some]
   rw[Ak ⟨Ah _,by omega⟩]
   simp only[id,Nat.sub_zero]
   rw[getElem!_pos _ t (by omega)]
  ·rw[AO,Ae ht,Aw,Array.getElem?_eq_none (by omega)]
 ·refine⟨rfl,rfl,rfl,?_,fun k hk hne=>?_⟩
  ·show w.heap.size≤(w.heap.modify g (onCells (putCells id 0 (flatK Bf 2 d')))++os).size
   simp
  ·show(w.heap.modify g (onCells (putCells id 0 (flatK Bf 2 d')))++os)[k]? =_
   rw[Array.getElem?_append_left (by simpa using hk),Array.getElem?_modify,Ae (fun e=>hne e.symm)]
theorem WR:SWO (ltOf Dc.BD) where
 irrefl x:=by unfold ltOf;simp[Dc.Ge]
 trans x y z h1 h2:=by unfold ltOf at*;simp only[Au]at*;exact Dc.Hh h1 h2
 ntrans x y z h1 h2:=by
  unfold ltOf at*
  simp only[decide_eq_false_iff_not,Dc.Ge]at*
  omega
theorem Qr(v:Value)(l:List Off.Bid)(w:World)(hrow:Aq 24 2 Bf v l w)(hsz:l.length<4611686018427387904):
  Calls Tryz.prog 225 #[v,.func (.func 155) #[] #[]] w fun e w'=>
   e= .returned (.tuple #[])∧(∃l',l'.Perm l∧Aq 24 2 Bf v l' w')∧Aa (fun g=>v.ownBlock=some g) w w':=by
 rcases hrow.form with⟨rfl,rfl⟩|⟨g,cap,cur,rfl,hg,h1,h2,h3,h4⟩
 ·have hcon:=AnyF.slices_SortFunc_none Tryz.sortIds none 0 (.func (.func 155) #[] #[]) w
  change Calls Tryz.prog 225 _ _ _ at hcon
  exact hcon.mono fun e w' ⟨he,hw⟩=>⟨he,⟨[],List.Perm.refl _,by rw[hw];exact hrow⟩,by rw[hw];exact Aa.refl _ _⟩
 ·have eg:∀args w,(callFunc 155 args).run Tryz.prog w= .ok (.enter 155 args) w:=enters_of Tryz.func155 Rx rfl
  have hcmp:CmpLays Tryz.prog 155 #[] Bf 2 Dc.BD g 0 l.toArray.size w:=fun m os dk _ x y=>QG x.R x.N y.R y.N _
  have hH:HoldsK Bf 2 w g 0 l.toArray:=fun j hj=>by
   have hj':j<l.length*2:=by simpa using hj
   refine⟨?_,Fx hg _⟩
   rw[Cx hg,Nat.zero_add,←Aw]
   have hF:=M8 (enc:=Bf) (k:=2) (fun _=>rfl) l.toArray
   have h5:cur.toList[j]? =(flatK Bf 2 l.toArray).toList[j]? :=by
    rw[hF,←h4,AO,Ak hj']
   rw[h5,Aw,Da hj,id,getElem!_pos _ j hj]
  have hcon:=AnyQ.slices_SortFunc Tryz.sortIds 2 (fun w=>by kernel_rfl) (fun w=>by kernel_rfl) Bf (fun _=>rfl) (fun x v hv=>by simp[Bf]at hv;rcases hv with rfl|rfl<;>rfl) Dc.BD WR
   155 #[] g 0 cap l.toArray w eg hcmp hH (Ao hg) (by simpa using hsz)
  change Calls Tryz.prog 225 _ _ _ at hcon
  have hls:l.toArray.size=l.length:=by simp
  rw[hls]at hcon
  refine hcon.mono fun e w' ⟨he,d',n,os,hp,_,hw⟩=>?_
  subst hw
  have hr:=NE (n:=l.length) (os:=os) (m:=n) rfl hg (by rw[hls];exact hp) h1 h2 h3
  exact⟨he,hr.1,hr.2.mono fun k hk _=>by unfold At1 at hk;subst hk;rfl⟩
end Go.Proofs.YthfjefcljeamgaaGreatDoor
