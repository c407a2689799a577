/- joined: Copies of rows of ids: Changed of the tree. Which blocks differ: a row's own block, a map's, a block of cells. Elements laid behind a row, whatever the elements are. -/
import Derived.Test.YthfjefcljeamgaaGreatDoorTreeF
import Derived.Test.YthfjefcljeamgaaGreatDoorKeys
namespace Go.Proofs.YthfjefcljeamgaaGreatDoor
set_option maxRecDepth 100000
set_option maxHeartbeats 4000000
section
open Go.RowKit
attribute [local go_sem ↓] Go.wp_at_zero Go.wp_at_succ
theorem TQ(x:Off.Bid):(Bf x).length=2:=rfl
def ED(l:List Off.Bid)(w:World)(e:Ending)(w':World):Prop:=
 ∃v',e= .returned v'∧Aq 24 2 Bf v' l w'∧(∀g,v'.ownBlock=some g→w.heap.size≤g)∧Aa No w w'
theorem PU(v:Value)(l:List Off.Bid)(w:World)(h:BI 2 Bf v l w)(hsz:l.length≤100000000):
  Calls Tryz.prog 174 #[v] w (ED l w):=by
 obtain⟨i0,hi,hz0,hz1,hz2⟩:=info_parts S9
 obtain⟨h0,ao,c,rfl,hc,hcm,hne⟩:=h
 have hsl:=fun w=>Lib.run_eql_slice_nil (P:=Tryz.prog) w 62 24 ao l.length c 0 0 Tryz.underlying62
 cases ao with
 |none=>
  have hl:l=[]:=by
   rcases Classical.em (l=[])with h|h
   ·exact h
   ·obtain⟨g,o,h1,_⟩:=hne h;cases h1
  subst hl
  clear hne hsl
  have hsl:=fun w=>Lib.run_eql_slice_nil (P:=Tryz.prog) w 62 24 none 0 c 0 0 Tryz.underlying62
  go_enter Tryz.func174,Tryz.ntmps174
  go_wp2
  go_ret
  exact⟨_,rfl,Aq.nil,fun g hg=>by simp[Value.ownBlock]at hg,Aa.refl _ _⟩
 |some a=>
  have hown:(w.alloc (.cells #[] 24)).ownsRow 0 24 2 (.slice (some ⟨w.heap.size,0,none⟩) 0 0) 0 []:=
   World.ownsRow_made w #[] 0 (Ah _) (Ah _) rfl
  have hnews:∀j u,(l.flatMap Bf)[j]? =some u→(w.alloc (.cells #[] 24)).cell? (a.add j)=some u:=fun j u hj=>by
   have hjl:=(AS.1 hj).1
   rw[Az TQ]at hjl
   obtain⟨g,o,h1,hgl,hce⟩:=hne (by intro e;subst e;simp at hjl)
   cases h1
   have hadd:(⟨g,o,none⟩:Addr).add j=⟨g,o+j,none⟩:=by unfold Addr.add;split<;>simp_all
   rw[hadd,World.cell?_alloc_past (w:=w) _ g _ hgl]
   have hk:j / 2<l.length:=by omega
   have hj2:j=j / 2*2+j % 2:=by omega
   rw[hj2,EL TQ l (j / 2) (j % 2) hk (ay _ (by decide))]at hj
   have:=hce (j / 2) hk (j % 2) (ay _ (by decide))
   rw[Nat.add_assoc,←hj2]at this
   rw[this];exact hj
  have hone:∀u∈l.flatMap Bf,u.oneCell'=true:=fun u hu=>by
   obtain⟨y,_,hy⟩:=Ba.1 hu
   exact WM y u hy
  have hfl:(l.flatMap Bf).length=l.length*2:=Az TQ l
  have hfin:∀v' w',w'.ownsRow 0 24 2 v' (0+l.length) ([]++l.flatMap Bf)→(w.alloc (.cells #[] 24)).grownBy w' (some w.heap.size)→(v'.ownBlock=some w.heap.size∨v'.ownBlock=some (w.alloc (.cells #[] 24)).heap.size)→ED l w (.returned v') w':=by
   intro v' w' h1 h2 h3
   refine⟨v',rfl,by unfold Aq;simpa using h1,fun g hg=>?_,?_⟩
   ·rcases h3 with h3|h3<;>(rw[h3]at hg;cases hg;simp)
   ·have k0:Aa No w (w.alloc (.cells #[] 24)):=(Aa.refl _ _).alloc _
    exact k0.grown h2 fun k hk=>by cases hk;exact Ac _
  have HF:=Hx hfin
  have hvs:∀v' w',ED l w (.returned v') w'→(∃g2 n2 c2,v'= .slice g2 n2 c2):=fun v' w' h=>by
   obtain⟨v2,e2,r2,_⟩:=h
   obtain rfl:v2=v':=by injection e2 with e2;exact e2.symm
   rcases r2.form with⟨h,_⟩|⟨g,cap,cur,h,_⟩
   ·exact⟨_,_,_,h⟩
   ·exact⟨_,_,_,h⟩
  have HV:=Hx hvs
  clear hfin hvs hne
  generalize l.flatMap Bf=L at*
  go_enter Tryz.func174,Tryz.ntmps174
  go_wp2_with(at_builtin;refine wpList_append_own_at _ rfl _ _ 62 rfl 0 24 i0 _ 2 16 Tryz.underlying62 hi hz0 hz1 hz2 rfl (by decide) _ _ _ rfl hown a l.length c L rfl hfl hnews hone (by unfold maxLen;omega) (by omega) (Ah _) ?_)
  intro v' w' h1 h2 _ h3
  have P:=Hx (HF.out v' w' (by simpa using h1) h2 (by first|exact h3|(simp at h3;exact h3)|(simpa[Value.ownBlock]using h3)))
  obtain⟨g2,n2,c2,rfl⟩:=HV.out v' w' P.out
  clear h1 h2 h3
  go_wp2
  go_ret
  exact P.out
theorem RA{F:Nat→Prop}{b:Nat}{ss:List Dc.CS}{ids:Off.Bid→Option Int}{f:Dc.AB}{ch:List Off.Bid}{w:World}(h:EH F b ss ids f ch w)(hsz:ch.length≤100000000):
  Calls Tryz.prog 111 #[.pointer (some ⟨b,0,none⟩)] w (ED ch w):=by
 obtain⟨vs,bi,bp,vc,h1,h2,h3,h4,h5,f1,f2,f3,f4,f5,f6⟩:=h
 have x3:=Cx h1 3
 have hcall:=PU vc ch w (h5.lies TQ) hsz
 obtain⟨ao,n,c,rfl⟩:=h5.slice
 clear h1 h2 h3 h4 h5
 go_enter Tryz.func111,Tryz.ntmps111
 go_wp2_with(go_at_call 174;refine hcall.mono ?_;rintro e w1 ⟨v',rfl,hr,ho,k1⟩)
 go_ret
 exact⟨_,rfl,hr,ho,k1⟩
end
section
open Go.RowKit
section
variable {α β γ:Type} {T T':TypeId} {m:Nat} {f:α→List Value} {v:Value} {l:List α} {w:World} {kv:β→Value} {ev:γ→Value} {g:β→Option γ} {b c:Nat}
theorem Aq.block(h:Aq T m f v l w){k:Nat}(hk:v.ownBlock=some k):∃cur,w.heap[k]? =some (.cells cur T (0,0)):=by
 rcases h.form with⟨rfl,_⟩|⟨g,cap,cur,rfl,hh,_⟩
 ·cases hk
 ·have e:g=k:=Ap hk
  subst e
  exact⟨cur,hh⟩
theorem Aq.own_lt(h:Aq T m f v l w){k:Nat}(hk:v.ownBlock=some k):k<w.heap.size:=by
 obtain⟨cur,hh⟩:=h.block hk;exact Ao hh
theorem BH(h:Aq T m f v l w)(hm:A8 kv ev b g w):v.ownBlock≠some b:=fun e=>by
 obtain⟨cur,hh⟩:=h.block e
 obtain⟨_,_,h2,_⟩:=hm
 rw[hh]at h2;cases h2
theorem Bh(h:Aq T m f v l w){cs:Array Value}{fr:Nat×Nat}(hb:w.heap[b]? =some (.cells cs T' fr))(hT:T≠T'):v.ownBlock≠some b:=fun e=>by
 obtain⟨cur,hh⟩:=h.block e
 rw[hh]at hb
 simp only[AZ,Obj.cells.injEq]at hb
 exact hT hb.2.1
theorem AA(hm:A8 kv ev b g w){cs:Array Value}{fr:Nat×Nat}(hb:w.heap[c]? =some (.cells cs T' fr)):b≠c:=fun e=>by
 subst e
 obtain⟨_,_,h2,_⟩:=hm
 rw[hb]at h2;cases h2
theorem EM{cs cs':Array Value}{fr fr':Nat×Nat}(hb:w.heap[b]? =some (.cells cs T fr))(hc:w.heap[c]? =some (.cells cs' T' fr'))(hT:T≠T'):b≠c:=fun e=>by
 subst e
 rw[hc]at hb
 simp only[AZ,Obj.cells.injEq]at hb
 exact hT hb.2.1.symm
end
/-- a footprint with all that is new -/
def Bv(F:Nat→Prop)(w:World):Nat→Prop:=fun g=>F g∨w.heap.size≤g
theorem Bv.of{F:Nat→Prop}{w:World}{g:Nat}(h:F g):Bv F w g:= .inl h
theorem Bv.lt{F:Nat→Prop}{w:World}{g:Nat}(h:Bv F w g)(hl:g<w.heap.size):F g:=h.resolve_right (by omega)
end
section
open Go.RowKit
/-- a slice type t of elements e that are m cells, as f lays them -/
structure I9{α:Type}(t e:TypeId)(m:Nat)(f:α→List Value):Prop where
 und:Tryz.prog.underlying t=some (.slice e)
 info:∃(i:TypeInfo) (z:Value),Tryz.prog.info? e=some i∧i.zero=some z∧i.size=m∧i.bytes≤1024∧z.cells.size=m
 pos:0<m
 len:∀x,(f x).length=m
 one:∀x,∀u∈f x,u.oneCell'=true
theorem GY{α:Type}{t e:TypeId}{m:Nat}{f:α→List Value}{z:Value}{by':Nat}(h:(Tryz.prog.info? e).map (fun i=>(i.zero,i.size,i.bytes))=some (some z,m,by'))(hu:Tryz.prog.underlying t=some (.slice e))(hb:by'≤1024)(hz:z.cells.size=m)(hm:0<m)
  (hl:∀x,(f x).length=m)(h1:∀x,(f x).all (·.oneCell')=true):I9 t e m f:=by
 obtain⟨i,a,b,c,d⟩:=info_parts h
 exact⟨hu,⟨i,z,a,b,c,by rw[d];exact hb,hz⟩,hm,hl,fun x u hu=>B9.1 (h1 x) u hu⟩
theorem WO:I9 62 24 2 Bf:=GY S9 Tryz.underlying62 (by decide) rfl (by decide) (fun _=>rfl) (fun _=>rfl)
theorem KF:I9 281 285 13 Af:=GY Ij Tryz.underlying281 (by decide) rfl (by decide) (fun _=>rfl) (fun _=>rfl)
theorem VE:(Tryz.prog.info? 127).map (fun i=>(i.zero,i.size,i.bytes))=some (some (.agg #[.int .i64 0,.int .i64 0,.int .i64 0,.int .i64 0,.int .i64 0,.int .i64 0,.int .i64 0,.int .i64 0,.int .i64 0,.int .i64 0,.bool false,.bool false,.string ⟨#[]⟩]),13,104):=by kernel_rfl
theorem Wi:I9 57 127 13 Af:=GY VE Tryz.underlying57 (by decide) rfl (by decide) (fun _=>rfl) (fun _=>rfl)
section
variable {α:Type} {t e:TypeId} {m:Nat} {f:α→List Value} {v:Value} {l:List α} {w:World}
theorem I9.append(R:I9 t e m f)(h:Aq e m f v l w)(ad:Addr)(k c:Nat)(ys:List α)(hk:ys.length=k)(hsrc:∀j u,(ys.flatMap f)[j]? =some u→w.cell? (ad.add j)=some u)(hl:l.length+k≤100000000)(ty:TypeId):
  ∃v' w',(Builtin.append_ #[t,t] ty #[v,.slice (some ad) k c]).run Tryz.prog w= .ok v' w'∧Aq e m f v' (l++ys) w'∧Aa (Gp v) w w'∧(v'.ownBlock=v.ownBlock∨v'.ownBlock=some w.heap.size):=by
 obtain⟨i,z,h1,h2,h3,h4,h5⟩:=R.info
 have hfl:(ys.flatMap f).length=k*m:=by rw[Az R.len,hk]
 have hone:∀u∈ys.flatMap f,u.oneCell'=true:=fun u hu=>by
  obtain⟨y,_,hy⟩:=Ba.1 hu
  exact R.one y u hy
 obtain⟨v',w',hr,o1,o2,_,o4⟩:=run_append_own_at (P:=Tryz.prog) w 0 t ty e i z m i.bytes R.und h1 h2 h3 rfl h5 R.pos v l.length (l.flatMap f) h ad k c (ys.flatMap f) hfl hsrc hone (by unfold maxLen;omega)
  (by have:(l.length+k)*i.bytes≤100000000*1024:=Nat.mul_le_mul hl h4;omega) (Ah _)
 refine⟨v',w',hr,?_,⟨o2.os,o2.tape,o2.output,o2.size,fun k hk hn=>o2.block k hk fun e=>hn (by unfold Gp;rw[e])⟩,o4⟩
 unfold Aq
 rw[Ai,BU,hk]
 exact o1
theorem I9.append_none(R:I9 t e m f)(h:Aq e m f v l w)(c:Nat)(ty:TypeId):(Builtin.append_ #[t,t] ty #[v,.slice none 0 c]).run Tryz.prog w= .ok v w:=by
 obtain⟨i,z,h1,h2,h3,h4,h5⟩:=R.info
 have hst:∀(a:Addr) (w:World),(storeCells a []).run Tryz.prog w= .ok () w:=fun a w=>by simp[storeCells]
 rcases h.form with⟨rfl,rfl⟩|⟨g,cap,cur,rfl,_,hc,_⟩
 ·simp[Builtin.append_,run_underlying R.und,sizeOf,typeInfo,h1,Builtin.lenOf,run_firstCells_none]
 ·simp[Builtin.append_,run_underlying R.und,sizeOf,typeInfo,h1,Builtin.lenOf,run_firstCells_none,hc,hst]
end
theorem wpList_append_run{P:Program}{w:World}{ops:Array Oper}{rest:List Oper}{o:Oper}{a:Act}{Q:Exit→Act→World→Prop}(hgd:o.guard=none)(d s:Operand)(t t':TypeId)
  (ho:o.op= .call {callee:= .builtin .append,args:= #[d,s],argTypes:= #[t,t']})(v u:Value)(hd:a.eval d=v)(hs:a.eval s=u){v':Value}{w':World}
  (hr:(Builtin.append_ #[t,t'] o.type #[v,u]).run P w= .ok v' w')(h:wpList P ops Q rest (a.put o.dst v') w'):wpList P ops Q (o::rest) a w:=
 wpList_plain hgd fun _ hK=>by
  unfold Oper.wp execOp
  simp only[ho,resolve,invoke,builtin,Sem.run_bind,Sem.run_pure,Result.andThen_ok,List.map_toArray,Cd,N5,hd,hs,hr]
  exact hK _ _ h
/-- one element that was just boxed, as a source -/
theorem Ey{α:Type}{e:TypeId}{f:α→List Value}{y:α}{w:World}{g:Nat}(hg:w.heap[g]? =some (.cells (f y).toArray e (0,0))):∀j u,(([y]:List α).flatMap f)[j]? =some u→w.cell? ((⟨g,0,none⟩:Addr).add j)=some u:=fun j u hj=>by
 have hadd:(⟨g,0,none⟩:Addr).add j=⟨g,j,none⟩:=by unfold Addr.add;split<;>simp_all
 rw[hadd,Cx hg]
 simpa using hj
/-- a row as a source -/
theorem V4{α:Type}{e:TypeId}{m:Nat}{f:α→List Value}{l:List α}{w:World}{g n c:Nat}(h:Aq e m f (.slice (some ⟨g,0,none⟩) n c) l w):∀j u,(l.flatMap f)[j]? =some u→w.cell? ((⟨g,0,none⟩:Addr).add j)=some u:=fun j u hj=>by
 have hadd:(⟨g,0,none⟩:Addr).add j=⟨g,j,none⟩:=by unfold Addr.add;split<;>simp_all
 rw[hadd]
 rcases h.form with⟨h1,_⟩|⟨g',cap',cur,h1,h2,_,_,h5,h6⟩
 ·cases h1
 ·simp only[Value.slice.injEq,AZ,Addr.mk.injEq,DX]at h1
  obtain⟨rfl,_,rfl⟩:=h1
  rw[Cx h2,←Aw]
  rw[←h6,AO]at hj
  split at hj
  ·exact hj
  ·cases hj
end
end Go.Proofs.YthfjefcljeamgaaGreatDoor
