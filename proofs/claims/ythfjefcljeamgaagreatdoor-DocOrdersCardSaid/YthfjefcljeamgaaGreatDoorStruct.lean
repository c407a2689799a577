/- joined: Rows of elements of several cells: copy, clear and append of zero values at a block that is known whole. Keys and cuts: frac.Right, rightCut, slices' ContainsFunc, Equal and Clone at cuts, each by its contract. A whole structure stored into a block that is known whole, and loaded out of one. -/
import Derived.Test.YthfjefcljeamgaaGreatDoorKeys
import Derived.Laws.IdiomCopy
import Derived.Lib.AppendZerosOnto
import Derived.Lib.Overlaps
import Derived.Maps.AppendAt
import Derived.Deep.RegionLaw
import Derived.Outline
import Derived.Lib.SliceRun
import Derived.Deep.MidRow
import Derived.Deep.RegionHeld3
namespace Go.Proofs.YthfjefcljeamgaaGreatDoor
set_option maxRecDepth 100000
set_option maxHeartbeats 4000000
section
open Go.RowKit
theorem Bc{g:Nat}{T:TypeId}{fr:Nat×Nat}:∀(vs:List Value) (o:Nat) (w:World) (cur:Array Value),w.heap[g]? =some (.cells cur T fr)→o+vs.length≤cur.size→
  ∃cur':Array Value,(w.setCells g o vs).heap[g]? =some (.cells cur' T fr)∧cur'.toList=cur.toList.take o++vs++cur.toList.drop (o+vs.length)
 |[],o,w,cur,h,_=>⟨cur,h,by simp⟩
 |v::vs,o,w,cur,h,hl=>by
  simp only[BO]at hl
  obtain⟨cur',h1,h2⟩:=Bc vs (o+1) (w.setCell ⟨g,o,none⟩ v) (cur.setIfInBounds o v) (heap_set h o v) (by simp;omega)
  refine⟨cur',h1,?_⟩
  rw[h2,Array.toList_setIfInBounds]
  have ho:o<cur.toList.length:=by simp;omega
  rw[List.take_set,List.drop_set]
  rw[Ak (by omega)]
  have e1:(cur.toList.take (o+1)).set o v=cur.toList.take o++[v]:=by
   rw[List.take_succ_eq_append_getElem ho,List.set_append_right _ _ (by simp;omega)]
   have:o-min o cur.size=0:=by omega
   simp[this]
  rw[e1]
  simp only[BO,AI,au,aw]
  rw[show o+1+vs.length=o+(vs.length+1)by omega]
theorem A4{w:World}{g:Nat}:∀(vs:List Value) (o:Nat) (w':World),Aa (At1 g) w w'→Aa (At1 g) w (w'.setCells g o vs)
 |[],_,_,h=>h
 |v::vs,o,_,h=>A4 vs (o+1) _ (h.set1 v)
section
variable {P:Program} (w:World)
theorem BK(dT sT ty elem:TypeId)(k:Nat)(b o dLen dCap:Nat)(a:Addr)(sLen sCap:Nat)(cs:List Value){cur:Array Value}{T:TypeId}
  (hu:P.underlying dT=some (.slice elem))(hs:(P.info? elem).map (·.size)=some k)(hn:cs.length=Nat.min sLen dLen*k)
  (hsrc:∀j v,cs[j]? =some v→w.cell? (a.add j)=some v)(hb:w.heap[b]? =some (.cells cur T (0,0)))(hin:o+cs.length≤cur.size)(h1:∀v∈cs,v.oneCell'=true):
  (Builtin.copy_ #[dT,sT] ty #[.slice (some ⟨b,o,none⟩) dLen dCap,.slice (some a) sLen sCap]).run P w= .ok (goInt (Nat.min sLen dLen)) (w.setCells b o cs):=by
 have hl:=run_loadCells_list (P:=P) w a cs hsrc
 have hst:=run_storeCells_cells (P:=P) b o cs 0 w (fun j hj=>by rw[Cx hb,Da (by omega)];rfl) (fun j _=>Fx hb _) h1
 cases hq:P.info? elem with
 |none=>simp[hq]at hs
 |some i=>
  have hi:i.size=k:=by simpa[hq]using hs
  simp[Builtin.copy_,run_underlying hu,Builtin.lenOf,Builtin.firstCells,sizeOf,typeInfo,hq,hi,←hn,hl,hst]
theorem Qs(t e ty:TypeId)(z:Value)(b o n c:Nat){cur:Array Value}{T:TypeId}(ht:P.underlying t=some (.slice e))(hv:∀w,(zeroValue e).run P w= .ok z w)
  (hb:w.heap[b]? =some (.cells cur T (0,0)))(hin:o+(Builtin.zeroCells z.cells n).toList.length≤cur.size)(h1:∀v∈(Builtin.zeroCells z.cells n).toList,v.oneCell'=true)(hn:0<n):
  (Builtin.clear_ #[t] ty #[.slice (some ⟨b,o,none⟩) n c]).run P w= .ok (.tuple #[]) (w.setCells b o (Builtin.zeroCells z.cells n).toList):=by
 have hst:=run_storeCells_cells (P:=P) b o (Builtin.zeroCells z.cells n).toList 0 w (fun j hj=>by rw[Cx hb,Da (by omega)];rfl) (fun j _=>Fx hb _) h1
 have hn':n≠0:=by omega
 obtain⟨m,rfl⟩:∃m,n=m+1:=⟨n-1,by omega⟩
 simp[Builtin.clear_,run_underlying ht,hv,hst]
theorem KE(t ty e:TypeId)(i:TypeInfo)(size:Nat)(ht:P.underlying t=some (.slice e))(hi:P.info? e=some i)(hs:i.size=size)
  (g sLen sCap:Nat){cur:Array Value}{T:TypeId}(hg:w.heap[g]? =some (.cells cur T (0,0)))
  (a:Addr)(m c:Nat)(news:List Value)(hl:news.length=m*size)(hnews:∀j u,news[j]? =some u→w.cell? (a.add j)=some u)(h1:∀u∈news,u.oneCell'=true)
  (hroom:sLen+m≤sCap)(hfit:sLen*size+news.length≤cur.size):
  (Builtin.append_ #[t,t] ty #[.slice (some ⟨g,0,none⟩) sLen sCap,.slice (some a) m c]).run P w= .ok (.slice (some ⟨g,0,none⟩) (sLen+m) sCap) (w.setCells g (sLen*size) news):=by
 subst hs
 have hf:=run_firstCells_some (P:=P) w i.size m a m c news hl hnews
 have hst:=run_storeCells_cells (P:=P) g (sLen*i.size) news 0 w (fun j hj=>by rw[Cx hg,Da (by omega)];rfl) (fun j _=>Fx hg _) h1
 simp only[Nat.add_zero]at hst
 simp[Builtin.append_,run_underlying ht,sizeOf,typeInfo,hi,Builtin.lenOf,hroom,hf,Addr.add_lit,hst]
theorem Qe{o:Oper}{a:Act}{K:Act→World→Prop}{Q:Exit→Act→World→Prop}(d s:Operand)(t t':TypeId)
  (ho:o.op= .call {callee:= .builtin .copy,args:= #[d,s],argTypes:= #[t,t']})(v u:Value)(hd:a.eval d=v)(hs:a.eval s=u){v':Value}{w':World}
  (hr:(Builtin.copy_ #[t,t'] o.type #[v,u]).run P w= .ok v' w')(h:K (a.put o.dst v') w'):o.wp P a w K Q:=by
 unfold Oper.wp execOp
 simp only[ho,resolve,invoke,builtin,Sem.run_bind,Sem.run_pure,Result.andThen_ok,List.map_toArray,Cd,N5,hd,hs,hr]
 exact h
theorem B7{ops:Array Oper}{rest:List Oper}{o:Oper}{a:Act}{Q:Exit→Act→World→Prop}(hgd:o.guard=none)(d s:Operand)(t t':TypeId)
  (ho:o.op= .call {callee:= .builtin .copy,args:= #[d,s],argTypes:= #[t,t']})(v u:Value)(hd:a.eval d=v)(hs:a.eval s=u){v':Value}{w':World}
  (hr:(Builtin.copy_ #[t,t'] o.type #[v,u]).run P w= .ok v' w')(h:wpList P ops Q rest (a.put o.dst v') w'):wpList P ops Q (o::rest) a w:=
 wpList_plain hgd fun _ hK=>Qe w d s t t' ho v u hd hs hr (hK _ _ h)
theorem Hr{ops:Array Oper}{rest:List Oper}{o:Oper}{a:Act}{Q:Exit→Act→World→Prop}(hgd:o.guard=none)(d:Operand)(t:TypeId)
  (ho:o.op= .call {callee:= .builtin .clear,args:= #[d],argTypes:= #[t]})(v:Value)(hd:a.eval d=v){v':Value}{w':World}
  (hr:(Builtin.clear_ #[t] o.type #[v]).run P w= .ok v' w')(h:wpList P ops Q rest (a.put o.dst v') w'):wpList P ops Q (o::rest) a w:=
 wpList_plain hgd fun _ hK=>by
  unfold Oper.wp execOp
  simp only[ho,resolve,invoke,builtin,Sem.run_bind,Sem.run_pure,Result.andThen_ok,List.map_toArray,Cd,N5,hd,hr]
  exact hK _ _ h
end
theorem CU{P:Program}{ops:Array Oper}{o:Oper}{a:Act}{w:World}{K:Act→World→Prop}{Q:Exit→Act→World→Prop}{E:Prop}
  (hg:o.guard=none)(d x:Operand)(dT sT:TypeId)(hop:o.op=Op.call {callee:=Callee.builtin Builtin.copy,args:= #[d,x],argTypes:= #[dT,sT]})
  (v u:Value)(hd:a.eval d=v)(hx:a.eval x=u){v':Value}{w':World}(hr:(Builtin.copy_ #[dT,sT] o.type #[v,u]).run P w= .ok v' w')(hK:K (a.put o.dst v') w'):
  if Region.wanted o (yielded ops a.tmps)=true then Oper.wp P o a w K Q else E:=by
 have hw:Region.wanted o (yielded ops a.tmps)=true:=by simp[Region.wanted,hg]
 rw[Ak hw]
 unfold Oper.wp
 simp[execOp,hop,resolve,invoke,builtin,hd,hx,hr,Result.andThen]
 exact hK
theorem CW{P:Program}{ops:Array Oper}{o:Oper}{a:Act}{w:World}{K:Act→World→Prop}{Q:Exit→Act→World→Prop}{E:Prop}
  (hg:o.guard=none)(d x:Operand)(dT sT:TypeId)(hop:o.op=Op.call {callee:=Callee.builtin Builtin.append,args:= #[d,x],argTypes:= #[dT,sT]})
  (v u:Value)(hd:a.eval d=v)(hx:a.eval x=u){v':Value}{w':World}(hr:(Builtin.append_ #[dT,sT] o.type #[v,u]).run P w= .ok v' w')(hK:K (a.put o.dst v') w'):
  if Region.wanted o (yielded ops a.tmps)=true then Oper.wp P o a w K Q else E:=by
 have hw:Region.wanted o (yielded ops a.tmps)=true:=by simp[Region.wanted,hg]
 rw[Ak hw]
 unfold Oper.wp
 simp[execOp,hop,resolve,invoke,builtin,hd,hx,hr,Result.andThen]
 exact hK
/-- what an insertion leaves -/
def A6{α:Type}(T:TypeId)(m:Nat)(f:α→List Value)(v:Value)(l:List α)(w:World)(e:Ending)(w':World):Prop:=
 ∃v',e= .returned v'∧Aq T m f v' l w'∧Aa (fun k=>v.ownBlock=some k) w w'∧(∀g,v'.ownBlock=some g→v.ownBlock=some g∨w.heap.size≤g)
theorem CY{α:Type}{f:α→List Value}(l:List α)(i:Nat)(x:α):(Dc.Ax l i x).flatMap f=(l.take i).flatMap f++f x++(l.drop i).flatMap f:=by
 unfold Dc.Ax
 simp
theorem Du{α:Type}{m:Nat}{f:α→List Value}(hf:∀x,(f x).length=m):∀(l:List α) (i:Nat),(l.take i).flatMap f=(l.flatMap f).take (i*m)
 |l,0=>by simp
 |[],i+1=>by simp
 |x::l,i+1=>by
  rw[Ix,BE,BE,Du hf l i,List.take_append,hf,N4]
  rw[CB (l:=f x) (by rw[hf];omega)]
  congr 2
  omega
theorem DC{α:Type}{m:Nat}{f:α→List Value}(hf:∀x,(f x).length=m):∀(l:List α) (i:Nat),(l.drop i).flatMap f=(l.flatMap f).drop (i*m)
 |l,0=>by simp
 |[],i+1=>by simp
 |x::l,i+1=>by
  rw[List.drop_succ_cons,BE,DC hf l i,List.drop_append,hf,N4]
  rw[Gl (l:=f x) (by rw[hf];omega),aw]
  congr 1
  omega
end
section
open Go.RowKit
theorem TR{k:List UInt8}(h:k≠ []):k.getLast? =some (k.getLast h):=ar h
theorem Hk(k:List UInt8)(w:World):
  Calls Tryz.prog 157 #[.string ⟨k.toArray⟩] w fun e w'=>e= .returned (.bool (Dc.D4 k))∧w=w':=by
 by_cases h0:k=[]
 ·subst h0
  go_enter Tryz.func157,Tryz.ntmps157
  go_wp2
  go_ret
  exact⟨rfl,rfl⟩
 ·by_cases h1:k.length≤32
  ·have hl:0<k.length:=List.length_pos_iff.2 h0
   have hle:(k.length:Int)≤32:=by omega
   have hx:(ByteArray.mk k.toArray).size=k.length:=by simp[ByteArray.size]
   obtain⟨n,hn⟩:∃n,k.length=n+1:=⟨k.length-1,by omega⟩
   have hg:k.getLast h0=k[n]'(by omega):=by rw[List.getLast_eq_getElem];congr 1;omega
   obtain⟨c,hcx⟩:∃c,c=k[n]'(by omega):=⟨_,rfl⟩
   have hget:∀h,(ByteArray.mk k.toArray)[n]'h=c:=fun _=>hcx.symm
   have hk0:(k.toArray.toList=[])=False:=by simp[h0]
   rw[←hcx]at hg
   clear hcx
   by_cases h2:c=0
   ·have H:Hid (Dc.D4 k=false):=Hx (by unfold Dc.D4;rw[TR h0,hg];simp[h2])
    subst h2
    clear hg
    go_enter Tryz.func157,Tryz.ntmps157
    go_wp2
    go_ret
    exact⟨AY H.out.symm,rfl⟩
   ·have H:Hid (Dc.D4 k=true):=Hx (by unfold Dc.D4;rw[TR h0,hg];simp[h0,h1,h2])
    clear hg
    have h2':¬c.toNat=0:=fun e=>h2 (UInt8.toNat_inj.1 e)
    go_enter Tryz.func157,Tryz.ntmps157
    go_wp2
    go_ret
    refine⟨AY ?_,rfl⟩
    rw[H.out]
    try simp_all
  ·have H:Hid (Dc.D4 k=false):=Hx (by unfold Dc.D4;simp[h1])
   have h1':¬(k.length:Int)≤32:=by omega
   go_enter Tryz.func157,Tryz.ntmps157
   go_wp2
   go_ret
   exact⟨AY H.out.symm,rfl⟩
/-! cuts -/
def AD(c:Dc.Cut):List Value:=[.int .i64 c.op.R,.int .i64 c.op.N,.int .i64 c.fr,.int .i64 c.to]
@[reducible] def Wu(c:Dc.Cut):Value:= .agg #[.int .i64 c.op.R,.int .i64 c.op.N,.int .i64 c.fr,.int .i64 c.to]
/-- the slice value v reads as l: wherever it lies -/
def BI{α:Type}(m:Nat)(f:α→List Value)(v:Value)(l:List α)(w:World):Prop:=
 l.length≤maxLen∧∃ao c,v= .slice ao l.length c∧l.length≤c∧c≤maxLen∧(l≠ []→∃g o,ao=some ⟨g,o,none⟩∧g<w.heap.size∧∀k (hk:k<l.length) r,r<m→w.cell? ⟨g,o+k*m+r,none⟩=(f (l[k]'hk))[r]?)
section
variable {α:Type} {m:Nat} {f:α→List Value} {v:Value} {l:List α} {w w':World}
theorem BI.keep(h:BI m f v l w)(hb:∀g,v.ownBlock=some g→g<w.heap.size→w'.heap[g]? =w.heap[g]?)(hs:w.heap.size≤w'.heap.size):BI m f v l w':=by
 obtain⟨h0,ao,c,rfl,h1,h2,h3⟩:=h
 refine⟨h0,ao,c,rfl,h1,h2,fun hne=>?_⟩
 obtain⟨g,o,rfl,h4,h5⟩:=h3 hne
 exact⟨g,o,rfl,by omega,fun k hk r hr=>(World.cell?_of_block (hb g rfl h4)).trans (h5 k hk r hr)⟩
theorem BI.keeps{S:Nat→Prop}(h:BI m f v l w)(k:Aa S w w')(hn:∀g,v.ownBlock=some g→¬S g):BI m f v l w':=h.keep (fun g hg hl=>k.block g hl (hn g hg)) k.size
theorem BI.no(h:BI m f v l w)(k:Aa No w w'):BI m f v l w':=h.keeps k fun _ _ e=>e
theorem Aq.lies{T:TypeId}(h:Aq T m f v l w)(hf:∀x,(f x).length=m):BI m f v l w:=by
 have h':=h
 rcases h.form with⟨rfl,rfl⟩|⟨g,cap,cur,rfl,hg,h1,h2,_⟩
 ·exact⟨Ah _,none,0,rfl,Ac _,Ah _,fun e=>absurd rfl e⟩
 ·exact⟨h.len_le,_,cap,rfl,h1,h2,fun _=>⟨g,0,rfl,Ao hg,fun k hk r hr=>by rw[Nat.zero_add];exact h'.cell hf hk hr⟩⟩
end
theorem O2(R N a b:Int)(w:World):
  Calls Tryz.prog 159 #[.agg #[.int .i64 R,.int .i64 N,.int .i64 a,.int .i64 b]] w fun e w'=>e= .returned (.bool (Dc.CL ⟨⟨R,N⟩,a,b⟩))∧Aa No w w':=by
 by_cases h1:0≤a<;>by_cases h2:a<b<;>by_cases h3:b≤64<;>(try(exfalso;omega))
 all_goals
  go_enter Tryz.func159,Tryz.ntmps159
  go_wp2_with(go_at_call 103;refine(BJ _ _ _).mono ?_;rintro e w1 ⟨rfl,k1⟩;have hc:=Cx (k1.own id))
 all_goals
  go_ret
  refine⟨AY ?_,Kx⟩
  simp_all [Dc.CL]
  try omega
theorem Iy(c:Dc.Cut)(w:World):
  Calls Tryz.prog 158 #[Wu c] w fun e w'=>e= .returned (.bool (!Dc.CL c))∧Aa No w w':=by
 obtain⟨⟨R,N⟩,a,b⟩:=c
 go_enter Tryz.func158,Tryz.ntmps158
 go_wp2_with(go_at_call 159;refine(O2 _ _ _ _ _).mono ?_;rintro e w1 ⟨rfl,k1⟩)
 go_ret
 exact⟨rfl,Kx⟩
def Bj(b:Bool)(w:World)(e:Ending)(w':World):Prop:=e= .returned (.bool b)∧Aa No w w'
def WF(b:Bool)(w:World)(e:Ending)(w':World):Prop:=∃i:Int,e= .returned (.int .i64 i)∧(decide (0≤i)=b)∧Aa No w w'
theorem Q7(v:Value)(l:List Dc.Cut)(w:World)(h:BI 4 AD v l w):
  Calls Tryz.prog 208 #[v,.func (.func 158) #[] #[]] w (WF (l.any fun c=> !Dc.CL c) w):=by
 have H:=Hx h
 obtain⟨h0,ao,c,rfl,hc,hcm,hne⟩:=h
 unfold maxLen at h0 hcm
 clear hne
 go_enter Tryz.func208,Tryz.ntmps208
 go_wp2
 go_loopw [8] (fun i wr=>∃k:Nat,k≤l.length∧i= .int .i64 k∧Hid (∀j (hj:j<l.length),j<k→Dc.CL l[j]=true)∧Aa No w wr) (fun i _=>l.length-(intOf i).toNat)
 case atStart=>exact⟨0,Ah _,rfl,fun j hj h=>by omega,Aa.refl _ _⟩
 case round=>
  obtain⟨k,hk,rfl,hT,kr⟩:=hrel
  by_cases hlt:k<l.length
  ·obtain⟨_,ao',c',e1,_,_,hcell⟩:=(H.out.no kr)
   obtain⟨g,o,rfl,hgl,hce⟩:=hcell (by intro e;rw[e]at hlt;simp at hlt)
   simp only[Value.slice.injEq,DW]at e1
   obtain⟨rfl,rfl⟩:=e1
   have x0:wr.cell? ⟨g,o+k*4,none⟩=some (.int .i64 (l[k]'hlt).op.R):=hce k hlt 0 (by decide)
   have x1:wr.cell? ⟨g,o+k*4+1,none⟩=some (.int .i64 (l[k]'hlt).op.N):=hce k hlt 1 (by decide)
   have x2:wr.cell? ⟨g,o+k*4+2,none⟩=some (.int .i64 (l[k]'hlt).fr):=hce k hlt 2 (by decide)
   have x3:wr.cell? ⟨g,o+k*4+3,none⟩=some (.int .i64 (l[k]'hlt).to):=hce k hlt 3 (by decide)
   have hyes:Dc.CL (l[k]'hlt)=true→Hid (∀j (hj:j<l.length),j<k+1→Dc.CL l[j]=true):=fun h=>Hx fun j hj hjk=>by
    rcases Nat.lt_or_ge j k with h2|h2
    ·exact hT.out j hj h2
    ·obtain rfl:j=k:=by omega
     exact h
   have hno:Dc.CL (l[k]'hlt)=false→Hid ((l.any fun c=> !Dc.CL c)=true):=fun h=>Hx (List.any_eq_true.2 ⟨l[k]'hlt,AQ hlt,by rw[h];rfl⟩)
   clear hT hcell hce
   obtain⟨y,hy⟩:∃y,y=l[k]'hlt:=⟨_,rfl⟩
   rw[←hy]at x0 x1 x2 x3 hyes hno
   clear hy
   have kI0:(0:Int)≤(k:Int):=by omega
   have kI1:(k:Int)<(l.length:Int):=by omega
   cases hr:Dc.CL y
   ·have Hn:=hno hr
    have hb:(!Dc.CL y)=true:=by rw[hr];rfl
    have cc:=fun w=>Iy y w
    rw[hb]at cc
    clear hyes hno hr hb
    go_wp2_with(go_at_call 158;refine(cc _).mono ?_;rintro e w2 ⟨rfl,k2⟩)
    go_ret
    exact⟨k,rfl,by rw[Hn.out];simp,kr.trans k2⟩
   ·have Hy:=hyes hr
    have hb:(!Dc.CL y)=false:=by rw[hr];rfl
    have cc:=fun w=>Iy y w
    rw[hb]at cc
    clear hyes hno hr hb
    go_wp2_with(go_at_call 158;refine(cc _).mono ?_;rintro e w2 ⟨rfl,k2⟩)
    go_roundw
    case rel=>exact⟨k+1,by omega,by go_num,Hy,kr.trans k2⟩
    case measure=>simp[intOf];omega
  ·obtain rfl:k=l.length:=by omega
   have Hn:Hid ((l.any fun c=> !Dc.CL c)=false):=Hx (List.any_eq_false.2 fun c hc=>by
    obtain⟨j,hj,rfl⟩:=CM hc
    simp[hT.out j hj hj])
   clear hT
   go_wp2
   go_ret
   exact⟨-1,rfl,by rw[Hn.out];rfl,kr⟩
theorem PT(v:Value)(l:List Dc.Cut)(w:World)(h:BI 4 AD v l w):
  Calls Tryz.prog 151 #[v,.func (.func 158) #[] #[]] w (Bj (l.any fun c=> !Dc.CL c) w):=by
 have hI:=Q7 v l w h
 obtain⟨h0,ao,c,rfl,_⟩:=h
 go_enter Tryz.func151,Tryz.ntmps151
 go_wp2_with(go_at_call 208;refine hI.mono ?_;rintro e w2 ⟨i,rfl,hi,k2⟩;have hi':=Hx hi;clear hi)
 all_goals
  go_ret
  exact⟨by rw[←hi'.out];simp[*],k2⟩
theorem PH:(Tryz.prog.info? 64).map (fun i=>(i.zero,i.size,i.bytes))=some (some (.agg #[.int .i64 0,.int .i64 0,.int .i64 0,.int .i64 0]),4,32):=by kernel_rfl
theorem WU(x:Dc.Cut):∀u∈AD x,u.oneCell'=true:=fun u hu=>B9.1 (show(AD x).all (·.oneCell')=true from rfl) u hu
theorem Po(x:Dc.Cut):(AD x).length=4:=rfl
def K9(l:List Dc.Cut)(w:World)(e:Ending)(w':World):Prop:=
 ∃v',e= .returned v'∧Aq 64 4 AD v' l w'∧(∀g,v'.ownBlock=some g→w.heap.size≤g)∧Aa No w w'
theorem JB(v:Value)(l:List Dc.Cut)(w:World)(h:BI 4 AD v l w)(hsz:l.length≤1000000):
  Calls Tryz.prog 116 #[v] w (K9 l w):=by
 obtain⟨i0,hi,hz0,hz1,hz2⟩:=info_parts PH
 obtain⟨h0,ao,c,rfl,hc,hcm,hne⟩:=h
 have hsl:=fun w=>Lib.run_eql_slice_nil (P:=Tryz.prog) w 27 64 ao l.length c 0 0 Tryz.underlying27
 cases ao with
 |none=>
  have hl:l=[]:=by
   rcases Classical.em (l=[])with h|h
   ·exact h
   ·obtain⟨g,o,h1,_⟩:=hne h;cases h1
  subst hl
  clear hne hsl
  have hsl:=fun w=>Lib.run_eql_slice_nil (P:=Tryz.prog) w 27 64 none 0 c 0 0 Tryz.underlying27
  go_enter Tryz.func116,Tryz.ntmps116
  go_wp2
  go_ret
  exact⟨_,rfl,Aq.nil,fun g hg=>by simp[Value.ownBlock]at hg,Aa.refl _ _⟩
 |some a=>
  have hown:(w.alloc (.cells #[] 64)).ownsRow 0 64 4 (.slice (some ⟨w.heap.size,0,none⟩) 0 0) 0 []:=
   World.ownsRow_made w #[] 0 (Ah _) (Ah _) rfl
  have hnews:∀j u,(l.flatMap AD)[j]? =some u→(w.alloc (.cells #[] 64)).cell? (a.add j)=some u:=fun j u hj=>by
   have hjl:=(AS.1 hj).1
   rw[Az Po]at hjl
   obtain⟨g,o,h1,hgl,hce⟩:=hne (by intro e;subst e;simp at hjl)
   cases h1
   have hadd:(⟨g,o,none⟩:Addr).add j=⟨g,o+j,none⟩:=by unfold Addr.add;split<;>simp_all
   rw[hadd,World.cell?_alloc_past (w:=w) _ g _ hgl]
   have hk:j / 4<l.length:=by omega
   have hj4:j=j / 4*4+j % 4:=by omega
   rw[hj4,EL Po l (j / 4) (j % 4) hk (ay _ (by decide))]at hj
   have:=hce (j / 4) hk (j % 4) (ay _ (by decide))
   rw[Nat.add_assoc,←hj4]at this
   rw[this];exact hj
  have hone:∀u∈l.flatMap AD,u.oneCell'=true:=fun u hu=>by
   obtain⟨y,_,hy⟩:=Ba.1 hu
   exact WU y u hy
  have hfl:(l.flatMap AD).length=l.length*4:=Az Po l
  have hfin:∀v' w',w'.ownsRow 0 64 4 v' (0+l.length) ([]++l.flatMap AD)→(w.alloc (.cells #[] 64)).grownBy w' (some w.heap.size)→(v'.ownBlock=some w.heap.size∨v'.ownBlock=some (w.alloc (.cells #[] 64)).heap.size)→K9 l w (.returned v') w':=by
   intro v' w' h1 h2 h3
   refine⟨v',rfl,by unfold Aq;simpa using h1,fun g hg=>?_,?_⟩
   ·rcases h3 with h3|h3<;>(rw[h3]at hg;cases hg;simp)
   ·have k0:Aa No w (w.alloc (.cells #[] 64)):=(Aa.refl _ _).alloc _
    exact k0.grown h2 fun k hk=>by cases hk;exact Ac _
  have HF:=Hx hfin
  have hvs:∀v' w',K9 l w (.returned v') w'→(∃g2 n2 c2,v'= .slice g2 n2 c2):=fun v' w' h=>by
   obtain⟨v2,e2,r2,_⟩:=h
   obtain rfl:v2=v':=by injection e2 with e2;exact e2.symm
   rcases r2.form with⟨h,_⟩|⟨g,cap,cur,h,_⟩
   ·exact⟨_,_,_,h⟩
   ·exact⟨_,_,_,h⟩
  have HV:=Hx hvs
  clear hfin hvs hne
  generalize l.flatMap AD=L at*
  go_enter Tryz.func116,Tryz.ntmps116
  go_wp2_with(at_builtin;refine wpList_append_own_at _ rfl _ _ 27 rfl 0 64 i0 _ 4 32 Tryz.underlying27 hi hz0 hz1 hz2 rfl (by decide) _ _ _ rfl hown a l.length c L rfl hfl hnews hone (by unfold maxLen;omega) (by omega) (Ah _) ?_)
  intro v' w' h1 h2 _ h3
  have P:=Hx (HF.out v' w' (by simpa using h1) h2 (by first|exact h3|(simp at h3;exact h3)|(simpa[Value.ownBlock]using h3)))
  obtain⟨g2,n2,c2,rfl⟩:=HV.out v' w' P.out
  clear h1 h2 h3
  go_wp2
  go_ret
  exact P.out
theorem Wt{a b:Dc.Cut}(h1:a.op.R=b.op.R)(h2:a.op.N=b.op.N)(h3:a.fr=b.fr)(h4:a.to=b.to):a=b:=by
 obtain⟨⟨r,n⟩,i,j⟩:=a;obtain⟨⟨r',n'⟩,i',j'⟩:=b
 simp at h1 h2 h3 h4;simp[h1,h2,h3,h4]
def Fe(a b:List Dc.Cut)(k:Nat):Prop:=a.take k=b.take k
theorem M9{a b:List Dc.Cut}{k:Nat}(h:Fe a b k)(ha:k<a.length)(hb:k<b.length)(e:a[k]=b[k]):Fe a b (k+1):=by
 unfold Fe at*
 rw[List.take_succ_eq_append_getElem ha,List.take_succ_eq_append_getElem hb,h,e]
theorem NX(va vb:Value)(a b:List Dc.Cut)(w:World)(h1:BI 4 AD va a w)(h2:BI 4 AD vb b w):
  Calls Tryz.prog 160 #[va,vb] w (Bj (decide (a=b)) w):=by
 have H1:=Hx h1
 have H2:=Hx h2
 obtain⟨h0,ao,c,rfl,hc,hcm,-⟩:=h1
 obtain⟨h0',ao',c',rfl,hc',hcm',-⟩:=h2
 unfold maxLen at h0 hcm h0' hcm'
 by_cases hl:a.length=b.length
 ·generalize hn:b.length=n at*
  have HN:=Hx hn
  clear hn
  generalize hm:a.length=m at*
  have HM:=Hx hm
  clear hm
  subst hl
  go_enter Tryz.func160,Tryz.ntmps160
  go_wp2
  go_loopw [13] (fun i wr=>∃k:Nat,k≤m∧i= .int .i64 k∧Hid (Fe a b k)∧Aa No w wr) (fun i _=>m-(intOf i).toNat)
  case atStart=>exact⟨0,Ah _,rfl,(by simp[Fe]:Fe a b 0),Aa.refl _ _⟩
  case round=>
   obtain⟨k,hk,rfl,hT,kr⟩:=hrel
   by_cases hlt:k<m
   ·have ha:k<a.length:=by rw[HM.out];exact hlt
    have hb:k<b.length:=by rw[HN.out];exact hlt
    obtain⟨_,ao1,c1,e1,_,_,hcell⟩:=(H1.out.no kr)
    obtain⟨g,o,rfl,hgl,hce⟩:=hcell (by intro e;rw[e]at ha;simp at ha)
    obtain⟨_,ao2,c2,e2,_,_,hcell'⟩:=(H2.out.no kr)
    obtain⟨g',o',rfl,hgl',hce'⟩:=hcell' (by intro e;rw[e]at hb;simp at hb)
    simp only[Value.slice.injEq]at e1 e2
    obtain⟨rfl,_,rfl⟩:=e1
    obtain⟨rfl,_,rfl⟩:=e2
    have x0:wr.cell? ⟨g,o+k*4,none⟩=some (.int .i64 (a[k]'ha).op.R):=hce k ha 0 (by decide)
    have x1:wr.cell? ⟨g,o+k*4+1,none⟩=some (.int .i64 (a[k]'ha).op.N):=hce k ha 1 (by decide)
    have x2:wr.cell? ⟨g,o+k*4+2,none⟩=some (.int .i64 (a[k]'ha).fr):=hce k ha 2 (by decide)
    have x3:wr.cell? ⟨g,o+k*4+3,none⟩=some (.int .i64 (a[k]'ha).to):=hce k ha 3 (by decide)
    have y0:wr.cell? ⟨g',o'+k*4,none⟩=some (.int .i64 (b[k]'hb).op.R):=hce' k hb 0 (by decide)
    have y1:wr.cell? ⟨g',o'+k*4+1,none⟩=some (.int .i64 (b[k]'hb).op.N):=hce' k hb 1 (by decide)
    have y2:wr.cell? ⟨g',o'+k*4+2,none⟩=some (.int .i64 (b[k]'hb).fr):=hce' k hb 2 (by decide)
    have y3:wr.cell? ⟨g',o'+k*4+3,none⟩=some (.int .i64 (b[k]'hb).to):=hce' k hb 3 (by decide)
    have hyes:a[k]'ha=b[k]'hb→Hid (Fe a b (k+1)):=fun h=>Hx (M9 hT.out ha hb h)
    have hno:a[k]'ha≠b[k]'hb→Hid (decide (a=b)=false):=fun h=>Hx (Dn fun e=>h (by subst e;rfl))
    clear hT hcell hcell' hce hce'
    generalize (a[k]'ha)=x at x0 x1 x2 x3 hyes hno
    generalize (b[k]'hb)=y at y0 y1 y2 y3 hyes hno
    have kI0:(0:Int)≤(k:Int):=by omega
    have kI1:(k:Int)<(m:Int):=by omega
    by_cases hxy:x=y
    ·have Hy:=hyes hxy
     subst hxy
     clear hyes hno
     go_wp2
     go_quiet (fail)
     go_wp2
     go_roundw
     case rel=>exact⟨k+1,by omega,by go_num,Hy,kr.drewN _⟩
     case measure=>simp[intOf];omega
    ·have Hn:=hno hxy
     clear hyes hno
     obtain⟨⟨xR,xN⟩,xf,xt⟩:=x
     obtain⟨⟨yR,yN⟩,yf,yt⟩:=y
     by_cases e1:xR=yR<;>by_cases e2:xN=yN<;>by_cases e3:xf=yf<;>by_cases e4:xt=yt
     all_goals(first|(exact absurd (Wt e1 e2 e3 e4) hxy)|skip)
     all_goals
      (try subst e1)
      (try subst e2)
      (try subst e3)
      (try subst e4)
      clear hxy
      go_wp2
      go_quiet (fail)
      go_wp2
      go_ret
      exact⟨AY Hn.out.symm,kr.drewN _⟩
   ·obtain rfl:k=m:=by omega
    have He:Hid (decide (a=b)=true):=Hx (aG (by
     have:=hT.out
     unfold Fe at this
     rwa [CB (by rw[HM.out];omega),CB (by rw[HN.out];omega)]at this))
    clear hT
    go_wp2
    go_ret
    exact⟨AY He.out.symm,kr⟩
 ·have He:Hid (decide (a=b)=false):=Hx (Dn fun e=>hl (by rw[e]))
  have hne:¬((a.length:Int)=(b.length:Int)):=by omega
  have hne2:((a.length:Int) != (b.length:Int))=true:=by simp;omega
  go_enter Tryz.func160,Tryz.ntmps160
  go_wp2
  go_ret
  exact⟨AY He.out.symm,Aa.refl _ _⟩
end
section
open Go.RowKit
section
variable {P:Program} {ops:Array Oper} {rest:List Oper} {op:Oper} {a:Act} {w:World} {Q:Exit→Act→World→Prop}
theorem Js{b o n:Nat}{cur:Array Value}{T:TypeId}(hb:w.heap[b]? =some (.cells cur T (0,0)))(h:o+n≤cur.size):w.there b o n:=fun j hj=>
 ⟨by rw[Cx hb,Da (by omega)];rfl,Fx hb _⟩
theorem DL{b o:Nat}{cs:List Value}{cur:Array Value}{T:TypeId}(hb:w.heap[b]? =some (.cells cur T (0,0)))(h:(cur.toList.drop o).take cs.length=cs):w.rangeAt b o cs:=fun j v hj=>by
 have hjl:=(AS.1 hj).1
 rw[Cx hb,←Aw,←hj]
 conv=>rhs;rw[←h]
 rw[AO,Ak hjl,B5]
/-- a structure is stored over all of its block -/
theorem Bd(hgd:op.guard=none)(ty:TypeId)(x y:Operand)(ho:op.op= .store ty x y)(b:Nat)(cells cur:Array Value)(T:TypeId)(hx:a.eval x= .pointer (some ⟨b,0,none⟩))(hy:a.eval y= .agg cells)
  (hb:w.heap[b]? =some (.cells cur T (0,0)))(hs:cells.size=cur.size)(hi:(P.info? ty).map (·.size)=some cells.size)(h1:cells.toList.all (·.oneCell')=true)
  (h:∀w',w'.heap[b]? =some (.cells cells T (0,0))→Aa (At1 b) w w'→w'.heap.size=w.heap.size→wpList P ops Q rest (a.put op.dst undef) w'):wpList P ops Q (op::rest) a w:=by
 refine wpList_store_mid hgd ty x y ho b 0 cells hx hy (Js hb (by omega)) hi (by simpa using h1) ?_
 obtain⟨cur',h2,h3⟩:=Bc cells.toList 0 w cur hb (by simp;omega)
 have e:cur'=cells:=by
  apply Array.ext'
  rw[h3]
  simp[hs]
 subst e
 have k:=A4 cur'.toList 0 w (Aa.refl (At1 b) w)
 refine h _ h2 k ?_
 have:∀(vs:List Value) (o:Nat) (w:World),(w.setCells b o vs).heap.size=w.heap.size:=by
  intro vs
  induction vs with
  |nil=>intro o w;rfl
  |cons v vs ih=>intro o w;rw[World.setCells,ih];simp[World.setCell]
 exact this _ _ _
/-- all of a block is loaded -/
theorem An(hgd:op.guard=none)(ty:TypeId)(x:Operand)(ho:op.op= .load ty x)(b:Nat)(cur:Array Value)(T:TypeId)(d:TypeDesc)(hx:a.eval x= .pointer (some ⟨b,0,none⟩))
  (hb:w.heap[b]? =some (.cells cur T (0,0)))(hu:P.underlying ty=some d)(hd:d.isRow=true)(hi:(P.info? ty).map (·.size)=some cur.size)
  (h:wpList P ops Q rest (a.put op.dst (.agg cur)) w):wpList P ops Q (op::rest) a w:=by
 refine wpList_load_mid hgd ty x ho b 0 hx cur.toList d (DL hb (by rw[JL,AH])) hu hd (by simpa using hi) ?_
 simpa using h
end
/-! the same as steps of a region that draws its order -/
section
variable {P:Program} {ops:Array Oper} {o:Oper} {a:Act} {w:World} {K:Act→World→Prop} {Q:Exit→Act→World→Prop} {E:Prop}
theorem IM(hgd:o.guard=none):Region.wanted o (yielded ops a.tmps)=true:=by simp[Region.wanted,hgd]
theorem Df(hgd:o.guard=none)(ty:TypeId)(x y:Operand)(ho:o.op= .store ty x y)(b:Nat)(cells cur:Array Value)(T:TypeId)(hx:a.eval x= .pointer (some ⟨b,0,none⟩))(hy:a.eval y= .agg cells)
  (hb:w.heap[b]? =some (.cells cur T (0,0)))(hs:cells.size=cur.size)(hi:(P.info? ty).map (·.size)=some cells.size)(h1:cells.toList.all (·.oneCell')=true)
  (h:∀w',w'.heap[b]? =some (.cells cells T (0,0))→Aa (At1 b) w w'→K (a.put o.dst undef) w'):if Region.wanted o (yielded ops a.tmps)=true then Oper.wp P o a w K Q else E:=by
 rw[Ak (IM hgd)]
 refine wp_store_mid ty x y ho b 0 cells hx hy (Js hb (by omega)) hi (by simpa using h1) ?_
 obtain⟨cur',h2,h3⟩:=Bc cells.toList 0 w cur hb (by simp;omega)
 have e:cur'=cells:=by
  apply Array.ext'
  rw[h3]
  simp[hs]
 subst e
 exact h _ h2 (A4 cur'.toList 0 w (Aa.refl (At1 b) w))
theorem FR(hgd:o.guard=none)(t:TypeId)(ho:o.op= .alloc t)(z:Value)(hz:∀w,(zeroValue t).run P w= .ok z w)
  (h:K (a.put o.dst (.pointer (some ⟨w.heap.size,0,none⟩))) (w.alloc (.cells z.cells t))):if Region.wanted o (yielded ops a.tmps)=true then Oper.wp P o a w K Q else E:=by
 rw[Ak (IM hgd)]
 unfold Oper.wp
 simp[execOp,ho,hz,Instr.alloc,go_sem,Result.andThen]
 exact h
end
theorem BA{P:Program}{ops:Array Oper}{S:World→Prop}{op:Oper}{a:Act}(hgd:op.guard=none)(ty:TypeId)(x:Operand)(ho:op.op= .load ty x)
  (b:Nat)(cur:Array Value)(T:TypeId)(d:TypeDesc)(hx:a.eval x= .pointer (some ⟨b,0,none⟩))(hS:∀w,S w→w.heap[b]? =some (.cells cur T (0,0)))
  (hu:P.underlying ty=some d)(hd:d.isRow=true)(hi:(P.info? ty).map (·.size)=some cur.size):YieldsIf P ops S op (.agg cur) a:=by
 have h:=yieldsIf_load_mid (P:=P) (ops:=ops) (S:=S) (a:=a) (IM hgd) ty x ho b 0 hx cur.toList d (fun w h=>DL (hS w h) (by rw[JL,AH])) hu hd (by simpa using hi)
 rwa [LO]at h
theorem Aq.slice{α:Type}{T:TypeId}{m:Nat}{f:α→List Value}{v:Value}{l:List α}{w:World}(h:Aq T m f v l w):∃ao n c,v= .slice ao n c:=by
 rcases h.form with⟨h,_⟩|⟨g,cap,cur,h,_⟩
 ·exact⟨_,_,_,h⟩
 ·exact⟨_,_,_,h⟩
/-- what a structure's result is, out of its block -/
theorem CX{P:Program}{fn:Func}{tmps:Array Value}{w:World}{s:Nat}{T:TypeId}{b:Nat}{cs:Array Value}{T':TypeId}{d:TypeDesc}(hr:fn.results= #[.cell s T])
  (hp:tmps.getD s undef= .pointer (some ⟨b,0,none⟩))(hb:w.heap[b]? =some (.cells cs T' (0,0)))(hu:P.underlying T=some d)(hd:d.isRow=true)(hi:(P.info? T).map (·.size)=some cs.size):
  (results fn tmps).run P w= .ok (.agg cs) w:=by
 have h:=run_loadVar_mid (P:=P) w b 0 T cs.toList d (DL hb (by rw[JL,AH])) hu hd (by simpa using hi)
 rw[LO]at h
 have hp':tmps[s]?.getD undef= .pointer (some ⟨b,0,none⟩):=by rw[←hp];simp
 simp[results,hr,hp',asAddr,h]
theorem EC{P:Program}{fn:Func}{tmps:Array Value}{w:World}{s r:Nat}{T:TypeId}{b:Nat}{cs:Array Value}{T':TypeId}{d:TypeDesc}(hr:fn.results= #[.cell s T,.tmp r])
  (hp:tmps.getD s undef= .pointer (some ⟨b,0,none⟩))(hb:w.heap[b]? =some (.cells cs T' (0,0)))(hu:P.underlying T=some d)(hd:d.isRow=true)(hi:(P.info? T).map (·.size)=some cs.size):
  (results fn tmps).run P w= .ok (.tuple #[.agg cs,tmps.getD r undef]) w:=by
 have h:=run_loadVar_mid (P:=P) w b 0 T cs.toList d (DL hb (by rw[JL,AH])) hu hd (by simpa using hi)
 rw[LO]at h
 have hp':tmps[s]?.getD undef= .pointer (some ⟨b,0,none⟩):=by rw[←hp];simp
 simp[results,hr,hp',asAddr,h,Result.andThen]
end
end Go.Proofs.YthfjefcljeamgaaGreatDoor
