/- joined: A slice of ops that came in, opened: the ops that its cells tell. From what the rows list, and the world's shape, to the document's Env; the wrap that keeps the shape. -/
import Derived.Test.YthfjefcljeamgaaGreatDoorLwF
import Derived.Test.YthfjefcljeamgaaGreatDoorRows
import Derived.Deep.Slices
import Derived.Carry
import Derived.OpenShut
import Derived.ChangeArms
import Derived.SizedLaws
import Derived.Test.YthfjefcljeamgaaGreatDoorKeys
import Derived.ProofKit
import Derived.HandedShaped
import Derived.Lay
import Derived.Lib.LaidU8
import Derived.Lib.LaidTab
import Derived.Shelf.Vars
namespace Go.Proofs.YthfjefcljeamgaaGreatDoor
set_option maxRecDepth 100000
set_option maxHeartbeats 4000000
section
open Go.ChangeShapes Go.WideShapes Go.RowKit
theorem Wg:laidOutB Tryz.prog=true:=by kernel_rfl
instance:Inhabited Dc.Cut:=⟨⟨.z,0,0⟩⟩
instance:Inhabited (Dc.Op×Sl):=⟨(Dc.Op.z,⟨none,0,0⟩)⟩
section
variable {H:Type} {enc:TypeId×Value→H} {w:World} {held:Bool}
theorem Dq{α:Type}{xs:List α}{i:Nat}(h:i<xs.length):∃y,xs[i]? =some y:=⟨_,Aj h⟩
/-- cells met one element behind the other are a readable row -/
theorem TP{α:Type}{m:Nat}{f:α→List Value}(hm:0<m)(hf:∀x,(f x).length=m){a:Addr}{len cap:Nat}(hl:len≤cap)(hc:cap≤maxLen)(E:Nat→α)(hE:∀i,i<len→w.cells? 0 (a.add (i*m)) m=some (f (E i))):
  BI m f (.slice (some a) ((List.range len).map E).length cap) ((List.range len).map E) w:=by
 have hlen:((List.range len).map E).length=len:=by simp
 refine⟨by omega,some a,cap,rfl,by omega,hc,fun hne=>?_⟩
 have h0:0<len:=by
  rcases Nat.eq_zero_or_pos len with h|h
  ·subst h;exact absurd rfl hne
  ·exact h
 obtain⟨g,o,sp⟩:=a
 have hc0:=(World.cells?_some (hE 0 h0)).2.2 0 hm
 have hsp:sp=none:=by simpa[Addr.add]using World.cell?_spot (hc0.trans (Aj (by rw[hf];exact hm)))
 subst hsp
 have hadd:∀j,(⟨g,o,none⟩:Addr).add j=⟨g,o+j,none⟩:=fun j=>Go.WideShapes.add_plain g o j
 refine⟨g,o,rfl,?_,fun k hk r hr=>?_⟩
 ·have hbl:=World.block_lt_of_cell? _ _ (hc0.trans (Aj (by rw[hf];exact hm)))
  rw[Deep.add_add,hadd]at hbl
  exact hbl
 ·rw[hlen]at hk
  have hcell:=(World.cells?_some (hE k hk)).2.2 r hr
  rw[Deep.add_add,hadd]at hcell
  rw[Nat.add_assoc,hcell]
  simp
theorem JG{n:Nat}{cs:List Value}{y:DataW H×List MemPlace}(h:DataW.trod enc Tryz.prog w 0 (fun _=>true) held n 3 cs=some y):∃z,cs=[.int .i64 z]:=by
 obtain⟨z,h1,_,h3⟩:=DataW.trod_int Tryz.underlying3 h
 exact⟨z,h1⟩
theorem OB{n:Nat}{cs:List Value}{y:DataW H×List MemPlace}(h:DataW.trod enc Tryz.prog w 0 (fun _=>true) held n 24 cs=some y):∃i:Off.Bid,cs=[.int .i64 i.R,.int .i64 i.N]:=by
 obtain⟨xs,m,_,_,hl,hx,hf⟩:=DataW.trod_struct Tryz.underlying24 h
 have hc:Tryz.prog.cellsOf 24=2:=by kernel_rfl
 have c1:Tryz.prog.cellsOf 3=1:=by kernel_rfl
 rw[hc]at hl
 match cs,hl with
 |[u0,u1],_=>
  obtain⟨y0,e0⟩:=Dq (xs:=xs) (i:=0) (by rw[hx];decide)
  obtain⟨y1,e1⟩:=Dq (xs:=xs) (i:=1) (by rw[hx];decide)
  have f0:DataW.trod enc Tryz.prog w 0 (fun _=>true) held m 3 (([u0,u1].drop 0).take (Tryz.prog.cellsOf 3))=xs[0]? :=hf 0 _ rfl
  rw[c1,e0]at f0
  have f1:DataW.trod enc Tryz.prog w 0 (fun _=>true) held m 3 (([u0,u1].drop 1).take (Tryz.prog.cellsOf 3))=xs[1]? :=hf 1 _ rfl
  rw[c1,e1]at f1
  obtain⟨a,ha⟩:=JG f0
  obtain⟨b,hb⟩:=JG f1
  simp at ha hb
  subst ha hb
  exact⟨⟨a,b⟩,rfl⟩
theorem VI{n:Nat}{cs:List Value}{y:DataW H×List MemPlace}(h:DataW.trod enc Tryz.prog w 0 (fun _=>true) held n 26 cs=some y):∃i:Dc.Chr,cs=[.int .i64 i.op.R,.int .i64 i.op.N,.int .i64 i.i]:=by
 obtain⟨xs,m,_,_,hl,hx,hf⟩:=DataW.trod_struct Tryz.underlying26 h
 have hc:Tryz.prog.cellsOf 26=3:=by kernel_rfl
 have c1:Tryz.prog.cellsOf 3=1:=by kernel_rfl
 have c2:Tryz.prog.cellsOf 24=2:=by kernel_rfl
 rw[hc]at hl
 match cs,hl with
 |[u0,u1,u2],_=>
  obtain⟨y0,e0⟩:=Dq (xs:=xs) (i:=0) (by rw[hx];decide)
  obtain⟨y1,e1⟩:=Dq (xs:=xs) (i:=1) (by rw[hx];decide)
  have f0:DataW.trod enc Tryz.prog w 0 (fun _=>true) held m 24 (([u0,u1,u2].drop 0).take (Tryz.prog.cellsOf 24))=xs[0]? :=hf 0 _ rfl
  rw[c2,e0]at f0
  have f1:DataW.trod enc Tryz.prog w 0 (fun _=>true) held m 3 (([u0,u1,u2].drop 2).take (Tryz.prog.cellsOf 3))=xs[1]? :=hf 1 _ rfl
  rw[c1,e1]at f1
  obtain⟨a,ha⟩:=OB f0
  obtain⟨b,hb⟩:=JG f1
  simp at ha hb
  obtain⟨h1,h2⟩:=ha
  subst h1 h2 hb
  exact⟨⟨a,b⟩,rfl⟩
theorem WZ{n:Nat}{cs:List Value}{y:DataW H×List MemPlace}(h:DataW.trod enc Tryz.prog w 0 (fun _=>true) held n 64 cs=some y):∃i:Dc.Cut,cs=AD i:=by
 obtain⟨xs,m,_,_,hl,hx,hf⟩:=DataW.trod_struct Tryz.underlying64 h
 have hc:Tryz.prog.cellsOf 64=4:=by kernel_rfl
 have c1:Tryz.prog.cellsOf 3=1:=by kernel_rfl
 have c2:Tryz.prog.cellsOf 24=2:=by kernel_rfl
 rw[hc]at hl
 match cs,hl with
 |[u0,u1,u2,u3],_=>
  obtain⟨y0,e0⟩:=Dq (xs:=xs) (i:=0) (by rw[hx];decide)
  obtain⟨y1,e1⟩:=Dq (xs:=xs) (i:=1) (by rw[hx];decide)
  obtain⟨y2,e2⟩:=Dq (xs:=xs) (i:=2) (by rw[hx];decide)
  have f0:DataW.trod enc Tryz.prog w 0 (fun _=>true) held m 24 (([u0,u1,u2,u3].drop 0).take (Tryz.prog.cellsOf 24))=xs[0]? :=hf 0 _ rfl
  rw[c2,e0]at f0
  have f1:DataW.trod enc Tryz.prog w 0 (fun _=>true) held m 3 (([u0,u1,u2,u3].drop 2).take (Tryz.prog.cellsOf 3))=xs[1]? :=hf 1 _ rfl
  rw[c1,e1]at f1
  have f2:DataW.trod enc Tryz.prog w 0 (fun _=>true) held m 3 (([u0,u1,u2,u3].drop 3).take (Tryz.prog.cellsOf 3))=xs[2]? :=hf 2 _ rfl
  rw[c1,e2]at f2
  obtain⟨a,ha⟩:=OB f0
  obtain⟨b,hb⟩:=JG f1
  obtain⟨c,hc⟩:=JG f2
  simp at ha hb hc
  obtain⟨h1,h2⟩:=ha
  subst h1 h2 hb hc
  exact⟨⟨a,b,c⟩,rfl⟩
theorem Ws{n:Nat}{u:Value}{y:DataW H×List MemPlace}(h:DataW.trod enc Tryz.prog w 0 (fun _=>true) held n 27 [u]=some y):
  ∃(l:List Dc.Cut) (a:Option Addr) (c:Nat),u= .slice a l.length c∧BI 4 AD (.slice a l.length c) l w∧∀M,(y.1.weights Tryz.prog 27).all (·≤M)=true→l.length*32≤M:=by
 have hce:Tryz.prog.cellsOf 64=4:=by kernel_rfl
 have hby:Tryz.prog.bytesOf 64=32:=by kernel_rfl
 rcases Deep.open_slice Tryz.underlying27 h with⟨h1,_⟩|⟨a,len,cap,m,n,D,Pl,h1,_,hl,hcm,hm,hy,hx⟩
 ·obtain rfl:u= .slice none 0 0:=by simpa using h1
  exact⟨[],none,0,rfl,⟨Ah _,none,0,rfl,Ac _,Ah _,fun e=>absurd rfl e⟩,fun M _=>by simp⟩
 ·obtain rfl:u= .slice (some a) len cap:=by simpa using h1
  have hle:len≤m:=by rw[hm];simpa using hl
  obtain⟨E,hE⟩:=Deep.choose_lt (α:=Dc.Cut) (n:=len) (p:=fun i e=>w.cells? 0 (a.add (i*4)) 4=some (AD e)) (fun i hi=>by
   obtain⟨cs',h2,h3⟩:=hx i (by omega)
   rw[hce]at h2
   obtain⟨e,rfl⟩:=WZ h3
   exact⟨e,h2⟩)
  have hlies:=TP (m:=4) (f:=AD) (by decide) (fun _=>rfl) hl hcm E hE
  have hlen:((List.range len).map E).length=len:=by simp
  refine⟨(List.range len).map E,some a,cap,by rw[hlen],hlies,fun M hM=>?_⟩
  rw[hy]at hM
  simp only[DataW.weights,Tryz.underlying27,List.all_cons,AN,Au,AM,List.length_range,hby]at hM
  rw[hlen]
  have h5:len*32≤(len+(m-len))*32:=Ho _ (by omega)
  omega
theorem WJ{n:Nat}{cs:List Value}{y:DataW H×List MemPlace}(h:DataW.trod enc Tryz.prog w 0 (fun _=>true) held n 29 cs=some y):
  ∃p:Dc.Op×Sl,cs=EN p∧BI 4 AD p.2.v p.1.cuts w∧∀M,(y.1.weights Tryz.prog 29).all (·≤M)=true→p.1.cuts.length*32≤M:=by
 obtain⟨xs,m,_,rfl,hl,hx,hf⟩:=DataW.trod_struct Tryz.underlying29 h
 have hc:Tryz.prog.cellsOf 29=20:=by kernel_rfl
 have c1:Tryz.prog.cellsOf 3=1:=by kernel_rfl
 have c2:Tryz.prog.cellsOf 24=2:=by kernel_rfl
 have c3:Tryz.prog.cellsOf 9=1:=by kernel_rfl
 have c4:Tryz.prog.cellsOf 4=1:=by kernel_rfl
 have c5:Tryz.prog.cellsOf 26=3:=by kernel_rfl
 have c6:Tryz.prog.cellsOf 27=1:=by kernel_rfl
 rw[hc]at hl
 match cs,hl with
 |[u0,u1,u2,u3,u4,u5,u6,u7,u8,u9,u10,u11,u12,u13,u14,u15,u16,u17,u18,u19],_=>
  obtain⟨y0,e0⟩:=Dq (xs:=xs) (i:=0) (by rw[hx];decide)
  obtain⟨y1,e1⟩:=Dq (xs:=xs) (i:=1) (by rw[hx];decide)
  obtain⟨y2,e2⟩:=Dq (xs:=xs) (i:=2) (by rw[hx];decide)
  obtain⟨y3,e3⟩:=Dq (xs:=xs) (i:=3) (by rw[hx];decide)
  obtain⟨y4,e4⟩:=Dq (xs:=xs) (i:=4) (by rw[hx];decide)
  obtain⟨y5,e5⟩:=Dq (xs:=xs) (i:=5) (by rw[hx];decide)
  obtain⟨y6,e6⟩:=Dq (xs:=xs) (i:=6) (by rw[hx];decide)
  obtain⟨y7,e7⟩:=Dq (xs:=xs) (i:=7) (by rw[hx];decide)
  obtain⟨y8,e8⟩:=Dq (xs:=xs) (i:=8) (by rw[hx];decide)
  obtain⟨y9,e9⟩:=Dq (xs:=xs) (i:=9) (by rw[hx];decide)
  obtain⟨y10,e10⟩:=Dq (xs:=xs) (i:=10) (by rw[hx];decide)
  obtain⟨y11,e11⟩:=Dq (xs:=xs) (i:=11) (by rw[hx];decide)
  have f0:DataW.trod enc Tryz.prog w 0 (fun _=>true) held m 3 (([u0,u1,u2,u3,u4,u5,u6,u7,u8,u9,u10,u11,u12,u13,u14,u15,u16,u17,u18,u19].drop 0).take (Tryz.prog.cellsOf 3))=xs[0]? :=hf 0 _ rfl
  rw[c1,e0]at f0
  have f1:DataW.trod enc Tryz.prog w 0 (fun _=>true) held m 24 (([u0,u1,u2,u3,u4,u5,u6,u7,u8,u9,u10,u11,u12,u13,u14,u15,u16,u17,u18,u19].drop 1).take (Tryz.prog.cellsOf 24))=xs[1]? :=hf 1 _ rfl
  rw[c2,e1]at f1
  have f2:DataW.trod enc Tryz.prog w 0 (fun _=>true) held m 3 (([u0,u1,u2,u3,u4,u5,u6,u7,u8,u9,u10,u11,u12,u13,u14,u15,u16,u17,u18,u19].drop 3).take (Tryz.prog.cellsOf 3))=xs[2]? :=hf 2 _ rfl
  rw[c1,e2]at f2
  have f3:DataW.trod enc Tryz.prog w 0 (fun _=>true) held m 24 (([u0,u1,u2,u3,u4,u5,u6,u7,u8,u9,u10,u11,u12,u13,u14,u15,u16,u17,u18,u19].drop 4).take (Tryz.prog.cellsOf 24))=xs[3]? :=hf 3 _ rfl
  rw[c2,e3]at f3
  have f4:DataW.trod enc Tryz.prog w 0 (fun _=>true) held m 24 (([u0,u1,u2,u3,u4,u5,u6,u7,u8,u9,u10,u11,u12,u13,u14,u15,u16,u17,u18,u19].drop 6).take (Tryz.prog.cellsOf 24))=xs[4]? :=hf 4 _ rfl
  rw[c2,e4]at f4
  have f5:DataW.trod enc Tryz.prog w 0 (fun _=>true) held m 9 (([u0,u1,u2,u3,u4,u5,u6,u7,u8,u9,u10,u11,u12,u13,u14,u15,u16,u17,u18,u19].drop 8).take (Tryz.prog.cellsOf 9))=xs[5]? :=hf 5 _ rfl
  rw[c3,e5]at f5
  have f6:DataW.trod enc Tryz.prog w 0 (fun _=>true) held m 24 (([u0,u1,u2,u3,u4,u5,u6,u7,u8,u9,u10,u11,u12,u13,u14,u15,u16,u17,u18,u19].drop 9).take (Tryz.prog.cellsOf 24))=xs[6]? :=hf 6 _ rfl
  rw[c2,e6]at f6
  have f7:DataW.trod enc Tryz.prog w 0 (fun _=>true) held m 26 (([u0,u1,u2,u3,u4,u5,u6,u7,u8,u9,u10,u11,u12,u13,u14,u15,u16,u17,u18,u19].drop 11).take (Tryz.prog.cellsOf 26))=xs[7]? :=hf 7 _ rfl
  rw[c5,e7]at f7
  have f8:DataW.trod enc Tryz.prog w 0 (fun _=>true) held m 26 (([u0,u1,u2,u3,u4,u5,u6,u7,u8,u9,u10,u11,u12,u13,u14,u15,u16,u17,u18,u19].drop 14).take (Tryz.prog.cellsOf 26))=xs[8]? :=hf 8 _ rfl
  rw[c5,e8]at f8
  have f9:DataW.trod enc Tryz.prog w 0 (fun _=>true) held m 9 (([u0,u1,u2,u3,u4,u5,u6,u7,u8,u9,u10,u11,u12,u13,u14,u15,u16,u17,u18,u19].drop 17).take (Tryz.prog.cellsOf 9))=xs[9]? :=hf 9 _ rfl
  rw[c3,e9]at f9
  have f10:DataW.trod enc Tryz.prog w 0 (fun _=>true) held m 27 (([u0,u1,u2,u3,u4,u5,u6,u7,u8,u9,u10,u11,u12,u13,u14,u15,u16,u17,u18,u19].drop 18).take (Tryz.prog.cellsOf 27))=xs[10]? :=hf 10 _ rfl
  rw[c6,e10]at f10
  have f11:DataW.trod enc Tryz.prog w 0 (fun _=>true) held m 4 (([u0,u1,u2,u3,u4,u5,u6,u7,u8,u9,u10,u11,u12,u13,u14,u15,u16,u17,u18,u19].drop 19).take (Tryz.prog.cellsOf 4))=xs[11]? :=hf 11 _ rfl
  rw[c4,e11]at f11
  obtain⟨a0,h0⟩:=JG f0
  obtain⟨a1,h1⟩:=OB f1
  obtain⟨a2,h2⟩:=JG f2
  obtain⟨a3,h3⟩:=OB f3
  obtain⟨a4,h4⟩:=OB f4
  obtain⟨s5,h5,_⟩:=DataW.trod_string Tryz.underlying9 f5
  obtain⟨a6,h6⟩:=OB f6
  obtain⟨a7,h7⟩:=VI f7
  obtain⟨a8,h8⟩:=VI f8
  obtain⟨s9,h9,_⟩:=DataW.trod_string Tryz.underlying9 f9
  obtain⟨l10,b10,d10,h10,hl10,hw10⟩:=Ws f10
  obtain⟨b11,h11,_⟩:=DataW.trod_bool Tryz.underlying4 f11
  simp at h0 h1 h2 h3 h4 h5 h6 h7 h8 h9 h10 h11
  obtain⟨g1,g1'⟩:=h1
  obtain⟨g3,g3'⟩:=h3
  obtain⟨g4,g4'⟩:=h4
  obtain⟨g6,g6'⟩:=h6
  obtain⟨g7,g7',g7''⟩:=h7
  obtain⟨g8,g8',g8''⟩:=h8
  subst h0 g1 g1' h2 g3 g3' g4 g4' h5 g6 g6' g7 g7' g7'' g8 g8' g8'' h9 h10 h11
  refine⟨(⟨a0,a1,a2,a3,a4,s5.data.toList,a6,a7,a8,s9.data.toList,l10,b11⟩,⟨b10,l10.length,d10⟩),by simp,hl10,fun M hM=>?_⟩
  refine hw10 M (B9.2 fun z hz=>?_)
  refine B9.1 hM z ?_
  have hS:Tryz.prog.underlying 29=some (.struct (Tryz.prog.fieldsOf 29)):=by kernel_rfl
  have hw:DataW.weights Tryz.prog 29 (DataW.agg (xs.map (·.1)))=DataW.weightsEach Tryz.prog ((Tryz.prog.fieldsOf 29).toList.map (·.type)) (xs.map (·.1)):=by
   rw[DataW.weights,hS]
  rw[hw]
  exact DataW.weights_mem_each (j:=10) (t:=27) Rx (by rw[Ei,e10];rfl) z hz
theorem Vt{v:Value}{d:DataW H}{p:List MemPlace}(hv:Value.okWide Tryz.prog w .any 0 22 v)(h:DataW.Trod enc Tryz.prog w 0 (fun _=>true) true 22 v d p)(hw:(d.weights Tryz.prog 22).all (·≤reachBytes)=true):
  ∃l:List Dc.Op,EI v l w∧LM (l.length+1) 192∧l.length+1≤maxLen:=by
 obtain⟨a0,n0,c0,rfl⟩:=okWide_slice Tryz.underlying22 hv
 obtain⟨fuel,hf⟩:=h
 have hce:Tryz.prog.cellsOf 29=20:=by kernel_rfl
 have hby:Tryz.prog.bytesOf 29=192:=by kernel_rfl
 rcases Deep.open_slice Tryz.underlying22 hf with⟨h1,_⟩|⟨a,len,cap,m,n,D,Pl,h1,_,hl,hcm,hm,hy,hx⟩
 ·have h1':Value.slice a0 n0 c0= .slice none 0 0:=by simpa[Value.cells]using h1
  obtain⟨rfl,rfl,rfl⟩:a0=none∧n0=0∧c0=0:=by simpa using h1'
  exact⟨[],⟨[],rfl,⟨Ah _,none,0,rfl,Ac _,Ah _,fun e=>absurd rfl e⟩,fun p hp=>by cases hp⟩,by unfold LM;decide,by unfold maxLen;decide⟩
 ·have h1':Value.slice a0 n0 c0= .slice (some a) len cap:=by simpa[Value.cells]using h1
  obtain⟨rfl,rfl,rfl⟩:a0=some a∧n0=len∧c0=cap:=by simpa using h1'
  have hle:n0≤m:=by rw[hm];simpa using hl
  have hd:d= .slice ((List.range n0).map D) ((List.range (m-n0)).map fun j=>D (n0+j)):=congrArg Prod.fst hy
  rw[hd]at hw
  have hw':=hw
  simp only[DataW.weights,Tryz.underlying22,List.all_cons,AN,Au,AM,List.length_range,hby,List.all_append]at hw'
  obtain⟨hw1,hw2,_⟩:=hw'
  have hsz:n0*192≤reachBytes:=AG (Ho _ (by omega)) hw1
  have hel:∀i,i<n0→((D i).weights Tryz.prog 29).all (·≤reachBytes)=true:=fun i hi=>by
   have hall:∀(l:List (DataW H)),(DataW.weightsAll Tryz.prog 29 l).all (·≤reachBytes)=true→∀x∈l,(x.weights Tryz.prog 29).all (·≤reachBytes)=true:=by
    intro l
    induction l with
    |nil=>intro _ x hx;cases hx
    |cons y l ih=>
     intro hh x hx
     rw[DataW.weightsAll,List.all_append,AN]at hh
     rcases A7.1 hx with rfl|hx
     ·exact hh.1
     ·exact ih hh.2 x hx
   exact hall _ hw2 (D i) (A5.2 ⟨i,by simpa using hi,rfl⟩)
  obtain⟨E,hE⟩:=Deep.choose_lt (α:=Dc.Op×Sl) (n:=n0) (p:=fun i e=>w.cells? 0 (a.add (i*20)) 20=some (EN e)∧BI 4 AD e.2.v e.1.cuts w∧LM e.1.cuts.length 32) (fun i hi=>by
   obtain⟨cs',h2,h3⟩:=hx i (by omega)
   rw[hce]at h2
   obtain⟨e,rfl,he,hwe⟩:=WJ h3
   have:=hwe reachBytes (hel i hi)
   exact⟨e,h2,he,by unfold LM;unfold reachBytes at this;omega⟩)
  have hlies:=TP (m:=20) (f:=EN) (by decide) (fun _=>rfl) hl hcm E (fun i hi=>(hE i hi).1)
  have hlen:((List.range n0).map E).length=n0:=by simp
  rw[hlen]at hlies
  unfold reachBytes at hsz
  refine⟨((List.range n0).map E).map (·.1),⟨(List.range n0).map E,rfl,hlies,fun p hp=>?_⟩,?_,?_⟩
  ·obtain⟨i,hi,rfl⟩:=A5.1 hp
   exact(hE i (by simpa using hi)).2
  ·unfold LM;rw[AM,hlen];omega
  ·rw[AM,hlen];unfold maxLen;omega
theorem Xe{v:Value}{d:DataW H}{p:List MemPlace}(hv:Value.okWide Tryz.prog w .any 0 29 v)(h:DataW.Trod enc Tryz.prog w 0 (fun _=>true) true 29 v d p):
  ∃(o:Dc.Op) (cv:Value),v=opV o cv∧BI 4 AD cv o.cuts w:=by
 obtain⟨fuel,hf⟩:=h
 obtain⟨⟨o,sl⟩,hc,hl,_⟩:=WJ hf
 refine⟨o,sl.v,?_,hl⟩
 have hu:Tryz.prog.underlying 29=some (.struct (Tryz.prog.fieldsOf 29)):=by kernel_rfl
 unfold Value.okWide at hv
 rw[hu]at hv
 simp only at hv
 obtain⟨cs,rfl,_,_⟩:=hv
 have:cs=As o sl.v:=by simpa[Value.cells]using hc
 rw[this]
end
end
section
open Go.ChangeShapes Go.WideShapes Go.ChangeAt Go.RowKit
theorem own:ownKnob Tryz.prog.godebug=none:=by kernel_rfl
theorem MB{H:Type}{enc:TypeId×Value→H}{a:Assume}{C:Checked}{os:Os}{f:FuncId}{fn:Func}{s:ChangeSpec}{conds:List PathCond}{apart fresh handsOn again:Bool}{X:World→Array Value→Prop}
  (hX:∀(w w':World) (args:Array Value),w.heap=w'.heap→X w args→X w' args)
  (own:ownKnob C.prog.godebug=none)(started:os.Started)(noInit:C.prog.inits.idxOf? f=none)(hfn:C.prog.funcs[f]? =some fn)
  (witness:∃(w:World) (tape:Tape) (i:Input),w.os=os∧(w.forCall tape i).Shaped C.prog∧i.vars=[]∧Input.okWide C.prog (w.forCall tape i) .any w.heap.size f i∧
   ((s.pre enc C.prog fn conds apart (w.forCall tape i).memory i.args∧X (w.forCall tape i).memory i.args)∧sizedMet enc C.prog fn (OpenSpec.ofChange s) apart (w.forCall tape i).memory i.args)∧a.holds C.prog (lone (Frame.enter C.prog f i.args .normal) [] (w.forCall tape i)))
  (contract:∀(W:World) (base:Nat) (args:Array Value) (ds gs:List (DataW H)) (before:List MemPlace),
   (∀(j:Nat) t v,fn.params[j]? =some t→args[j]? =some v→Value.okWide C.prog W .any base t v)→
   DataW.Whole enc C.prog fn.params.toList s.vars apart W args.toList ds gs before→
   conds.all (PathCond.test C.prog ⟨fn.params.toList,ds,s.plain.varTypes C.prog,gs⟩)=true→
   (DataW.weightsEach C.prog (fn.params.toList++s.plain.varTypes C.prog) (ds++gs)).all (·≤reachBytes)=true→X W args→W.ShapedOpen C.prog→
   Calls C.prog f args W fun e W'=>∃v,e= .returned v∧s.post enc C.prog fn apart fresh handsOn again W args v W'):
  ReturnsInHanded a C os f .any (fun w args=>(s.pre enc C.prog fn conds apart w args∧X w args)∧sizedMet enc C.prog fn (OpenSpec.ofChange s) apart w args) (s.post enc C.prog fn apart fresh handsOn again):=by
 refine returnsInHanded_of_calls own started noInit witness ?_
 intro w tape i _ hsh _ hok hpre hholds
 obtain⟨_,_,_,fn',hfn',_,_,_,_,hval⟩:=hok
 have e:fn'=fn:=Ap (hfn'.symm.trans hfn)
 subst e
 obtain⟨⟨⟨ds,gs,before,hw,hc⟩,hx⟩,hz⟩:=hpre
 have hw':=DataW.Whole.of_heap (w':=w.forCall tape i) (by rfl) hw
 refine(contract (w.forCall tape i) w.heap.size i.args ds gs before hval hw' hc (hz.weights hw) (hX _ _ _ (by rfl) hx) hsh).mono fun e W' ⟨v,he,hp⟩=>?_
 subst he
 exact ChangeSpec.post_blind hp
theorem Qo{H:Type}{enc:TypeId×Value→H}{w:World}{base:Nat}{sp:Nat→Bool}{held:Bool}{fuel:Nat}{cs:List Value}{p:List MemPlace}
  (hId:∀(n:Nat) (cs:List Value) (p:List MemPlace),DataW.trod enc Tryz.prog w base sp held n 24 cs=some (.agg ([0,0].map fun z=> .lit (.int .i64 z)),p)→cs=[0,0].map fun z=>Value.int .i64 z)
  (h:DataW.trod enc Tryz.prog w base sp held fuel 26 cs=some (.agg [.agg [.lit (.int .i64 0),.lit (.int .i64 0)],.lit (.int .i64 0)],p)):cs=[0,0,0].map fun z=>Value.int .i64 z:=by
 obtain⟨xs,m,_,hx0,hl,hx,hf⟩:=DataW.trod_struct Tryz.underlying26 h
 have hc:Tryz.prog.cellsOf 26=3:=by kernel_rfl
 have c1:Tryz.prog.cellsOf 3=1:=by kernel_rfl
 have c2:Tryz.prog.cellsOf 24=2:=by kernel_rfl
 have hxs:[DataW.agg [.lit (.int .i64 0),.lit (.int .i64 0)],.lit (.int .i64 0)]=xs.map (·.1):=by
  have:=congrArg Prod.fst hx0
  simpa using this
 rw[hc]at hl
 match xs,hxs with
 |[(x0,q0),(x1,q1)],hxs=>
  simp only[Cd,N5,List.cons.injEq,DX]at hxs
  obtain⟨rfl,rfl⟩:=hxs
  match cs,hl with
  |[u0,u1,u2],_=>
   have f0:DataW.trod enc Tryz.prog w base sp held m 24 (([u0,u1,u2].drop 0).take (Tryz.prog.cellsOf 24))=some (.agg [.lit (.int .i64 0),.lit (.int .i64 0)],q0):=hf 0 _ rfl
   rw[c2]at f0
   have f1:DataW.trod enc Tryz.prog w base sp held m 3 (([u0,u1,u2].drop 2).take (Tryz.prog.cellsOf 3))=some (.lit (.int .i64 0),q1):=hf 1 _ rfl
   rw[c1]at f1
   have g0:=hId _ _ _ f0
   obtain⟨z,g1,g2,_⟩:=DataW.trod_int Tryz.underlying3 f1
   simp at g0 g1 g2
   obtain⟨rfl,rfl⟩:=g0
   obtain⟨rfl,_⟩:=g2
   subst g1
   rfl
theorem Rk{l:List (String×DataW Unit)}{W:World}(hL:laidMet Tryz.prog l W)
  (mr:("offshoot/api.Root",Rows.laid_offshoot_api_Root)∈l)(mt:("offshoot/api.Trash",Rows.laid_offshoot_api_Trash)∈l)(ms:("offshoot/yata.start",Rows.laid_offshoot_yata_start)∈l)(h4:4≤W.heap.size):Env W:=by
 have g0:Tryz.prog.globalNamed "offshoot/api.Root" =some 0:=by kernel_rfl
 have g1:Tryz.prog.globalNamed "offshoot/api.Trash" =some 1:=by kernel_rfl
 have g2:Tryz.prog.globalNamed "offshoot/yata.start" =some 2:=by kernel_rfl
 obtain⟨_,t0,cs0,f0,p0,e0,ht0,hv0,hd0⟩:=Lib.laidMet.reads hL mr
 obtain rfl:=Ap (g0.symm.trans e0)
 obtain⟨_,t1,cs1,f1,p1,e1,ht1,hv1,hd1⟩:=Lib.laidMet.reads hL mt
 obtain rfl:=Ap (g1.symm.trans e1)
 obtain⟨_,t2,cs2,f2,p2,e2,ht2,hv2,hd2⟩:=Lib.laidMet.reads hL ms
 obtain rfl:=Ap (g2.symm.trans e2)
 obtain rfl:=Ap ((show(Tryz.prog.globals[0]?).map (·.type)=some 24 by kernel_rfl).symm.trans ht0)
 obtain rfl:=Ap ((show(Tryz.prog.globals[1]?).map (·.type)=some 24 by kernel_rfl).symm.trans ht1)
 obtain rfl:=Ap ((show(Tryz.prog.globals[2]?).map (·.type)=some 26 by kernel_rfl).symm.trans ht2)
 have fields:∀(i:Nat) (f:Field),(Tryz.prog.fieldsOf 24)[i]? =some f→Tryz.prog.underlying f.type=some (.int .i64)∧f.offset=i∧Tryz.prog.cellsOf f.type=1:=by
  intro i f hf
  simp only[Program.fieldsOf,Tryz.underlying24]at hf
  match i,hf with
  |0,hf=>simp at hf;subst hf;exact⟨Tryz.underlying3,rfl,by kernel_rfl⟩
  |1,hf=>simp at hf;subst hf;exact⟨Tryz.underlying3,rfl,by kernel_rfl⟩
  |n+2,hf=>simp at hf
 have hS:Tryz.prog.underlying 24=some (.struct (Tryz.prog.fieldsOf 24)):=by kernel_rfl
 have hC:Tryz.prog.cellsOf 24=(Tryz.prog.fieldsOf 24).size:=by kernel_rfl
 have r0:cs0.toList=[0,0].map fun z=>Value.int .i64 z:=Lib.ints_of_struct hS fields hC hd0
 have r1:cs1.toList=[1,0].map fun z=>Value.int .i64 z:=Lib.ints_of_struct hS fields hC hd1
 have k0:∀i,W.cell? ⟨0,i,none⟩=cs0[i]? :=fun i=>World.var?_cell g0 hv0 i
 have k1:∀i,W.cell? ⟨1,i,none⟩=cs1[i]? :=fun i=>World.var?_cell g1 hv1 i
 have k2:∀i,W.cell? ⟨2,i,none⟩=cs2[i]? :=fun i=>World.var?_cell g2 hv2 i
 have r2:cs2.toList=[0,0,0].map fun z=>Value.int .i64 z:=Qo (fun n cs p h=>Lib.ints_of_struct hS fields hC h) hd2
 refine⟨h4,?_,?_,?_,?_,?_,?_,?_⟩
 ·rw[k0,←Aw,r0];rfl
 ·rw[k0,←Aw,r0];rfl
 ·rw[k1,←Aw,r1];rfl
 ·rw[k1,←Aw,r1];rfl
 ·rw[k2,←Aw,r2];rfl
 ·rw[k2,←Aw,r2];rfl
 ·rw[k2,←Aw,r2];rfl
end
end Go.Proofs.YthfjefcljeamgaaGreatDoor
