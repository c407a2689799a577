/- joined: A slice of numbers that came in, opened. DocOrders: the row. -/
import Derived.Test.YthfjefcljeamgaaGreatDoorDEnvOf
import Derived.Test.YthfjefcljeamgaaGreatDoorLwP
import Derived.Test.YthfjefcljeamgaaGreatDoorTie
import Derived.Test.YthfjefcljeamgaaGreatDoorCards
import Derived.LaidOnce
import Derived.SevenTiedAt
namespace Go.Proofs.YthfjefcljeamgaaGreatDoor
set_option maxRecDepth 100000
set_option maxHeartbeats 8000000
section
open Go.ChangeShapes Go.WideShapes Go.RowKit
theorem Z7{H:Type}{enc:TypeId×Value→H}{w:World}{v:Value}{d:DataW H}{p:List MemPlace}(hv:Value.okWide Tryz.prog w .any 0 51 v)(h:DataW.Trod enc Tryz.prog w 0 (fun _=>true) true 51 v d p):
  ∃l:List Int,BI 1 Zy v l w:=by
 obtain⟨a0,n0,c0,rfl⟩:=okWide_slice Tryz.underlying51 hv
 obtain⟨fuel,hf⟩:=h
 have hce:Tryz.prog.cellsOf 3=1:=by kernel_rfl
 rcases Deep.open_slice Tryz.underlying51 hf with⟨h1,_⟩|⟨a,len,cap,m,n,D,Pl,h1,_,hl,hcm,hm,hy,hx⟩
 ·have h1':Value.slice a0 n0 c0= .slice none 0 0:=by simpa[Value.cells]using h1
  obtain⟨rfl,rfl,rfl⟩:a0=none∧n0=0∧c0=0:=by simpa using h1'
  exact⟨[],Ah _,none,0,rfl,Ac _,Ah _,fun e=>absurd rfl e⟩
 ·have h1':Value.slice a0 n0 c0= .slice (some a) len cap:=by simpa[Value.cells]using h1
  obtain⟨rfl,rfl,rfl⟩:a0=some a∧n0=len∧c0=cap:=by simpa using h1'
  have hle:n0≤m:=by rw[hm];simpa using hl
  obtain⟨E,hE⟩:=Deep.choose_lt (α:=Int) (n:=n0) (p:=fun i e=>w.cells? 0 (a.add (i*1)) 1=some (Zy e)) (fun i hi=>by
   obtain⟨cs',h2,h3⟩:=hx i (by omega)
   rw[hce]at h2
   obtain⟨e,rfl⟩:=JG h3
   exact⟨e,h2⟩)
  have hlies:=TP (m:=1) (f:=Zy) (by decide) (fun _=>rfl) hl hcm E hE
  have hlen:((List.range n0).map E).length=n0:=by simp
  rw[hlen]at hlies
  exact⟨_,hlies⟩
end
section
open Go.ChangeShapes Go.WideShapes Go.ChangeAt Go.RowKit
theorem Z6{W:World}(hsh:W.ShapedOpen Tryz.prog):4≤W.heap.size:=by
 obtain⟨m,hm⟩:=cell_of_shapedOpen_int (P:=Tryz.prog) (g:=3) (t:=3) (zero:= #[.int .i64 0]) hsh (JK Rx) Rx rfl Rx Rx Tryz.underlying3
 exact World.block_lt_of_cell? _ _ hm
theorem Z3(os:Os)(started:os.Started)(H:Type)(enc:TypeId×Value→H):
  ReturnsInHanded {} Tryz.checked os 5 .any
   (fun w args=>(Rows.docOrdersSpec.pre enc Tryz.prog Tryz.f5 [] false w args∧laidMetH Tryz.prog Rows.docOrdersRow.laid w)∧sizedMet enc Tryz.prog Tryz.f5 (OpenSpec.ofChange Rows.docOrdersSpec) false w args)
   (Rows.docOrdersSpec.post enc Tryz.prog Tryz.f5 false true false false):=by
 refine MB (C:=Tryz.checked) (X:=fun w _=>laidMetH Tryz.prog Rows.docOrdersRow.laid w) (fun _ _ _ hh h=>h.of_heap hh) own started Rx Tryz.func5
  (ChangeSpec.witness_shaped (enc:=enc) (C:=Tryz.checked) (os:=os) (X:=fun w _=>laidMetH Tryz.prog Rows.docOrdersRow.laid w) false (World.laidAll Tryz.prog os Rows.docOrdersRow.laid) #[.slice none 0 0,.slice none 0 0] 8 (World.laidAll_os _ _ _)
   (World.shaped_of_ZipB Rx Rx) Rx Rx Rx
   (by rw[MakeChecks.laidMetH_plain _ _ _ Rx];exact laidMet_laidAll _ Rx Rx)) ?_
 intro W base args ds gs before hval0 hW _ hsz hL hsh
 have hval:∀(j:Nat) t v,Tryz.f5.params[j]? =some t→args[j]? =some v→Value.okWide Tryz.prog W .any base t v:=hval0
 have hW':=hW
 obtain⟨p,q,hA0,hV,rfl,_,_⟩:=hW
 have hA:DataW.TrodAll enc Tryz.prog W 0 (fun _=>true) true Tryz.f5.params.toList args.toList ds p:=hA0
 rw[Tryz.params5]at hA hval hsz
 obtain⟨v0,v1,d0,d1,p0,p1,rfl,rfl,rfl,h0,h1⟩:=trodAll_two hA
 obtain⟨rfl,rfl⟩:=trodVars_none hV
 have hsz0:(d0.weights Tryz.prog 22).all (·≤reachBytes)=true:=by
  refine B9.2 fun z hz=>B9.1 hsz z ?_
  exact DataW.weights_mem_each (j:=0) (t:=22) rfl rfl z hz
 obtain⟨l,hl,hfit,h63⟩:=Vt (hval 0 22 v0 rfl rfl) h0 hsz0
 obtain⟨ts,hts⟩:=Z7 (hval 1 51 v1 rfl rfl) h1
 clear hA0 hval0
 rw[MakeChecks.laidMetH_plain _ _ _ Rx]at hL
 have hE:Env W:=Rk hL (by simp[Rows.docOrdersRow]) (by simp[Rows.docOrdersRow]) (by simp[Rows.docOrdersRow]) (Z6 hsh)
 have hwalk:=ZG v0 l v1 ts W hE hl hts
 have hlt:∀x∈p0++p1,x.block<W.heap.size:=fun x hx=>hW'.lt x (by simpa using hx)
 refine hwalk.mono fun e W' ⟨he,hk⟩=>?_
 subst he
 have hb:Below W.heap.size W W':=hk.below (Ac _) fun _ e=>e.elim
 have hT0:DataW.Trod enc Tryz.prog W' 0 (fun b=>decide (b<W.heap.size)) true 22 v0 d0 p0:=Below.trod Wg Rx (JK Rx) h0 hb fun x hx=>hlt x (AC.2 (.inl hx))
 have hT1:DataW.Trod enc Tryz.prog W' 0 (fun b=>decide (b<W.heap.size)) true 51 v1 d1 p1:=Below.trod Wg Rx (JK Rx) h1 hb fun x hx=>hlt x (AC.2 (.inr hx))
 have hT:=trodAll_mk2 hT0 hT1
 refine⟨_,rfl,_,_,_,[],p0++p1,[],hW',trodAll_mk1 (shut_bool Tryz.underlying4 _),?_,rfl,hb.frame _,fun h=>by cases h⟩
 exact hT
end
end Go.Proofs.YthfjefcljeamgaaGreatDoor
