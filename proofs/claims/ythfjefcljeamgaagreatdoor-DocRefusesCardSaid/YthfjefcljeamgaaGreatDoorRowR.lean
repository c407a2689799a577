/- DocRefuses: the row. -/
import Derived.Test.YthfjefcljeamgaaGreatDoorDEnvOf
import Derived.Test.YthfjefcljeamgaaGreatDoorTie
import Derived.Test.YthfjefcljeamgaaGreatDoorCards
import Derived.LaidOnce
import Derived.SevenTiedAt
namespace Go.Proofs.YthfjefcljeamgaaGreatDoor
set_option maxRecDepth 100000
set_option maxHeartbeats 4000000
open Go.ChangeShapes Go.WideShapes Go.ChangeAt Go.RowKit
theorem bP{W:World}(hsh:W.ShapedOpen Tryz.prog):4≤W.heap.size:=by
 obtain⟨m,hm⟩:=cell_of_shapedOpen_int (P:=Tryz.prog) (g:=3) (t:=3) (zero:= #[.int .i64 0]) hsh (JK Rx) Rx rfl Rx Rx Tryz.underlying3
 exact World.block_lt_of_cell? _ _ hm
theorem aY(os:Os)(started:os.Started)(H:Type)(enc:TypeId×Value→H):
  ReturnsInHanded {} Tryz.checked os 3 .any
   (fun w args=>(Rows.docRefusesSpec.pre enc Tryz.prog Tryz.f3 [] false w args∧laidMetH Tryz.prog Rows.docRefusesRow.laid w)∧sizedMet enc Tryz.prog Tryz.f3 (OpenSpec.ofChange Rows.docRefusesSpec) false w args)
   (Rows.docRefusesSpec.post enc Tryz.prog Tryz.f3 false true false false):=by
 refine MB (C:=Tryz.checked) (X:=fun w _=>laidMetH Tryz.prog Rows.docRefusesRow.laid w) (fun _ _ _ hh h=>h.of_heap hh) own started Rx Tryz.func3
  (ChangeSpec.witness_shaped (enc:=enc) (C:=Tryz.checked) (os:=os) (X:=fun w _=>laidMetH Tryz.prog Rows.docRefusesRow.laid w) false (World.laidAll Tryz.prog os Rows.docRefusesRow.laid) #[.slice none 0 0,.agg Be] 8 (World.laidAll_os _ _ _)
   (World.shaped_of_ZipB Rx Rx) Rx Rx Rx
   (by rw[MakeChecks.laidMetH_plain _ _ _ Rx];exact laidMet_laidAll _ Rx Rx)) ?_
 intro W base args ds gs before hval0 hW _ hsz hL hsh
 have hval:∀(j:Nat) t v,Tryz.f3.params[j]? =some t→args[j]? =some v→Value.okWide Tryz.prog W .any base t v:=hval0
 have hW':=hW
 obtain⟨p,q,hA0,hV,rfl,_,_⟩:=hW
 have hA:DataW.TrodAll enc Tryz.prog W 0 (fun _=>true) true Tryz.f3.params.toList args.toList ds p:=hA0
 rw[Tryz.params3]at hA hval hsz
 obtain⟨v0,v1,d0,d1,p0,p1,rfl,rfl,rfl,h0,h1⟩:=trodAll_two hA
 obtain⟨rfl,rfl⟩:=trodVars_none hV
 have hsz0:(d0.weights Tryz.prog 22).all (·≤reachBytes)=true:=by
  refine B9.2 fun z hz=>B9.1 hsz z ?_
  exact DataW.weights_mem_each (j:=0) (t:=22) rfl rfl z hz
 obtain⟨l,hl,hfit,h63⟩:=Vt (hval 0 22 v0 rfl rfl) h0 hsz0
 obtain⟨o,cv,rfl,hcv⟩:=Xe (hval 1 29 v1 rfl rfl) h1
 clear hA0 hval0
 rw[MakeChecks.laidMetH_plain _ _ _ Rx]at hL
 have hE:Env W:=Rk hL (by simp[Rows.docRefusesRow]) (by simp[Rows.docRefusesRow]) (by simp[Rows.docRefusesRow]) (bP hsh)
 have hwalk:=bE v0 l o cv W hE hl hfit h63 hcv
 have hlt:∀x∈p0++p1,x.block<W.heap.size:=fun x hx=>hW'.lt x (by simpa using hx)
 refine hwalk.mono fun e W' ⟨he,hk⟩=>?_
 subst he
 have hb:Below W.heap.size W W':=hk.below (Ac _) fun _ e=>e.elim
 have hT0:DataW.Trod enc Tryz.prog W' 0 (fun b=>decide (b<W.heap.size)) true 22 v0 d0 p0:=Below.trod Wg Rx (JK Rx) h0 hb fun x hx=>hlt x (AC.2 (.inl hx))
 have hT1:DataW.Trod enc Tryz.prog W' 0 (fun b=>decide (b<W.heap.size)) true 29 (opV o cv) d1 p1:=Below.trod Wg Rx (JK Rx) h1 hb fun x hx=>hlt x (AC.2 (.inr hx))
 have hT:=trodAll_mk2 hT0 hT1
 refine⟨_,rfl,_,_,_,[],p0++p1,[],hW',trodAll_mk1 (shut_bool Tryz.underlying4 _),?_,rfl,hb.frame _,fun h=>by cases h⟩
 exact hT
end Go.Proofs.YthfjefcljeamgaaGreatDoor
