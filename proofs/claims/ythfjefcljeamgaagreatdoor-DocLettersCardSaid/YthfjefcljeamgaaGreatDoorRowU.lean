/- DocLetters: the row. -/
import Derived.Test.YthfjefcljeamgaaGreatDoorLwH
import Derived.Test.YthfjefcljeamgaaGreatDoorDEnvOf
import Derived.Test.YthfjefcljeamgaaGreatDoorTie
import Derived.Test.YthfjefcljeamgaaGreatDoorCards
import Derived.LaidOnce
import Derived.SevenTiedAt
namespace Go.Proofs.YthfjefcljeamgaaGreatDoor
set_option maxRecDepth 100000
set_option maxHeartbeats 4000000
open Go.ChangeShapes Go.WideShapes Go.ChangeAt Go.RowKit
theorem Ta{W:World}(hsh:W.ShapedOpen Tryz.prog):4≤W.heap.size:=by
 obtain⟨m,hm⟩:=cell_of_shapedOpen_int (P:=Tryz.prog) (g:=3) (t:=3) (zero:= #[.int .i64 0]) hsh (JK Rx) Rx rfl Rx Rx Tryz.underlying3
 exact World.block_lt_of_cell? _ _ hm
theorem MP(os:Os)(started:os.Started)(H:Type)(enc:TypeId×Value→H):
  ReturnsInHanded {} Tryz.checked os 6 .any
   (fun w args=>(Rows.docLettersSpec.pre enc Tryz.prog Tryz.f6 [] false w args∧laidMetH Tryz.prog Rows.docLettersRow.laid w)∧sizedMet enc Tryz.prog Tryz.f6 (OpenSpec.ofChange Rows.docLettersSpec) false w args)
   (Rows.docLettersSpec.post enc Tryz.prog Tryz.f6 false true false false):=by
 refine MB (C:=Tryz.checked) (X:=fun w _=>laidMetH Tryz.prog Rows.docLettersRow.laid w) (fun _ _ _ hh h=>h.of_heap hh) own started Rx Tryz.func6
  (ChangeSpec.witness_shaped (enc:=enc) (C:=Tryz.checked) (os:=os) (X:=fun w _=>laidMetH Tryz.prog Rows.docLettersRow.laid w) false (World.laidAll Tryz.prog os Rows.docLettersRow.laid) #[.slice none 0 0] 8 (World.laidAll_os _ _ _)
   (World.shaped_of_ZipB Rx Rx) Rx Rx Rx
   (by rw[MakeChecks.laidMetH_plain _ _ _ Rx];exact laidMet_laidAll _ Rx Rx)) ?_
 intro W base args ds gs before hval0 hW _ hsz hL hsh
 have hval:∀(j:Nat) t v,Tryz.f6.params[j]? =some t→args[j]? =some v→Value.okWide Tryz.prog W .any base t v:=hval0
 have hW':=hW
 obtain⟨p,q,hA0,hV,rfl,_,_⟩:=hW
 have hA:DataW.TrodAll enc Tryz.prog W 0 (fun _=>true) true Tryz.f6.params.toList args.toList ds p:=hA0
 rw[Tryz.params6]at hA hval hsz
 obtain⟨v0,d0,rfl,rfl,h0⟩:=trodAll_one hA
 obtain⟨rfl,rfl⟩:=trodVars_none hV
 have hsz0:(d0.weights Tryz.prog 22).all (·≤reachBytes)=true:=by
  refine B9.2 fun z hz=>B9.1 hsz z ?_
  exact DataW.weights_mem_each (j:=0) (t:=22) rfl rfl z hz
 obtain⟨l,hl,hfit,h63⟩:=Vt (hval 0 22 v0 rfl rfl) h0 hsz0
 clear hA0 hval0
 rw[MakeChecks.laidMetH_plain _ _ _ Rx]at hL
 have hE:Env W:=Rk hL (by simp[Rows.docLettersRow]) (by simp[Rows.docLettersRow]) (by simp[Rows.docLettersRow]) (Ta hsh)
 have hwalk:=QR v0 l W hE hl
 refine hwalk.mono fun e W' ⟨he,hk⟩=>?_
 subst he
 have hb:Below W.heap.size W W':=hk.below (Ac _) fun _ e=>e.elim
 have hT0:DataW.Trod enc Tryz.prog W' 0 (fun b=>decide (b<W.heap.size)) true 22 v0 d0 p:=Below.trod Wg Rx (JK Rx) h0 hb fun x hx=>hW'.lt x (by simpa using hx)
 exact⟨_,rfl,_,_,_,[],p,[],hW',trodAll_mk1 (shut_bool Tryz.underlying4 _),trodAll_mk1 hT0,rfl,hb.frame _,fun h=>by cases h⟩
end Go.Proofs.YthfjefcljeamgaaGreatDoor
