/- Every call of DocOrders returns true: in whatever order ops are done, each behind those that it hangs on, documents come to the same; the ops and the numbers read afterwards as they read before. The listed package-level variables hold at the call what the program's text lays (the card ties that). -/
import Derived.Test.YthfjefcljeamgaaGreatDoorRowV
namespace Go.Proofs.YthfjefcljeamgaaGreatDoor
set_option maxRecDepth 100000
set_option maxHeartbeats 8000000
section
open Go.ChangeShapes Go.WideShapes Go.ChangeAt Go.RowKit
theorem ZZ{a b:Bool}(h1:a=true)(h2:b=true):(a&&b)=true:=by rw[h1,h2];rfl
theorem Z4:joinedFacts Tryz.prog 5 Tryz.f5 Rows.docOrdersSpec Rows.docOrdersRow=true:=by
 unfold joinedFacts
 refine(ZZ (ZZ (ZZ (ZZ (ZZ (ZZ (ZZ (ZZ (ZZ (ZZ (ZZ (ZZ (ZZ (ZZ (ZZ (ZZ (ZZ (ZZ (ZZ (ZZ (ZZ (ZZ (ZZ (ZZ (ZZ (ZZ (ZZ (ZZ (ZZ (ZZ (ZZ ?_ ?_) ?_) ?_) ?_) ?_) ?_) ?_) ?_) ?_) ?_) ?_) ?_) ?_) ?_) ?_) ?_) ?_) ?_) ?_) ?_) ?_) ?_) ?_) ?_) ?_) ?_) ?_) ?_) ?_) ?_) ?_)
 all_goals(as_aux_lemma=>kernel_rfl)
end
section
open Go.ChangeShapes Go.WideShapes Go.ChangeAt Go.RowKit
theorem Z5:Rows.DocOrdersSaid:=
 OpenClaim.holds_of_wide 5 Tryz.f5 rfl rfl rfl rfl rfl rfl rfl ⟨rfl,rfl,rfl,rfl,rfl⟩ rfl rfl rfl rfl rfl Rx Tryz.func5 Z4
  (JK Rx) (by unfold Func.isWrapper;first|(rw[Ak (by decide+kernel)];kernel_rfl)|(rw[Ae (by decide+kernel)];exact⟨rfl,rfl⟩))
  (fun os started H enc _=>Z3 os started H enc)
end
section
theorem orders_card:Rows.DocOrdersCardSaid:=
 Claim7.holds_tied_plain_at .later [] [.data,.data,.data] true (true, "381e5871bbd8979c4486bb6eb270975165aa6386bdb7877422a19e9034a9817e") true
  Z5 (fun _ h=>by cases h) (by as_aux_lemma=>kernel_rfl) (fun _ h=>by cases h) docOrders_row_tie rfl ⟨rfl,rfl⟩ (by as_aux_lemma=>kernel_rfl) rfl
  (fun f fn hf hfn=>by
   obtain rfl:f=5:=Ap ((show Tryz.prog.funcNamed "offshoot/offshootlaw17.DocOrders" =some 5 by kernel_rfl).symm.trans hf) |>.symm
   obtain rfl:fn=Tryz.f5:=(Ap (Tryz.func5.symm.trans hfn)).symm
   exact⟨by as_aux_lemma=>kernel_rfl,fun j t ht=>by
    rw[Tryz.params5]at ht
    have hm:t∈[22,51]:=by
     have:=Array.mem_of_getElem? ht
     simpa using this
    have hall:([22,51].all fun u=> !Tryz.prog.wantsStandIn u)=true:=by kernel_rfl
    exact(show Tryz.prog.wantsStandIn t=false by simpa using B9.1 hall t hm)⟩)
  (by as_aux_lemma=>kernel_rfl)
#print axioms orders_card
end
end Go.Proofs.YthfjefcljeamgaaGreatDoor
