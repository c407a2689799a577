/- Every call of DocRefuses returns true: an op that is refused changes nothing, and one that is taken is there and is refused when it comes again; the ops read afterwards as they read before. The listed package-level variables hold at the call what the program's text lays (the card ties that). -/
import Derived.Test.YthfjefcljeamgaaGreatDoorRowS1
namespace Go.Proofs.YthfjefcljeamgaaGreatDoor
section
open Go.ChangeShapes Go.WideShapes Go.ChangeAt Go.RowKit
theorem bh:Rows.DocRefusesSaid:=
 OpenClaim.holds_of_wide 3 Tryz.f3 rfl rfl rfl rfl rfl rfl rfl ⟨rfl,rfl,rfl,rfl,rfl⟩ rfl rfl rfl rfl rfl Rx Tryz.func3 aZ
  (JK Rx) (by unfold Func.isWrapper;first|(rw[Ak (by decide+kernel)];kernel_rfl)|(rw[Ae (by decide+kernel)];exact⟨rfl,rfl⟩))
  (fun os started H enc _=>aY os started H enc)
end
section
theorem refuses_card:Rows.DocRefusesCardSaid:=
 Claim7.holds_tied_plain_at .later [] [.data,.data,.data] true (true, "381e5871bbd8979c4486bb6eb270975165aa6386bdb7877422a19e9034a9817e") true
  bh (fun _ h=>by cases h) (by as_aux_lemma=>kernel_rfl) (fun _ h=>by cases h) docRefuses_row_tie rfl ⟨rfl,rfl⟩ (by as_aux_lemma=>kernel_rfl) rfl
  (fun f fn hf hfn=>by
   obtain rfl:f=3:=Ap ((show Tryz.prog.funcNamed "offshoot/offshootlaw17.DocRefuses" =some 3 by kernel_rfl).symm.trans hf) |>.symm
   obtain rfl:fn=Tryz.f3:=(Ap (Tryz.func3.symm.trans hfn)).symm
   exact⟨by as_aux_lemma=>kernel_rfl,fun j t ht=>by
    rw[Tryz.params3]at ht
    have hm:t∈[22,29]:=by
     have:=Array.mem_of_getElem? ht
     simpa using this
    have hall:([22,29].all fun u=> !Tryz.prog.wantsStandIn u)=true:=by kernel_rfl
    exact(show Tryz.prog.wantsStandIn t=false by simpa using B9.1 hall t hm)⟩)
  (by as_aux_lemma=>kernel_rfl)
#print axioms refuses_card
end
end Go.Proofs.YthfjefcljeamgaaGreatDoor
