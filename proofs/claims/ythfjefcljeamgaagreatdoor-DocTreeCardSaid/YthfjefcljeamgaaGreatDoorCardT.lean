/- Every call of DocTree returns true: an outline is a tree: each block is told once, behind its parent, one deeper than that, and none stands in both the root's and the trash's; the ops read afterwards as they read before. The listed package-level variables hold at the call what the program's text lays (the card ties that). -/
import Derived.Test.YthfjefcljeamgaaGreatDoorRowT1
namespace Go.Proofs.YthfjefcljeamgaaGreatDoor
section
open Go.ChangeShapes Go.WideShapes Go.ChangeAt Go.RowKit
theorem bH:Rows.DocTreeSaid:=
 OpenClaim.holds_of_wide 4 Tryz.f4 rfl rfl rfl rfl rfl rfl rfl ⟨rfl,rfl,rfl,rfl,rfl⟩ rfl rfl rfl rfl rfl Rx Tryz.func4 bD
  (JK Rx) (by unfold Func.isWrapper;first|(rw[Ak (by decide+kernel)];kernel_rfl)|(rw[Ae (by decide+kernel)];exact⟨rfl,rfl⟩))
  (fun os started H enc _=>bC os started H enc)
end
section
theorem tree_card:Rows.DocTreeCardSaid:=
 Claim7.holds_tied_plain_at .later [] [.data,.data,.data] true (true, "381e5871bbd8979c4486bb6eb270975165aa6386bdb7877422a19e9034a9817e") true
  bH (fun _ h=>by cases h) (by as_aux_lemma=>kernel_rfl) (fun _ h=>by cases h) docTree_row_tie rfl ⟨rfl,rfl⟩ (by as_aux_lemma=>kernel_rfl) rfl
  (fun f fn hf hfn=>by
   obtain rfl:f=4:=Ap ((show Tryz.prog.funcNamed "offshoot/offshootlaw17.DocTree" =some 4 by kernel_rfl).symm.trans hf) |>.symm
   obtain rfl:fn=Tryz.f4:=(Ap (Tryz.func4.symm.trans hfn)).symm
   exact⟨by as_aux_lemma=>kernel_rfl,fun j t ht=>by
    rw[Tryz.params4]at ht
    have hm:t∈[22]:=by
     have:=Array.mem_of_getElem? ht
     simpa using this
    have hall:([22].all fun u=> !Tryz.prog.wantsStandIn u)=true:=by kernel_rfl
    exact(show Tryz.prog.wantsStandIn t=false by simpa using B9.1 hall t hm)⟩)
  (by as_aux_lemma=>kernel_rfl)
#print axioms tree_card
end
end Go.Proofs.YthfjefcljeamgaaGreatDoor
