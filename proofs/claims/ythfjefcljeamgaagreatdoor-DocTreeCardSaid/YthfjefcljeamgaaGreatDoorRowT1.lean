/- DocTree: the row's closed facts, limb by limb. -/
import Derived.Test.YthfjefcljeamgaaGreatDoorRowT
namespace Go.Proofs.YthfjefcljeamgaaGreatDoor
set_option maxRecDepth 100000
set_option maxHeartbeats 4000000
open Go.ChangeShapes Go.WideShapes Go.ChangeAt Go.RowKit
theorem ak{a b:Bool}(h1:a=true)(h2:b=true):(a&&b)=true:=by rw[h1,h2];rfl
theorem bD:joinedFacts Tryz.prog 4 Tryz.f4 Rows.docTreeSpec Rows.docTreeRow=true:=by
 unfold joinedFacts
 refine(ak (ak (ak (ak (ak (ak (ak (ak (ak (ak (ak (ak (ak (ak (ak (ak (ak (ak (ak (ak (ak (ak (ak (ak (ak (ak (ak (ak (ak (ak (ak ?_ ?_) ?_) ?_) ?_) ?_) ?_) ?_) ?_) ?_) ?_) ?_) ?_) ?_) ?_) ?_) ?_) ?_) ?_) ?_) ?_) ?_) ?_) ?_) ?_) ?_) ?_) ?_) ?_) ?_) ?_) ?_)
 all_goals(as_aux_lemma=>kernel_rfl)
end Go.Proofs.YthfjefcljeamgaaGreatDoor
