/- DocRefuses: the row's closed facts, limb by limb. -/
import Derived.Test.YthfjefcljeamgaaGreatDoorRowR
namespace Go.Proofs.YthfjefcljeamgaaGreatDoor
set_option maxRecDepth 100000
set_option maxHeartbeats 4000000
open Go.ChangeShapes Go.WideShapes Go.ChangeAt Go.RowKit
theorem am{a b:Bool}(h1:a=true)(h2:b=true):(a&&b)=true:=by rw[h1,h2];rfl
theorem aZ:joinedFacts Tryz.prog 3 Tryz.f3 Rows.docRefusesSpec Rows.docRefusesRow=true:=by
 unfold joinedFacts
 refine(am (am (am (am (am (am (am (am (am (am (am (am (am (am (am (am (am (am (am (am (am (am (am (am (am (am (am (am (am (am (am ?_ ?_) ?_) ?_) ?_) ?_) ?_) ?_) ?_) ?_) ?_) ?_) ?_) ?_) ?_) ?_) ?_) ?_) ?_) ?_) ?_) ?_) ?_) ?_) ?_) ?_) ?_) ?_) ?_) ?_) ?_) ?_)
 all_goals(as_aux_lemma=>kernel_rfl)
end Go.Proofs.YthfjefcljeamgaaGreatDoor
