/- DocLetters: the row's closed facts, limb by limb. -/
import Derived.Test.YthfjefcljeamgaaGreatDoorRowU
namespace Go.Proofs.YthfjefcljeamgaaGreatDoor
set_option maxRecDepth 100000
set_option maxHeartbeats 4000000
open Go.ChangeShapes Go.WideShapes Go.ChangeAt Go.RowKit
theorem BB{a b:Bool}(h1:a=true)(h2:b=true):(a&&b)=true:=by rw[h1,h2];rfl
theorem MQ:joinedFacts Tryz.prog 6 Tryz.f6 Rows.docLettersSpec Rows.docLettersRow=true:=by
 unfold joinedFacts
 refine(BB (BB (BB (BB (BB (BB (BB (BB (BB (BB (BB (BB (BB (BB (BB (BB (BB (BB (BB (BB (BB (BB (BB (BB (BB (BB (BB (BB (BB (BB (BB ?_ ?_) ?_) ?_) ?_) ?_) ?_) ?_) ?_) ?_) ?_) ?_) ?_) ?_) ?_) ?_) ?_) ?_) ?_) ?_) ?_) ?_) ?_) ?_) ?_) ?_) ?_) ?_) ?_) ?_) ?_) ?_)
 all_goals(as_aux_lemma=>kernel_rfl)
end Go.Proofs.YthfjefcljeamgaaGreatDoor
