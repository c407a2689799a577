/- DocTree: the row's closed facts, limb by limb. -/
import Derived.Test.YthfjefcljeamgaaGreatDoorRowT
namespace Go.Proofs.YthfjefcljeamgaaGreatDoor
set_option maxRecDepth 100000
set_option maxHeartbeats 4000000
open Go.ChangeShapes Go.WideShapes Go.ChangeAt Go.RowKit
theorem and_two4 {a b : Bool} (h1 : a = true) (h2 : b = true) : (a && b) = true := by rw [h1, h2]; rfl
theorem tree_closed : joinedFacts Tryz.prog 4 Tryz.f4 Rows.docTreeSpec Rows.docTreeRow = true := by
 unfold joinedFacts
 refine (and_two4 (and_two4 (and_two4 (and_two4 (and_two4 (and_two4 (and_two4 (and_two4 (and_two4 (and_two4 (and_two4 (and_two4 (and_two4 (and_two4 (and_two4 (and_two4 (and_two4 (and_two4 (and_two4 (and_two4 (and_two4 (and_two4 (and_two4 (and_two4 (and_two4 (and_two4 (and_two4 (and_two4 (and_two4 (and_two4 (and_two4 ?_ ?_) ?_) ?_) ?_) ?_) ?_) ?_) ?_) ?_) ?_) ?_) ?_) ?_) ?_) ?_) ?_) ?_) ?_) ?_) ?_) ?_) ?_) ?_) ?_) ?_) ?_) ?_) ?_) ?_) ?_) ?_)
 all_goals (as_aux_lemma => kernel_rfl)
end Go.Proofs.YthfjefcljeamgaaGreatDoor
