import Derived.Test.YtplmlahpmnjneaaGreatDoorNFrameT
import Derived.Test.YtplmlahpmnjneaaGreatDoorTie
import Derived.Test.YtplmlahpmnjneaaGreatDoorCards
namespace Go.Proofs.YtplmlahpmnjneaaGreatDoor.tellScopesDone
open Go.ChangeShapes Go.WideShapes Go.ChangeAt Go.RowKit
set_option linter.unusedVariables false
set_option linter.unusedSimpArgs false
set_option maxHeartbeats 40000000 in
set_option maxRecDepth 100000 in
theorem closed : joinedFacts Tryz.prog 13 Tryz.f13 Rows.tellScopesSpec Rows.tellScopesRow = true := by
  unfold joinedFacts
  repeat' (with_reducible refine Bool.and_eq_true_iff.2 ⟨?_, ?_⟩)
  all_goals (as_aux_lemma => kernel_rfl)
end Go.Proofs.YtplmlahpmnjneaaGreatDoor.tellScopesDone
