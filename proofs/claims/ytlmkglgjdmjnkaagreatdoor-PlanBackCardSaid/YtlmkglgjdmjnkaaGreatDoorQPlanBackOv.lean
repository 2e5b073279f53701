import Derived.Test.YtlmkglgjdmjnkaaGreatDoorQ11
import Derived.Test.YtlmkglgjdmjnkaaGreatDoorTie
import Derived.Test.YtlmkglgjdmjnkaaGreatDoorCards
namespace Go.Proofs.YtlmkglgjdmjnkaaGreatDoor.planBackDone
open Go.ChangeShapes Go.WideShapes Go.ChangeAt Go.RowKit
set_option linter.unusedVariables false
set_option linter.unusedSimpArgs false

set_option maxHeartbeats 40000000 in
set_option maxRecDepth 100000 in
theorem closed : joinedFacts Tryz.prog 5 Tryz.f5 Rows.planBackSpec Rows.planBackRow = true := by
  unfold joinedFacts
  repeat' (with_reducible refine Bool.and_eq_true_iff.2 ⟨?_, ?_⟩)
  all_goals (as_aux_lemma => kernel_rfl)
end Go.Proofs.YtlmkglgjdmjnkaaGreatDoor.planBackDone
