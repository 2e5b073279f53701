import Derived.Test.YtgllkohjehjphaaGreatDoorRFrameV
import Derived.Test.YtgllkohjehjphaaGreatDoorTie
import Derived.Test.YtgllkohjehjphaaGreatDoorCards
set_option linter.unusedVariables false
set_option linter.unusedSimpArgs false
set_option maxRecDepth 100000
set_option maxHeartbeats 40000000
namespace Go.Proofs.YtgllkohjehjphaaGreatDoor.shopPinnedDone
open Go.ChangeShapes Go.WideShapes Go.ChangeAt Go.RowKit
theorem Zb : joinedFacts Tryz.prog 11 Tryz.f11 Rows.shopPinnedSpec Rows.shopPinnedRow = true := by
 unfold joinedFacts
 repeat' (with_reducible refine Bool.and_eq_true_iff.2 ⟨?_, ?_⟩)
 all_goals (as_aux_lemma => kernel_rfl)
end Go.Proofs.YtgllkohjehjphaaGreatDoor.shopPinnedDone
