import Derived.ArgAppend
import Derived.Deep.DeepHandedRow
import Derived.Deep.RegionLaw
import Derived.LaidByTextLater
import Derived.LaidOnce
import Derived.LaidSub
import Derived.Lib.TrimByte
import Derived.MakeChecks
import Derived.Shelf.Abstract
import Derived.Shelf.Strings.BuilderK
import GoSem.ClaimSeven
import Derived.Test.YtofkjhnhafbfoaaGreatDoorWFrameV
set_option linter.unusedVariables false
set_option linter.unusedSimpArgs false
set_option maxRecDepth 100000
set_option maxHeartbeats 40000000
namespace Go.Proofs.YtofkjhnhafbfoaaGreatDoor.shelfRawDone
open Go.ChangeShapes Go.WideShapes Go.ChangeAt Go.RowKit
theorem Zb:joinedFacts Tryz.prog 9 Tryz.f9 Rows.shelfRawSpec Rows.shelfRawUptoRow=true:=by
 unfold joinedFacts
 repeat' (with_reducible refine Bool.and_eq_true_iff.2 ⟨?_,?_⟩)
 all_goals (as_aux_lemma=>kernel_rfl)
end Go.Proofs.YtofkjhnhafbfoaaGreatDoor.shelfRawDone
