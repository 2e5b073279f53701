import Derived.Test.YtofkjhnhafbfoaaGreatDoorChecked
import Derived.ChangeVars
import Derived.Deep.DeepHandedRow
import Derived.JoinedOf
import Derived.LaidByTextLater
import Derived.LaidLaws
import Derived.LaidMore
import Derived.LaidOnce
import Derived.LaidSub
import Derived.Lay
import Derived.Lib.LaidTab
import Derived.MakeChecks
import Derived.RowKit
import Derived.RowKitTokens
import Derived.SevenTiedAt
import Derived.Shelf.Strings.BuilderK
import Derived.Shelf.Vars
import Derived.Stop.Joined
import GoSem.Claim
import GoSem.ClaimMapViews
import GoSem.ClaimSeven
import GoSem.PinnedTables
import Derived.Test.YtofkjhnhafbfoaaGreatDoorRows
import Derived.Test.YtofkjhnhafbfoaaGreatDoorWKb
set_option linter.unusedVariables false
set_option linter.unusedSimpArgs false
set_option maxRecDepth 100000
set_option maxHeartbeats 40000000
namespace Go.Proofs.YtofkjhnhafbfoaaGreatDoor.shelfGrownDone
open Go.ChangeShapes Go.WideShapes Go.ChangeAt Go.RowKit
theorem Zb:joinedFacts Tryz.prog 5 Tryz.f5 Rows.shelfGrownSpec Rows.shelfGrownUptoRow=true:=by
 unfold joinedFacts
 repeat' (with_reducible refine Bool.and_eq_true_iff.2 ⟨?_,?_⟩)
 all_goals (as_aux_lemma=>kernel_rfl)
end Go.Proofs.YtofkjhnhafbfoaaGreatDoor.shelfGrownDone
