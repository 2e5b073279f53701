import Derived.Test.YtiffijoenkcpjaaGreatDoorChecked
import Derived.ChangeVars
import Derived.Deep.AppendLies
import Derived.Deep.CutBlock
import Derived.Deep.CutRange
import Derived.Handy
import Derived.JoinedOf
import Derived.LaidByTextLater
import Derived.LaidLaws
import Derived.LaidMore
import Derived.LaidOnce
import Derived.LaidSub
import Derived.Laws.IdiomStrings
import Derived.Laws.OwnMore
import Derived.Lay
import Derived.Lib.AppendIntMem
import Derived.Lib.FrozenHead
import Derived.Lib.IndexMore
import Derived.Lib.ItoaNum
import Derived.Lib.LaidTab
import Derived.Lib.OthersKept
import Derived.Lib.Split
import Derived.Lib.UnsafeStr
import Derived.RowKit
import Derived.RowKitTokens
import Derived.SevenTiedAt
import Derived.Shelf.LaysM
import Derived.Shelf.RegionOpenPlain
import Derived.Shelf.Small.Wraps
import Derived.Shelf.Strconv.Itoa3
import Derived.Shelf.Strings.Cut
import Derived.Shelf.Strings.OnBuilder
import Derived.Shelf.Strings.Split
import Derived.Shelf.Strings.Trim
import Derived.Shelf.Vars
import Derived.Stop.Joined
import GoSem.Claim
import GoSem.ClaimMapViews
import GoSem.ClaimSeven
import GoSem.PinnedTables
import Derived.Test.YtiffijoenkcpjaaGreatDoorRows
import Derived.Test.YtiffijoenkcpjaaGreatDoorYBg
set_option linter.unusedVariables false
set_option linter.unusedSimpArgs false
set_option maxRecDepth 100000
set_option maxHeartbeats 40000000
namespace Go.Proofs.YtiffijoenkcpjaaGreatDoor.yardPinsDone
open Go.ChangeShapes Go.WideShapes Go.ChangeAt Go.RowKit
theorem Zb:joinedFacts Tryz.prog 5 Tryz.f5 Rows.yardPinsSpec Rows.yardPinsRow=true:=by
 unfold joinedFacts
 repeat' (with_reducible refine Bool.and_eq_true_iff.2 ⟨?_,?_⟩)
 all_goals (as_aux_lemma=>kernel_rfl)
end Go.Proofs.YtiffijoenkcpjaaGreatDoor.yardPinsDone
