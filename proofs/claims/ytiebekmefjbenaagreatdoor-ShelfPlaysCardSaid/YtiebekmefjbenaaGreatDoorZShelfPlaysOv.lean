import Derived.Test.YtiebekmefjbenaaGreatDoorTie
import Derived.Test.YtiebekmefjbenaaGreatDoorRows
import Derived.Test.YtiebekmefjbenaaGreatDoorCards
import Derived.Test.YtiebekmefjbenaaGreatDoorShelf
import Derived.ChangeVars
import Derived.Deep.CutBlock
import Derived.Deep.CutRange
import Derived.Handy
import Derived.JoinedOf
import Derived.LaidLaws
import Derived.LaidMore
import Derived.Laws.IdiomStrings
import Derived.Lay
import Derived.Lib.AppendIntMem
import Derived.Lib.FrozenHead
import Derived.Lib.IndexMore
import Derived.Lib.ItoaNum
import Derived.Lib.LaidTab
import Derived.Lib.OthersKept
import Derived.Lib.Split
import Derived.Lib.UnsafeStr
import Derived.RowKit
import Derived.RowKitTokens
import Derived.SevenTiedAt
import Derived.Shelf.RegionOpenPlain
import Derived.Shelf.Vars
import Derived.Stop.Joined
import Derived.Test.YtiebekmefjbenaaGreatDoorZBc
set_option linter.unusedVariables false
set_option linter.unusedSimpArgs false
set_option maxRecDepth 100000
set_option maxHeartbeats 40000000
namespace Go.Proofs.YtiebekmefjbenaaGreatDoor.shelfPlaysDone
open Go.ChangeShapes Go.WideShapes Go.ChangeAt Go.RowKit
theorem Zb:joinedFacts Tryz.prog 3 Tryz.f3 Rows.shelfPlaysSpec Rows.shelfPlaysRow=true:=by
 unfold joinedFacts
 repeat' (with_reducible refine Bool.and_eq_true_iff.2 ⟨?_,?_⟩)
 all_goals (as_aux_lemma=>kernel_rfl)
end Go.Proofs.YtiebekmefjbenaaGreatDoor.shelfPlaysDone
