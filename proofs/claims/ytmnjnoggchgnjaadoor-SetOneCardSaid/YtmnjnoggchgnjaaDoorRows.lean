/-
  NARROWER THAN 'FOR EVERY INPUT', by the rows' own cells (each row's printed sentence says how): SetOne: laid · SetExact: laid · SetList: laid.
  DERIVED. THE GIVEN ROWS OF THIS SEAT. 3 by the template 'for every input the law returns true; each argument reads behind the call as it read before'; 0 by the template 'total and deterministic' (their statements: YtmnjnoggchgnjaaDoorTotals.lean).
  GIVEN WITH THE SEED: the statements are not yours to turn. If you find one false, say at which input.
  Laid BY PROGRAM, IN A SANDBOX (cutbox-rows.mjs): the forced cells as the released guide's own fill.sh prints them over the translation 805fbca7914a68c2… (all of the seat's roots in one cut). By AI agents, Wed Nov 11 2026. No macro, syntax, notation, axiom, sorry.
-/
import Derived.Test.YtmnjnoggchgnjaaDoorChecked
import GoSem.Claim
import GoSem.ClaimJoined
import GoSem.ClaimMapViews
import Derived.JoinedTies
import Derived.KernelRfl
namespace Go.Proofs.YtmnjnoggchgnjaaDoor
/- THE CELL 'sum', in the pinned program and in every row, IS THE sha256 OF THE DUMP (.gsa) THAT YtmnjnoggchgnjaaDoorProg.lean LOADS. Nothing in Lean hashes anything: it is a label: what it is worth is what the hold of that sum in a sandbox is worth. -/
noncomputable def Tryd.pinned : Pinned := { name := "ytmnjnoggchgnjaadoor", sum := "805fbca7914a68c232e490f35c63f3b40b4f8b0487d8318e7abe5439459fd972", checked := Tryd.checked }
namespace Rows
def none {H : Type} : Left H := { results := [], args := [] }

/- WHAT THE LISTED PACKAGE-LEVEL VARIABLES READ AS WHEN THE CALL BEGINS. Each datum BY PROGRAM (the guide's laid-datum.mjs) off the statement by which the dump's own 'gosem.cut.vars' lays the variable. In a bare row this is a premise. The card (YtmnjnoggchgnjaaDoorCards.lean) ties it to the program's text. -/
def laid_linchpin_set_first {H : Type} : DataW H := .agg [.lit (.int .i64 0), .lit (.int .i64 0), .lit (.int .i64 0), .lit (.string []), .lit (.string [])]

/-- 'linchpinlaw5.SetOne': WHATEVER THE INPUT: true; the input reads as it did. -/
def setOneSpec : ChangeSpec := { name := "setOne", fn := fun _ => fun
  | [d1, d2] => { results := [.lit (.bool true)], args := [d1, d2] }
  | _ => none }
def setOneRow : OpenClaim := { program := "ytmnjnoggchgnjaadoor", sum := "805fbca7914a68c232e490f35c63f3b40b4f8b0487d8318e7abe5439459fd972", func := "linchpin/linchpinlaw5.SetOne", spec := "setOne", unfollowed := true, recurses := true, named := ["linchpin/set.first"], apart := false, laid := [("linchpin/set.first", laid_linchpin_set_first)] }
def SetOneSaid : Prop := setOneRow.holds Tryd.pinned (OpenSpec.ofChange setOneSpec)

/-- ITS FALSE NEIGHBOUR: 'it returns false'. Refute it at one input. -/
def setOneWrong : ChangeSpec := { name := "setOne", fn := fun _ => fun
  | [d1, d2] => { results := [.lit (.bool false)], args := [d1, d2] }
  | _ => none }
def SetOneWrongFalsely : Prop := setOneRow.holds Tryd.pinned (OpenSpec.ofChange setOneWrong)

/-- 'linchpinlaw5.SetExact': WHATEVER THE INPUT: true; the input reads as it did. -/
def setExactSpec : ChangeSpec := { name := "setExact", fn := fun _ => fun
  | [d] => { results := [.lit (.bool true)], args := [d] }
  | _ => none }
def setExactRow : OpenClaim := { program := "ytmnjnoggchgnjaadoor", sum := "805fbca7914a68c232e490f35c63f3b40b4f8b0487d8318e7abe5439459fd972", func := "linchpin/linchpinlaw5.SetExact", spec := "setExact", unfollowed := true, recurses := true, named := ["linchpin/set.first"], apart := false, laid := [("linchpin/set.first", laid_linchpin_set_first)] }
def SetExactSaid : Prop := setExactRow.holds Tryd.pinned (OpenSpec.ofChange setExactSpec)

/-- ITS FALSE NEIGHBOUR: 'it returns false'. Refute it at one input. -/
def setExactWrong : ChangeSpec := { name := "setExact", fn := fun _ => fun
  | [d] => { results := [.lit (.bool false)], args := [d] }
  | _ => none }
def SetExactWrongFalsely : Prop := setExactRow.holds Tryd.pinned (OpenSpec.ofChange setExactWrong)

/-- 'linchpinlaw5.SetList': WHATEVER THE INPUT: true; the input reads as it did. -/
def setListSpec : ChangeSpec := { name := "setList", fn := fun _ => fun
  | [d1, d2] => { results := [.lit (.bool true)], args := [d1, d2] }
  | _ => none }
def setListRow : OpenClaim := { program := "ytmnjnoggchgnjaadoor", sum := "805fbca7914a68c232e490f35c63f3b40b4f8b0487d8318e7abe5439459fd972", func := "linchpin/linchpinlaw5.SetList", spec := "setList", unfollowed := true, recurses := true, named := ["linchpin/set.first"], apart := false, laid := [("linchpin/set.first", laid_linchpin_set_first)] }
def SetListSaid : Prop := setListRow.holds Tryd.pinned (OpenSpec.ofChange setListSpec)

/-- ITS FALSE NEIGHBOUR: 'it returns false'. Refute it at one input. -/
def setListWrong : ChangeSpec := { name := "setList", fn := fun _ => fun
  | [d1, d2] => { results := [.lit (.bool false)], args := [d1, d2] }
  | _ => none }
def SetListWrongFalsely : Prop := setListRow.holds Tryd.pinned (OpenSpec.ofChange setListWrong)

/- THE SECOND FORM. 'bulk': how many values and letters a reading holds, each counted each time it is reached (what is shared counts as often as it is met; a slice's spare places count too). A statement '..UptoSaid' is the law's where the arguments, and the package variables that the reading takes, are together of bulk at most 1048576: NARROWER than '..Said'. Prove '..Said' where nothing that the law and all that it calls make is longer than what came in: it says more and counts as full. Else prove '..UptoSaid'. A law counts once. -/
mutual
def uptoBulk {H : Type} : DataW H → Nat
  | .lit (.string bytes) => bytes.length + 1
  | .lit _ => 1
  | .nil => 1
  | .ptr d => uptoBulk d + 1
  | .slice elems spare => uptoBulkAll elems + uptoBulkAll spare + 1
  | .agg parts => uptoBulkAll parts + 1
  | .iface _ d => uptoBulk d + 1
  | .map entries => uptoBulkEntries entries + 1
  | .held _ => 1
def uptoBulkAll {H : Type} : List (DataW H) → Nat
  | [] => 0
  | d :: r => uptoBulk d + uptoBulkAll r
def uptoBulkEntries {H : Type} : List (Lit × DataW H) → Nat
  | [] => 0
  | x :: r => uptoBulkEntry x + uptoBulkEntries r
def uptoBulkEntry {H : Type} : Lit × DataW H → Nat
  | (.string bytes, d) => bytes.length + uptoBulk d + 1
  | (_, d) => uptoBulk d + 1
 end
def uptoSmall : (H : Type) → List (DataW H) → Bool := fun _ ds => decide (uptoBulkAll ds ≤ 1048576)
def OpenSpec.upto (s : _root_.Go.ChangeSpec) : _root_.Go.OpenSpec := { _root_.Go.OpenSpec.ofChange s with cond := some uptoSmall }

/-- 'linchpinlaw5.SetOne', WHERE WHAT IT READS IS OF BULK AT MOST 1048576: true; the input reads as it did. -/
def setOneUptoRow : OpenClaim := { program := "ytmnjnoggchgnjaadoor", sum := "805fbca7914a68c232e490f35c63f3b40b4f8b0487d8318e7abe5439459fd972", func := "linchpin/linchpinlaw5.SetOne", spec := "setOne", unfollowed := true, recurses := true, named := ["linchpin/set.first"], apart := false, laid := [("linchpin/set.first", laid_linchpin_set_first)], narrowed := true }
def SetOneUptoSaid : Prop := setOneUptoRow.holds Tryd.pinned (OpenSpec.upto setOneSpec)

/-- 'linchpinlaw5.SetExact', WHERE WHAT IT READS IS OF BULK AT MOST 1048576: true; the input reads as it did. -/
def setExactUptoRow : OpenClaim := { program := "ytmnjnoggchgnjaadoor", sum := "805fbca7914a68c232e490f35c63f3b40b4f8b0487d8318e7abe5439459fd972", func := "linchpin/linchpinlaw5.SetExact", spec := "setExact", unfollowed := true, recurses := true, named := ["linchpin/set.first"], apart := false, laid := [("linchpin/set.first", laid_linchpin_set_first)], narrowed := true }
def SetExactUptoSaid : Prop := setExactUptoRow.holds Tryd.pinned (OpenSpec.upto setExactSpec)

/-- 'linchpinlaw5.SetList', WHERE WHAT IT READS IS OF BULK AT MOST 1048576: true; the input reads as it did. -/
def setListUptoRow : OpenClaim := { program := "ytmnjnoggchgnjaadoor", sum := "805fbca7914a68c232e490f35c63f3b40b4f8b0487d8318e7abe5439459fd972", func := "linchpin/linchpinlaw5.SetList", spec := "setList", unfollowed := true, recurses := true, named := ["linchpin/set.first"], apart := false, laid := [("linchpin/set.first", laid_linchpin_set_first)], narrowed := true }
def SetListUptoSaid : Prop := setListUptoRow.holds Tryd.pinned (OpenSpec.upto setListSpec)

end Rows
end Go.Proofs.YtmnjnoggchgnjaaDoor
