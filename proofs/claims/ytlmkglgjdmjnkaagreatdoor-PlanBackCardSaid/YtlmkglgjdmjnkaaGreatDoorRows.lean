/-
  NARROWER THAN 'FOR EVERY INPUT', by the rows' own cells (each row's printed sentence says how): PlanDoes: laid · PlanArrives: laid · PlanBack: laid.
  DERIVED. THE GIVEN ROWS OF THIS SEAT. 3 by the template 'for every input the law returns true; each argument reads behind the call as it read before'; 0 by the template 'total and deterministic' (their statements: YtlmkglgjdmjnkaaGreatDoorTotals.lean).
  GIVEN WITH THE SEED: the statements are not yours to turn. If you find one false, say at which input.
  Laid BY PROGRAM, IN A SANDBOX (cutbox-rows.mjs): the forced cells as the released guide's own fill.sh prints them over the translation 28e0d24d64d958e3… (all of the seat's roots in one cut). By AI agents, Wed Nov 11 2026. No macro, syntax, notation, axiom, sorry.
-/
import Derived.Test.YtlmkglgjdmjnkaaGreatDoorChecked
import GoSem.Claim
import GoSem.ClaimJoined
import GoSem.ClaimMapViews
import Derived.JoinedTies
import Derived.KernelRfl
namespace Go.Proofs.YtlmkglgjdmjnkaaGreatDoor
/- THE CELL 'sum', in the pinned program and in every row, IS THE sha256 OF THE DUMP (.gsa) THAT YtlmkglgjdmjnkaaGreatDoorProg.lean LOADS. Nothing in Lean hashes anything: it is a label: what it is worth is what the hold of that sum in a sandbox is worth. -/
noncomputable def Tryz.pinned : Pinned := { name := "ytlmkglgjdmjnkaagreatdoor", sum := "28e0d24d64d958e39fcf1d33c8d13569d02b81f8d0e840604d3c6d7b85a9b7eb", checked := Tryz.checked }
namespace Rows
def none {H : Type} : Left H := { results := [], args := [] }

/- WHAT THE LISTED PACKAGE-LEVEL VARIABLES READ AS WHEN THE CALL BEGINS. Each datum BY PROGRAM (the guide's laid-datum.mjs) off the statement by which the dump's own 'gosem.cut.vars' lays the variable. In a bare row this is a premise. The card (YtlmkglgjdmjnkaaGreatDoorCards.lean) ties it to the program's text. -/
def laid_linchpin_set_first {H : Type} : DataW H := .agg [.lit (.int .i64 0), .lit (.int .i64 0), .lit (.int .i64 0), .lit (.string []), .lit (.string [])]

/-- 'linchpinlaw39.PlanDoes': WHATEVER THE INPUT: true; the input reads as it did. -/
def planDoesSpec : ChangeSpec := { name := "planDoes", fn := fun _ => fun
  | [d1, d2, d3] => { results := [.lit (.bool true)], args := [d1, d2, d3] }
  | _ => none }
def planDoesRow : OpenClaim := { program := "ytlmkglgjdmjnkaagreatdoor", sum := "28e0d24d64d958e39fcf1d33c8d13569d02b81f8d0e840604d3c6d7b85a9b7eb", func := "linchpin/linchpinlaw39.PlanDoes", spec := "planDoes", inPlace := ["internal/bytealg.abigen_runtime_cmpstring"], unfollowed := true, recurses := true, named := ["linchpin/set.first"], apart := false, laid := [("linchpin/set.first", laid_linchpin_set_first)] }
def PlanDoesSaid : Prop := planDoesRow.holds Tryz.pinned (OpenSpec.ofChange planDoesSpec)

/-- ITS FALSE NEIGHBOUR: 'it returns false'. Refute it at one input. -/
def planDoesWrong : ChangeSpec := { name := "planDoes", fn := fun _ => fun
  | [d1, d2, d3] => { results := [.lit (.bool false)], args := [d1, d2, d3] }
  | _ => none }
def PlanDoesWrongFalsely : Prop := planDoesRow.holds Tryz.pinned (OpenSpec.ofChange planDoesWrong)

/-- 'linchpinlaw39.PlanArrives': WHATEVER THE INPUT: true; the input reads as it did. -/
def planArrivesSpec : ChangeSpec := { name := "planArrives", fn := fun _ => fun
  | [d1, d2, d3, d4] => { results := [.lit (.bool true)], args := [d1, d2, d3, d4] }
  | _ => none }
def planArrivesRow : OpenClaim := { program := "ytlmkglgjdmjnkaagreatdoor", sum := "28e0d24d64d958e39fcf1d33c8d13569d02b81f8d0e840604d3c6d7b85a9b7eb", func := "linchpin/linchpinlaw39.PlanArrives", spec := "planArrives", inPlace := ["internal/bytealg.abigen_runtime_cmpstring"], unfollowed := true, recurses := true, named := ["linchpin/set.first"], apart := false, laid := [("linchpin/set.first", laid_linchpin_set_first)] }
def PlanArrivesSaid : Prop := planArrivesRow.holds Tryz.pinned (OpenSpec.ofChange planArrivesSpec)

/-- ITS FALSE NEIGHBOUR: 'it returns false'. Refute it at one input. -/
def planArrivesWrong : ChangeSpec := { name := "planArrives", fn := fun _ => fun
  | [d1, d2, d3, d4] => { results := [.lit (.bool false)], args := [d1, d2, d3, d4] }
  | _ => none }
def PlanArrivesWrongFalsely : Prop := planArrivesRow.holds Tryz.pinned (OpenSpec.ofChange planArrivesWrong)

/-- 'linchpinlaw39.PlanBack': WHATEVER THE INPUT: true; the input reads as it did. -/
def planBackSpec : ChangeSpec := { name := "planBack", fn := fun _ => fun
  | [d1, d2, d3, d4] => { results := [.lit (.bool true)], args := [d1, d2, d3, d4] }
  | _ => none }
def planBackRow : OpenClaim := { program := "ytlmkglgjdmjnkaagreatdoor", sum := "28e0d24d64d958e39fcf1d33c8d13569d02b81f8d0e840604d3c6d7b85a9b7eb", func := "linchpin/linchpinlaw39.PlanBack", spec := "planBack", inPlace := ["internal/bytealg.abigen_runtime_cmpstring"], unfollowed := true, recurses := true, named := ["linchpin/set.first"], apart := false, laid := [("linchpin/set.first", laid_linchpin_set_first)] }
def PlanBackSaid : Prop := planBackRow.holds Tryz.pinned (OpenSpec.ofChange planBackSpec)

/-- ITS FALSE NEIGHBOUR: 'it returns false'. Refute it at one input. -/
def planBackWrong : ChangeSpec := { name := "planBack", fn := fun _ => fun
  | [d1, d2, d3, d4] => { results := [.lit (.bool false)], args := [d1, d2, d3, d4] }
  | _ => none }
def PlanBackWrongFalsely : Prop := planBackRow.holds Tryz.pinned (OpenSpec.ofChange planBackWrong)

/- THE SECOND FORM. 'bulk': how many values and letters a reading holds, each counted each time it is reached (what is shared counts as often as it is met; a slice's spare places count too). A statement '..UptoSaid' is the law's where the arguments, and the package variables that the reading takes, are together of bulk at most 1048576: NARROWER than '..Said'. Prove '..Said' where nothing that the law and all that it calls make is longer than what came in: it says more and counts as full. Else prove '..UptoSaid'. A law counts once. -/
mutual
def uptoBulk {H : Type} : DataW H → Nat
  | .lit (.string bytes) => bytes.length + 1
  | .lit _ => 1
  | .nil => 1
  | .ptr d => uptoBulk d + 1
  | .slice elems spare => uptoBulkAll elems + uptoBulkAll spare + 1
  | .agg parts => uptoBulkAll parts + 1
  | .iface _ d => uptoBulk d + 1
  | .map entries => uptoBulkEntries entries + 1
  | .held _ => 1
def uptoBulkAll {H : Type} : List (DataW H) → Nat
  | [] => 0
  | d :: r => uptoBulk d + uptoBulkAll r
def uptoBulkEntries {H : Type} : List (Lit × DataW H) → Nat
  | [] => 0
  | x :: r => uptoBulkEntry x + uptoBulkEntries r
def uptoBulkEntry {H : Type} : Lit × DataW H → Nat
  | (.string bytes, d) => bytes.length + uptoBulk d + 1
  | (_, d) => uptoBulk d + 1
 end
def uptoSmall : (H : Type) → List (DataW H) → Bool := fun _ ds => decide (uptoBulkAll ds ≤ 1048576)
def OpenSpec.upto (s : _root_.Go.ChangeSpec) : _root_.Go.OpenSpec := { _root_.Go.OpenSpec.ofChange s with cond := some uptoSmall }

/-- 'linchpinlaw39.PlanDoes', WHERE WHAT IT READS IS OF BULK AT MOST 1048576: true; the input reads as it did. -/
def planDoesUptoRow : OpenClaim := { program := "ytlmkglgjdmjnkaagreatdoor", sum := "28e0d24d64d958e39fcf1d33c8d13569d02b81f8d0e840604d3c6d7b85a9b7eb", func := "linchpin/linchpinlaw39.PlanDoes", spec := "planDoes", inPlace := ["internal/bytealg.abigen_runtime_cmpstring"], unfollowed := true, recurses := true, named := ["linchpin/set.first"], apart := false, laid := [("linchpin/set.first", laid_linchpin_set_first)], narrowed := true }
def PlanDoesUptoSaid : Prop := planDoesUptoRow.holds Tryz.pinned (OpenSpec.upto planDoesSpec)

/-- 'linchpinlaw39.PlanArrives', WHERE WHAT IT READS IS OF BULK AT MOST 1048576: true; the input reads as it did. -/
def planArrivesUptoRow : OpenClaim := { program := "ytlmkglgjdmjnkaagreatdoor", sum := "28e0d24d64d958e39fcf1d33c8d13569d02b81f8d0e840604d3c6d7b85a9b7eb", func := "linchpin/linchpinlaw39.PlanArrives", spec := "planArrives", inPlace := ["internal/bytealg.abigen_runtime_cmpstring"], unfollowed := true, recurses := true, named := ["linchpin/set.first"], apart := false, laid := [("linchpin/set.first", laid_linchpin_set_first)], narrowed := true }
def PlanArrivesUptoSaid : Prop := planArrivesUptoRow.holds Tryz.pinned (OpenSpec.upto planArrivesSpec)

/-- 'linchpinlaw39.PlanBack', WHERE WHAT IT READS IS OF BULK AT MOST 1048576: true; the input reads as it did. -/
def planBackUptoRow : OpenClaim := { program := "ytlmkglgjdmjnkaagreatdoor", sum := "28e0d24d64d958e39fcf1d33c8d13569d02b81f8d0e840604d3c6d7b85a9b7eb", func := "linchpin/linchpinlaw39.PlanBack", spec := "planBack", inPlace := ["internal/bytealg.abigen_runtime_cmpstring"], unfollowed := true, recurses := true, named := ["linchpin/set.first"], apart := false, laid := [("linchpin/set.first", laid_linchpin_set_first)], narrowed := true }
def PlanBackUptoSaid : Prop := planBackUptoRow.holds Tryz.pinned (OpenSpec.upto planBackSpec)

end Rows
end Go.Proofs.YtlmkglgjdmjnkaaGreatDoor
