/-
  DERIVED. GIVEN WITH THE SEED: THE CARDS: each row of YtlmkglgjdmjnkaaGreatDoorRows.lean that lists a variable, with what it lists TIED to the program's text (the seventh form; the later family's looks); each row that meets fmt, with fmt's text TOLD by the authors' own Lean function (tested against real Go, not proved from fmt's source: count such statements apart). THE CARD IS WHAT COUNTS. Prove the row's statement (the work); the ties are given (YtlmkglgjdmjnkaaGreatDoorTie.lean); close each card by the builder's one call (the guide's Derived/Test/ToyasCard.lean, 'card_holds'). Laid BY PROGRAM, IN A SANDBOX (cutbox-door.mjs). By AI agents, Wed Nov 11 2026. No macro, syntax, notation, axiom, sorry.
-/
import Derived.Test.YtlmkglgjdmjnkaaGreatDoorRows
import GoSem.ClaimSeven
namespace Go.Proofs.YtlmkglgjdmjnkaaGreatDoor
namespace Rows

/-- THE TIED CARD OF 'linchpinlaw39.PlanDoes'. -/
def planDoesCard : Claim7 := { stood := { row := planDoesRow, standIns := [], harness := (true, "2baf5c6336ca2de67c5820576e1622a94208e39f86375677cebb4dc98944847a"), looks := false }, kinds := [], alts := [], laidByText := true, laidKinds := [.data], laidTests := true, laidLooks := .later }
def PlanDoesCardSaid : Prop := Claim7.holds Tryz.pinned (.plain (OpenSpec.ofChange planDoesSpec)) planDoesCard

/-- THE TIED CARD OF 'linchpinlaw39.PlanArrives'. -/
def planArrivesCard : Claim7 := { stood := { row := planArrivesRow, standIns := [], harness := (true, "2baf5c6336ca2de67c5820576e1622a94208e39f86375677cebb4dc98944847a"), looks := false }, kinds := [], alts := [], laidByText := true, laidKinds := [.data], laidTests := true, laidLooks := .later }
def PlanArrivesCardSaid : Prop := Claim7.holds Tryz.pinned (.plain (OpenSpec.ofChange planArrivesSpec)) planArrivesCard

/-- THE TIED CARD OF 'linchpinlaw39.PlanBack'. -/
def planBackCard : Claim7 := { stood := { row := planBackRow, standIns := [], harness := (true, "2baf5c6336ca2de67c5820576e1622a94208e39f86375677cebb4dc98944847a"), looks := false }, kinds := [], alts := [], laidByText := true, laidKinds := [.data], laidTests := true, laidLooks := .later }
def PlanBackCardSaid : Prop := Claim7.holds Tryz.pinned (.plain (OpenSpec.ofChange planBackSpec)) planBackCard

/-- THE SECOND FORM's CARD OF 'linchpinlaw39.PlanDoes'. -/
def planDoesUptoCard : Claim7 := { stood := { row := planDoesUptoRow, standIns := [], harness := (true, "2baf5c6336ca2de67c5820576e1622a94208e39f86375677cebb4dc98944847a"), looks := false }, kinds := [], alts := [], laidByText := true, laidKinds := [.data], laidTests := true, laidLooks := .later }
def PlanDoesUptoCardSaid : Prop := Claim7.holds Tryz.pinned (.plain (OpenSpec.upto planDoesSpec)) planDoesUptoCard

/-- THE SECOND FORM's CARD OF 'linchpinlaw39.PlanArrives'. -/
def planArrivesUptoCard : Claim7 := { stood := { row := planArrivesUptoRow, standIns := [], harness := (true, "2baf5c6336ca2de67c5820576e1622a94208e39f86375677cebb4dc98944847a"), looks := false }, kinds := [], alts := [], laidByText := true, laidKinds := [.data], laidTests := true, laidLooks := .later }
def PlanArrivesUptoCardSaid : Prop := Claim7.holds Tryz.pinned (.plain (OpenSpec.upto planArrivesSpec)) planArrivesUptoCard

/-- THE SECOND FORM's CARD OF 'linchpinlaw39.PlanBack'. -/
def planBackUptoCard : Claim7 := { stood := { row := planBackUptoRow, standIns := [], harness := (true, "2baf5c6336ca2de67c5820576e1622a94208e39f86375677cebb4dc98944847a"), looks := false }, kinds := [], alts := [], laidByText := true, laidKinds := [.data], laidTests := true, laidLooks := .later }
def PlanBackUptoCardSaid : Prop := Claim7.holds Tryz.pinned (.plain (OpenSpec.upto planBackSpec)) planBackUptoCard
end Rows
end Go.Proofs.YtlmkglgjdmjnkaaGreatDoor
