/-
  DERIVED. GIVEN WITH THE SEED: THE CARDS: each row of YtiffijoenkcpjaaGreatDoorRows.lean that lists a variable, with what it lists TIED to the program's text (the seventh form; the later family's looks); each row that meets fmt, with fmt's text TOLD by the authors' own Lean function (tested against real Go, not proved from fmt's source: count such statements apart). THE CARD IS WHAT COUNTS. Prove the row's statement (the work); the ties are given (YtiffijoenkcpjaaGreatDoorTie.lean); close each card by the builder's one call (the guide's Derived/Test/ToyasCard.lean, 'card_holds'). Laid BY PROGRAM, IN A SANDBOX (cutbox-door.mjs). By AI agents, Wed Nov 11 2026. No macro, syntax, notation, axiom, sorry.
-/
import Derived.Test.YtiffijoenkcpjaaGreatDoorRows
import GoSem.ClaimSeven
namespace Go.Proofs.YtiffijoenkcpjaaGreatDoor
namespace Rows

/-- THE TIED CARD OF 'linchpinlaw17.YardOrder'. -/
def yardOrderCard : Claim7 := { stood := { row := yardOrderRow, standIns := [], harness := (true, "3b183db7de815593b3cfab3430924e00f977b9b7490dd02e1ee844e8a136b39a"), looks := true }, kinds := [], alts := [], laidByText := true, laidKinds := [.data, .data, .data, .data, .data, .pinned], laidTests := true, laidLooks := .later }
def YardOrderCardSaid : Prop := Claim7.holds Tryz.pinned (.plain (OpenSpec.ofChange yardOrderSpec)) yardOrderCard

/-- THE TIED CARD OF 'linchpinlaw17.YardHeld'. -/
def yardHeldCard : Claim7 := { stood := { row := yardHeldRow, standIns := [], harness := (true, "3b183db7de815593b3cfab3430924e00f977b9b7490dd02e1ee844e8a136b39a"), looks := true }, kinds := [], alts := [], laidByText := true, laidKinds := [.data, .data, .data, .data, .data, .pinned], laidTests := true, laidLooks := .later }
def YardHeldCardSaid : Prop := Claim7.holds Tryz.pinned (.plain (OpenSpec.ofChange yardHeldSpec)) yardHeldCard

/-- THE TIED CARD OF 'linchpinlaw17.YardPins'. -/
def yardPinsCard : Claim7 := { stood := { row := yardPinsRow, standIns := [], harness := (true, "3b183db7de815593b3cfab3430924e00f977b9b7490dd02e1ee844e8a136b39a"), looks := true }, kinds := [], alts := [], laidByText := true, laidKinds := [.data, .data, .data, .data, .data, .pinned], laidTests := true, laidLooks := .later }
def YardPinsCardSaid : Prop := Claim7.holds Tryz.pinned (.plain (OpenSpec.ofChange yardPinsSpec)) yardPinsCard

/-- THE TIED CARD OF 'linchpinlaw17.YardOpen'. -/
def yardOpenCard : Claim7 := { stood := { row := yardOpenRow, standIns := [], harness := (true, "3b183db7de815593b3cfab3430924e00f977b9b7490dd02e1ee844e8a136b39a"), looks := true }, kinds := [], alts := [], laidByText := true, laidKinds := [.data, .data, .data, .data, .data, .pinned], laidTests := true, laidLooks := .later }
def YardOpenCardSaid : Prop := Claim7.holds Tryz.pinned (.plain (OpenSpec.ofChange yardOpenSpec)) yardOpenCard

/-- THE SECOND FORM's CARD OF 'linchpinlaw17.YardOrder'. -/
def yardOrderUptoCard : Claim7 := { stood := { row := yardOrderUptoRow, standIns := [], harness := (true, "3b183db7de815593b3cfab3430924e00f977b9b7490dd02e1ee844e8a136b39a"), looks := true }, kinds := [], alts := [], laidByText := true, laidKinds := [.data, .data, .data, .data, .data, .pinned], laidTests := true, laidLooks := .later }
def YardOrderUptoCardSaid : Prop := Claim7.holds Tryz.pinned (.plain (OpenSpec.upto yardOrderSpec)) yardOrderUptoCard

/-- THE SECOND FORM's CARD OF 'linchpinlaw17.YardHeld'. -/
def yardHeldUptoCard : Claim7 := { stood := { row := yardHeldUptoRow, standIns := [], harness := (true, "3b183db7de815593b3cfab3430924e00f977b9b7490dd02e1ee844e8a136b39a"), looks := true }, kinds := [], alts := [], laidByText := true, laidKinds := [.data, .data, .data, .data, .data, .pinned], laidTests := true, laidLooks := .later }
def YardHeldUptoCardSaid : Prop := Claim7.holds Tryz.pinned (.plain (OpenSpec.upto yardHeldSpec)) yardHeldUptoCard

/-- THE SECOND FORM's CARD OF 'linchpinlaw17.YardPins'. -/
def yardPinsUptoCard : Claim7 := { stood := { row := yardPinsUptoRow, standIns := [], harness := (true, "3b183db7de815593b3cfab3430924e00f977b9b7490dd02e1ee844e8a136b39a"), looks := true }, kinds := [], alts := [], laidByText := true, laidKinds := [.data, .data, .data, .data, .data, .pinned], laidTests := true, laidLooks := .later }
def YardPinsUptoCardSaid : Prop := Claim7.holds Tryz.pinned (.plain (OpenSpec.upto yardPinsSpec)) yardPinsUptoCard

/-- THE SECOND FORM's CARD OF 'linchpinlaw17.YardOpen'. -/
def yardOpenUptoCard : Claim7 := { stood := { row := yardOpenUptoRow, standIns := [], harness := (true, "3b183db7de815593b3cfab3430924e00f977b9b7490dd02e1ee844e8a136b39a"), looks := true }, kinds := [], alts := [], laidByText := true, laidKinds := [.data, .data, .data, .data, .data, .pinned], laidTests := true, laidLooks := .later }
def YardOpenUptoCardSaid : Prop := Claim7.holds Tryz.pinned (.plain (OpenSpec.upto yardOpenSpec)) yardOpenUptoCard
end Rows
end Go.Proofs.YtiffijoenkcpjaaGreatDoor
