/-
  DERIVED. GIVEN WITH THE SEED: THE CARDS: each row of YtiebekmefjbenaaGreatDoorRows.lean that lists a variable, with what it lists TIED to the program's text (the seventh form; the later family's looks); each row that meets fmt, with fmt's text TOLD by the authors' own Lean function (tested against real Go, not proved from fmt's source: count such statements apart). THE CARD IS WHAT COUNTS. Prove the row's statement (the work); the ties are given (YtiebekmefjbenaaGreatDoorTie.lean); close each card by the builder's one call (the guide's Derived/Test/ToyasCard.lean, 'card_holds'). Laid BY PROGRAM, IN A SANDBOX (cutbox-door.mjs). By AI agents, Wed Nov 11 2026. No macro, syntax, notation, axiom, sorry.
-/
import Derived.Test.YtiebekmefjbenaaGreatDoorRows
import GoSem.ClaimSeven
namespace Go.Proofs.YtiebekmefjbenaaGreatDoor
namespace Rows

/-- THE TIED CARD OF 'linchpinlaw13.ShelfPlays'. -/
def shelfPlaysCard : Claim7 := { stood := { row := shelfPlaysRow, standIns := [], harness := (true, "789945b7ac764c269a843c8b0a1668d40fa0bf1e61ab7e21bc368489e3d52f63"), looks := false }, kinds := [], alts := [], laidByText := true, laidKinds := [.data, .data, .data, .data, .pinned], laidTests := true, laidLooks := .later }
def ShelfPlaysCardSaid : Prop := Claim7.holds Tryz.pinned (.plain (OpenSpec.ofChange shelfPlaysSpec)) shelfPlaysCard

/-- THE TIED CARD OF 'linchpinlaw13.ShelfSums'. -/
def shelfSumsCard : Claim7 := { stood := { row := shelfSumsRow, standIns := [], harness := (true, "789945b7ac764c269a843c8b0a1668d40fa0bf1e61ab7e21bc368489e3d52f63"), looks := false }, kinds := [], alts := [], laidByText := true, laidKinds := [.data, .data, .data, .data, .pinned], laidTests := true, laidLooks := .later }
def ShelfSumsCardSaid : Prop := Claim7.holds Tryz.pinned (.plain (OpenSpec.ofChange shelfSumsSpec)) shelfSumsCard

/-- THE TIED CARD OF 'linchpinlaw13.ShelfTwo'. -/
def shelfTwoCard : Claim7 := { stood := { row := shelfTwoRow, standIns := [], harness := (true, "789945b7ac764c269a843c8b0a1668d40fa0bf1e61ab7e21bc368489e3d52f63"), looks := false }, kinds := [], alts := [], laidByText := true, laidKinds := [.data, .data, .data, .data, .pinned], laidTests := true, laidLooks := .later }
def ShelfTwoCardSaid : Prop := Claim7.holds Tryz.pinned (.plain (OpenSpec.ofChange shelfTwoSpec)) shelfTwoCard

/-- THE SECOND FORM's CARD OF 'linchpinlaw13.ShelfPlays'. -/
def shelfPlaysUptoCard : Claim7 := { stood := { row := shelfPlaysUptoRow, standIns := [], harness := (true, "789945b7ac764c269a843c8b0a1668d40fa0bf1e61ab7e21bc368489e3d52f63"), looks := false }, kinds := [], alts := [], laidByText := true, laidKinds := [.data, .data, .data, .data, .pinned], laidTests := true, laidLooks := .later }
def ShelfPlaysUptoCardSaid : Prop := Claim7.holds Tryz.pinned (.plain (OpenSpec.upto shelfPlaysSpec)) shelfPlaysUptoCard

/-- THE SECOND FORM's CARD OF 'linchpinlaw13.ShelfSums'. -/
def shelfSumsUptoCard : Claim7 := { stood := { row := shelfSumsUptoRow, standIns := [], harness := (true, "789945b7ac764c269a843c8b0a1668d40fa0bf1e61ab7e21bc368489e3d52f63"), looks := false }, kinds := [], alts := [], laidByText := true, laidKinds := [.data, .data, .data, .data, .pinned], laidTests := true, laidLooks := .later }
def ShelfSumsUptoCardSaid : Prop := Claim7.holds Tryz.pinned (.plain (OpenSpec.upto shelfSumsSpec)) shelfSumsUptoCard

/-- THE SECOND FORM's CARD OF 'linchpinlaw13.ShelfTwo'. -/
def shelfTwoUptoCard : Claim7 := { stood := { row := shelfTwoUptoRow, standIns := [], harness := (true, "789945b7ac764c269a843c8b0a1668d40fa0bf1e61ab7e21bc368489e3d52f63"), looks := false }, kinds := [], alts := [], laidByText := true, laidKinds := [.data, .data, .data, .data, .pinned], laidTests := true, laidLooks := .later }
def ShelfTwoUptoCardSaid : Prop := Claim7.holds Tryz.pinned (.plain (OpenSpec.upto shelfTwoSpec)) shelfTwoUptoCard
end Rows
end Go.Proofs.YtiebekmefjbenaaGreatDoor
