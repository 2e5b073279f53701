/-
  DERIVED. GIVEN WITH THE SEED: THE CARDS: each row of YtofkjhnhafbfoaaGreatDoorRows.lean that lists a variable, with what it lists TIED to the program's text (the seventh form; the later family's looks); each row that meets fmt, with fmt's text TOLD by the authors' own Lean function (tested against real Go, not proved from fmt's source: count such statements apart). THE CARD IS WHAT COUNTS. Prove the row's statement (the work); the ties are given (YtofkjhnhafbfoaaGreatDoorTie.lean); close each card by the builder's one call (the guide's Derived/Test/ToyasCard.lean, 'card_holds'). Laid BY PROGRAM, IN A SANDBOX (cutbox-door.mjs). By AI agents, Wed Nov 11 2026. No macro, syntax, notation, axiom, sorry.
-/
import Derived.Test.YtofkjhnhafbfoaaGreatDoorRows
import GoSem.ClaimSeven
namespace Go.Proofs.YtofkjhnhafbfoaaGreatDoor
namespace Rows

/-- THE TIED CARD OF 'linchpinlaw13.ShelfPuts'. -/
def shelfPutsCard : Claim7 := { stood := { row := shelfPutsRow, standIns := [], harness := (true, "a766f12f2f84c03a92f9e885cec2e9c1400d76c12d0a407508c9bb9a3288a94f"), looks := false }, kinds := [], alts := [], laidByText := true, laidKinds := [.data, .data, .data, .data, .pinned], laidTests := true, laidLooks := .later }
def ShelfPutsCardSaid : Prop := Claim7.holds Tryz.pinned (.plain (OpenSpec.ofChange shelfPutsSpec)) shelfPutsCard

/-- THE TIED CARD OF 'linchpinlaw13.ShelfPlays'. -/
def shelfPlaysCard : Claim7 := { stood := { row := shelfPlaysRow, standIns := [], harness := (true, "a766f12f2f84c03a92f9e885cec2e9c1400d76c12d0a407508c9bb9a3288a94f"), looks := false }, kinds := [], alts := [], laidByText := true, laidKinds := [.data, .data, .data, .data, .pinned], laidTests := true, laidLooks := .later }
def ShelfPlaysCardSaid : Prop := Claim7.holds Tryz.pinned (.plain (OpenSpec.ofChange shelfPlaysSpec)) shelfPlaysCard

/-- THE TIED CARD OF 'linchpinlaw13.ShelfGrown'. -/
def shelfGrownCard : Claim7 := { stood := { row := shelfGrownRow, standIns := [], harness := (true, "a766f12f2f84c03a92f9e885cec2e9c1400d76c12d0a407508c9bb9a3288a94f"), looks := false }, kinds := [], alts := [], laidByText := true, laidKinds := [.data, .data, .data, .data, .pinned], laidTests := true, laidLooks := .later }
def ShelfGrownCardSaid : Prop := Claim7.holds Tryz.pinned (.plain (OpenSpec.ofChange shelfGrownSpec)) shelfGrownCard

/-- THE TIED CARD OF 'linchpinlaw13.ShelfSums'. -/
def shelfSumsCard : Claim7 := { stood := { row := shelfSumsRow, standIns := [], harness := (true, "a766f12f2f84c03a92f9e885cec2e9c1400d76c12d0a407508c9bb9a3288a94f"), looks := false }, kinds := [], alts := [], laidByText := true, laidKinds := [.data, .data, .data, .data, .pinned], laidTests := true, laidLooks := .later }
def ShelfSumsCardSaid : Prop := Claim7.holds Tryz.pinned (.plain (OpenSpec.ofChange shelfSumsSpec)) shelfSumsCard

/-- THE TIED CARD OF 'linchpinlaw15.ShopRaw'. -/
def shopRawCard : Claim7 := { stood := { row := shopRawRow, standIns := [], harness := (true, "a766f12f2f84c03a92f9e885cec2e9c1400d76c12d0a407508c9bb9a3288a94f"), looks := false }, kinds := [], alts := [], laidByText := true, laidKinds := [.data, .data, .data, .data, .pinned], laidTests := true, laidLooks := .later }
def ShopRawCardSaid : Prop := Claim7.holds Tryz.pinned (.plain (OpenSpec.ofChange shopRawSpec)) shopRawCard

/-- THE TIED CARD OF 'linchpinlaw13.ShelfTwo'. -/
def shelfTwoCard : Claim7 := { stood := { row := shelfTwoRow, standIns := [], harness := (true, "a766f12f2f84c03a92f9e885cec2e9c1400d76c12d0a407508c9bb9a3288a94f"), looks := false }, kinds := [], alts := [], laidByText := true, laidKinds := [.data, .data, .data, .data, .pinned], laidTests := true, laidLooks := .later }
def ShelfTwoCardSaid : Prop := Claim7.holds Tryz.pinned (.plain (OpenSpec.ofChange shelfTwoSpec)) shelfTwoCard

/-- THE TIED CARD OF 'linchpinlaw13.ShelfRaw'. -/
def shelfRawCard : Claim7 := { stood := { row := shelfRawRow, standIns := [], harness := (true, "a766f12f2f84c03a92f9e885cec2e9c1400d76c12d0a407508c9bb9a3288a94f"), looks := false }, kinds := [], alts := [], laidByText := true, laidKinds := [.data, .data, .data, .data, .pinned], laidTests := true, laidLooks := .later }
def ShelfRawCardSaid : Prop := Claim7.holds Tryz.pinned (.plain (OpenSpec.ofChange shelfRawSpec)) shelfRawCard

/-- THE SECOND FORM's CARD OF 'linchpinlaw13.ShelfPuts'. -/
def shelfPutsUptoCard : Claim7 := { stood := { row := shelfPutsUptoRow, standIns := [], harness := (true, "a766f12f2f84c03a92f9e885cec2e9c1400d76c12d0a407508c9bb9a3288a94f"), looks := false }, kinds := [], alts := [], laidByText := true, laidKinds := [.data, .data, .data, .data, .pinned], laidTests := true, laidLooks := .later }
def ShelfPutsUptoCardSaid : Prop := Claim7.holds Tryz.pinned (.plain (OpenSpec.upto shelfPutsSpec)) shelfPutsUptoCard

/-- THE SECOND FORM's CARD OF 'linchpinlaw13.ShelfPlays'. -/
def shelfPlaysUptoCard : Claim7 := { stood := { row := shelfPlaysUptoRow, standIns := [], harness := (true, "a766f12f2f84c03a92f9e885cec2e9c1400d76c12d0a407508c9bb9a3288a94f"), looks := false }, kinds := [], alts := [], laidByText := true, laidKinds := [.data, .data, .data, .data, .pinned], laidTests := true, laidLooks := .later }
def ShelfPlaysUptoCardSaid : Prop := Claim7.holds Tryz.pinned (.plain (OpenSpec.upto shelfPlaysSpec)) shelfPlaysUptoCard

/-- THE SECOND FORM's CARD OF 'linchpinlaw13.ShelfGrown'. -/
def shelfGrownUptoCard : Claim7 := { stood := { row := shelfGrownUptoRow, standIns := [], harness := (true, "a766f12f2f84c03a92f9e885cec2e9c1400d76c12d0a407508c9bb9a3288a94f"), looks := false }, kinds := [], alts := [], laidByText := true, laidKinds := [.data, .data, .data, .data, .pinned], laidTests := true, laidLooks := .later }
def ShelfGrownUptoCardSaid : Prop := Claim7.holds Tryz.pinned (.plain (OpenSpec.upto shelfGrownSpec)) shelfGrownUptoCard

/-- THE SECOND FORM's CARD OF 'linchpinlaw13.ShelfSums'. -/
def shelfSumsUptoCard : Claim7 := { stood := { row := shelfSumsUptoRow, standIns := [], harness := (true, "a766f12f2f84c03a92f9e885cec2e9c1400d76c12d0a407508c9bb9a3288a94f"), looks := false }, kinds := [], alts := [], laidByText := true, laidKinds := [.data, .data, .data, .data, .pinned], laidTests := true, laidLooks := .later }
def ShelfSumsUptoCardSaid : Prop := Claim7.holds Tryz.pinned (.plain (OpenSpec.upto shelfSumsSpec)) shelfSumsUptoCard

/-- THE SECOND FORM's CARD OF 'linchpinlaw15.ShopRaw'. -/
def shopRawUptoCard : Claim7 := { stood := { row := shopRawUptoRow, standIns := [], harness := (true, "a766f12f2f84c03a92f9e885cec2e9c1400d76c12d0a407508c9bb9a3288a94f"), looks := false }, kinds := [], alts := [], laidByText := true, laidKinds := [.data, .data, .data, .data, .pinned], laidTests := true, laidLooks := .later }
def ShopRawUptoCardSaid : Prop := Claim7.holds Tryz.pinned (.plain (OpenSpec.upto shopRawSpec)) shopRawUptoCard

/-- THE SECOND FORM's CARD OF 'linchpinlaw13.ShelfTwo'. -/
def shelfTwoUptoCard : Claim7 := { stood := { row := shelfTwoUptoRow, standIns := [], harness := (true, "a766f12f2f84c03a92f9e885cec2e9c1400d76c12d0a407508c9bb9a3288a94f"), looks := false }, kinds := [], alts := [], laidByText := true, laidKinds := [.data, .data, .data, .data, .pinned], laidTests := true, laidLooks := .later }
def ShelfTwoUptoCardSaid : Prop := Claim7.holds Tryz.pinned (.plain (OpenSpec.upto shelfTwoSpec)) shelfTwoUptoCard

/-- THE SECOND FORM's CARD OF 'linchpinlaw13.ShelfRaw'. -/
def shelfRawUptoCard : Claim7 := { stood := { row := shelfRawUptoRow, standIns := [], harness := (true, "a766f12f2f84c03a92f9e885cec2e9c1400d76c12d0a407508c9bb9a3288a94f"), looks := false }, kinds := [], alts := [], laidByText := true, laidKinds := [.data, .data, .data, .data, .pinned], laidTests := true, laidLooks := .later }
def ShelfRawUptoCardSaid : Prop := Claim7.holds Tryz.pinned (.plain (OpenSpec.upto shelfRawSpec)) shelfRawUptoCard
end Rows
end Go.Proofs.YtofkjhnhafbfoaaGreatDoor
