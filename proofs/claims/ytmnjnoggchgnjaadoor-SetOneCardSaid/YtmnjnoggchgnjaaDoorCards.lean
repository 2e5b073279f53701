/-
  DERIVED. GIVEN WITH THE SEED: THE CARDS: each row of YtmnjnoggchgnjaaDoorRows.lean that lists a variable, with what it lists TIED to the program's text (the seventh form; the later family's looks); each row that meets fmt, with fmt's text TOLD by the authors' own Lean function (tested against real Go, not proved from fmt's source: count such statements apart). THE CARD IS WHAT COUNTS. Prove the row's statement (the work); the ties are given (YtmnjnoggchgnjaaDoorTie.lean); close each card by the builder's one call (the guide's Derived/Test/ToyasCard.lean, 'card_holds'). Laid BY PROGRAM, IN A SANDBOX (cutbox-door.mjs). By AI agents, Wed Nov 11 2026. No macro, syntax, notation, axiom, sorry.
-/
import Derived.Test.YtmnjnoggchgnjaaDoorRows
import GoSem.ClaimSeven
namespace Go.Proofs.YtmnjnoggchgnjaaDoor
namespace Rows

/-- THE TIED CARD OF 'linchpinlaw5.SetOne'. -/
def setOneCard : Claim7 := { stood := { row := setOneRow, standIns := [], harness := (true, "ed0845f31caf70eed41bf3931577117b5abfa18fdc328a49e3c407d968b9c689"), looks := false }, kinds := [], alts := [], laidByText := true, laidKinds := [.data], laidTests := true, laidLooks := .later }
def SetOneCardSaid : Prop := Claim7.holds Tryd.pinned (.plain (OpenSpec.ofChange setOneSpec)) setOneCard

/-- THE TIED CARD OF 'linchpinlaw5.SetExact'. -/
def setExactCard : Claim7 := { stood := { row := setExactRow, standIns := [], harness := (true, "ed0845f31caf70eed41bf3931577117b5abfa18fdc328a49e3c407d968b9c689"), looks := false }, kinds := [], alts := [], laidByText := true, laidKinds := [.data], laidTests := true, laidLooks := .later }
def SetExactCardSaid : Prop := Claim7.holds Tryd.pinned (.plain (OpenSpec.ofChange setExactSpec)) setExactCard

/-- THE TIED CARD OF 'linchpinlaw5.SetList'. -/
def setListCard : Claim7 := { stood := { row := setListRow, standIns := [], harness := (true, "ed0845f31caf70eed41bf3931577117b5abfa18fdc328a49e3c407d968b9c689"), looks := false }, kinds := [], alts := [], laidByText := true, laidKinds := [.data], laidTests := true, laidLooks := .later }
def SetListCardSaid : Prop := Claim7.holds Tryd.pinned (.plain (OpenSpec.ofChange setListSpec)) setListCard

/-- THE SECOND FORM's CARD OF 'linchpinlaw5.SetOne'. -/
def setOneUptoCard : Claim7 := { stood := { row := setOneUptoRow, standIns := [], harness := (true, "ed0845f31caf70eed41bf3931577117b5abfa18fdc328a49e3c407d968b9c689"), looks := false }, kinds := [], alts := [], laidByText := true, laidKinds := [.data], laidTests := true, laidLooks := .later }
def SetOneUptoCardSaid : Prop := Claim7.holds Tryd.pinned (.plain (OpenSpec.upto setOneSpec)) setOneUptoCard

/-- THE SECOND FORM's CARD OF 'linchpinlaw5.SetExact'. -/
def setExactUptoCard : Claim7 := { stood := { row := setExactUptoRow, standIns := [], harness := (true, "ed0845f31caf70eed41bf3931577117b5abfa18fdc328a49e3c407d968b9c689"), looks := false }, kinds := [], alts := [], laidByText := true, laidKinds := [.data], laidTests := true, laidLooks := .later }
def SetExactUptoCardSaid : Prop := Claim7.holds Tryd.pinned (.plain (OpenSpec.upto setExactSpec)) setExactUptoCard

/-- THE SECOND FORM's CARD OF 'linchpinlaw5.SetList'. -/
def setListUptoCard : Claim7 := { stood := { row := setListUptoRow, standIns := [], harness := (true, "ed0845f31caf70eed41bf3931577117b5abfa18fdc328a49e3c407d968b9c689"), looks := false }, kinds := [], alts := [], laidByText := true, laidKinds := [.data], laidTests := true, laidLooks := .later }
def SetListUptoCardSaid : Prop := Claim7.holds Tryd.pinned (.plain (OpenSpec.upto setListSpec)) setListUptoCard
end Rows
end Go.Proofs.YtmnjnoggchgnjaaDoor
