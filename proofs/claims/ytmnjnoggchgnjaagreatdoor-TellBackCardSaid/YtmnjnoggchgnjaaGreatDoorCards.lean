/-
  DERIVED. GIVEN WITH THE SEED: THE CARDS: each row of YtmnjnoggchgnjaaGreatDoorRows.lean that lists a variable, with what it lists TIED to the program's text (the seventh form; the later family's looks); each row that meets fmt, with fmt's text TOLD by the authors' own Lean function (tested against real Go, not proved from fmt's source: count such statements apart). THE CARD IS WHAT COUNTS. Prove the row's statement (the work); the ties are given (YtmnjnoggchgnjaaGreatDoorTie.lean); close each card by the builder's one call (the guide's Derived/Test/ToyasCard.lean, 'card_holds'). Laid BY PROGRAM, IN A SANDBOX (cutbox-door.mjs). By AI agents, Wed Nov 11 2026. No macro, syntax, notation, axiom, sorry.
-/
import Derived.Test.YtmnjnoggchgnjaaGreatDoorRows
import GoSem.ClaimSeven
namespace Go.Proofs.YtmnjnoggchgnjaaGreatDoor
namespace Rows

/-- THE TIED CARD OF 'linchpinlaw5.SetEnds'. -/
def setEndsCard : Claim7 := { stood := { row := setEndsRow, standIns := [], harness := (true, "5cb3983621be0a08c6e5af00e52364f88374ad8bc24036ec600e98f9857fc457"), looks := false }, kinds := [], alts := [], laidByText := true, laidKinds := [.data], laidTests := true, laidLooks := .later }
def SetEndsCardSaid : Prop := Claim7.holds Tryz.pinned (.plain (OpenSpec.ofChange setEndsSpec)) setEndsCard

/-- THE TIED CARD OF 'linchpinlaw5.SetAlgebra'. -/
def setAlgebraCard : Claim7 := { stood := { row := setAlgebraRow, standIns := [], harness := (true, "5cb3983621be0a08c6e5af00e52364f88374ad8bc24036ec600e98f9857fc457"), looks := false }, kinds := [], alts := [], laidByText := true, laidKinds := [.data], laidTests := true, laidLooks := .later }
def SetAlgebraCardSaid : Prop := Claim7.holds Tryz.pinned (.plain (OpenSpec.ofChange setAlgebraSpec)) setAlgebraCard

/-- THE TIED CARD OF 'linchpinlaw5.SetMeans'. -/
def setMeansCard : Claim7 := { stood := { row := setMeansRow, standIns := [], harness := (true, "5cb3983621be0a08c6e5af00e52364f88374ad8bc24036ec600e98f9857fc457"), looks := false }, kinds := [], alts := [], laidByText := true, laidKinds := [.data], laidTests := true, laidLooks := .later }
def SetMeansCardSaid : Prop := Claim7.holds Tryz.pinned (.plain (OpenSpec.ofChange setMeansSpec)) setMeansCard

/-- THE TIED CARD OF 'linchpinlaw5.SetLaws'. -/
def setLawsCard : Claim7 := { stood := { row := setLawsRow, standIns := [], harness := (true, "5cb3983621be0a08c6e5af00e52364f88374ad8bc24036ec600e98f9857fc457"), looks := false }, kinds := [], alts := [], laidByText := true, laidKinds := [.data], laidTests := true, laidLooks := .later }
def SetLawsCardSaid : Prop := Claim7.holds Tryz.pinned (.plain (OpenSpec.ofChange setLawsSpec)) setLawsCard

/-- THE TIED CARD OF 'linchpinlaw5.SetRaw'. -/
def setRawCard : Claim7 := { stood := { row := setRawRow, standIns := [], harness := (true, "5cb3983621be0a08c6e5af00e52364f88374ad8bc24036ec600e98f9857fc457"), looks := false }, kinds := [], alts := [], laidByText := true, laidKinds := [.data], laidTests := true, laidLooks := .later }
def SetRawCardSaid : Prop := Claim7.holds Tryz.pinned (.plain (OpenSpec.ofChange setRawSpec)) setRawCard

/-- THE TIED CARD OF 'linchpinlaw5.SetMakes'. -/
def setMakesCard : Claim7 := { stood := { row := setMakesRow, standIns := [], harness := (true, "5cb3983621be0a08c6e5af00e52364f88374ad8bc24036ec600e98f9857fc457"), looks := false }, kinds := [], alts := [], laidByText := true, laidKinds := [.data], laidTests := true, laidLooks := .later }
def SetMakesCardSaid : Prop := Claim7.holds Tryz.pinned (.plain (OpenSpec.ofChange setMakesSpec)) setMakesCard

/-- THE TIED CARD OF 'linchpinlaw8.TellPrints'. -/
def tellPrintsCard : Claim7 := { stood := { row := tellPrintsRow, standIns := [], harness := (true, "5cb3983621be0a08c6e5af00e52364f88374ad8bc24036ec600e98f9857fc457"), looks := false }, kinds := [], alts := [], laidByText := true, laidKinds := [.data, .data, .data, .data, .data, .pinned], laidTests := true, laidLooks := .later }
def TellPrintsCardSaid : Prop := Claim7.holds Tryz.pinned (.plain (OpenSpec.ofChange tellPrintsSpec)) tellPrintsCard

/-- THE TIED CARD OF 'linchpinlaw8.TellReads'. -/
def tellReadsCard : Claim7 := { stood := { row := tellReadsRow, standIns := [], harness := (true, "5cb3983621be0a08c6e5af00e52364f88374ad8bc24036ec600e98f9857fc457"), looks := false }, kinds := [], alts := [], laidByText := true, laidKinds := [.data, .data, .data, .data, .data, .pinned], laidTests := true, laidLooks := .later }
def TellReadsCardSaid : Prop := Claim7.holds Tryz.pinned (.plain (OpenSpec.ofChange tellReadsSpec)) tellReadsCard

/-- THE TIED CARD OF 'linchpinlaw8.TellBack'. -/
def tellBackCard : Claim7 := { stood := { row := tellBackRow, standIns := [], harness := (true, "5cb3983621be0a08c6e5af00e52364f88374ad8bc24036ec600e98f9857fc457"), looks := false }, kinds := [], alts := [], laidByText := true, laidKinds := [.data, .data, .data, .data, .data, .pinned], laidTests := true, laidLooks := .later }
def TellBackCardSaid : Prop := Claim7.holds Tryz.pinned (.plain (OpenSpec.ofChange tellBackSpec)) tellBackCard

/-- THE TIED CARD OF 'linchpinlaw8.TellUnlike'. -/
def tellUnlikeCard : Claim7 := { stood := { row := tellUnlikeRow, standIns := [], harness := (true, "5cb3983621be0a08c6e5af00e52364f88374ad8bc24036ec600e98f9857fc457"), looks := false }, kinds := [], alts := [], laidByText := true, laidKinds := [.data, .data, .data, .data, .data, .pinned], laidTests := true, laidLooks := .later }
def TellUnlikeCardSaid : Prop := Claim7.holds Tryz.pinned (.plain (OpenSpec.ofChange tellUnlikeSpec)) tellUnlikeCard

/-- THE TIED CARD OF 'linchpinlaw8.TellParts'. -/
def tellPartsCard : Claim7 := { stood := { row := tellPartsRow, standIns := [], harness := (true, "5cb3983621be0a08c6e5af00e52364f88374ad8bc24036ec600e98f9857fc457"), looks := false }, kinds := [], alts := [], laidByText := true, laidKinds := [.data, .data, .data, .data, .data, .pinned], laidTests := true, laidLooks := .later }
def TellPartsCardSaid : Prop := Claim7.holds Tryz.pinned (.plain (OpenSpec.ofChange tellPartsSpec)) tellPartsCard

/-- THE SECOND FORM's CARD OF 'linchpinlaw5.SetEnds'. -/
def setEndsUptoCard : Claim7 := { stood := { row := setEndsUptoRow, standIns := [], harness := (true, "5cb3983621be0a08c6e5af00e52364f88374ad8bc24036ec600e98f9857fc457"), looks := false }, kinds := [], alts := [], laidByText := true, laidKinds := [.data], laidTests := true, laidLooks := .later }
def SetEndsUptoCardSaid : Prop := Claim7.holds Tryz.pinned (.plain (OpenSpec.upto setEndsSpec)) setEndsUptoCard

/-- THE SECOND FORM's CARD OF 'linchpinlaw5.SetAlgebra'. -/
def setAlgebraUptoCard : Claim7 := { stood := { row := setAlgebraUptoRow, standIns := [], harness := (true, "5cb3983621be0a08c6e5af00e52364f88374ad8bc24036ec600e98f9857fc457"), looks := false }, kinds := [], alts := [], laidByText := true, laidKinds := [.data], laidTests := true, laidLooks := .later }
def SetAlgebraUptoCardSaid : Prop := Claim7.holds Tryz.pinned (.plain (OpenSpec.upto setAlgebraSpec)) setAlgebraUptoCard

/-- THE SECOND FORM's CARD OF 'linchpinlaw5.SetMeans'. -/
def setMeansUptoCard : Claim7 := { stood := { row := setMeansUptoRow, standIns := [], harness := (true, "5cb3983621be0a08c6e5af00e52364f88374ad8bc24036ec600e98f9857fc457"), looks := false }, kinds := [], alts := [], laidByText := true, laidKinds := [.data], laidTests := true, laidLooks := .later }
def SetMeansUptoCardSaid : Prop := Claim7.holds Tryz.pinned (.plain (OpenSpec.upto setMeansSpec)) setMeansUptoCard

/-- THE SECOND FORM's CARD OF 'linchpinlaw5.SetLaws'. -/
def setLawsUptoCard : Claim7 := { stood := { row := setLawsUptoRow, standIns := [], harness := (true, "5cb3983621be0a08c6e5af00e52364f88374ad8bc24036ec600e98f9857fc457"), looks := false }, kinds := [], alts := [], laidByText := true, laidKinds := [.data], laidTests := true, laidLooks := .later }
def SetLawsUptoCardSaid : Prop := Claim7.holds Tryz.pinned (.plain (OpenSpec.upto setLawsSpec)) setLawsUptoCard

/-- THE SECOND FORM's CARD OF 'linchpinlaw5.SetRaw'. -/
def setRawUptoCard : Claim7 := { stood := { row := setRawUptoRow, standIns := [], harness := (true, "5cb3983621be0a08c6e5af00e52364f88374ad8bc24036ec600e98f9857fc457"), looks := false }, kinds := [], alts := [], laidByText := true, laidKinds := [.data], laidTests := true, laidLooks := .later }
def SetRawUptoCardSaid : Prop := Claim7.holds Tryz.pinned (.plain (OpenSpec.upto setRawSpec)) setRawUptoCard

/-- THE SECOND FORM's CARD OF 'linchpinlaw5.SetMakes'. -/
def setMakesUptoCard : Claim7 := { stood := { row := setMakesUptoRow, standIns := [], harness := (true, "5cb3983621be0a08c6e5af00e52364f88374ad8bc24036ec600e98f9857fc457"), looks := false }, kinds := [], alts := [], laidByText := true, laidKinds := [.data], laidTests := true, laidLooks := .later }
def SetMakesUptoCardSaid : Prop := Claim7.holds Tryz.pinned (.plain (OpenSpec.upto setMakesSpec)) setMakesUptoCard

/-- THE SECOND FORM's CARD OF 'linchpinlaw8.TellPrints'. -/
def tellPrintsUptoCard : Claim7 := { stood := { row := tellPrintsUptoRow, standIns := [], harness := (true, "5cb3983621be0a08c6e5af00e52364f88374ad8bc24036ec600e98f9857fc457"), looks := false }, kinds := [], alts := [], laidByText := true, laidKinds := [.data, .data, .data, .data, .data, .pinned], laidTests := true, laidLooks := .later }
def TellPrintsUptoCardSaid : Prop := Claim7.holds Tryz.pinned (.plain (OpenSpec.upto tellPrintsSpec)) tellPrintsUptoCard

/-- THE SECOND FORM's CARD OF 'linchpinlaw8.TellReads'. -/
def tellReadsUptoCard : Claim7 := { stood := { row := tellReadsUptoRow, standIns := [], harness := (true, "5cb3983621be0a08c6e5af00e52364f88374ad8bc24036ec600e98f9857fc457"), looks := false }, kinds := [], alts := [], laidByText := true, laidKinds := [.data, .data, .data, .data, .data, .pinned], laidTests := true, laidLooks := .later }
def TellReadsUptoCardSaid : Prop := Claim7.holds Tryz.pinned (.plain (OpenSpec.upto tellReadsSpec)) tellReadsUptoCard

/-- THE SECOND FORM's CARD OF 'linchpinlaw8.TellBack'. -/
def tellBackUptoCard : Claim7 := { stood := { row := tellBackUptoRow, standIns := [], harness := (true, "5cb3983621be0a08c6e5af00e52364f88374ad8bc24036ec600e98f9857fc457"), looks := false }, kinds := [], alts := [], laidByText := true, laidKinds := [.data, .data, .data, .data, .data, .pinned], laidTests := true, laidLooks := .later }
def TellBackUptoCardSaid : Prop := Claim7.holds Tryz.pinned (.plain (OpenSpec.upto tellBackSpec)) tellBackUptoCard

/-- THE SECOND FORM's CARD OF 'linchpinlaw8.TellUnlike'. -/
def tellUnlikeUptoCard : Claim7 := { stood := { row := tellUnlikeUptoRow, standIns := [], harness := (true, "5cb3983621be0a08c6e5af00e52364f88374ad8bc24036ec600e98f9857fc457"), looks := false }, kinds := [], alts := [], laidByText := true, laidKinds := [.data, .data, .data, .data, .data, .pinned], laidTests := true, laidLooks := .later }
def TellUnlikeUptoCardSaid : Prop := Claim7.holds Tryz.pinned (.plain (OpenSpec.upto tellUnlikeSpec)) tellUnlikeUptoCard

/-- THE SECOND FORM's CARD OF 'linchpinlaw8.TellParts'. -/
def tellPartsUptoCard : Claim7 := { stood := { row := tellPartsUptoRow, standIns := [], harness := (true, "5cb3983621be0a08c6e5af00e52364f88374ad8bc24036ec600e98f9857fc457"), looks := false }, kinds := [], alts := [], laidByText := true, laidKinds := [.data, .data, .data, .data, .data, .pinned], laidTests := true, laidLooks := .later }
def TellPartsUptoCardSaid : Prop := Claim7.holds Tryz.pinned (.plain (OpenSpec.upto tellPartsSpec)) tellPartsUptoCard
end Rows
end Go.Proofs.YtmnjnoggchgnjaaGreatDoor
