/-
  DERIVED. GIVEN WITH THE SEED: THE CARDS: each row of YtplmlahpmnjneaaGreatDoorRows.lean that lists a variable, with what it lists TIED to the program's text (the seventh form; the later family's looks); each row that meets fmt, with fmt's text TOLD by the authors' own Lean function (tested against real Go, not proved from fmt's source: count such statements apart). THE CARD IS WHAT COUNTS. Prove the row's statement (the work); the ties are given (YtplmlahpmnjneaaGreatDoorTie.lean); close each card by the builder's one call (the guide's Derived/Test/ToyasCard.lean, 'card_holds'). Laid BY PROGRAM, IN A SANDBOX (cutbox-door.mjs). By AI agents, Wed Nov 11 2026. No macro, syntax, notation, axiom, sorry.
-/
import Derived.Test.YtplmlahpmnjneaaGreatDoorRows
import GoSem.ClaimSeven
namespace Go.Proofs.YtplmlahpmnjneaaGreatDoor
namespace Rows

/-- THE TIED CARD OF 'linchpinlaw8.TellPrints'. -/
def tellPrintsCard : Claim7 := { stood := { row := tellPrintsRow, standIns := [], harness := (true, "a07f8be6fcdddefca6ba76a65a1b34d774c0113180bf4e6d0aef046629edcda9"), looks := false }, kinds := [], alts := [], laidByText := true, laidKinds := [.data, .data, .data, .data, .data, .pinned], laidTests := true, laidLooks := .later }
def TellPrintsCardSaid : Prop := Claim7.holds Tryz.pinned (.plain (OpenSpec.ofChange tellPrintsSpec)) tellPrintsCard

/-- THE TIED CARD OF 'linchpinlaw8.TellReads'. -/
def tellReadsCard : Claim7 := { stood := { row := tellReadsRow, standIns := [], harness := (true, "a07f8be6fcdddefca6ba76a65a1b34d774c0113180bf4e6d0aef046629edcda9"), looks := false }, kinds := [], alts := [], laidByText := true, laidKinds := [.data, .data, .data, .data, .data, .pinned], laidTests := true, laidLooks := .later }
def TellReadsCardSaid : Prop := Claim7.holds Tryz.pinned (.plain (OpenSpec.ofChange tellReadsSpec)) tellReadsCard

/-- THE TIED CARD OF 'linchpinlaw7.ScopeReads'. -/
def scopeReadsCard : Claim7 := { stood := { row := scopeReadsRow, standIns := [], harness := (true, "a07f8be6fcdddefca6ba76a65a1b34d774c0113180bf4e6d0aef046629edcda9"), looks := false }, kinds := [], alts := [], laidByText := true, laidKinds := [.data, .data, .data, .data, .data, .pinned], laidTests := true, laidLooks := .later }
def ScopeReadsCardSaid : Prop := Claim7.holds Tryz.pinned (.plain (OpenSpec.ofChange scopeReadsSpec)) scopeReadsCard

/-- THE TIED CARD OF 'linchpinlaw7.ScopePrints'. -/
def scopePrintsCard : Claim7 := { stood := { row := scopePrintsRow, standIns := [], harness := (true, "a07f8be6fcdddefca6ba76a65a1b34d774c0113180bf4e6d0aef046629edcda9"), looks := false }, kinds := [], alts := [], laidByText := true, laidKinds := [.data, .data, .data, .data, .data, .pinned], laidTests := true, laidLooks := .later }
def ScopePrintsCardSaid : Prop := Claim7.holds Tryz.pinned (.plain (OpenSpec.ofChange scopePrintsSpec)) scopePrintsCard

/-- THE TIED CARD OF 'linchpinlaw7.ScopeBack'. -/
def scopeBackCard : Claim7 := { stood := { row := scopeBackRow, standIns := [], harness := (true, "a07f8be6fcdddefca6ba76a65a1b34d774c0113180bf4e6d0aef046629edcda9"), looks := false }, kinds := [], alts := [], laidByText := true, laidKinds := [.data, .data, .data, .data, .data, .pinned], laidTests := true, laidLooks := .later }
def ScopeBackCardSaid : Prop := Claim7.holds Tryz.pinned (.plain (OpenSpec.ofChange scopeBackSpec)) scopeBackCard

/-- THE TIED CARD OF 'linchpinlaw7.ScopeMeans'. -/
def scopeMeansCard : Claim7 := { stood := { row := scopeMeansRow, standIns := [], harness := (true, "a07f8be6fcdddefca6ba76a65a1b34d774c0113180bf4e6d0aef046629edcda9"), looks := false }, kinds := [], alts := [], laidByText := true, laidKinds := [.data, .data, .data, .data, .data, .pinned], laidTests := true, laidLooks := .later }
def ScopeMeansCardSaid : Prop := Claim7.holds Tryz.pinned (.plain (OpenSpec.ofChange scopeMeansSpec)) scopeMeansCard

/-- THE TIED CARD OF 'linchpinlaw7.ScopeMore'. -/
def scopeMoreCard : Claim7 := { stood := { row := scopeMoreRow, standIns := [], harness := (true, "a07f8be6fcdddefca6ba76a65a1b34d774c0113180bf4e6d0aef046629edcda9"), looks := false }, kinds := [], alts := [], laidByText := true, laidKinds := [.data, .data, .data, .data, .data, .pinned], laidTests := true, laidLooks := .later }
def ScopeMoreCardSaid : Prop := Claim7.holds Tryz.pinned (.plain (OpenSpec.ofChange scopeMoreSpec)) scopeMoreCard

/-- THE TIED CARD OF 'linchpinlaw7.ScopeOrder'. -/
def scopeOrderCard : Claim7 := { stood := { row := scopeOrderRow, standIns := [], harness := (true, "a07f8be6fcdddefca6ba76a65a1b34d774c0113180bf4e6d0aef046629edcda9"), looks := false }, kinds := [], alts := [], laidByText := true, laidKinds := [.data, .data, .data, .data, .data, .pinned], laidTests := true, laidLooks := .later }
def ScopeOrderCardSaid : Prop := Claim7.holds Tryz.pinned (.plain (OpenSpec.ofChange scopeOrderSpec)) scopeOrderCard

/-- THE TIED CARD OF 'linchpinlaw7.ScopeParts'. -/
def scopePartsCard : Claim7 := { stood := { row := scopePartsRow, standIns := [], harness := (true, "a07f8be6fcdddefca6ba76a65a1b34d774c0113180bf4e6d0aef046629edcda9"), looks := false }, kinds := [], alts := [], laidByText := true, laidKinds := [.data, .data, .data, .data, .data, .pinned], laidTests := true, laidLooks := .later }
def ScopePartsCardSaid : Prop := Claim7.holds Tryz.pinned (.plain (OpenSpec.ofChange scopePartsSpec)) scopePartsCard

/-- THE TIED CARD OF 'linchpinlaw7.ScopeEither'. -/
def scopeEitherCard : Claim7 := { stood := { row := scopeEitherRow, standIns := [], harness := (true, "a07f8be6fcdddefca6ba76a65a1b34d774c0113180bf4e6d0aef046629edcda9"), looks := false }, kinds := [], alts := [], laidByText := true, laidKinds := [.data, .data, .data, .data, .data, .pinned], laidTests := true, laidLooks := .later }
def ScopeEitherCardSaid : Prop := Claim7.holds Tryz.pinned (.plain (OpenSpec.ofChange scopeEitherSpec)) scopeEitherCard

/-- THE TIED CARD OF 'linchpinlaw8.TellScopes'. -/
def tellScopesCard : Claim7 := { stood := { row := tellScopesRow, standIns := [], harness := (true, "a07f8be6fcdddefca6ba76a65a1b34d774c0113180bf4e6d0aef046629edcda9"), looks := false }, kinds := [], alts := [], laidByText := true, laidKinds := [.data, .data, .data, .data, .data, .pinned], laidTests := true, laidLooks := .later }
def TellScopesCardSaid : Prop := Claim7.holds Tryz.pinned (.plain (OpenSpec.ofChange tellScopesSpec)) tellScopesCard

/-- THE SECOND FORM's CARD OF 'linchpinlaw8.TellPrints'. -/
def tellPrintsUptoCard : Claim7 := { stood := { row := tellPrintsUptoRow, standIns := [], harness := (true, "a07f8be6fcdddefca6ba76a65a1b34d774c0113180bf4e6d0aef046629edcda9"), looks := false }, kinds := [], alts := [], laidByText := true, laidKinds := [.data, .data, .data, .data, .data, .pinned], laidTests := true, laidLooks := .later }
def TellPrintsUptoCardSaid : Prop := Claim7.holds Tryz.pinned (.plain (OpenSpec.upto tellPrintsSpec)) tellPrintsUptoCard

/-- THE SECOND FORM's CARD OF 'linchpinlaw8.TellReads'. -/
def tellReadsUptoCard : Claim7 := { stood := { row := tellReadsUptoRow, standIns := [], harness := (true, "a07f8be6fcdddefca6ba76a65a1b34d774c0113180bf4e6d0aef046629edcda9"), looks := false }, kinds := [], alts := [], laidByText := true, laidKinds := [.data, .data, .data, .data, .data, .pinned], laidTests := true, laidLooks := .later }
def TellReadsUptoCardSaid : Prop := Claim7.holds Tryz.pinned (.plain (OpenSpec.upto tellReadsSpec)) tellReadsUptoCard

/-- THE SECOND FORM's CARD OF 'linchpinlaw7.ScopeReads'. -/
def scopeReadsUptoCard : Claim7 := { stood := { row := scopeReadsUptoRow, standIns := [], harness := (true, "a07f8be6fcdddefca6ba76a65a1b34d774c0113180bf4e6d0aef046629edcda9"), looks := false }, kinds := [], alts := [], laidByText := true, laidKinds := [.data, .data, .data, .data, .data, .pinned], laidTests := true, laidLooks := .later }
def ScopeReadsUptoCardSaid : Prop := Claim7.holds Tryz.pinned (.plain (OpenSpec.upto scopeReadsSpec)) scopeReadsUptoCard

/-- THE SECOND FORM's CARD OF 'linchpinlaw7.ScopePrints'. -/
def scopePrintsUptoCard : Claim7 := { stood := { row := scopePrintsUptoRow, standIns := [], harness := (true, "a07f8be6fcdddefca6ba76a65a1b34d774c0113180bf4e6d0aef046629edcda9"), looks := false }, kinds := [], alts := [], laidByText := true, laidKinds := [.data, .data, .data, .data, .data, .pinned], laidTests := true, laidLooks := .later }
def ScopePrintsUptoCardSaid : Prop := Claim7.holds Tryz.pinned (.plain (OpenSpec.upto scopePrintsSpec)) scopePrintsUptoCard

/-- THE SECOND FORM's CARD OF 'linchpinlaw7.ScopeBack'. -/
def scopeBackUptoCard : Claim7 := { stood := { row := scopeBackUptoRow, standIns := [], harness := (true, "a07f8be6fcdddefca6ba76a65a1b34d774c0113180bf4e6d0aef046629edcda9"), looks := false }, kinds := [], alts := [], laidByText := true, laidKinds := [.data, .data, .data, .data, .data, .pinned], laidTests := true, laidLooks := .later }
def ScopeBackUptoCardSaid : Prop := Claim7.holds Tryz.pinned (.plain (OpenSpec.upto scopeBackSpec)) scopeBackUptoCard

/-- THE SECOND FORM's CARD OF 'linchpinlaw7.ScopeMeans'. -/
def scopeMeansUptoCard : Claim7 := { stood := { row := scopeMeansUptoRow, standIns := [], harness := (true, "a07f8be6fcdddefca6ba76a65a1b34d774c0113180bf4e6d0aef046629edcda9"), looks := false }, kinds := [], alts := [], laidByText := true, laidKinds := [.data, .data, .data, .data, .data, .pinned], laidTests := true, laidLooks := .later }
def ScopeMeansUptoCardSaid : Prop := Claim7.holds Tryz.pinned (.plain (OpenSpec.upto scopeMeansSpec)) scopeMeansUptoCard

/-- THE SECOND FORM's CARD OF 'linchpinlaw7.ScopeMore'. -/
def scopeMoreUptoCard : Claim7 := { stood := { row := scopeMoreUptoRow, standIns := [], harness := (true, "a07f8be6fcdddefca6ba76a65a1b34d774c0113180bf4e6d0aef046629edcda9"), looks := false }, kinds := [], alts := [], laidByText := true, laidKinds := [.data, .data, .data, .data, .data, .pinned], laidTests := true, laidLooks := .later }
def ScopeMoreUptoCardSaid : Prop := Claim7.holds Tryz.pinned (.plain (OpenSpec.upto scopeMoreSpec)) scopeMoreUptoCard

/-- THE SECOND FORM's CARD OF 'linchpinlaw7.ScopeOrder'. -/
def scopeOrderUptoCard : Claim7 := { stood := { row := scopeOrderUptoRow, standIns := [], harness := (true, "a07f8be6fcdddefca6ba76a65a1b34d774c0113180bf4e6d0aef046629edcda9"), looks := false }, kinds := [], alts := [], laidByText := true, laidKinds := [.data, .data, .data, .data, .data, .pinned], laidTests := true, laidLooks := .later }
def ScopeOrderUptoCardSaid : Prop := Claim7.holds Tryz.pinned (.plain (OpenSpec.upto scopeOrderSpec)) scopeOrderUptoCard

/-- THE SECOND FORM's CARD OF 'linchpinlaw7.ScopeParts'. -/
def scopePartsUptoCard : Claim7 := { stood := { row := scopePartsUptoRow, standIns := [], harness := (true, "a07f8be6fcdddefca6ba76a65a1b34d774c0113180bf4e6d0aef046629edcda9"), looks := false }, kinds := [], alts := [], laidByText := true, laidKinds := [.data, .data, .data, .data, .data, .pinned], laidTests := true, laidLooks := .later }
def ScopePartsUptoCardSaid : Prop := Claim7.holds Tryz.pinned (.plain (OpenSpec.upto scopePartsSpec)) scopePartsUptoCard

/-- THE SECOND FORM's CARD OF 'linchpinlaw7.ScopeEither'. -/
def scopeEitherUptoCard : Claim7 := { stood := { row := scopeEitherUptoRow, standIns := [], harness := (true, "a07f8be6fcdddefca6ba76a65a1b34d774c0113180bf4e6d0aef046629edcda9"), looks := false }, kinds := [], alts := [], laidByText := true, laidKinds := [.data, .data, .data, .data, .data, .pinned], laidTests := true, laidLooks := .later }
def ScopeEitherUptoCardSaid : Prop := Claim7.holds Tryz.pinned (.plain (OpenSpec.upto scopeEitherSpec)) scopeEitherUptoCard

/-- THE SECOND FORM's CARD OF 'linchpinlaw8.TellScopes'. -/
def tellScopesUptoCard : Claim7 := { stood := { row := tellScopesUptoRow, standIns := [], harness := (true, "a07f8be6fcdddefca6ba76a65a1b34d774c0113180bf4e6d0aef046629edcda9"), looks := false }, kinds := [], alts := [], laidByText := true, laidKinds := [.data, .data, .data, .data, .data, .pinned], laidTests := true, laidLooks := .later }
def TellScopesUptoCardSaid : Prop := Claim7.holds Tryz.pinned (.plain (OpenSpec.upto tellScopesSpec)) tellScopesUptoCard
end Rows
end Go.Proofs.YtplmlahpmnjneaaGreatDoor
