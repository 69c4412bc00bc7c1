/-
  DERIVED. GIVEN WITH THE SEED: THE CARDS: each row of YtafoahojdiglfaaDoorRows.lean that lists a variable, with what it lists TIED to the program's text (the seventh form; the later family's looks); each row that meets fmt, with fmt's text TOLD by the authors' own Lean function (tested against real Go, not proved from fmt's source: count such statements apart). THE CARD IS WHAT COUNTS. Prove the row's statement (the work); the ties are given (YtafoahojdiglfaaDoorTie.lean); close each card by the builder's one call (the guide's Derived/Test/ToyasCard.lean, 'card_holds'). Laid BY PROGRAM, IN A SANDBOX (cutbox-door.mjs). By AI agents, Wed Nov 11 2026. No macro, syntax, notation, axiom, sorry.
-/
import Derived.Test.YtafoahojdiglfaaDoorRows
import GoSem.ClaimSeven
namespace Go.Proofs.YtafoahojdiglfaaDoor
namespace Rows

/-- THE TIED CARD OF 'cspchecklaw1.LexerScansExactly'. -/
def lexerScansExactlyCard : Claim7 := { stood := { row := lexerScansExactlyRow, standIns := [], harness := (true, "6ab2e8070971a8d197695956491a5d490fac33c2c0763e1ff1e4df62a12fbca3"), looks := true }, kinds := [], alts := [], laidByText := true, laidKinds := [.data, .data, .data, .sentinel, .sentinel, .widerDeep, .widerDeep], laidTests := true, laidLooks := .later }
def LexerScansExactlyCardSaid : Prop := Claim7.holds Tryd.pinned (.plain (OpenSpec.ofChange lexerScansExactlySpec)) lexerScansExactlyCard

/-- THE TIED CARD OF 'cspchecklaw1.LexerPairs'. -/
def lexerPairsCard : Claim7 := { stood := { row := lexerPairsRow, standIns := [], harness := (true, "6ab2e8070971a8d197695956491a5d490fac33c2c0763e1ff1e4df62a12fbca3"), looks := true }, kinds := [], alts := [], laidByText := true, laidKinds := [.data, .data, .data, .sentinel, .sentinel, .widerDeep, .widerDeep], laidTests := true, laidLooks := .later }
def LexerPairsCardSaid : Prop := Claim7.holds Tryd.pinned (.plain (OpenSpec.ofChange lexerPairsSpec)) lexerPairsCard

/-- THE TIED CARD OF 'cspchecklaw1.LexerPositions'. -/
def lexerPositionsCard : Claim7 := { stood := { row := lexerPositionsRow, standIns := [], harness := (true, "6ab2e8070971a8d197695956491a5d490fac33c2c0763e1ff1e4df62a12fbca3"), looks := true }, kinds := [], alts := [], laidByText := true, laidKinds := [.data, .data, .data, .sentinel, .sentinel, .widerDeep, .widerDeep], laidTests := true, laidLooks := .later }
def LexerPositionsCardSaid : Prop := Claim7.holds Tryd.pinned (.plain (OpenSpec.ofChange lexerPositionsSpec)) lexerPositionsCard

/-- THE TIED CARD OF 'cspchecklaw1.LexerSeparators'. -/
def lexerSeparatorsCard : Claim7 := { stood := { row := lexerSeparatorsRow, standIns := [], harness := (true, "6ab2e8070971a8d197695956491a5d490fac33c2c0763e1ff1e4df62a12fbca3"), looks := true }, kinds := [], alts := [], laidByText := true, laidKinds := [.data, .data, .data, .sentinel, .sentinel, .widerDeep, .widerDeep], laidTests := true, laidLooks := .later }
def LexerSeparatorsCardSaid : Prop := Claim7.holds Tryd.pinned (.plain (OpenSpec.ofChange lexerSeparatorsSpec)) lexerSeparatorsCard

/-- THE TIED CARD OF 'cspchecklaw1.LexerErrorStays'. -/
def lexerErrorStaysCard : Claim7 := { stood := { row := lexerErrorStaysRow, standIns := [], harness := (true, "6ab2e8070971a8d197695956491a5d490fac33c2c0763e1ff1e4df62a12fbca3"), looks := true }, kinds := [], alts := [], laidByText := true, laidKinds := [.data, .data, .data, .sentinel, .sentinel, .widerDeep, .widerDeep], laidTests := true, laidLooks := .later }
def LexerErrorStaysCardSaid : Prop := Claim7.holds Tryd.pinned (.plain (OpenSpec.ofChange lexerErrorStaysSpec)) lexerErrorStaysCard

/-- THE TIED CARD OF 'cspchecklaw1.LexerComments'. -/
def lexerCommentsCard : Claim7 := { stood := { row := lexerCommentsRow, standIns := [], harness := (true, "6ab2e8070971a8d197695956491a5d490fac33c2c0763e1ff1e4df62a12fbca3"), looks := true }, kinds := [], alts := [], laidByText := true, laidKinds := [.data, .data, .data, .sentinel, .sentinel, .widerDeep, .widerDeep], laidTests := true, laidLooks := .later }
def LexerCommentsCardSaid : Prop := Claim7.holds Tryd.pinned (.plain (OpenSpec.ofChange lexerCommentsSpec)) lexerCommentsCard

/-- THE TIED CARD OF 'cspchecklaw1.LexerSymbols'. -/
def lexerSymbolsCard : Claim7 := { stood := { row := lexerSymbolsRow, standIns := [], harness := (true, "6ab2e8070971a8d197695956491a5d490fac33c2c0763e1ff1e4df62a12fbca3"), looks := true }, kinds := [], alts := [], laidByText := true, laidKinds := [.data, .data, .data, .sentinel, .sentinel, .widerDeep, .widerDeep], laidTests := true, laidLooks := .later }
def LexerSymbolsCardSaid : Prop := Claim7.holds Tryd.pinned (.plain (OpenSpec.ofChange lexerSymbolsSpec)) lexerSymbolsCard

/-- THE TIED CARD OF 'cspchecklaw1.LexerFormats'. -/
def lexerFormatsCard : Claim7 := { stood := { row := lexerFormatsRow, standIns := [], harness := (true, "6ab2e8070971a8d197695956491a5d490fac33c2c0763e1ff1e4df62a12fbca3"), looks := true }, kinds := [], alts := [], laidByText := true, laidKinds := [.data, .data, .data, .sentinel, .sentinel, .widerDeep, .widerDeep], laidTests := true, laidLooks := .later }
def LexerFormatsCardSaid : Prop := Claim7.holds Tryd.pinned (.plain (OpenSpec.ofChange lexerFormatsSpec)) lexerFormatsCard

/-- THE TIED CARD OF 'cspchecklaw1.LexerRoundTrip'. -/
def lexerRoundTripCard : Claim7 := { stood := { row := lexerRoundTripRow, standIns := [], harness := (true, "6ab2e8070971a8d197695956491a5d490fac33c2c0763e1ff1e4df62a12fbca3"), looks := true }, kinds := [], alts := [], laidByText := true, laidKinds := [.data, .data, .data, .sentinel, .sentinel, .widerDeep, .widerDeep], laidTests := true, laidLooks := .later }
def LexerRoundTripCardSaid : Prop := Claim7.holds Tryd.pinned (.plain (OpenSpec.ofChange lexerRoundTripSpec)) lexerRoundTripCard

/-- THE SECOND FORM's CARD OF 'cspchecklaw1.LexerScansExactly'. -/
def lexerScansExactlyUptoCard : Claim7 := { stood := { row := lexerScansExactlyUptoRow, standIns := [], harness := (true, "6ab2e8070971a8d197695956491a5d490fac33c2c0763e1ff1e4df62a12fbca3"), looks := true }, kinds := [], alts := [], laidByText := true, laidKinds := [.data, .data, .data, .sentinel, .sentinel, .widerDeep, .widerDeep], laidTests := true, laidLooks := .later }
def LexerScansExactlyUptoCardSaid : Prop := Claim7.holds Tryd.pinned (.plain (OpenSpec.upto lexerScansExactlySpec)) lexerScansExactlyUptoCard

/-- THE SECOND FORM's CARD OF 'cspchecklaw1.LexerPairs'. -/
def lexerPairsUptoCard : Claim7 := { stood := { row := lexerPairsUptoRow, standIns := [], harness := (true, "6ab2e8070971a8d197695956491a5d490fac33c2c0763e1ff1e4df62a12fbca3"), looks := true }, kinds := [], alts := [], laidByText := true, laidKinds := [.data, .data, .data, .sentinel, .sentinel, .widerDeep, .widerDeep], laidTests := true, laidLooks := .later }
def LexerPairsUptoCardSaid : Prop := Claim7.holds Tryd.pinned (.plain (OpenSpec.upto lexerPairsSpec)) lexerPairsUptoCard

/-- THE SECOND FORM's CARD OF 'cspchecklaw1.LexerPositions'. -/
def lexerPositionsUptoCard : Claim7 := { stood := { row := lexerPositionsUptoRow, standIns := [], harness := (true, "6ab2e8070971a8d197695956491a5d490fac33c2c0763e1ff1e4df62a12fbca3"), looks := true }, kinds := [], alts := [], laidByText := true, laidKinds := [.data, .data, .data, .sentinel, .sentinel, .widerDeep, .widerDeep], laidTests := true, laidLooks := .later }
def LexerPositionsUptoCardSaid : Prop := Claim7.holds Tryd.pinned (.plain (OpenSpec.upto lexerPositionsSpec)) lexerPositionsUptoCard

/-- THE SECOND FORM's CARD OF 'cspchecklaw1.LexerSeparators'. -/
def lexerSeparatorsUptoCard : Claim7 := { stood := { row := lexerSeparatorsUptoRow, standIns := [], harness := (true, "6ab2e8070971a8d197695956491a5d490fac33c2c0763e1ff1e4df62a12fbca3"), looks := true }, kinds := [], alts := [], laidByText := true, laidKinds := [.data, .data, .data, .sentinel, .sentinel, .widerDeep, .widerDeep], laidTests := true, laidLooks := .later }
def LexerSeparatorsUptoCardSaid : Prop := Claim7.holds Tryd.pinned (.plain (OpenSpec.upto lexerSeparatorsSpec)) lexerSeparatorsUptoCard

/-- THE SECOND FORM's CARD OF 'cspchecklaw1.LexerErrorStays'. -/
def lexerErrorStaysUptoCard : Claim7 := { stood := { row := lexerErrorStaysUptoRow, standIns := [], harness := (true, "6ab2e8070971a8d197695956491a5d490fac33c2c0763e1ff1e4df62a12fbca3"), looks := true }, kinds := [], alts := [], laidByText := true, laidKinds := [.data, .data, .data, .sentinel, .sentinel, .widerDeep, .widerDeep], laidTests := true, laidLooks := .later }
def LexerErrorStaysUptoCardSaid : Prop := Claim7.holds Tryd.pinned (.plain (OpenSpec.upto lexerErrorStaysSpec)) lexerErrorStaysUptoCard

/-- THE SECOND FORM's CARD OF 'cspchecklaw1.LexerComments'. -/
def lexerCommentsUptoCard : Claim7 := { stood := { row := lexerCommentsUptoRow, standIns := [], harness := (true, "6ab2e8070971a8d197695956491a5d490fac33c2c0763e1ff1e4df62a12fbca3"), looks := true }, kinds := [], alts := [], laidByText := true, laidKinds := [.data, .data, .data, .sentinel, .sentinel, .widerDeep, .widerDeep], laidTests := true, laidLooks := .later }
def LexerCommentsUptoCardSaid : Prop := Claim7.holds Tryd.pinned (.plain (OpenSpec.upto lexerCommentsSpec)) lexerCommentsUptoCard

/-- THE SECOND FORM's CARD OF 'cspchecklaw1.LexerSymbols'. -/
def lexerSymbolsUptoCard : Claim7 := { stood := { row := lexerSymbolsUptoRow, standIns := [], harness := (true, "6ab2e8070971a8d197695956491a5d490fac33c2c0763e1ff1e4df62a12fbca3"), looks := true }, kinds := [], alts := [], laidByText := true, laidKinds := [.data, .data, .data, .sentinel, .sentinel, .widerDeep, .widerDeep], laidTests := true, laidLooks := .later }
def LexerSymbolsUptoCardSaid : Prop := Claim7.holds Tryd.pinned (.plain (OpenSpec.upto lexerSymbolsSpec)) lexerSymbolsUptoCard

/-- THE SECOND FORM's CARD OF 'cspchecklaw1.LexerFormats'. -/
def lexerFormatsUptoCard : Claim7 := { stood := { row := lexerFormatsUptoRow, standIns := [], harness := (true, "6ab2e8070971a8d197695956491a5d490fac33c2c0763e1ff1e4df62a12fbca3"), looks := true }, kinds := [], alts := [], laidByText := true, laidKinds := [.data, .data, .data, .sentinel, .sentinel, .widerDeep, .widerDeep], laidTests := true, laidLooks := .later }
def LexerFormatsUptoCardSaid : Prop := Claim7.holds Tryd.pinned (.plain (OpenSpec.upto lexerFormatsSpec)) lexerFormatsUptoCard

/-- THE SECOND FORM's CARD OF 'cspchecklaw1.LexerRoundTrip'. -/
def lexerRoundTripUptoCard : Claim7 := { stood := { row := lexerRoundTripUptoRow, standIns := [], harness := (true, "6ab2e8070971a8d197695956491a5d490fac33c2c0763e1ff1e4df62a12fbca3"), looks := true }, kinds := [], alts := [], laidByText := true, laidKinds := [.data, .data, .data, .sentinel, .sentinel, .widerDeep, .widerDeep], laidTests := true, laidLooks := .later }
def LexerRoundTripUptoCardSaid : Prop := Claim7.holds Tryd.pinned (.plain (OpenSpec.upto lexerRoundTripSpec)) lexerRoundTripUptoCard
end Rows
end Go.Proofs.YtafoahojdiglfaaDoor
