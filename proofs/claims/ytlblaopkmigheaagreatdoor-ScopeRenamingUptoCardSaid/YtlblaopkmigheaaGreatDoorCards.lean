/-
  DERIVED. GIVEN WITH THE SEED: THE CARDS: each row of YtlblaopkmigheaaGreatDoorRows.lean that lists a variable, with what it lists TIED to the program's text (the seventh form; the later family's looks); each row that meets fmt, with fmt's text TOLD by the authors' own Lean function (tested against real Go, not proved from fmt's source: count such statements apart). THE CARD IS WHAT COUNTS. Prove the row's statement (the work); the ties are given (YtlblaopkmigheaaGreatDoorTie.lean); close each card by the builder's one call (the guide's Derived/Test/ToyasCard.lean, 'card_holds'). Laid BY PROGRAM, IN A SANDBOX (cutbox-door.mjs). By AI agents, Wed Nov 11 2026. No macro, syntax, notation, axiom, sorry.
-/
import Derived.Test.YtlblaopkmigheaaGreatDoorRows
import GoSem.ClaimSeven
namespace Go.Proofs.YtlblaopkmigheaaGreatDoor
namespace Rows

/-- THE TIED CARD OF 'cspchecklaw6.ScopeRenaming'. -/
def scopeRenamingCard : Claim7 := { stood := { row := scopeRenamingRow, standIns := [], harness := (true, "24b1302bd03c16ec7c00760eb47b72b709d9a226e3f4e591d180dc4feb9306b0"), looks := false }, kinds := [], alts := [], laidByText := true, laidKinds := [.data, .widerDeep, .widerDeep, .widerDeep, .pinned], laidTests := true, laidLooks := .later }
def ScopeRenamingCardSaid : Prop := Claim7.holds Tryz.pinned (.plain (OpenSpec.ofChange scopeRenamingSpec)) scopeRenamingCard

/-- THE TIED CARD OF 'cspchecklaw6.ScopeBuiltins'. -/
def scopeBuiltinsCard : Claim7 := { stood := { row := scopeBuiltinsRow, standIns := [], harness := (true, "24b1302bd03c16ec7c00760eb47b72b709d9a226e3f4e591d180dc4feb9306b0"), looks := false }, kinds := [], alts := [], laidByText := true, laidKinds := [.data, .widerDeep, .widerDeep, .widerDeep, .pinned], laidTests := true, laidLooks := .later }
def ScopeBuiltinsCardSaid : Prop := Claim7.holds Tryz.pinned (.plain (OpenSpec.ofChange scopeBuiltinsSpec)) scopeBuiltinsCard

/-- THE SECOND FORM's CARD OF 'cspchecklaw6.ScopeRenaming'. -/
def scopeRenamingUptoCard : Claim7 := { stood := { row := scopeRenamingUptoRow, standIns := [], harness := (true, "24b1302bd03c16ec7c00760eb47b72b709d9a226e3f4e591d180dc4feb9306b0"), looks := false }, kinds := [], alts := [], laidByText := true, laidKinds := [.data, .widerDeep, .widerDeep, .widerDeep, .pinned], laidTests := true, laidLooks := .later }
def ScopeRenamingUptoCardSaid : Prop := Claim7.holds Tryz.pinned (.plain (OpenSpec.upto scopeRenamingSpec)) scopeRenamingUptoCard

/-- THE SECOND FORM's CARD OF 'cspchecklaw6.ScopeBuiltins'. -/
def scopeBuiltinsUptoCard : Claim7 := { stood := { row := scopeBuiltinsUptoRow, standIns := [], harness := (true, "24b1302bd03c16ec7c00760eb47b72b709d9a226e3f4e591d180dc4feb9306b0"), looks := false }, kinds := [], alts := [], laidByText := true, laidKinds := [.data, .widerDeep, .widerDeep, .widerDeep, .pinned], laidTests := true, laidLooks := .later }
def ScopeBuiltinsUptoCardSaid : Prop := Claim7.holds Tryz.pinned (.plain (OpenSpec.upto scopeBuiltinsSpec)) scopeBuiltinsUptoCard
end Rows
end Go.Proofs.YtlblaopkmigheaaGreatDoor
