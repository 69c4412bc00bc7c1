/-
  DERIVED. GIVEN WITH THE SEED: THE CARDS: each row of YtgfhkaamkodpjaaDoorRows.lean that lists a variable, with what it lists TIED to the program's text (the seventh form; the later family's looks); each row that meets fmt, with fmt's text TOLD by the authors' own Lean function (tested against real Go, not proved from fmt's source: count such statements apart). THE CARD IS WHAT COUNTS. Prove the row's statement (the work); the ties are given (YtgfhkaamkodpjaaDoorTie.lean); close each card by the builder's one call (the guide's Derived/Test/ToyasCard.lean, 'card_holds'). Laid BY PROGRAM, IN A SANDBOX (cutbox-door.mjs). By AI agents, Wed Nov 11 2026. No macro, syntax, notation, axiom, sorry.
-/
import Derived.Test.YtgfhkaamkodpjaaDoorRows
import GoSem.ClaimSeven
namespace Go.Proofs.YtgfhkaamkodpjaaDoor
namespace Rows

/-- THE TIED CARD OF 'cspchecklaw2.LayoutInsertsExactly'. -/
def layoutInsertsExactlyCard : Claim7 := { stood := { row := layoutInsertsExactlyRow, standIns := [], harness := (true, "d9d922bc09847de953fe07268fdb8d8744b73027bd6a2c88dab4fc5dddea0afb"), looks := false }, kinds := [], alts := [], laidByText := true, laidKinds := [.widerDeep, .widerDeep, .widerDeep], laidTests := true, laidLooks := .later }
def LayoutInsertsExactlyCardSaid : Prop := Claim7.holds Tryd.pinned (.plain (OpenSpec.ofChange layoutInsertsExactlySpec)) layoutInsertsExactlyCard

/-- THE TIED CARD OF 'cspchecklaw2.LayoutOfSources'. -/
def layoutOfSourcesCard : Claim7 := { stood := { row := layoutOfSourcesRow, standIns := [], harness := (true, "d9d922bc09847de953fe07268fdb8d8744b73027bd6a2c88dab4fc5dddea0afb"), looks := false }, kinds := [], alts := [], laidByText := true, laidKinds := [.widerDeep, .widerDeep, .widerDeep], laidTests := true, laidLooks := .later }
def LayoutOfSourcesCardSaid : Prop := Claim7.holds Tryd.pinned (.plain (OpenSpec.ofChange layoutOfSourcesSpec)) layoutOfSourcesCard

/-- THE TIED CARD OF 'cspchecklaw2.LayoutSeparates'. -/
def layoutSeparatesCard : Claim7 := { stood := { row := layoutSeparatesRow, standIns := [], harness := (true, "d9d922bc09847de953fe07268fdb8d8744b73027bd6a2c88dab4fc5dddea0afb"), looks := false }, kinds := [], alts := [], laidByText := true, laidKinds := [.widerDeep, .widerDeep, .widerDeep], laidTests := true, laidLooks := .later }
def LayoutSeparatesCardSaid : Prop := Claim7.holds Tryd.pinned (.plain (OpenSpec.ofChange layoutSeparatesSpec)) layoutSeparatesCard

/-- THE TIED CARD OF 'cspchecklaw2.LayoutClosers'. -/
def layoutClosersCard : Claim7 := { stood := { row := layoutClosersRow, standIns := [], harness := (true, "d9d922bc09847de953fe07268fdb8d8744b73027bd6a2c88dab4fc5dddea0afb"), looks := false }, kinds := [], alts := [], laidByText := true, laidKinds := [.widerDeep, .widerDeep, .widerDeep], laidTests := true, laidLooks := .later }
def LayoutClosersCardSaid : Prop := Claim7.holds Tryd.pinned (.plain (OpenSpec.ofChange layoutClosersSpec)) layoutClosersCard

/-- THE TIED CARD OF 'cspchecklaw2.LayoutShifts'. -/
def layoutShiftsCard : Claim7 := { stood := { row := layoutShiftsRow, standIns := [], harness := (true, "d9d922bc09847de953fe07268fdb8d8744b73027bd6a2c88dab4fc5dddea0afb"), looks := false }, kinds := [], alts := [], laidByText := true, laidKinds := [.widerDeep, .widerDeep, .widerDeep], laidTests := true, laidLooks := .later }
def LayoutShiftsCardSaid : Prop := Claim7.holds Tryd.pinned (.plain (OpenSpec.ofChange layoutShiftsSpec)) layoutShiftsCard

/-- THE TIED CARD OF 'cspchecklaw2.LayoutNests'. -/
def layoutNestsCard : Claim7 := { stood := { row := layoutNestsRow, standIns := [], harness := (true, "d9d922bc09847de953fe07268fdb8d8744b73027bd6a2c88dab4fc5dddea0afb"), looks := false }, kinds := [], alts := [], laidByText := true, laidKinds := [.widerDeep, .widerDeep, .widerDeep], laidTests := true, laidLooks := .later }
def LayoutNestsCardSaid : Prop := Claim7.holds Tryd.pinned (.plain (OpenSpec.ofChange layoutNestsSpec)) layoutNestsCard

/-- THE TIED CARD OF 'cspchecklaw2.LayoutRemoves'. -/
def layoutRemovesCard : Claim7 := { stood := { row := layoutRemovesRow, standIns := [], harness := (true, "d9d922bc09847de953fe07268fdb8d8744b73027bd6a2c88dab4fc5dddea0afb"), looks := false }, kinds := [], alts := [], laidByText := true, laidKinds := [.widerDeep, .widerDeep, .widerDeep], laidTests := true, laidLooks := .later }
def LayoutRemovesCardSaid : Prop := Claim7.holds Tryd.pinned (.plain (OpenSpec.ofChange layoutRemovesSpec)) layoutRemovesCard

/-- THE TIED CARD OF 'cspchecklaw2.LayoutBalances'. -/
def layoutBalancesCard : Claim7 := { stood := { row := layoutBalancesRow, standIns := [], harness := (true, "d9d922bc09847de953fe07268fdb8d8744b73027bd6a2c88dab4fc5dddea0afb"), looks := false }, kinds := [], alts := [], laidByText := true, laidKinds := [.widerDeep, .widerDeep, .widerDeep], laidTests := true, laidLooks := .later }
def LayoutBalancesCardSaid : Prop := Claim7.holds Tryd.pinned (.plain (OpenSpec.ofChange layoutBalancesSpec)) layoutBalancesCard

/-- THE SECOND FORM's CARD OF 'cspchecklaw2.LayoutInsertsExactly'. -/
def layoutInsertsExactlyUptoCard : Claim7 := { stood := { row := layoutInsertsExactlyUptoRow, standIns := [], harness := (true, "d9d922bc09847de953fe07268fdb8d8744b73027bd6a2c88dab4fc5dddea0afb"), looks := false }, kinds := [], alts := [], laidByText := true, laidKinds := [.widerDeep, .widerDeep, .widerDeep], laidTests := true, laidLooks := .later }
def LayoutInsertsExactlyUptoCardSaid : Prop := Claim7.holds Tryd.pinned (.plain (OpenSpec.upto layoutInsertsExactlySpec)) layoutInsertsExactlyUptoCard

/-- THE SECOND FORM's CARD OF 'cspchecklaw2.LayoutOfSources'. -/
def layoutOfSourcesUptoCard : Claim7 := { stood := { row := layoutOfSourcesUptoRow, standIns := [], harness := (true, "d9d922bc09847de953fe07268fdb8d8744b73027bd6a2c88dab4fc5dddea0afb"), looks := false }, kinds := [], alts := [], laidByText := true, laidKinds := [.widerDeep, .widerDeep, .widerDeep], laidTests := true, laidLooks := .later }
def LayoutOfSourcesUptoCardSaid : Prop := Claim7.holds Tryd.pinned (.plain (OpenSpec.upto layoutOfSourcesSpec)) layoutOfSourcesUptoCard

/-- THE SECOND FORM's CARD OF 'cspchecklaw2.LayoutSeparates'. -/
def layoutSeparatesUptoCard : Claim7 := { stood := { row := layoutSeparatesUptoRow, standIns := [], harness := (true, "d9d922bc09847de953fe07268fdb8d8744b73027bd6a2c88dab4fc5dddea0afb"), looks := false }, kinds := [], alts := [], laidByText := true, laidKinds := [.widerDeep, .widerDeep, .widerDeep], laidTests := true, laidLooks := .later }
def LayoutSeparatesUptoCardSaid : Prop := Claim7.holds Tryd.pinned (.plain (OpenSpec.upto layoutSeparatesSpec)) layoutSeparatesUptoCard

/-- THE SECOND FORM's CARD OF 'cspchecklaw2.LayoutClosers'. -/
def layoutClosersUptoCard : Claim7 := { stood := { row := layoutClosersUptoRow, standIns := [], harness := (true, "d9d922bc09847de953fe07268fdb8d8744b73027bd6a2c88dab4fc5dddea0afb"), looks := false }, kinds := [], alts := [], laidByText := true, laidKinds := [.widerDeep, .widerDeep, .widerDeep], laidTests := true, laidLooks := .later }
def LayoutClosersUptoCardSaid : Prop := Claim7.holds Tryd.pinned (.plain (OpenSpec.upto layoutClosersSpec)) layoutClosersUptoCard

/-- THE SECOND FORM's CARD OF 'cspchecklaw2.LayoutShifts'. -/
def layoutShiftsUptoCard : Claim7 := { stood := { row := layoutShiftsUptoRow, standIns := [], harness := (true, "d9d922bc09847de953fe07268fdb8d8744b73027bd6a2c88dab4fc5dddea0afb"), looks := false }, kinds := [], alts := [], laidByText := true, laidKinds := [.widerDeep, .widerDeep, .widerDeep], laidTests := true, laidLooks := .later }
def LayoutShiftsUptoCardSaid : Prop := Claim7.holds Tryd.pinned (.plain (OpenSpec.upto layoutShiftsSpec)) layoutShiftsUptoCard

/-- THE SECOND FORM's CARD OF 'cspchecklaw2.LayoutNests'. -/
def layoutNestsUptoCard : Claim7 := { stood := { row := layoutNestsUptoRow, standIns := [], harness := (true, "d9d922bc09847de953fe07268fdb8d8744b73027bd6a2c88dab4fc5dddea0afb"), looks := false }, kinds := [], alts := [], laidByText := true, laidKinds := [.widerDeep, .widerDeep, .widerDeep], laidTests := true, laidLooks := .later }
def LayoutNestsUptoCardSaid : Prop := Claim7.holds Tryd.pinned (.plain (OpenSpec.upto layoutNestsSpec)) layoutNestsUptoCard

/-- THE SECOND FORM's CARD OF 'cspchecklaw2.LayoutRemoves'. -/
def layoutRemovesUptoCard : Claim7 := { stood := { row := layoutRemovesUptoRow, standIns := [], harness := (true, "d9d922bc09847de953fe07268fdb8d8744b73027bd6a2c88dab4fc5dddea0afb"), looks := false }, kinds := [], alts := [], laidByText := true, laidKinds := [.widerDeep, .widerDeep, .widerDeep], laidTests := true, laidLooks := .later }
def LayoutRemovesUptoCardSaid : Prop := Claim7.holds Tryd.pinned (.plain (OpenSpec.upto layoutRemovesSpec)) layoutRemovesUptoCard

/-- THE SECOND FORM's CARD OF 'cspchecklaw2.LayoutBalances'. -/
def layoutBalancesUptoCard : Claim7 := { stood := { row := layoutBalancesUptoRow, standIns := [], harness := (true, "d9d922bc09847de953fe07268fdb8d8744b73027bd6a2c88dab4fc5dddea0afb"), looks := false }, kinds := [], alts := [], laidByText := true, laidKinds := [.widerDeep, .widerDeep, .widerDeep], laidTests := true, laidLooks := .later }
def LayoutBalancesUptoCardSaid : Prop := Claim7.holds Tryd.pinned (.plain (OpenSpec.upto layoutBalancesSpec)) layoutBalancesUptoCard
end Rows
end Go.Proofs.YtgfhkaamkodpjaaDoor
