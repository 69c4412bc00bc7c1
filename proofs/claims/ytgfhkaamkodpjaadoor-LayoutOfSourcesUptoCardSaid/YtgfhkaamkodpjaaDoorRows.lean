/-
  NARROWER THAN 'FOR EVERY INPUT', by the rows' own cells (each row's printed sentence says how): LayoutInsertsExactly: laid · LayoutOfSources: laid · LayoutSeparates: laid · LayoutClosers: laid · LayoutShifts: laid · LayoutNests: laid · LayoutRemoves: laid · LayoutBalances: laid.
  DERIVED. THE GIVEN ROWS OF THIS SEAT. 8 by the template 'for every input the law returns true; each argument reads behind the call as it read before'; 0 by the template 'total and deterministic' (their statements: YtgfhkaamkodpjaaDoorTotals.lean).
  GIVEN WITH THE SEED: the statements are not yours to turn. If you find one false, say at which input.
  Laid BY PROGRAM, IN A SANDBOX (cutbox-rows.mjs): the forced cells as the released guide's own fill.sh prints them over the translation e803c20a3e23acfc… (all of the seat's roots in one cut). By AI agents, Wed Nov 11 2026. No macro, syntax, notation, axiom, sorry.
-/
import Derived.Test.YtgfhkaamkodpjaaDoorChecked
import GoSem.Claim
import GoSem.ClaimJoined
import GoSem.ClaimMapViews
import Derived.JoinedTies
import Derived.KernelRfl
namespace Go.Proofs.YtgfhkaamkodpjaaDoor
/- THE CELL 'sum', in the pinned program and in every row, IS THE sha256 OF THE DUMP (.gsa) THAT YtgfhkaamkodpjaaDoorProg.lean LOADS. Nothing in Lean hashes anything: it is a label: what it is worth is what the hold of that sum in a sandbox is worth. -/
noncomputable def Tryd.pinned : Pinned := { name := "ytgfhkaamkodpjaadoor", sum := "e803c20a3e23acfc93f370184f67394efc53add14eca6c80977c33523e69febb", checked := Tryd.checked }
namespace Rows
def none {H : Type} : Left H := { results := [], args := [] }

/- WHAT THE LISTED PACKAGE-LEVEL VARIABLES READ AS WHEN THE CALL BEGINS. Each datum BY PROGRAM (the guide's laid-datum.mjs) off the statement by which the dump's own 'gosem.cut.vars' lays the variable. In a bare row this is a premise. The card (YtgfhkaamkodpjaaDoorCards.lean) ties it to the program's text. -/
def laid_cspcheck_lexer_keywords {H : Type} : DataW H := .slice [.lit (.string [97, 110, 100]), .lit (.string [111, 114]), .lit (.string [110, 111, 116]), .lit (.string [105, 102]), .lit (.string [116, 104, 101, 110]), .lit (.string [101, 108, 115, 101]), .lit (.string [108, 101, 116]), .lit (.string [119, 105, 116, 104, 105, 110]), .lit (.string [116, 114, 117, 101]), .lit (.string [102, 97, 108, 115, 101]), .lit (.string [100, 97, 116, 97, 116, 121, 112, 101]), .lit (.string [110, 97, 109, 101, 116, 121, 112, 101]), .lit (.string [99, 104, 97, 110, 110, 101, 108]), .lit (.string [109, 111, 100, 117, 108, 101]), .lit (.string [101, 120, 112, 111, 114, 116, 115]), .lit (.string [101, 110, 100, 109, 111, 100, 117, 108, 101]), .lit (.string [105, 110, 115, 116, 97, 110, 99, 101]), .lit (.string [84, 105, 109, 101, 100]), .lit (.string [101, 110, 100, 116, 105, 109, 101, 100]), .lit (.string [97, 115, 115, 101, 114, 116]), .lit (.string [83, 84, 79, 80]), .lit (.string [83, 75, 73, 80]), .lit (.string [68, 73, 86]), .lit (.string [99, 104, 97, 115, 101]), .lit (.string [112, 114, 105, 111, 114, 105, 116, 105, 115, 101])] []
def laid_cspcheck_lexer_symbols {H : Type} : DataW H := .slice [.lit (.string [91, 70, 68, 61]), .lit (.string [124, 126, 124]), .lit (.string [124, 124, 124]), .lit (.string [60, 45, 62]), .lit (.string [91, 84, 61]), .lit (.string [91, 70, 61]), .lit (.string [124, 124]), .lit (.string [124, 93]), .lit (.string [124, 62]), .lit (.string [124, 125]), .lit (.string [124, 41]), .lit (.string [91, 124]), .lit (.string [91, 93]), .lit (.string [91, 62]), .lit (.string [91, 43]), .lit (.string [91, 91]), .lit (.string [93, 93]), .lit (.string [43, 93]), .lit (.string [123, 124]), .lit (.string [40, 124]), .lit (.string [60, 45]), .lit (.string [60, 61]), .lit (.string [62, 61]), .lit (.string [45, 62]), .lit (.string [47, 92]), .lit (.string [61, 62]), .lit (.string [61, 61]), .lit (.string [33, 61]), .lit (.string [58, 58]), .lit (.string [46, 46]), .lit (.string [64, 64]), .lit (.string [124]), .lit (.string [91]), .lit (.string [93]), .lit (.string [123]), .lit (.string [125]), .lit (.string [40]), .lit (.string [41]), .lit (.string [60]), .lit (.string [62]), .lit (.string [43]), .lit (.string [45]), .lit (.string [42]), .lit (.string [47]), .lit (.string [37]), .lit (.string [92]), .lit (.string [61]), .lit (.string [33]), .lit (.string [58]), .lit (.string [59]), .lit (.string [44]), .lit (.string [46]), .lit (.string [63]), .lit (.string [36]), .lit (.string [64]), .lit (.string [38]), .lit (.string [94]), .lit (.string [35]), .lit (.string [95])] []
def laid_cspcheck_layout_closers {H : Type} : DataW H := .slice [.lit (.string [119, 105, 116, 104, 105, 110]), .lit (.string [101, 120, 112, 111, 114, 116, 115]), .lit (.string [101, 110, 100, 109, 111, 100, 117, 108, 101]), .lit (.string [101, 110, 100, 116, 105, 109, 101, 100])] []

/-- 'cspchecklaw2.LayoutInsertsExactly': WHATEVER THE INPUT: true; the input reads as it did. -/
def layoutInsertsExactlySpec : ChangeSpec := { name := "layoutInsertsExactly", fn := fun _ => fun
  | [d1, d2] => { results := [.lit (.bool true)], args := [d1, d2] }
  | _ => none }
def layoutInsertsExactlyRow : OpenClaim := { program := "ytgfhkaamkodpjaadoor", sum := "e803c20a3e23acfc93f370184f67394efc53add14eca6c80977c33523e69febb", func := "cspcheck/cspchecklaw2.LayoutInsertsExactly", spec := "layoutInsertsExactly", unfollowed := true, recurses := true, named := ["cspcheck/lexer.keywords", "cspcheck/lexer.symbols", "cspcheck/layout.closers"], apart := false, laid := [("cspcheck/lexer.keywords", laid_cspcheck_lexer_keywords), ("cspcheck/lexer.symbols", laid_cspcheck_lexer_symbols), ("cspcheck/layout.closers", laid_cspcheck_layout_closers)] }
def LayoutInsertsExactlySaid : Prop := layoutInsertsExactlyRow.holds Tryd.pinned (OpenSpec.ofChange layoutInsertsExactlySpec)

/-- ITS FALSE NEIGHBOUR: 'it returns false'. Refute it at one input. -/
def layoutInsertsExactlyWrong : ChangeSpec := { name := "layoutInsertsExactly", fn := fun _ => fun
  | [d1, d2] => { results := [.lit (.bool false)], args := [d1, d2] }
  | _ => none }
def LayoutInsertsExactlyWrongFalsely : Prop := layoutInsertsExactlyRow.holds Tryd.pinned (OpenSpec.ofChange layoutInsertsExactlyWrong)

/-- 'cspchecklaw2.LayoutOfSources': WHATEVER THE INPUT: true; the input reads as it did. -/
def layoutOfSourcesSpec : ChangeSpec := { name := "layoutOfSources", fn := fun _ => fun
  | [d] => { results := [.lit (.bool true)], args := [d] }
  | _ => none }
def layoutOfSourcesRow : OpenClaim := { program := "ytgfhkaamkodpjaadoor", sum := "e803c20a3e23acfc93f370184f67394efc53add14eca6c80977c33523e69febb", func := "cspcheck/cspchecklaw2.LayoutOfSources", spec := "layoutOfSources", unfollowed := true, recurses := true, named := ["cspcheck/lexer.keywords", "cspcheck/lexer.symbols", "cspcheck/layout.closers"], apart := false, laid := [("cspcheck/lexer.keywords", laid_cspcheck_lexer_keywords), ("cspcheck/lexer.symbols", laid_cspcheck_lexer_symbols), ("cspcheck/layout.closers", laid_cspcheck_layout_closers)] }
def LayoutOfSourcesSaid : Prop := layoutOfSourcesRow.holds Tryd.pinned (OpenSpec.ofChange layoutOfSourcesSpec)

/-- ITS FALSE NEIGHBOUR: 'it returns false'. Refute it at one input. -/
def layoutOfSourcesWrong : ChangeSpec := { name := "layoutOfSources", fn := fun _ => fun
  | [d] => { results := [.lit (.bool false)], args := [d] }
  | _ => none }
def LayoutOfSourcesWrongFalsely : Prop := layoutOfSourcesRow.holds Tryd.pinned (OpenSpec.ofChange layoutOfSourcesWrong)

/-- 'cspchecklaw2.LayoutSeparates': WHATEVER THE INPUT: true; the input reads as it did. -/
def layoutSeparatesSpec : ChangeSpec := { name := "layoutSeparates", fn := fun _ => fun
  | [d] => { results := [.lit (.bool true)], args := [d] }
  | _ => none }
def layoutSeparatesRow : OpenClaim := { program := "ytgfhkaamkodpjaadoor", sum := "e803c20a3e23acfc93f370184f67394efc53add14eca6c80977c33523e69febb", func := "cspcheck/cspchecklaw2.LayoutSeparates", spec := "layoutSeparates", unfollowed := true, recurses := true, named := ["cspcheck/lexer.keywords", "cspcheck/lexer.symbols", "cspcheck/layout.closers"], apart := false, laid := [("cspcheck/lexer.keywords", laid_cspcheck_lexer_keywords), ("cspcheck/lexer.symbols", laid_cspcheck_lexer_symbols), ("cspcheck/layout.closers", laid_cspcheck_layout_closers)] }
def LayoutSeparatesSaid : Prop := layoutSeparatesRow.holds Tryd.pinned (OpenSpec.ofChange layoutSeparatesSpec)

/-- ITS FALSE NEIGHBOUR: 'it returns false'. Refute it at one input. -/
def layoutSeparatesWrong : ChangeSpec := { name := "layoutSeparates", fn := fun _ => fun
  | [d] => { results := [.lit (.bool false)], args := [d] }
  | _ => none }
def LayoutSeparatesWrongFalsely : Prop := layoutSeparatesRow.holds Tryd.pinned (OpenSpec.ofChange layoutSeparatesWrong)

/-- 'cspchecklaw2.LayoutClosers': WHATEVER THE INPUT: true; the input reads as it did. -/
def layoutClosersSpec : ChangeSpec := { name := "layoutClosers", fn := fun _ => fun
  | [d1, d2] => { results := [.lit (.bool true)], args := [d1, d2] }
  | _ => none }
def layoutClosersRow : OpenClaim := { program := "ytgfhkaamkodpjaadoor", sum := "e803c20a3e23acfc93f370184f67394efc53add14eca6c80977c33523e69febb", func := "cspcheck/cspchecklaw2.LayoutClosers", spec := "layoutClosers", unfollowed := true, recurses := true, named := ["cspcheck/lexer.keywords", "cspcheck/lexer.symbols", "cspcheck/layout.closers"], apart := false, laid := [("cspcheck/lexer.keywords", laid_cspcheck_lexer_keywords), ("cspcheck/lexer.symbols", laid_cspcheck_lexer_symbols), ("cspcheck/layout.closers", laid_cspcheck_layout_closers)] }
def LayoutClosersSaid : Prop := layoutClosersRow.holds Tryd.pinned (OpenSpec.ofChange layoutClosersSpec)

/-- ITS FALSE NEIGHBOUR: 'it returns false'. Refute it at one input. -/
def layoutClosersWrong : ChangeSpec := { name := "layoutClosers", fn := fun _ => fun
  | [d1, d2] => { results := [.lit (.bool false)], args := [d1, d2] }
  | _ => none }
def LayoutClosersWrongFalsely : Prop := layoutClosersRow.holds Tryd.pinned (OpenSpec.ofChange layoutClosersWrong)

/-- 'cspchecklaw2.LayoutShifts': WHATEVER THE INPUT: true; the input reads as it did. -/
def layoutShiftsSpec : ChangeSpec := { name := "layoutShifts", fn := fun _ => fun
  | [d1, d2] => { results := [.lit (.bool true)], args := [d1, d2] }
  | _ => none }
def layoutShiftsRow : OpenClaim := { program := "ytgfhkaamkodpjaadoor", sum := "e803c20a3e23acfc93f370184f67394efc53add14eca6c80977c33523e69febb", func := "cspcheck/cspchecklaw2.LayoutShifts", spec := "layoutShifts", unfollowed := true, recurses := true, named := ["cspcheck/lexer.keywords", "cspcheck/lexer.symbols", "cspcheck/layout.closers"], apart := false, laid := [("cspcheck/lexer.keywords", laid_cspcheck_lexer_keywords), ("cspcheck/lexer.symbols", laid_cspcheck_lexer_symbols), ("cspcheck/layout.closers", laid_cspcheck_layout_closers)] }
def LayoutShiftsSaid : Prop := layoutShiftsRow.holds Tryd.pinned (OpenSpec.ofChange layoutShiftsSpec)

/-- ITS FALSE NEIGHBOUR: 'it returns false'. Refute it at one input. -/
def layoutShiftsWrong : ChangeSpec := { name := "layoutShifts", fn := fun _ => fun
  | [d1, d2] => { results := [.lit (.bool false)], args := [d1, d2] }
  | _ => none }
def LayoutShiftsWrongFalsely : Prop := layoutShiftsRow.holds Tryd.pinned (OpenSpec.ofChange layoutShiftsWrong)

/-- 'cspchecklaw2.LayoutNests': WHATEVER THE INPUT: true; the input reads as it did. -/
def layoutNestsSpec : ChangeSpec := { name := "layoutNests", fn := fun _ => fun
  | [d] => { results := [.lit (.bool true)], args := [d] }
  | _ => none }
def layoutNestsRow : OpenClaim := { program := "ytgfhkaamkodpjaadoor", sum := "e803c20a3e23acfc93f370184f67394efc53add14eca6c80977c33523e69febb", func := "cspcheck/cspchecklaw2.LayoutNests", spec := "layoutNests", unfollowed := true, recurses := true, named := ["cspcheck/lexer.keywords", "cspcheck/lexer.symbols", "cspcheck/layout.closers"], apart := false, laid := [("cspcheck/lexer.keywords", laid_cspcheck_lexer_keywords), ("cspcheck/lexer.symbols", laid_cspcheck_lexer_symbols), ("cspcheck/layout.closers", laid_cspcheck_layout_closers)] }
def LayoutNestsSaid : Prop := layoutNestsRow.holds Tryd.pinned (OpenSpec.ofChange layoutNestsSpec)

/-- ITS FALSE NEIGHBOUR: 'it returns false'. Refute it at one input. -/
def layoutNestsWrong : ChangeSpec := { name := "layoutNests", fn := fun _ => fun
  | [d] => { results := [.lit (.bool false)], args := [d] }
  | _ => none }
def LayoutNestsWrongFalsely : Prop := layoutNestsRow.holds Tryd.pinned (OpenSpec.ofChange layoutNestsWrong)

/-- 'cspchecklaw2.LayoutRemoves': WHATEVER THE INPUT: true; the input reads as it did. -/
def layoutRemovesSpec : ChangeSpec := { name := "layoutRemoves", fn := fun _ => fun
  | [d1, d2] => { results := [.lit (.bool true)], args := [d1, d2] }
  | _ => none }
def layoutRemovesRow : OpenClaim := { program := "ytgfhkaamkodpjaadoor", sum := "e803c20a3e23acfc93f370184f67394efc53add14eca6c80977c33523e69febb", func := "cspcheck/cspchecklaw2.LayoutRemoves", spec := "layoutRemoves", unfollowed := true, recurses := true, named := ["cspcheck/lexer.keywords", "cspcheck/lexer.symbols", "cspcheck/layout.closers"], apart := false, laid := [("cspcheck/lexer.keywords", laid_cspcheck_lexer_keywords), ("cspcheck/lexer.symbols", laid_cspcheck_lexer_symbols), ("cspcheck/layout.closers", laid_cspcheck_layout_closers)] }
def LayoutRemovesSaid : Prop := layoutRemovesRow.holds Tryd.pinned (OpenSpec.ofChange layoutRemovesSpec)

/-- ITS FALSE NEIGHBOUR: 'it returns false'. Refute it at one input. -/
def layoutRemovesWrong : ChangeSpec := { name := "layoutRemoves", fn := fun _ => fun
  | [d1, d2] => { results := [.lit (.bool false)], args := [d1, d2] }
  | _ => none }
def LayoutRemovesWrongFalsely : Prop := layoutRemovesRow.holds Tryd.pinned (OpenSpec.ofChange layoutRemovesWrong)

/-- 'cspchecklaw2.LayoutBalances': WHATEVER THE INPUT: true; the input reads as it did. -/
def layoutBalancesSpec : ChangeSpec := { name := "layoutBalances", fn := fun _ => fun
  | [d1, d2] => { results := [.lit (.bool true)], args := [d1, d2] }
  | _ => none }
def layoutBalancesRow : OpenClaim := { program := "ytgfhkaamkodpjaadoor", sum := "e803c20a3e23acfc93f370184f67394efc53add14eca6c80977c33523e69febb", func := "cspcheck/cspchecklaw2.LayoutBalances", spec := "layoutBalances", unfollowed := true, recurses := true, named := ["cspcheck/lexer.keywords", "cspcheck/lexer.symbols", "cspcheck/layout.closers"], apart := false, laid := [("cspcheck/lexer.keywords", laid_cspcheck_lexer_keywords), ("cspcheck/lexer.symbols", laid_cspcheck_lexer_symbols), ("cspcheck/layout.closers", laid_cspcheck_layout_closers)] }
def LayoutBalancesSaid : Prop := layoutBalancesRow.holds Tryd.pinned (OpenSpec.ofChange layoutBalancesSpec)

/-- ITS FALSE NEIGHBOUR: 'it returns false'. Refute it at one input. -/
def layoutBalancesWrong : ChangeSpec := { name := "layoutBalances", fn := fun _ => fun
  | [d1, d2] => { results := [.lit (.bool false)], args := [d1, d2] }
  | _ => none }
def LayoutBalancesWrongFalsely : Prop := layoutBalancesRow.holds Tryd.pinned (OpenSpec.ofChange layoutBalancesWrong)

/- THE SECOND FORM. 'bulk': how many values and letters a reading holds, each counted each time it is reached (what is shared counts as often as it is met; a slice's spare places count too). A statement '..UptoSaid' is the law's where the arguments, and the package variables that the reading takes, are together of bulk at most 1048576: NARROWER than '..Said'. Prove '..Said' where nothing that the law and all that it calls make is longer than what came in: it says more and counts as full. Else prove '..UptoSaid'. A law counts once. -/
mutual
def uptoBulk {H : Type} : DataW H → Nat
  | .lit (.string bytes) => bytes.length + 1
  | .lit _ => 1
  | .nil => 1
  | .ptr d => uptoBulk d + 1
  | .slice elems spare => uptoBulkAll elems + uptoBulkAll spare + 1
  | .agg parts => uptoBulkAll parts + 1
  | .iface _ d => uptoBulk d + 1
  | .map entries => uptoBulkEntries entries + 1
  | .held _ => 1
def uptoBulkAll {H : Type} : List (DataW H) → Nat
  | [] => 0
  | d :: r => uptoBulk d + uptoBulkAll r
def uptoBulkEntries {H : Type} : List (Lit × DataW H) → Nat
  | [] => 0
  | x :: r => uptoBulkEntry x + uptoBulkEntries r
def uptoBulkEntry {H : Type} : Lit × DataW H → Nat
  | (.string bytes, d) => bytes.length + uptoBulk d + 1
  | (_, d) => uptoBulk d + 1
 end
def uptoSmall : (H : Type) → List (DataW H) → Bool := fun _ ds => decide (uptoBulkAll ds ≤ 1048576)
def OpenSpec.upto (s : _root_.Go.ChangeSpec) : _root_.Go.OpenSpec := { _root_.Go.OpenSpec.ofChange s with cond := some uptoSmall }

/-- 'cspchecklaw2.LayoutInsertsExactly', WHERE WHAT IT READS IS OF BULK AT MOST 1048576: true; the input reads as it did. -/
def layoutInsertsExactlyUptoRow : OpenClaim := { program := "ytgfhkaamkodpjaadoor", sum := "e803c20a3e23acfc93f370184f67394efc53add14eca6c80977c33523e69febb", func := "cspcheck/cspchecklaw2.LayoutInsertsExactly", spec := "layoutInsertsExactly", unfollowed := true, recurses := true, named := ["cspcheck/lexer.keywords", "cspcheck/lexer.symbols", "cspcheck/layout.closers"], apart := false, laid := [("cspcheck/lexer.keywords", laid_cspcheck_lexer_keywords), ("cspcheck/lexer.symbols", laid_cspcheck_lexer_symbols), ("cspcheck/layout.closers", laid_cspcheck_layout_closers)], narrowed := true }
def LayoutInsertsExactlyUptoSaid : Prop := layoutInsertsExactlyUptoRow.holds Tryd.pinned (OpenSpec.upto layoutInsertsExactlySpec)

/-- 'cspchecklaw2.LayoutOfSources', WHERE WHAT IT READS IS OF BULK AT MOST 1048576: true; the input reads as it did. -/
def layoutOfSourcesUptoRow : OpenClaim := { program := "ytgfhkaamkodpjaadoor", sum := "e803c20a3e23acfc93f370184f67394efc53add14eca6c80977c33523e69febb", func := "cspcheck/cspchecklaw2.LayoutOfSources", spec := "layoutOfSources", unfollowed := true, recurses := true, named := ["cspcheck/lexer.keywords", "cspcheck/lexer.symbols", "cspcheck/layout.closers"], apart := false, laid := [("cspcheck/lexer.keywords", laid_cspcheck_lexer_keywords), ("cspcheck/lexer.symbols", laid_cspcheck_lexer_symbols), ("cspcheck/layout.closers", laid_cspcheck_layout_closers)], narrowed := true }
def LayoutOfSourcesUptoSaid : Prop := layoutOfSourcesUptoRow.holds Tryd.pinned (OpenSpec.upto layoutOfSourcesSpec)

/-- 'cspchecklaw2.LayoutSeparates', WHERE WHAT IT READS IS OF BULK AT MOST 1048576: true; the input reads as it did. -/
def layoutSeparatesUptoRow : OpenClaim := { program := "ytgfhkaamkodpjaadoor", sum := "e803c20a3e23acfc93f370184f67394efc53add14eca6c80977c33523e69febb", func := "cspcheck/cspchecklaw2.LayoutSeparates", spec := "layoutSeparates", unfollowed := true, recurses := true, named := ["cspcheck/lexer.keywords", "cspcheck/lexer.symbols", "cspcheck/layout.closers"], apart := false, laid := [("cspcheck/lexer.keywords", laid_cspcheck_lexer_keywords), ("cspcheck/lexer.symbols", laid_cspcheck_lexer_symbols), ("cspcheck/layout.closers", laid_cspcheck_layout_closers)], narrowed := true }
def LayoutSeparatesUptoSaid : Prop := layoutSeparatesUptoRow.holds Tryd.pinned (OpenSpec.upto layoutSeparatesSpec)

/-- 'cspchecklaw2.LayoutClosers', WHERE WHAT IT READS IS OF BULK AT MOST 1048576: true; the input reads as it did. -/
def layoutClosersUptoRow : OpenClaim := { program := "ytgfhkaamkodpjaadoor", sum := "e803c20a3e23acfc93f370184f67394efc53add14eca6c80977c33523e69febb", func := "cspcheck/cspchecklaw2.LayoutClosers", spec := "layoutClosers", unfollowed := true, recurses := true, named := ["cspcheck/lexer.keywords", "cspcheck/lexer.symbols", "cspcheck/layout.closers"], apart := false, laid := [("cspcheck/lexer.keywords", laid_cspcheck_lexer_keywords), ("cspcheck/lexer.symbols", laid_cspcheck_lexer_symbols), ("cspcheck/layout.closers", laid_cspcheck_layout_closers)], narrowed := true }
def LayoutClosersUptoSaid : Prop := layoutClosersUptoRow.holds Tryd.pinned (OpenSpec.upto layoutClosersSpec)

/-- 'cspchecklaw2.LayoutShifts', WHERE WHAT IT READS IS OF BULK AT MOST 1048576: true; the input reads as it did. -/
def layoutShiftsUptoRow : OpenClaim := { program := "ytgfhkaamkodpjaadoor", sum := "e803c20a3e23acfc93f370184f67394efc53add14eca6c80977c33523e69febb", func := "cspcheck/cspchecklaw2.LayoutShifts", spec := "layoutShifts", unfollowed := true, recurses := true, named := ["cspcheck/lexer.keywords", "cspcheck/lexer.symbols", "cspcheck/layout.closers"], apart := false, laid := [("cspcheck/lexer.keywords", laid_cspcheck_lexer_keywords), ("cspcheck/lexer.symbols", laid_cspcheck_lexer_symbols), ("cspcheck/layout.closers", laid_cspcheck_layout_closers)], narrowed := true }
def LayoutShiftsUptoSaid : Prop := layoutShiftsUptoRow.holds Tryd.pinned (OpenSpec.upto layoutShiftsSpec)

/-- 'cspchecklaw2.LayoutNests', WHERE WHAT IT READS IS OF BULK AT MOST 1048576: true; the input reads as it did. -/
def layoutNestsUptoRow : OpenClaim := { program := "ytgfhkaamkodpjaadoor", sum := "e803c20a3e23acfc93f370184f67394efc53add14eca6c80977c33523e69febb", func := "cspcheck/cspchecklaw2.LayoutNests", spec := "layoutNests", unfollowed := true, recurses := true, named := ["cspcheck/lexer.keywords", "cspcheck/lexer.symbols", "cspcheck/layout.closers"], apart := false, laid := [("cspcheck/lexer.keywords", laid_cspcheck_lexer_keywords), ("cspcheck/lexer.symbols", laid_cspcheck_lexer_symbols), ("cspcheck/layout.closers", laid_cspcheck_layout_closers)], narrowed := true }
def LayoutNestsUptoSaid : Prop := layoutNestsUptoRow.holds Tryd.pinned (OpenSpec.upto layoutNestsSpec)

/-- 'cspchecklaw2.LayoutRemoves', WHERE WHAT IT READS IS OF BULK AT MOST 1048576: true; the input reads as it did. -/
def layoutRemovesUptoRow : OpenClaim := { program := "ytgfhkaamkodpjaadoor", sum := "e803c20a3e23acfc93f370184f67394efc53add14eca6c80977c33523e69febb", func := "cspcheck/cspchecklaw2.LayoutRemoves", spec := "layoutRemoves", unfollowed := true, recurses := true, named := ["cspcheck/lexer.keywords", "cspcheck/lexer.symbols", "cspcheck/layout.closers"], apart := false, laid := [("cspcheck/lexer.keywords", laid_cspcheck_lexer_keywords), ("cspcheck/lexer.symbols", laid_cspcheck_lexer_symbols), ("cspcheck/layout.closers", laid_cspcheck_layout_closers)], narrowed := true }
def LayoutRemovesUptoSaid : Prop := layoutRemovesUptoRow.holds Tryd.pinned (OpenSpec.upto layoutRemovesSpec)

/-- 'cspchecklaw2.LayoutBalances', WHERE WHAT IT READS IS OF BULK AT MOST 1048576: true; the input reads as it did. -/
def layoutBalancesUptoRow : OpenClaim := { program := "ytgfhkaamkodpjaadoor", sum := "e803c20a3e23acfc93f370184f67394efc53add14eca6c80977c33523e69febb", func := "cspcheck/cspchecklaw2.LayoutBalances", spec := "layoutBalances", unfollowed := true, recurses := true, named := ["cspcheck/lexer.keywords", "cspcheck/lexer.symbols", "cspcheck/layout.closers"], apart := false, laid := [("cspcheck/lexer.keywords", laid_cspcheck_lexer_keywords), ("cspcheck/lexer.symbols", laid_cspcheck_lexer_symbols), ("cspcheck/layout.closers", laid_cspcheck_layout_closers)], narrowed := true }
def LayoutBalancesUptoSaid : Prop := layoutBalancesUptoRow.holds Tryd.pinned (OpenSpec.upto layoutBalancesSpec)

end Rows
end Go.Proofs.YtgfhkaamkodpjaaDoor
