/-
  NARROWER THAN 'FOR EVERY INPUT', by the rows' own cells (each row's printed sentence says how): ScopeRenaming: laid · ScopeBuiltins: laid.
  DERIVED. THE GIVEN ROWS OF THIS SEAT. 2 by the template 'for every input the law returns true; each argument reads behind the call as it read before'; 0 by the template 'total and deterministic' (their statements: YtlblaopkmigheaaGreatDoorTotals.lean).
  GIVEN WITH THE SEED: the statements are not yours to turn. If you find one false, say at which input.
  Laid BY PROGRAM, IN A SANDBOX (cutbox-rows.mjs): the forced cells as the released guide's own fill.sh prints them over the translation 33d47e3eec64b54a… (all of the seat's roots in one cut). By AI agents, Wed Nov 11 2026. No macro, syntax, notation, axiom, sorry.
-/
import Derived.Test.YtlblaopkmigheaaGreatDoorChecked
import GoSem.PinnedTables
import GoSem.Claim
import GoSem.ClaimJoined
import GoSem.ClaimMapViews
import Derived.JoinedTies
import Derived.KernelRfl
namespace Go.Proofs.YtlblaopkmigheaaGreatDoor
/- THE CELL 'sum', in the pinned program and in every row, IS THE sha256 OF THE DUMP (.gsa) THAT YtlblaopkmigheaaGreatDoorProg.lean LOADS. Nothing in Lean hashes anything: it is a label: what it is worth is what the hold of that sum in a sandbox is worth. -/
noncomputable def Tryz.pinned : Pinned := { name := "ytlblaopkmigheaagreatdoor", sum := "33d47e3eec64b54af6610a8bcf5593ca70c363f1387ec17be9d9a6336f5805d1", checked := Tryz.checked }
namespace Rows
def none {H : Type} : Left H := { results := [], args := [] }

/- WHAT THE LISTED PACKAGE-LEVEL VARIABLES READ AS WHEN THE CALL BEGINS. Each datum BY PROGRAM (the guide's laid-datum.mjs) off the statement by which the dump's own 'gosem.cut.vars' lays the variable. In a bare row this is a premise. The card (YtlblaopkmigheaaGreatDoorCards.lean) ties it to the program's text. -/
def laid_unicode_utf8_acceptRanges {H : Type} : DataW H := .agg [.agg [.lit (.int .u8 128), .lit (.int .u8 191)], .agg [.lit (.int .u8 160), .lit (.int .u8 191)], .agg [.lit (.int .u8 128), .lit (.int .u8 159)], .agg [.lit (.int .u8 144), .lit (.int .u8 191)], .agg [.lit (.int .u8 128), .lit (.int .u8 143)], .agg [.lit (.int .u8 0), .lit (.int .u8 0)], .agg [.lit (.int .u8 0), .lit (.int .u8 0)], .agg [.lit (.int .u8 0), .lit (.int .u8 0)], .agg [.lit (.int .u8 0), .lit (.int .u8 0)], .agg [.lit (.int .u8 0), .lit (.int .u8 0)], .agg [.lit (.int .u8 0), .lit (.int .u8 0)], .agg [.lit (.int .u8 0), .lit (.int .u8 0)], .agg [.lit (.int .u8 0), .lit (.int .u8 0)], .agg [.lit (.int .u8 0), .lit (.int .u8 0)], .agg [.lit (.int .u8 0), .lit (.int .u8 0)], .agg [.lit (.int .u8 0), .lit (.int .u8 0)]]
def laid_cspcheck_lexer_keywords {H : Type} : DataW H := .slice [.lit (.string [97, 110, 100]), .lit (.string [111, 114]), .lit (.string [110, 111, 116]), .lit (.string [105, 102]), .lit (.string [116, 104, 101, 110]), .lit (.string [101, 108, 115, 101]), .lit (.string [108, 101, 116]), .lit (.string [119, 105, 116, 104, 105, 110]), .lit (.string [116, 114, 117, 101]), .lit (.string [102, 97, 108, 115, 101]), .lit (.string [100, 97, 116, 97, 116, 121, 112, 101]), .lit (.string [110, 97, 109, 101, 116, 121, 112, 101]), .lit (.string [99, 104, 97, 110, 110, 101, 108]), .lit (.string [109, 111, 100, 117, 108, 101]), .lit (.string [101, 120, 112, 111, 114, 116, 115]), .lit (.string [101, 110, 100, 109, 111, 100, 117, 108, 101]), .lit (.string [105, 110, 115, 116, 97, 110, 99, 101]), .lit (.string [84, 105, 109, 101, 100]), .lit (.string [101, 110, 100, 116, 105, 109, 101, 100]), .lit (.string [97, 115, 115, 101, 114, 116]), .lit (.string [83, 84, 79, 80]), .lit (.string [83, 75, 73, 80]), .lit (.string [68, 73, 86]), .lit (.string [99, 104, 97, 115, 101]), .lit (.string [112, 114, 105, 111, 114, 105, 116, 105, 115, 101])] []
def laid_cspcheck_lexer_symbols {H : Type} : DataW H := .slice [.lit (.string [91, 70, 68, 61]), .lit (.string [124, 126, 124]), .lit (.string [124, 124, 124]), .lit (.string [60, 45, 62]), .lit (.string [91, 84, 61]), .lit (.string [91, 70, 61]), .lit (.string [124, 124]), .lit (.string [124, 93]), .lit (.string [124, 62]), .lit (.string [124, 125]), .lit (.string [124, 41]), .lit (.string [91, 124]), .lit (.string [91, 93]), .lit (.string [91, 62]), .lit (.string [91, 43]), .lit (.string [91, 91]), .lit (.string [93, 93]), .lit (.string [43, 93]), .lit (.string [123, 124]), .lit (.string [40, 124]), .lit (.string [60, 45]), .lit (.string [60, 61]), .lit (.string [62, 61]), .lit (.string [45, 62]), .lit (.string [47, 92]), .lit (.string [61, 62]), .lit (.string [61, 61]), .lit (.string [33, 61]), .lit (.string [58, 58]), .lit (.string [46, 46]), .lit (.string [64, 64]), .lit (.string [124]), .lit (.string [91]), .lit (.string [93]), .lit (.string [123]), .lit (.string [125]), .lit (.string [40]), .lit (.string [41]), .lit (.string [60]), .lit (.string [62]), .lit (.string [43]), .lit (.string [45]), .lit (.string [42]), .lit (.string [47]), .lit (.string [37]), .lit (.string [92]), .lit (.string [61]), .lit (.string [33]), .lit (.string [58]), .lit (.string [59]), .lit (.string [44]), .lit (.string [46]), .lit (.string [63]), .lit (.string [36]), .lit (.string [64]), .lit (.string [38]), .lit (.string [94]), .lit (.string [35]), .lit (.string [95])] []
def laid_cspcheck_scope_builtins {H : Type} : DataW H := .slice [.agg [.lit (.string [117, 110, 105, 111, 110]), .lit (.int .i64 0), .lit (.int .i64 0), .lit (.int .i64 2)], .agg [.lit (.string [105, 110, 116, 101, 114]), .lit (.int .i64 0), .lit (.int .i64 0), .lit (.int .i64 2)], .agg [.lit (.string [100, 105, 102, 102]), .lit (.int .i64 0), .lit (.int .i64 0), .lit (.int .i64 2)], .agg [.lit (.string [85, 110, 105, 111, 110]), .lit (.int .i64 0), .lit (.int .i64 0), .lit (.int .i64 1)], .agg [.lit (.string [73, 110, 116, 101, 114]), .lit (.int .i64 0), .lit (.int .i64 0), .lit (.int .i64 1)], .agg [.lit (.string [109, 101, 109, 98, 101, 114]), .lit (.int .i64 0), .lit (.int .i64 0), .lit (.int .i64 2)], .agg [.lit (.string [99, 97, 114, 100]), .lit (.int .i64 0), .lit (.int .i64 0), .lit (.int .i64 1)], .agg [.lit (.string [101, 109, 112, 116, 121]), .lit (.int .i64 0), .lit (.int .i64 0), .lit (.int .i64 1)], .agg [.lit (.string [115, 101, 116]), .lit (.int .i64 0), .lit (.int .i64 0), .lit (.int .i64 1)], .agg [.lit (.string [115, 101, 113]), .lit (.int .i64 0), .lit (.int .i64 0), .lit (.int .i64 1)], .agg [.lit (.string [83, 101, 116]), .lit (.int .i64 0), .lit (.int .i64 0), .lit (.int .i64 1)], .agg [.lit (.string [104, 101, 97, 100]), .lit (.int .i64 0), .lit (.int .i64 0), .lit (.int .i64 1)], .agg [.lit (.string [116, 97, 105, 108]), .lit (.int .i64 0), .lit (.int .i64 0), .lit (.int .i64 1)], .agg [.lit (.string [110, 117, 108, 108]), .lit (.int .i64 0), .lit (.int .i64 0), .lit (.int .i64 1)], .agg [.lit (.string [101, 108, 101, 109]), .lit (.int .i64 0), .lit (.int .i64 0), .lit (.int .i64 2)], .agg [.lit (.string [108, 101, 110, 103, 116, 104]), .lit (.int .i64 0), .lit (.int .i64 0), .lit (.int .i64 1)], .agg [.lit (.string [99, 111, 110, 99, 97, 116]), .lit (.int .i64 0), .lit (.int .i64 0), .lit (.int .i64 1)], .agg [.lit (.string [109, 97, 112, 76, 111, 111, 107, 117, 112]), .lit (.int .i64 0), .lit (.int .i64 0), .lit (.int .i64 2)], .agg [.lit (.string [109, 97, 112, 77, 101, 109, 98, 101, 114]), .lit (.int .i64 0), .lit (.int .i64 0), .lit (.int .i64 2)], .agg [.lit (.string [109, 97, 112, 85, 112, 100, 97, 116, 101]), .lit (.int .i64 0), .lit (.int .i64 0), .lit (.int .i64 3)], .agg [.lit (.string [109, 97, 112, 68, 101, 108, 101, 116, 101]), .lit (.int .i64 0), .lit (.int .i64 0), .lit (.int .i64 2)], .agg [.lit (.string [109, 97, 112, 75, 101, 121, 115]), .lit (.int .i64 0), .lit (.int .i64 0), .lit (.int .i64 1)], .agg [.lit (.string [69, 118, 101, 110, 116, 115]), .lit (.int .i64 0), .lit (.int .i64 0), .lit (.int .i64 0)], .agg [.lit (.string [66, 111, 111, 108]), .lit (.int .i64 0), .lit (.int .i64 0), .lit (.int .i64 0)], .agg [.lit (.string [73, 110, 116]), .lit (.int .i64 0), .lit (.int .i64 0), .lit (.int .i64 0)]] []
/-- One of Go's own tables, pinned by name: the form's constant. -/
def laid_unicode_utf8_first : DataW Unit := Go.Pinned.utf8First

/-- 'cspchecklaw6.ScopeRenaming': WHATEVER THE INPUT: true; the input reads as it did. -/
def scopeRenamingSpec : ChangeSpec := { name := "scopeRenaming", fn := fun _ => fun
  | [d1, d2] => { results := [.lit (.bool true)], args := [d1, d2] }
  | _ => none }
def scopeRenamingRow : OpenClaim := { program := "ytlblaopkmigheaagreatdoor", sum := "33d47e3eec64b54af6610a8bcf5593ca70c363f1387ec17be9d9a6336f5805d1", func := "cspcheck/cspchecklaw6.ScopeRenaming", spec := "scopeRenaming", inPlace := ["internal/bytealg.CountString", "internal/bytealg.IndexByteString", "internal/bytealg.IndexString"], unfollowed := true, recurses := true, named := ["unicode/utf8.first", "unicode/utf8.acceptRanges", "internal/bytealg.MaxLen", "cspcheck/lexer.keywords", "cspcheck/lexer.symbols", "cspcheck/scope.builtins"], apart := false, laid := [("unicode/utf8.acceptRanges", laid_unicode_utf8_acceptRanges), ("cspcheck/lexer.keywords", laid_cspcheck_lexer_keywords), ("cspcheck/lexer.symbols", laid_cspcheck_lexer_symbols), ("cspcheck/scope.builtins", laid_cspcheck_scope_builtins), ("unicode/utf8.first", laid_unicode_utf8_first)] }
def ScopeRenamingSaid : Prop := scopeRenamingRow.holds Tryz.pinned (OpenSpec.ofChange scopeRenamingSpec)

/-- ITS FALSE NEIGHBOUR: 'it returns false'. Refute it at one input. -/
def scopeRenamingWrong : ChangeSpec := { name := "scopeRenaming", fn := fun _ => fun
  | [d1, d2] => { results := [.lit (.bool false)], args := [d1, d2] }
  | _ => none }
def ScopeRenamingWrongFalsely : Prop := scopeRenamingRow.holds Tryz.pinned (OpenSpec.ofChange scopeRenamingWrong)

/-- 'cspchecklaw6.ScopeBuiltins': WHATEVER THE INPUT: true; the input reads as it did. -/
def scopeBuiltinsSpec : ChangeSpec := { name := "scopeBuiltins", fn := fun _ => fun
  | [] => { results := [.lit (.bool true)], args := [] }
  | _ => none }
def scopeBuiltinsRow : OpenClaim := { program := "ytlblaopkmigheaagreatdoor", sum := "33d47e3eec64b54af6610a8bcf5593ca70c363f1387ec17be9d9a6336f5805d1", func := "cspcheck/cspchecklaw6.ScopeBuiltins", spec := "scopeBuiltins", inPlace := ["internal/bytealg.CountString", "internal/bytealg.IndexByteString", "internal/bytealg.IndexString"], unfollowed := true, recurses := true, named := ["unicode/utf8.first", "unicode/utf8.acceptRanges", "internal/bytealg.MaxLen", "cspcheck/lexer.keywords", "cspcheck/lexer.symbols", "cspcheck/scope.builtins"], apart := false, laid := [("unicode/utf8.acceptRanges", laid_unicode_utf8_acceptRanges), ("cspcheck/lexer.keywords", laid_cspcheck_lexer_keywords), ("cspcheck/lexer.symbols", laid_cspcheck_lexer_symbols), ("cspcheck/scope.builtins", laid_cspcheck_scope_builtins), ("unicode/utf8.first", laid_unicode_utf8_first)] }
def ScopeBuiltinsSaid : Prop := scopeBuiltinsRow.holds Tryz.pinned (OpenSpec.ofChange scopeBuiltinsSpec)

/-- ITS FALSE NEIGHBOUR: 'it returns false'. Refute it at one input. -/
def scopeBuiltinsWrong : ChangeSpec := { name := "scopeBuiltins", fn := fun _ => fun
  | [] => { results := [.lit (.bool false)], args := [] }
  | _ => none }
def ScopeBuiltinsWrongFalsely : Prop := scopeBuiltinsRow.holds Tryz.pinned (OpenSpec.ofChange scopeBuiltinsWrong)

/- THE SECOND FORM. 'bulk': how many values and letters a reading holds, each counted each time it is reached (what is shared counts as often as it is met; a slice's spare places count too). A statement '..UptoSaid' is the law's where the arguments, and the package variables that the reading takes, are together of bulk at most 1048576: NARROWER than '..Said'. Prove '..Said' where nothing that the law and all that it calls make is longer than what came in: it says more and counts as full. Else prove '..UptoSaid'. A law counts once. -/
mutual
def uptoBulk {H : Type} : DataW H → Nat
  | .lit (.string bytes) => bytes.length + 1
  | .lit _ => 1
  | .nil => 1
  | .ptr d => uptoBulk d + 1
  | .slice elems spare => uptoBulkAll elems + uptoBulkAll spare + 1
  | .agg parts => uptoBulkAll parts + 1
  | .iface _ d => uptoBulk d + 1
  | .map entries => uptoBulkEntries entries + 1
  | .held _ => 1
def uptoBulkAll {H : Type} : List (DataW H) → Nat
  | [] => 0
  | d :: r => uptoBulk d + uptoBulkAll r
def uptoBulkEntries {H : Type} : List (Lit × DataW H) → Nat
  | [] => 0
  | x :: r => uptoBulkEntry x + uptoBulkEntries r
def uptoBulkEntry {H : Type} : Lit × DataW H → Nat
  | (.string bytes, d) => bytes.length + uptoBulk d + 1
  | (_, d) => uptoBulk d + 1
 end
def uptoSmall : (H : Type) → List (DataW H) → Bool := fun _ ds => decide (uptoBulkAll ds ≤ 1048576)
def OpenSpec.upto (s : _root_.Go.ChangeSpec) : _root_.Go.OpenSpec := { _root_.Go.OpenSpec.ofChange s with cond := some uptoSmall }

/-- 'cspchecklaw6.ScopeRenaming', WHERE WHAT IT READS IS OF BULK AT MOST 1048576: true; the input reads as it did. -/
def scopeRenamingUptoRow : OpenClaim := { program := "ytlblaopkmigheaagreatdoor", sum := "33d47e3eec64b54af6610a8bcf5593ca70c363f1387ec17be9d9a6336f5805d1", func := "cspcheck/cspchecklaw6.ScopeRenaming", spec := "scopeRenaming", inPlace := ["internal/bytealg.CountString", "internal/bytealg.IndexByteString", "internal/bytealg.IndexString"], unfollowed := true, recurses := true, named := ["unicode/utf8.first", "unicode/utf8.acceptRanges", "internal/bytealg.MaxLen", "cspcheck/lexer.keywords", "cspcheck/lexer.symbols", "cspcheck/scope.builtins"], apart := false, laid := [("unicode/utf8.acceptRanges", laid_unicode_utf8_acceptRanges), ("cspcheck/lexer.keywords", laid_cspcheck_lexer_keywords), ("cspcheck/lexer.symbols", laid_cspcheck_lexer_symbols), ("cspcheck/scope.builtins", laid_cspcheck_scope_builtins), ("unicode/utf8.first", laid_unicode_utf8_first)], narrowed := true }
def ScopeRenamingUptoSaid : Prop := scopeRenamingUptoRow.holds Tryz.pinned (OpenSpec.upto scopeRenamingSpec)

/-- 'cspchecklaw6.ScopeBuiltins', WHERE WHAT IT READS IS OF BULK AT MOST 1048576: true; the input reads as it did. -/
def scopeBuiltinsUptoRow : OpenClaim := { program := "ytlblaopkmigheaagreatdoor", sum := "33d47e3eec64b54af6610a8bcf5593ca70c363f1387ec17be9d9a6336f5805d1", func := "cspcheck/cspchecklaw6.ScopeBuiltins", spec := "scopeBuiltins", inPlace := ["internal/bytealg.CountString", "internal/bytealg.IndexByteString", "internal/bytealg.IndexString"], unfollowed := true, recurses := true, named := ["unicode/utf8.first", "unicode/utf8.acceptRanges", "internal/bytealg.MaxLen", "cspcheck/lexer.keywords", "cspcheck/lexer.symbols", "cspcheck/scope.builtins"], apart := false, laid := [("unicode/utf8.acceptRanges", laid_unicode_utf8_acceptRanges), ("cspcheck/lexer.keywords", laid_cspcheck_lexer_keywords), ("cspcheck/lexer.symbols", laid_cspcheck_lexer_symbols), ("cspcheck/scope.builtins", laid_cspcheck_scope_builtins), ("unicode/utf8.first", laid_unicode_utf8_first)], narrowed := true }
def ScopeBuiltinsUptoSaid : Prop := scopeBuiltinsUptoRow.holds Tryz.pinned (OpenSpec.upto scopeBuiltinsSpec)

end Rows
end Go.Proofs.YtlblaopkmigheaaGreatDoor
