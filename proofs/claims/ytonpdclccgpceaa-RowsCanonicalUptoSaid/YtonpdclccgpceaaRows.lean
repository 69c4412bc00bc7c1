/-
  No cell of these rows narrows 'for every input' (looked for: loops, veiled, ifaces, maps, wideKeys, modest, calm, conditions, laid).
  DERIVED. THE GIVEN ROWS OF THIS SEAT. 9 by the template 'for every input the law returns true; each argument reads behind the call as it read before'; 0 by the template 'total and deterministic' (their statements: YtonpdclccgpceaaTotals.lean).
  GIVEN WITH THE SEED: the statements are not yours to turn. If you find one false, say at which input.
  Laid BY PROGRAM, IN A SANDBOX (cutbox-rows.mjs): the forced cells as the released guide's own fill.sh prints them over the translation 7bd2eb0c59910755… (all of the seat's roots in one cut). By AI agents, Wed Nov 11 2026. No macro, syntax, notation, axiom, sorry.
-/
import Derived.Test.YtonpdclccgpceaaChecked
import GoSem.Claim
import GoSem.ClaimJoined
import GoSem.ClaimMapViews
import Derived.JoinedTies
import Derived.KernelRfl
namespace Go.Proofs.Ytonpdclccgpceaa
/- THE CELL 'sum', in the pinned program and in every row, IS THE sha256 OF THE DUMP (.gsa) THAT YtonpdclccgpceaaProg.lean LOADS. Nothing in Lean hashes anything: it is a label: what it is worth is what the hold of that sum in a sandbox is worth. -/
noncomputable def Try.pinned : Pinned := { name := "ytonpdclccgpceaa", sum := "7bd2eb0c599107557a826f4e7b147533bb7e23f34f75c3f88bfe8938b36dd71f", checked := Try.checked }
namespace Rows
def none {H : Type} : Left H := { results := [], args := [] }

/-- 'cspchecklaw23.RowsPack': WHATEVER THE INPUT: true; the input reads as it did. -/
def rowsPackSpec : ChangeSpec := { name := "rowsPack", fn := fun _ => fun
  | [d1, d2] => { results := [.lit (.bool true)], args := [d1, d2] }
  | _ => none }
def rowsPackRow : OpenClaim := { program := "ytonpdclccgpceaa", sum := "7bd2eb0c599107557a826f4e7b147533bb7e23f34f75c3f88bfe8938b36dd71f", func := "cspcheck/cspchecklaw23.RowsPack", spec := "rowsPack", apart := false }
def RowsPackSaid : Prop := rowsPackRow.holds Try.pinned (OpenSpec.ofChange rowsPackSpec)

/-- ITS FALSE NEIGHBOUR: 'it returns false'. Refute it at one input. -/
def rowsPackWrong : ChangeSpec := { name := "rowsPack", fn := fun _ => fun
  | [d1, d2] => { results := [.lit (.bool false)], args := [d1, d2] }
  | _ => none }
def RowsPackWrongFalsely : Prop := rowsPackRow.holds Try.pinned (OpenSpec.ofChange rowsPackWrong)

/-- 'cspchecklaw23.RowsRoundTrip': WHATEVER THE INPUT: true; the input reads as it did. -/
def rowsRoundTripSpec : ChangeSpec := { name := "rowsRoundTrip", fn := fun _ => fun
  | [d1, d2] => { results := [.lit (.bool true)], args := [d1, d2] }
  | _ => none }
def rowsRoundTripRow : OpenClaim := { program := "ytonpdclccgpceaa", sum := "7bd2eb0c599107557a826f4e7b147533bb7e23f34f75c3f88bfe8938b36dd71f", func := "cspcheck/cspchecklaw23.RowsRoundTrip", spec := "rowsRoundTrip", apart := false }
def RowsRoundTripSaid : Prop := rowsRoundTripRow.holds Try.pinned (OpenSpec.ofChange rowsRoundTripSpec)

/-- ITS FALSE NEIGHBOUR: 'it returns false'. Refute it at one input. -/
def rowsRoundTripWrong : ChangeSpec := { name := "rowsRoundTrip", fn := fun _ => fun
  | [d1, d2] => { results := [.lit (.bool false)], args := [d1, d2] }
  | _ => none }
def RowsRoundTripWrongFalsely : Prop := rowsRoundTripRow.holds Try.pinned (OpenSpec.ofChange rowsRoundTripWrong)

/-- 'cspchecklaw23.RowsUnpack': WHATEVER THE INPUT: true; the input reads as it did. -/
def rowsUnpackSpec : ChangeSpec := { name := "rowsUnpack", fn := fun _ => fun
  | [d1, d2] => { results := [.lit (.bool true)], args := [d1, d2] }
  | _ => none }
def rowsUnpackRow : OpenClaim := { program := "ytonpdclccgpceaa", sum := "7bd2eb0c599107557a826f4e7b147533bb7e23f34f75c3f88bfe8938b36dd71f", func := "cspcheck/cspchecklaw23.RowsUnpack", spec := "rowsUnpack", apart := false }
def RowsUnpackSaid : Prop := rowsUnpackRow.holds Try.pinned (OpenSpec.ofChange rowsUnpackSpec)

/-- ITS FALSE NEIGHBOUR: 'it returns false'. Refute it at one input. -/
def rowsUnpackWrong : ChangeSpec := { name := "rowsUnpack", fn := fun _ => fun
  | [d1, d2] => { results := [.lit (.bool false)], args := [d1, d2] }
  | _ => none }
def RowsUnpackWrongFalsely : Prop := rowsUnpackRow.holds Try.pinned (OpenSpec.ofChange rowsUnpackWrong)

/-- 'cspchecklaw23.RowsDamage': WHATEVER THE INPUT: true; the input reads as it did. -/
def rowsDamageSpec : ChangeSpec := { name := "rowsDamage", fn := fun _ => fun
  | [d1, d2, d3] => { results := [.lit (.bool true)], args := [d1, d2, d3] }
  | _ => none }
def rowsDamageRow : OpenClaim := { program := "ytonpdclccgpceaa", sum := "7bd2eb0c599107557a826f4e7b147533bb7e23f34f75c3f88bfe8938b36dd71f", func := "cspcheck/cspchecklaw23.RowsDamage", spec := "rowsDamage", apart := false }
def RowsDamageSaid : Prop := rowsDamageRow.holds Try.pinned (OpenSpec.ofChange rowsDamageSpec)

/-- ITS FALSE NEIGHBOUR: 'it returns false'. Refute it at one input. -/
def rowsDamageWrong : ChangeSpec := { name := "rowsDamage", fn := fun _ => fun
  | [d1, d2, d3] => { results := [.lit (.bool false)], args := [d1, d2, d3] }
  | _ => none }
def RowsDamageWrongFalsely : Prop := rowsDamageRow.holds Try.pinned (OpenSpec.ofChange rowsDamageWrong)

/-- 'cspchecklaw23.RowsOpen': WHATEVER THE INPUT: true; the input reads as it did. -/
def rowsOpenSpec : ChangeSpec := { name := "rowsOpen", fn := fun _ => fun
  | [d1, d2] => { results := [.lit (.bool true)], args := [d1, d2] }
  | _ => none }
def rowsOpenRow : OpenClaim := { program := "ytonpdclccgpceaa", sum := "7bd2eb0c599107557a826f4e7b147533bb7e23f34f75c3f88bfe8938b36dd71f", func := "cspcheck/cspchecklaw23.RowsOpen", spec := "rowsOpen", apart := false }
def RowsOpenSaid : Prop := rowsOpenRow.holds Try.pinned (OpenSpec.ofChange rowsOpenSpec)

/-- ITS FALSE NEIGHBOUR: 'it returns false'. Refute it at one input. -/
def rowsOpenWrong : ChangeSpec := { name := "rowsOpen", fn := fun _ => fun
  | [d1, d2] => { results := [.lit (.bool false)], args := [d1, d2] }
  | _ => none }
def RowsOpenWrongFalsely : Prop := rowsOpenRow.holds Try.pinned (OpenSpec.ofChange rowsOpenWrong)

/-- 'cspchecklaw23.RowsExamples': WHATEVER THE INPUT: true; the input reads as it did. -/
def rowsExamplesSpec : ChangeSpec := { name := "rowsExamples", fn := fun _ => fun
  | [] => { results := [.lit (.bool true)], args := [] }
  | _ => none }
def rowsExamplesRow : OpenClaim := { program := "ytonpdclccgpceaa", sum := "7bd2eb0c599107557a826f4e7b147533bb7e23f34f75c3f88bfe8938b36dd71f", func := "cspcheck/cspchecklaw23.RowsExamples", spec := "rowsExamples", unfollowed := true, recurses := true, apart := false }
def RowsExamplesSaid : Prop := rowsExamplesRow.holds Try.pinned (OpenSpec.ofChange rowsExamplesSpec)

/-- ITS FALSE NEIGHBOUR: 'it returns false'. Refute it at one input. -/
def rowsExamplesWrong : ChangeSpec := { name := "rowsExamples", fn := fun _ => fun
  | [] => { results := [.lit (.bool false)], args := [] }
  | _ => none }
def RowsExamplesWrongFalsely : Prop := rowsExamplesRow.holds Try.pinned (OpenSpec.ofChange rowsExamplesWrong)

/-- 'cspchecklaw23.RowsCanonical': WHATEVER THE INPUT: true; the input reads as it did. -/
def rowsCanonicalSpec : ChangeSpec := { name := "rowsCanonical", fn := fun _ => fun
  | [d1, d2] => { results := [.lit (.bool true)], args := [d1, d2] }
  | _ => none }
def rowsCanonicalRow : OpenClaim := { program := "ytonpdclccgpceaa", sum := "7bd2eb0c599107557a826f4e7b147533bb7e23f34f75c3f88bfe8938b36dd71f", func := "cspcheck/cspchecklaw23.RowsCanonical", spec := "rowsCanonical", unfollowed := true, recurses := true, apart := false }
def RowsCanonicalSaid : Prop := rowsCanonicalRow.holds Try.pinned (OpenSpec.ofChange rowsCanonicalSpec)

/-- ITS FALSE NEIGHBOUR: 'it returns false'. Refute it at one input. -/
def rowsCanonicalWrong : ChangeSpec := { name := "rowsCanonical", fn := fun _ => fun
  | [d1, d2] => { results := [.lit (.bool false)], args := [d1, d2] }
  | _ => none }
def RowsCanonicalWrongFalsely : Prop := rowsCanonicalRow.holds Try.pinned (OpenSpec.ofChange rowsCanonicalWrong)

/-- 'cspchecklaw23.RowsValid': WHATEVER THE INPUT: true; the input reads as it did. -/
def rowsValidSpec : ChangeSpec := { name := "rowsValid", fn := fun _ => fun
  | [d1, d2] => { results := [.lit (.bool true)], args := [d1, d2] }
  | _ => none }
def rowsValidRow : OpenClaim := { program := "ytonpdclccgpceaa", sum := "7bd2eb0c599107557a826f4e7b147533bb7e23f34f75c3f88bfe8938b36dd71f", func := "cspcheck/cspchecklaw23.RowsValid", spec := "rowsValid", unfollowed := true, recurses := true, apart := false }
def RowsValidSaid : Prop := rowsValidRow.holds Try.pinned (OpenSpec.ofChange rowsValidSpec)

/-- ITS FALSE NEIGHBOUR: 'it returns false'. Refute it at one input. -/
def rowsValidWrong : ChangeSpec := { name := "rowsValid", fn := fun _ => fun
  | [d1, d2] => { results := [.lit (.bool false)], args := [d1, d2] }
  | _ => none }
def RowsValidWrongFalsely : Prop := rowsValidRow.holds Try.pinned (OpenSpec.ofChange rowsValidWrong)

/-- 'cspchecklaw23.RowsStable': WHATEVER THE INPUT: true; the input reads as it did. -/
def rowsStableSpec : ChangeSpec := { name := "rowsStable", fn := fun _ => fun
  | [d1, d2] => { results := [.lit (.bool true)], args := [d1, d2] }
  | _ => none }
def rowsStableRow : OpenClaim := { program := "ytonpdclccgpceaa", sum := "7bd2eb0c599107557a826f4e7b147533bb7e23f34f75c3f88bfe8938b36dd71f", func := "cspcheck/cspchecklaw23.RowsStable", spec := "rowsStable", unfollowed := true, recurses := true, apart := false }
def RowsStableSaid : Prop := rowsStableRow.holds Try.pinned (OpenSpec.ofChange rowsStableSpec)

/-- ITS FALSE NEIGHBOUR: 'it returns false'. Refute it at one input. -/
def rowsStableWrong : ChangeSpec := { name := "rowsStable", fn := fun _ => fun
  | [d1, d2] => { results := [.lit (.bool false)], args := [d1, d2] }
  | _ => none }
def RowsStableWrongFalsely : Prop := rowsStableRow.holds Try.pinned (OpenSpec.ofChange rowsStableWrong)

/- THE SECOND FORM. 'bulk': how many values and letters a reading holds, each counted each time it is reached (what is shared counts as often as it is met; a slice's spare places count too). A statement '..UptoSaid' is the law's where the arguments, and the package variables that the reading takes, are together of bulk at most 1048576: NARROWER than '..Said'. Prove '..Said' where nothing that the law and all that it calls make is longer than what came in: it says more and counts as full. Else prove '..UptoSaid'. A law counts once. -/
mutual
def uptoBulk {H : Type} : DataW H → Nat
  | .lit (.string bytes) => bytes.length + 1
  | .lit _ => 1
  | .nil => 1
  | .ptr d => uptoBulk d + 1
  | .slice elems spare => uptoBulkAll elems + uptoBulkAll spare + 1
  | .agg parts => uptoBulkAll parts + 1
  | .iface _ d => uptoBulk d + 1
  | .map entries => uptoBulkEntries entries + 1
  | .held _ => 1
def uptoBulkAll {H : Type} : List (DataW H) → Nat
  | [] => 0
  | d :: r => uptoBulk d + uptoBulkAll r
def uptoBulkEntries {H : Type} : List (Lit × DataW H) → Nat
  | [] => 0
  | x :: r => uptoBulkEntry x + uptoBulkEntries r
def uptoBulkEntry {H : Type} : Lit × DataW H → Nat
  | (.string bytes, d) => bytes.length + uptoBulk d + 1
  | (_, d) => uptoBulk d + 1
 end
def uptoSmall : (H : Type) → List (DataW H) → Bool := fun _ ds => decide (uptoBulkAll ds ≤ 1048576)
def OpenSpec.upto (s : _root_.Go.ChangeSpec) : _root_.Go.OpenSpec := { _root_.Go.OpenSpec.ofChange s with cond := some uptoSmall }

/-- 'cspchecklaw23.RowsPack', WHERE WHAT IT READS IS OF BULK AT MOST 1048576: true; the input reads as it did. -/
def rowsPackUptoRow : OpenClaim := { program := "ytonpdclccgpceaa", sum := "7bd2eb0c599107557a826f4e7b147533bb7e23f34f75c3f88bfe8938b36dd71f", func := "cspcheck/cspchecklaw23.RowsPack", spec := "rowsPack", apart := false, narrowed := true }
def RowsPackUptoSaid : Prop := rowsPackUptoRow.holds Try.pinned (OpenSpec.upto rowsPackSpec)

/-- 'cspchecklaw23.RowsRoundTrip', WHERE WHAT IT READS IS OF BULK AT MOST 1048576: true; the input reads as it did. -/
def rowsRoundTripUptoRow : OpenClaim := { program := "ytonpdclccgpceaa", sum := "7bd2eb0c599107557a826f4e7b147533bb7e23f34f75c3f88bfe8938b36dd71f", func := "cspcheck/cspchecklaw23.RowsRoundTrip", spec := "rowsRoundTrip", apart := false, narrowed := true }
def RowsRoundTripUptoSaid : Prop := rowsRoundTripUptoRow.holds Try.pinned (OpenSpec.upto rowsRoundTripSpec)

/-- 'cspchecklaw23.RowsUnpack', WHERE WHAT IT READS IS OF BULK AT MOST 1048576: true; the input reads as it did. -/
def rowsUnpackUptoRow : OpenClaim := { program := "ytonpdclccgpceaa", sum := "7bd2eb0c599107557a826f4e7b147533bb7e23f34f75c3f88bfe8938b36dd71f", func := "cspcheck/cspchecklaw23.RowsUnpack", spec := "rowsUnpack", apart := false, narrowed := true }
def RowsUnpackUptoSaid : Prop := rowsUnpackUptoRow.holds Try.pinned (OpenSpec.upto rowsUnpackSpec)

/-- 'cspchecklaw23.RowsDamage', WHERE WHAT IT READS IS OF BULK AT MOST 1048576: true; the input reads as it did. -/
def rowsDamageUptoRow : OpenClaim := { program := "ytonpdclccgpceaa", sum := "7bd2eb0c599107557a826f4e7b147533bb7e23f34f75c3f88bfe8938b36dd71f", func := "cspcheck/cspchecklaw23.RowsDamage", spec := "rowsDamage", apart := false, narrowed := true }
def RowsDamageUptoSaid : Prop := rowsDamageUptoRow.holds Try.pinned (OpenSpec.upto rowsDamageSpec)

/-- 'cspchecklaw23.RowsOpen', WHERE WHAT IT READS IS OF BULK AT MOST 1048576: true; the input reads as it did. -/
def rowsOpenUptoRow : OpenClaim := { program := "ytonpdclccgpceaa", sum := "7bd2eb0c599107557a826f4e7b147533bb7e23f34f75c3f88bfe8938b36dd71f", func := "cspcheck/cspchecklaw23.RowsOpen", spec := "rowsOpen", apart := false, narrowed := true }
def RowsOpenUptoSaid : Prop := rowsOpenUptoRow.holds Try.pinned (OpenSpec.upto rowsOpenSpec)

/-- 'cspchecklaw23.RowsExamples', WHERE WHAT IT READS IS OF BULK AT MOST 1048576: true; the input reads as it did. -/
def rowsExamplesUptoRow : OpenClaim := { program := "ytonpdclccgpceaa", sum := "7bd2eb0c599107557a826f4e7b147533bb7e23f34f75c3f88bfe8938b36dd71f", func := "cspcheck/cspchecklaw23.RowsExamples", spec := "rowsExamples", unfollowed := true, recurses := true, apart := false, narrowed := true }
def RowsExamplesUptoSaid : Prop := rowsExamplesUptoRow.holds Try.pinned (OpenSpec.upto rowsExamplesSpec)

/-- 'cspchecklaw23.RowsCanonical', WHERE WHAT IT READS IS OF BULK AT MOST 1048576: true; the input reads as it did. -/
def rowsCanonicalUptoRow : OpenClaim := { program := "ytonpdclccgpceaa", sum := "7bd2eb0c599107557a826f4e7b147533bb7e23f34f75c3f88bfe8938b36dd71f", func := "cspcheck/cspchecklaw23.RowsCanonical", spec := "rowsCanonical", unfollowed := true, recurses := true, apart := false, narrowed := true }
def RowsCanonicalUptoSaid : Prop := rowsCanonicalUptoRow.holds Try.pinned (OpenSpec.upto rowsCanonicalSpec)

/-- 'cspchecklaw23.RowsValid', WHERE WHAT IT READS IS OF BULK AT MOST 1048576: true; the input reads as it did. -/
def rowsValidUptoRow : OpenClaim := { program := "ytonpdclccgpceaa", sum := "7bd2eb0c599107557a826f4e7b147533bb7e23f34f75c3f88bfe8938b36dd71f", func := "cspcheck/cspchecklaw23.RowsValid", spec := "rowsValid", unfollowed := true, recurses := true, apart := false, narrowed := true }
def RowsValidUptoSaid : Prop := rowsValidUptoRow.holds Try.pinned (OpenSpec.upto rowsValidSpec)

/-- 'cspchecklaw23.RowsStable', WHERE WHAT IT READS IS OF BULK AT MOST 1048576: true; the input reads as it did. -/
def rowsStableUptoRow : OpenClaim := { program := "ytonpdclccgpceaa", sum := "7bd2eb0c599107557a826f4e7b147533bb7e23f34f75c3f88bfe8938b36dd71f", func := "cspcheck/cspchecklaw23.RowsStable", spec := "rowsStable", unfollowed := true, recurses := true, apart := false, narrowed := true }
def RowsStableUptoSaid : Prop := rowsStableUptoRow.holds Try.pinned (OpenSpec.upto rowsStableSpec)

end Rows
end Go.Proofs.Ytonpdclccgpceaa
