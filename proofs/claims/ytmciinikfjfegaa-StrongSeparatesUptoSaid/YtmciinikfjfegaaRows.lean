/-
  No cell of these rows narrows 'for every input' (looked for: loops, veiled, ifaces, maps, wideKeys, modest, calm, conditions, laid).
  DERIVED. THE GIVEN ROWS OF THIS SEAT. 7 by the template 'for every input the law returns true; each argument reads behind the call as it read before'; 0 by the template 'total and deterministic' (their statements: YtmciinikfjfegaaTotals.lean).
  GIVEN WITH THE SEED: the statements are not yours to turn. If you find one false, say at which input.
  Laid BY PROGRAM, IN A SANDBOX (cutbox-rows.mjs): the forced cells as the released guide's own fill.sh prints them over the translation be561a585cf48c70… (all of the seat's roots in one cut). By AI agents, Wed Nov 11 2026. No macro, syntax, notation, axiom, sorry.
-/
import Derived.Test.YtmciinikfjfegaaChecked
import GoSem.Claim
import GoSem.ClaimJoined
import GoSem.ClaimMapViews
import Derived.JoinedTies
import Derived.KernelRfl
namespace Go.Proofs.Ytmciinikfjfegaa
/- THE CELL 'sum', in the pinned program and in every row, IS THE sha256 OF THE DUMP (.gsa) THAT YtmciinikfjfegaaProg.lean LOADS. Nothing in Lean hashes anything: it is a label: what it is worth is what the hold of that sum in a sandbox is worth. -/
noncomputable def Try.pinned : Pinned := { name := "ytmciinikfjfegaa", sum := "be561a585cf48c707a377e4cba3d8a831813ce533895b4d4621e694f9f984d75", checked := Try.checked }
namespace Rows
def none {H : Type} : Left H := { results := [], args := [] }

/-- 'cspchecklaw25.StrongExamples': WHATEVER THE INPUT: true; the input reads as it did. -/
def strongExamplesSpec : ChangeSpec := { name := "strongExamples", fn := fun _ => fun
  | [] => { results := [.lit (.bool true)], args := [] }
  | _ => none }
def strongExamplesRow : OpenClaim := { program := "ytmciinikfjfegaa", sum := "be561a585cf48c707a377e4cba3d8a831813ce533895b4d4621e694f9f984d75", func := "cspcheck/cspchecklaw25.StrongExamples", spec := "strongExamples", unfollowed := true, recurses := true, plainKeys := false, apart := false }
def StrongExamplesSaid : Prop := strongExamplesRow.holds Try.pinned (OpenSpec.ofChange strongExamplesSpec)

/-- ITS FALSE NEIGHBOUR: 'it returns false'. Refute it at one input. -/
def strongExamplesWrong : ChangeSpec := { name := "strongExamples", fn := fun _ => fun
  | [] => { results := [.lit (.bool false)], args := [] }
  | _ => none }
def StrongExamplesWrongFalsely : Prop := strongExamplesRow.holds Try.pinned (OpenSpec.ofChange strongExamplesWrong)

/-- 'cspchecklaw25.StrongQuotient': WHATEVER THE INPUT: true; the input reads as it did. -/
def strongQuotientSpec : ChangeSpec := { name := "strongQuotient", fn := fun _ => fun
  | [d1, d2, d3] => { results := [.lit (.bool true)], args := [d1, d2, d3] }
  | _ => none }
def strongQuotientRow : OpenClaim := { program := "ytmciinikfjfegaa", sum := "be561a585cf48c707a377e4cba3d8a831813ce533895b4d4621e694f9f984d75", func := "cspcheck/cspchecklaw25.StrongQuotient", spec := "strongQuotient", unfollowed := true, recurses := true, plainKeys := false, apart := false }
def StrongQuotientSaid : Prop := strongQuotientRow.holds Try.pinned (OpenSpec.ofChange strongQuotientSpec)

/-- ITS FALSE NEIGHBOUR: 'it returns false'. Refute it at one input. -/
def strongQuotientWrong : ChangeSpec := { name := "strongQuotient", fn := fun _ => fun
  | [d1, d2, d3] => { results := [.lit (.bool false)], args := [d1, d2, d3] }
  | _ => none }
def StrongQuotientWrongFalsely : Prop := strongQuotientRow.holds Try.pinned (OpenSpec.ofChange strongQuotientWrong)

/-- 'cspchecklaw25.StrongDistinguish': WHATEVER THE INPUT: true; the input reads as it did. -/
def strongDistinguishSpec : ChangeSpec := { name := "strongDistinguish", fn := fun _ => fun
  | [d1, d2, d3, d4] => { results := [.lit (.bool true)], args := [d1, d2, d3, d4] }
  | _ => none }
def strongDistinguishRow : OpenClaim := { program := "ytmciinikfjfegaa", sum := "be561a585cf48c707a377e4cba3d8a831813ce533895b4d4621e694f9f984d75", func := "cspcheck/cspchecklaw25.StrongDistinguish", spec := "strongDistinguish", unfollowed := true, recurses := true, plainKeys := false, apart := false }
def StrongDistinguishSaid : Prop := strongDistinguishRow.holds Try.pinned (OpenSpec.ofChange strongDistinguishSpec)

/-- ITS FALSE NEIGHBOUR: 'it returns false'. Refute it at one input. -/
def strongDistinguishWrong : ChangeSpec := { name := "strongDistinguish", fn := fun _ => fun
  | [d1, d2, d3, d4] => { results := [.lit (.bool false)], args := [d1, d2, d3, d4] }
  | _ => none }
def StrongDistinguishWrongFalsely : Prop := strongDistinguishRow.holds Try.pinned (OpenSpec.ofChange strongDistinguishWrong)

/-- 'cspchecklaw25.StrongRounds': WHATEVER THE INPUT: true; the input reads as it did. -/
def strongRoundsSpec : ChangeSpec := { name := "strongRounds", fn := fun _ => fun
  | [d1, d2] => { results := [.lit (.bool true)], args := [d1, d2] }
  | _ => none }
def strongRoundsRow : OpenClaim := { program := "ytmciinikfjfegaa", sum := "be561a585cf48c707a377e4cba3d8a831813ce533895b4d4621e694f9f984d75", func := "cspcheck/cspchecklaw25.StrongRounds", spec := "strongRounds", unfollowed := true, recurses := true, plainKeys := false, apart := false }
def StrongRoundsSaid : Prop := strongRoundsRow.holds Try.pinned (OpenSpec.ofChange strongRoundsSpec)

/-- ITS FALSE NEIGHBOUR: 'it returns false'. Refute it at one input. -/
def strongRoundsWrong : ChangeSpec := { name := "strongRounds", fn := fun _ => fun
  | [d1, d2] => { results := [.lit (.bool false)], args := [d1, d2] }
  | _ => none }
def StrongRoundsWrongFalsely : Prop := strongRoundsRow.holds Try.pinned (OpenSpec.ofChange strongRoundsWrong)

/-- 'cspchecklaw25.StrongEqual': WHATEVER THE INPUT: true; the input reads as it did. -/
def strongEqualSpec : ChangeSpec := { name := "strongEqual", fn := fun _ => fun
  | [d1, d2, d3] => { results := [.lit (.bool true)], args := [d1, d2, d3] }
  | _ => none }
def strongEqualRow : OpenClaim := { program := "ytmciinikfjfegaa", sum := "be561a585cf48c707a377e4cba3d8a831813ce533895b4d4621e694f9f984d75", func := "cspcheck/cspchecklaw25.StrongEqual", spec := "strongEqual", unfollowed := true, recurses := true, plainKeys := false, apart := false }
def StrongEqualSaid : Prop := strongEqualRow.holds Try.pinned (OpenSpec.ofChange strongEqualSpec)

/-- ITS FALSE NEIGHBOUR: 'it returns false'. Refute it at one input. -/
def strongEqualWrong : ChangeSpec := { name := "strongEqual", fn := fun _ => fun
  | [d1, d2, d3] => { results := [.lit (.bool false)], args := [d1, d2, d3] }
  | _ => none }
def StrongEqualWrongFalsely : Prop := strongEqualRow.holds Try.pinned (OpenSpec.ofChange strongEqualWrong)

/-- 'cspchecklaw25.StrongMinimal': WHATEVER THE INPUT: true; the input reads as it did. -/
def strongMinimalSpec : ChangeSpec := { name := "strongMinimal", fn := fun _ => fun
  | [d] => { results := [.lit (.bool true)], args := [d] }
  | _ => none }
def strongMinimalRow : OpenClaim := { program := "ytmciinikfjfegaa", sum := "be561a585cf48c707a377e4cba3d8a831813ce533895b4d4621e694f9f984d75", func := "cspcheck/cspchecklaw25.StrongMinimal", spec := "strongMinimal", unfollowed := true, recurses := true, plainKeys := false, apart := false }
def StrongMinimalSaid : Prop := strongMinimalRow.holds Try.pinned (OpenSpec.ofChange strongMinimalSpec)

/-- ITS FALSE NEIGHBOUR: 'it returns false'. Refute it at one input. -/
def strongMinimalWrong : ChangeSpec := { name := "strongMinimal", fn := fun _ => fun
  | [d] => { results := [.lit (.bool false)], args := [d] }
  | _ => none }
def StrongMinimalWrongFalsely : Prop := strongMinimalRow.holds Try.pinned (OpenSpec.ofChange strongMinimalWrong)

/-- 'cspchecklaw25.StrongSeparates': WHATEVER THE INPUT: true; the input reads as it did. -/
def strongSeparatesSpec : ChangeSpec := { name := "strongSeparates", fn := fun _ => fun
  | [d] => { results := [.lit (.bool true)], args := [d] }
  | _ => none }
def strongSeparatesRow : OpenClaim := { program := "ytmciinikfjfegaa", sum := "be561a585cf48c707a377e4cba3d8a831813ce533895b4d4621e694f9f984d75", func := "cspcheck/cspchecklaw25.StrongSeparates", spec := "strongSeparates", unfollowed := true, recurses := true, plainKeys := false, apart := false }
def StrongSeparatesSaid : Prop := strongSeparatesRow.holds Try.pinned (OpenSpec.ofChange strongSeparatesSpec)

/-- ITS FALSE NEIGHBOUR: 'it returns false'. Refute it at one input. -/
def strongSeparatesWrong : ChangeSpec := { name := "strongSeparates", fn := fun _ => fun
  | [d] => { results := [.lit (.bool false)], args := [d] }
  | _ => none }
def StrongSeparatesWrongFalsely : Prop := strongSeparatesRow.holds Try.pinned (OpenSpec.ofChange strongSeparatesWrong)

/- THE SECOND FORM. 'bulk': how many values and letters a reading holds, each counted each time it is reached (what is shared counts as often as it is met; a slice's spare places count too). A statement '..UptoSaid' is the law's where the arguments, and the package variables that the reading takes, are together of bulk at most 1048576: NARROWER than '..Said'. Prove '..Said' where nothing that the law and all that it calls make is longer than what came in: it says more and counts as full. Else prove '..UptoSaid'. A law counts once. -/
mutual
def uptoBulk {H : Type} : DataW H → Nat
  | .lit (.string bytes) => bytes.length + 1
  | .lit _ => 1
  | .nil => 1
  | .ptr d => uptoBulk d + 1
  | .slice elems spare => uptoBulkAll elems + uptoBulkAll spare + 1
  | .agg parts => uptoBulkAll parts + 1
  | .iface _ d => uptoBulk d + 1
  | .map entries => uptoBulkEntries entries + 1
  | .held _ => 1
def uptoBulkAll {H : Type} : List (DataW H) → Nat
  | [] => 0
  | d :: r => uptoBulk d + uptoBulkAll r
def uptoBulkEntries {H : Type} : List (Lit × DataW H) → Nat
  | [] => 0
  | x :: r => uptoBulkEntry x + uptoBulkEntries r
def uptoBulkEntry {H : Type} : Lit × DataW H → Nat
  | (.string bytes, d) => bytes.length + uptoBulk d + 1
  | (_, d) => uptoBulk d + 1
 end
def uptoSmall : (H : Type) → List (DataW H) → Bool := fun _ ds => decide (uptoBulkAll ds ≤ 1048576)
def OpenSpec.upto (s : _root_.Go.ChangeSpec) : _root_.Go.OpenSpec := { _root_.Go.OpenSpec.ofChange s with cond := some uptoSmall }

/-- 'cspchecklaw25.StrongExamples', WHERE WHAT IT READS IS OF BULK AT MOST 1048576: true; the input reads as it did. -/
def strongExamplesUptoRow : OpenClaim := { program := "ytmciinikfjfegaa", sum := "be561a585cf48c707a377e4cba3d8a831813ce533895b4d4621e694f9f984d75", func := "cspcheck/cspchecklaw25.StrongExamples", spec := "strongExamples", unfollowed := true, recurses := true, plainKeys := false, apart := false, narrowed := true }
def StrongExamplesUptoSaid : Prop := strongExamplesUptoRow.holds Try.pinned (OpenSpec.upto strongExamplesSpec)

/-- 'cspchecklaw25.StrongQuotient', WHERE WHAT IT READS IS OF BULK AT MOST 1048576: true; the input reads as it did. -/
def strongQuotientUptoRow : OpenClaim := { program := "ytmciinikfjfegaa", sum := "be561a585cf48c707a377e4cba3d8a831813ce533895b4d4621e694f9f984d75", func := "cspcheck/cspchecklaw25.StrongQuotient", spec := "strongQuotient", unfollowed := true, recurses := true, plainKeys := false, apart := false, narrowed := true }
def StrongQuotientUptoSaid : Prop := strongQuotientUptoRow.holds Try.pinned (OpenSpec.upto strongQuotientSpec)

/-- 'cspchecklaw25.StrongDistinguish', WHERE WHAT IT READS IS OF BULK AT MOST 1048576: true; the input reads as it did. -/
def strongDistinguishUptoRow : OpenClaim := { program := "ytmciinikfjfegaa", sum := "be561a585cf48c707a377e4cba3d8a831813ce533895b4d4621e694f9f984d75", func := "cspcheck/cspchecklaw25.StrongDistinguish", spec := "strongDistinguish", unfollowed := true, recurses := true, plainKeys := false, apart := false, narrowed := true }
def StrongDistinguishUptoSaid : Prop := strongDistinguishUptoRow.holds Try.pinned (OpenSpec.upto strongDistinguishSpec)

/-- 'cspchecklaw25.StrongRounds', WHERE WHAT IT READS IS OF BULK AT MOST 1048576: true; the input reads as it did. -/
def strongRoundsUptoRow : OpenClaim := { program := "ytmciinikfjfegaa", sum := "be561a585cf48c707a377e4cba3d8a831813ce533895b4d4621e694f9f984d75", func := "cspcheck/cspchecklaw25.StrongRounds", spec := "strongRounds", unfollowed := true, recurses := true, plainKeys := false, apart := false, narrowed := true }
def StrongRoundsUptoSaid : Prop := strongRoundsUptoRow.holds Try.pinned (OpenSpec.upto strongRoundsSpec)

/-- 'cspchecklaw25.StrongEqual', WHERE WHAT IT READS IS OF BULK AT MOST 1048576: true; the input reads as it did. -/
def strongEqualUptoRow : OpenClaim := { program := "ytmciinikfjfegaa", sum := "be561a585cf48c707a377e4cba3d8a831813ce533895b4d4621e694f9f984d75", func := "cspcheck/cspchecklaw25.StrongEqual", spec := "strongEqual", unfollowed := true, recurses := true, plainKeys := false, apart := false, narrowed := true }
def StrongEqualUptoSaid : Prop := strongEqualUptoRow.holds Try.pinned (OpenSpec.upto strongEqualSpec)

/-- 'cspchecklaw25.StrongMinimal', WHERE WHAT IT READS IS OF BULK AT MOST 1048576: true; the input reads as it did. -/
def strongMinimalUptoRow : OpenClaim := { program := "ytmciinikfjfegaa", sum := "be561a585cf48c707a377e4cba3d8a831813ce533895b4d4621e694f9f984d75", func := "cspcheck/cspchecklaw25.StrongMinimal", spec := "strongMinimal", unfollowed := true, recurses := true, plainKeys := false, apart := false, narrowed := true }
def StrongMinimalUptoSaid : Prop := strongMinimalUptoRow.holds Try.pinned (OpenSpec.upto strongMinimalSpec)

/-- 'cspchecklaw25.StrongSeparates', WHERE WHAT IT READS IS OF BULK AT MOST 1048576: true; the input reads as it did. -/
def strongSeparatesUptoRow : OpenClaim := { program := "ytmciinikfjfegaa", sum := "be561a585cf48c707a377e4cba3d8a831813ce533895b4d4621e694f9f984d75", func := "cspcheck/cspchecklaw25.StrongSeparates", spec := "strongSeparates", unfollowed := true, recurses := true, plainKeys := false, apart := false, narrowed := true }
def StrongSeparatesUptoSaid : Prop := strongSeparatesUptoRow.holds Try.pinned (OpenSpec.upto strongSeparatesSpec)

end Rows
end Go.Proofs.Ytmciinikfjfegaa
