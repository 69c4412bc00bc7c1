/- (the seat of ScopeRenaming) what the row says of the program, each fact by itself -/
import Derived.Test.YtlblaopkmigheaaGreatDoorRows
import Derived.JoinedCond
namespace Go.Proofs.YtlblaopkmigheaaGreatDoor
open Go

noncomputable section
abbrev jc : OpenClaim := Rows.scopeRenamingUptoRow
abbrev js : ChangeSpec := (Rows.OpenSpec.upto Rows.scopeRenamingSpec).bare
abbrev jp : Program := Tryz.pinned.checked.prog
theorem and_both {a b : Bool} (ha : a = true) (hb : b = true) : (a && b) = true := by rw [ha, hb]; rfl
theorem j01 : jc.wf (OpenSpec.ofChange js) = true := by kernel_rfl
theorem j02 : laidOutB jp = true := by kernel_rfl
theorem j03 : mapsRowed jp = true := by kernel_rfl
theorem j10 : (jc.inPlace == jp.inPlace 3) = true := by kernel_rfl
theorem j11 : (jc.unfollowed == jp.unfollowed 3) = true := by kernel_rfl
theorem j12 : (jc.recurses == jp.recurses 3) = true := by kernel_rfl
theorem j13 : (jc.named == jp.varsNamed 3) = true := by kernel_rfl
theorem j23 : (jc.plainKeys == jp.plainKeys) = true := by kernel_rfl
theorem j25 : jp.stopsHeard = true := by kernel_rfl
theorem j26 : jp.mayEnter = true := by kernel_rfl
theorem j27 : (jc.lifted == jp.liftsFinal) = true := by kernel_rfl
theorem j28 : (jp.make == some jc.make) = true := by kernel_rfl
theorem jfn : jp.funcNamed jc.func = some 3 := by kernel_rfl
theorem joined : joinedFacts jp 3 Tryz.f3 js jc = true := by
  unfold joinedFacts
  refine and_both (and_both (and_both (and_both (and_both (and_both (and_both (and_both (and_both (and_both (and_both (and_both (and_both (and_both (and_both (and_both (and_both (and_both (and_both (and_both (and_both (and_both (and_both (and_both (and_both (and_both (and_both (and_both (and_both (and_both (and_both j01 j02) j03) ?_) ?_) ?_) ?_) ?_) ?_) j10) j11) j12) j13) ?_) ?_) ?_) ?_) ?_) ?_) ?_) ?_) ?_) j23) ?_) j25) j26) j27) j28) ?_) ?_) ?_) ?_
  all_goals kernel_rfl
end
end Go.Proofs.YtlblaopkmigheaaGreatDoor
