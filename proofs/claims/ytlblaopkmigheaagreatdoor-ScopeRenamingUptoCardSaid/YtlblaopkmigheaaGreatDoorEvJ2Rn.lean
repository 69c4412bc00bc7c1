/- (the seat of ScopeRenaming) what the card says of the program, each fact by itself -/
import Derived.Test.YtlblaopkmigheaaGreatDoorCards
import Derived.Test.YtlblaopkmigheaaGreatDoorTie
import Derived.JoinedCond
namespace Go.Proofs.YtlblaopkmigheaaGreatDoor
open Go

theorem jinst : Tryz.f3.isInstance Tryz.pinned.checked.prog Rows.scopeRenamingUptoRow.origin Rows.scopeRenamingUptoRow.targs := of_decide_eq_true (by kernel_rfl)
theorem jwrap : Tryz.f3.isWrapper Tryz.pinned.checked.prog Rows.scopeRenamingUptoRow.wrapper Rows.scopeRenamingUptoRow.mainSum := by
  unfold Func.isWrapper
  first
    | (rw [if_pos (by decide +kernel)]; kernel_rfl)
    | (rw [if_neg (by decide +kernel)]; exact ⟨rfl, rfl⟩)
theorem jlooks : false = Tryz.pinned.checked.prog.looks [] := by kernel_rfl
end Go.Proofs.YtlblaopkmigheaaGreatDoor
