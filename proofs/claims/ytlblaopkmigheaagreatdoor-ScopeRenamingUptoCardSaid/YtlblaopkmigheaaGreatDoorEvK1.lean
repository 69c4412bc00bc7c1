/- ScopeBuiltins: the first two calls are run (printed by wip/ev/sm8.py) -/
import Derived.Test.YtlblaopkmigheaaGreatDoorEvK0
namespace Go.Proofs.YtlblaopkmigheaaGreatDoor
open Go Ev

theorem run0 : evCall Tryz.prog (evC Tryz.prog G8 (fun c => c) 100000) sm0.f sm0.args sm0.heap sm0.chk = .ok := by kernel_rfl
theorem run1 : evCall Tryz.prog (evC Tryz.prog G8 (fun c => callT sm0 c) 100000) sm1.f sm1.args sm1.heap sm1.chk = .ok := by kernel_rfl
end Go.Proofs.YtlblaopkmigheaaGreatDoor
