/- ScopeBuiltins: the next calls are run (printed by wip/ev/sm8.py) -/
import Derived.Test.YtlblaopkmigheaaGreatDoorEvK0
namespace Go.Proofs.YtlblaopkmigheaaGreatDoor
open Go Ev

theorem run2 : evCall Tryz.prog (evC Tryz.prog G8 (fun c => c) 100000) sm2.f sm2.args sm2.heap sm2.chk = .ok := by kernel_rfl
theorem run3 : evCall Tryz.prog (evC Tryz.prog G8 (fun c => c) 100000) sm3.f sm3.args sm3.heap sm3.chk = .ok := by kernel_rfl
theorem run4 : evCall Tryz.prog (evC Tryz.prog G8 (fun c => c) 100000) sm4.f sm4.args sm4.heap sm4.chk = .ok := by kernel_rfl
theorem run5 : evCall Tryz.prog (evC Tryz.prog G8 (fun c => c) 100000) sm5.f sm5.args sm5.heap sm5.chk = .ok := by kernel_rfl
end Go.Proofs.YtlblaopkmigheaaGreatDoor
