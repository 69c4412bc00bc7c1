/- ScopeBuiltins: the last calls are run (printed by wip/ev/sm8.py) -/
import Derived.Test.YtlblaopkmigheaaGreatDoorEvK0
namespace Go.Proofs.YtlblaopkmigheaaGreatDoor
open Go Ev

theorem run6 : evCall Tryz.prog (evC Tryz.prog G8 (fun c => c) 100000) sm6.f sm6.args sm6.heap sm6.chk = .ok := by kernel_rfl
theorem run7 : evCall Tryz.prog (evC Tryz.prog G8 (fun c => callT sm6 c) 100000) sm7.f sm7.args sm7.heap sm7.chk = .ok := by kernel_rfl
theorem run8 : evCall Tryz.prog (evC Tryz.prog G8 (fun c => c) 100000) sm8.f sm8.args sm8.heap sm8.chk = .ok := by kernel_rfl
theorem run9 : evCall Tryz.prog (evC Tryz.prog G8 (fun c => c) 100000) sm9.f sm9.args sm9.heap sm9.chk = .ok := by kernel_rfl
theorem run10 : evCall Tryz.prog (evC Tryz.prog G8 (fun c => c) 100000) sm10.f sm10.args sm10.heap sm10.chk = .ok := by kernel_rfl
theorem runLaw : evCall Tryz.prog (evC Tryz.prog G8 (fun c => callT sm0 (callT sm1 (callT sm2 (callT sm3 (callT sm4 (callT sm5 (callT sm6 (callT sm7 (callT sm8 (callT sm9 (callT sm10 c))))))))))) 100000) 4 .nl (heapG gis 25000) finT = .ok := by kernel_rfl
end Go.Proofs.YtlblaopkmigheaaGreatDoor
