/- ScopeRenaming: the sanity check is a known call (printed by wip/ev/ren.py) -/
import Derived.Test.YtlblaopkmigheaaGreatDoorEvK4
namespace Go.Proofs.YtlblaopkmigheaaGreatDoor
open Go Ev

noncomputable section
/-- cspchecklaw6.awake -/
def smA : Sm := .mk 9 .nl (rowsG gis ++ []) (.b true) [] 26000 26000
theorem okA : smA.okB G8 = true := by kernel_rfl
theorem runA : evCall Tryz.prog (evC Tryz.prog G8 (fun c => callT sm0 (callT sm1 (callT sm2 (callT sm3 (callT sm4 (callT sm5 (callT sm6 (callT sm7 (callT sm8 (callT sm9 (callT sm10 c))))))))))) 100000) smA.f smA.args smA.heap smA.chk = .ok := by kernel_rfl
theorem tbA : TbOK Tryz.prog G8 (fun c => callT smA c) := TbOK.more mixed8 TbOK.none tb okA runA
end
end Go.Proofs.YtlblaopkmigheaaGreatDoor
