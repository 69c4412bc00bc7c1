/- ScopeBuiltins gives true in every world that holds the listed variables -/
import Derived.Test.YtlblaopkmigheaaGreatDoorEvK1
import Derived.Test.YtlblaopkmigheaaGreatDoorEvK2
import Derived.Test.YtlblaopkmigheaaGreatDoorEvK3
namespace Go.Proofs.YtlblaopkmigheaaGreatDoor
open Go Go.RowKit Ev

theorem mixed8 : Tryz.prog.follows .mixedOrders = true := by kernel_rfl
theorem tb : TbOK Tryz.prog G8 (fun c => callT sm0 (callT sm1 (callT sm2 (callT sm3 (callT sm4 (callT sm5 (callT sm6 (callT sm7 (callT sm8 (callT sm9 (callT sm10 c))))))))))) :=
  TbOK.more mixed8 (TbOK.more mixed8 (TbOK.more mixed8 (TbOK.more mixed8 (TbOK.more mixed8 (TbOK.more mixed8 (TbOK.more mixed8 (TbOK.more mixed8 (TbOK.more mixed8 (TbOK.more mixed8 (TbOK.more mixed8 (TbOK.none) TbOK.none ok10 run10) TbOK.none ok9 run9) TbOK.none ok8 run8) (TbOK.more mixed8 TbOK.none TbOK.none ok6 run6) ok7 run7) TbOK.none ok6 run6) TbOK.none ok5 run5) TbOK.none ok4 run4) TbOK.none ok3 run3) TbOK.none ok2 run2) (TbOK.more mixed8 TbOK.none TbOK.none ok0 run0) ok1 run1) TbOK.none ok0 run0
theorem scopeBuiltins_law (W : World) (hh : ∀ i ∈ gis, i.holds W) : Calls Tryz.prog 4 #[] W fun e W' => e = .returned (.bool true) ∧ Below W.heap.size W W' :=
  run_ok mixed8 tb (by kernel_rfl) (by kernel_rfl) (by kernel_rfl) (by kernel_rfl) runLaw hh
end Go.Proofs.YtlblaopkmigheaaGreatDoor
