/- walks of the layout package's inserter -/
import Derived.Test.YtafoahojdiglfaaDoorRows
import Derived.Test.YtafoahojdiglfaaDoorMem
import Derived.Test.YtafoahojdiglfaaDoorPlan
namespace Go.Proofs.YtafoahojdiglfaaDoor
open Go Go.RowKit
set_option maxHeartbeats 400000

theorem infoTok : (Tryd.prog.info? 37).map (fun i => (i.zero, i.size, i.bytes)) = some (some (.agg #[.int .i64 0, .int .i64 0, .string ByteArray.empty, .int .i64 0, .int .i64 0]), 5, 48) := by kernel_rfl
theorem infoInt : (Tryd.prog.info? 3).map (fun i => (i.zero, i.size, i.bytes)) = some (some (.int .i64 0), 1, 8) := by kernel_rfl
theorem infoPos : (Tryd.prog.info? 32).map (fun i => (i.zero, i.size, i.bytes)) = some (some (.agg #[.int .i64 0, .int .i64 0]), 2, 16) := by kernel_rfl

theorem slTok : SlT Tryd.prog 30 37 5 48 := SlT.of Tryd.underlying30 infoTok rfl (by decide)
theorem slInt : SlT Tryd.prog 39 3 1 8 := SlT.of Tryd.underlying39 infoInt rfl (by decide)
end Go.Proofs.YtafoahojdiglfaaDoor
