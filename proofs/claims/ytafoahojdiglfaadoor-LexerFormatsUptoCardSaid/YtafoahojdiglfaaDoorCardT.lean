/- what the Lexer's cards that format share: the table of powers of ten -/
import Derived.Test.YtafoahojdiglfaaDoorCardL
import Derived.Test.YtafoahojdiglfaaDoorFmt
import Derived.Lib.LaidTab
namespace Go.Proofs.YtafoahojdiglfaaDoor
open Go Go.RowKit

theorem pow_data : (Rows.laid_internal_strconv_uint64pow10 : DataW Unit) = Lib.tabData .u64 Lib.pow10Tab := by rfl
theorem gPw : Tryd.prog.globalNamed "internal/strconv.uint64pow10" = some 2 := by kernel_rfl
theorem gPwT : (Tryd.prog.globals[2]?).map (·.type) = some 114 := by kernel_rfl
theorem tab_of {W : World} (h : laidMetH Tryd.prog laidL W) : Tab W.heap.size W := by
  have h0 : laidMet Tryd.prog laidL W := h
  have h2 := laid_tail (laid_tail h0)
  rw [pow_data] at h2
  exact Lib.tabBelow_of_tabIs (Lib.tabIs_of_head gPw gPwT Tryd.underlying114 Tryd.underlying103 (by kernel_rfl) (by kernel_rfl) h2)

end Go.Proofs.YtafoahojdiglfaaDoor
