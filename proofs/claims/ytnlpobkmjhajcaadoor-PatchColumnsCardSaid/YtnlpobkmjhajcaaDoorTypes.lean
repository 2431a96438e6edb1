/- The facts on the slice types of this program. -/
import Derived.Test.YtnlpobkmjhajcaaDoorProg
import Derived.Test.YtnlpobkmjhajcaaDoorArm
import Derived.KernelRfl
namespace Go.Proofs.YtnlpobkmjhajcaaDoor
open Go.RowKit
set_option maxRecDepth 100000
theorem et_int : ET Tryd.prog 22 3 (.int .i64 0) 1 8 := ⟨Tryd.underlying22, info_parts (by kernel_rfl), rfl, by decide⟩
theorem et_u8 : ET Tryd.prog 84 5 (.int .u8 0) 1 1 := ⟨Tryd.underlying84, info_parts (by kernel_rfl), rfl, by decide⟩
theorem et_str : ET Tryd.prog 45 9 (.string ByteArray.empty) 1 16 := ⟨Tryd.underlying45, info_parts (by kernel_rfl), rfl, by decide⟩
theorem et_ints : ET Tryd.prog 38 22 (.slice none 0 0) 1 24 := ⟨Tryd.underlying38, info_parts (by kernel_rfl), rfl, by decide⟩
end Go.Proofs.YtnlpobkmjhajcaaDoor
