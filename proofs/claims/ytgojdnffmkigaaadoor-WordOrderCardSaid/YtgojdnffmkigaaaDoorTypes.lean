/- The facts on the slice types of this program. -/
import Derived.Test.YtgojdnffmkigaaaDoorProg
import Derived.Test.YtgojdnffmkigaaaDoorArm
import Derived.KernelRfl
namespace Go.Proofs.YtgojdnffmkigaaaDoor
open Go.RowKit
set_option maxRecDepth 100000
theorem et_int : ET Tryd.prog 22 3 (.int .i64 0) 1 8 := ⟨Tryd.underlying22, info_parts (by kernel_rfl), rfl, by decide⟩
theorem et_u8 : ET Tryd.prog 62 5 (.int .u8 0) 1 1 := ⟨Tryd.underlying62, info_parts (by kernel_rfl), rfl, by decide⟩
theorem et_u32 : ET Tryd.prog 41 50 (.int .u32 0) 1 4 := ⟨Tryd.underlying41, info_parts (by kernel_rfl), rfl, by decide⟩
theorem et_nat : ET Tryd.prog 42 50 (.int .u32 0) 1 4 := ⟨Tryd.underlying42, info_parts (by kernel_rfl), rfl, by decide⟩
theorem et_str : ET Tryd.prog 80 9 (.string ByteArray.empty) 1 16 := ⟨Tryd.underlying80, info_parts (by kernel_rfl), rfl, by decide⟩
theorem et_ints : ET Tryd.prog 75 22 (.slice none 0 0) 1 24 := ⟨Tryd.underlying75, info_parts (by kernel_rfl), rfl, by decide⟩
end Go.Proofs.YtgojdnffmkigaaaDoor
