/- The facts on the slice types of this program. -/
import Derived.Test.YtmdicmcmalmbaaaDoorProg
import Derived.Test.YtmdicmcmalmbaaaDoorArm
import Derived.KernelRfl
namespace Go.Proofs.YtmdicmcmalmbaaaDoor
open Go.RowKit
set_option maxRecDepth 100000
theorem et_int : ET Tryd.prog 48 3 (.int .i64 0) 1 8 := ⟨Tryd.underlying48, info_parts (by kernel_rfl), rfl, by decide⟩
theorem et_u32 : ET Tryd.prog 38 75 (.int .u32 0) 1 4 := ⟨Tryd.underlying38, info_parts (by kernel_rfl), rfl, by decide⟩
theorem et_nat : ET Tryd.prog 39 75 (.int .u32 0) 1 4 := ⟨Tryd.underlying39, info_parts (by kernel_rfl), rfl, by decide⟩
theorem et_str : ET Tryd.prog 47 9 (.string ByteArray.empty) 1 16 := ⟨Tryd.underlying47, info_parts (by kernel_rfl), rfl, by decide⟩
theorem et_ints : ET Tryd.prog 77 48 (.slice none 0 0) 1 24 := ⟨Tryd.underlying77, info_parts (by kernel_rfl), rfl, by decide⟩
theorem et_nats : ET Tryd.prog 31 39 (.slice none 0 0) 1 24 := ⟨Tryd.underlying31, info_parts (by kernel_rfl), rfl, by decide⟩
theorem et_natss : ET Tryd.prog 22 31 (.slice none 0 0) 1 24 := ⟨Tryd.underlying22, info_parts (by kernel_rfl), rfl, by decide⟩
end Go.Proofs.YtmdicmcmalmbaaaDoor
