/- The facts on the slice types of this program. -/
import Derived.Test.YtocfkmdoalhjmaaDoorProg
import Derived.Test.YtocfkmdoalhjmaaDoorArm
import Derived.KernelRfl
namespace Go.Proofs.YtocfkmdoalhjmaaDoor
open Go.RowKit
set_option maxRecDepth 100000
theorem et_int : ET Tryd.prog 22 3 (.int .i64 0) 1 8 := ⟨Tryd.underlying22, info_parts (by kernel_rfl), rfl, by decide⟩
theorem et_u8 : ET Tryd.prog 67 5 (.int .u8 0) 1 1 := ⟨Tryd.underlying67, info_parts (by kernel_rfl), rfl, by decide⟩
theorem et_str : ET Tryd.prog 46 9 (.string ByteArray.empty) 1 16 := ⟨Tryd.underlying46, info_parts (by kernel_rfl), rfl, by decide⟩
theorem et_ints : ET Tryd.prog 36 22 (.slice none 0 0) 1 24 := ⟨Tryd.underlying36, info_parts (by kernel_rfl), rfl, by decide⟩
theorem et_ent : ET Tryd.prog 77 82 (.agg #[.int .i64 0, .int .i64 0, .int .i64 0]) 3 24 := ⟨Tryd.underlying77, info_parts (by kernel_rfl), rfl, by decide⟩
end Go.Proofs.YtocfkmdoalhjmaaDoor
