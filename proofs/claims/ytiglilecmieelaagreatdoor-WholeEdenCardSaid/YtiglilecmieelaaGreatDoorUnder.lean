/- The contract of fault.Under; slices with their bounds; results that are errors. -/
import Derived.Test.YtiglilecmieelaaGreatDoorBase
import Derived.Test.YtiglilecmieelaaGreatDoorInts
import Derived.WalkKit
import Derived.Lib.Hide
import Derived.Test.YtiglilecmieelaaGreatDoorSl
namespace Go.Proofs.YtiglilecmieelaaGreatDoor
open Go.RowKit
set_option linter.unusedVariables false
set_option maxRecDepth 100000

theorem undr_nil (op : ByteArray) (at_ : Int) (w : World) : Calls Tryz.prog 12 #[.string op, .int .i64 at_, .nilIface] w fun e w' => e = .returned .nilIface ∧ w = w' := by
  go_enter Tryz.func12, Tryz.ntmps12
  go_wp2
  go_ret
  exact ⟨rfl, rfl⟩
theorem undr_some (op : ByteArray) (at_ : Int) (t : TypeId) (p : Value) (w : World) : Calls Tryz.prog 12 #[.string op, .int .i64 at_, .iface t p] w fun e w' => e = .returned (.iface 75 (.pointer (some ⟨w.heap.size, 0, none⟩))) ∧ w' = w.alloc (faultObj op at_ (.iface t p)) := by
  go_enter Tryz.func12, Tryz.ntmps12
  go_wp2
  go_ret
  exact ⟨rfl, rfl⟩

/-- an error -/
def ErrA (W : World) (e : Ending) (w' : World) : Prop := ∃ g, e = .returned (.iface 75 (.pointer (some ⟨g, 0, none⟩))) ∧ Below W.heap.size W w'
/-- no list, and an error -/
def ErrB (W : World) (e : Ending) (w' : World) : Prop := ∃ g, e = .returned (.tuple #[.slice none 0 0, .iface 75 (.pointer (some ⟨g, 0, none⟩))]) ∧ Below W.heap.size W w'
end Go.Proofs.YtiglilecmieelaaGreatDoor
