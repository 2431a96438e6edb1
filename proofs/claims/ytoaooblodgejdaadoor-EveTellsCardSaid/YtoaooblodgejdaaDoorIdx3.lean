/- An element of an array of three slices, by value. -/
import Derived.Test.YtoaooblodgejdaaDoorInts
namespace Go.Proofs.YtoaooblodgejdaaDoor
open Go.RowKit
set_option linter.unusedVariables false
set_option maxRecDepth 100000
theorem idx3 (x0 x1 x2 : Value) (i : Int) (j : Nat) (a : Option Addr) (n c : Nat) (w : World) (hi : i = (j : Int)) (hj : j < 3) (hx : (#[x0, x1, x2])[j]? = some (.slice a n c)) :
    (Instr.index 121 (.agg #[x0, x1, x2]) (.int .i64 i)).run Tryd.prog w = .ok (.slice a n c) w := by
  have h : Tryd.prog.underlying 121 = some (.array 3 22) := by kernel_rfl
  have hs : 0 ≤ i ∧ i < 3 := by omega
  simp only [Instr.index, asIntOf, go_sem]
  subst hi
  have hj3 : j = 0 ∨ j = 1 ∨ j = 2 := by omega
  rcases hj3 with rfl | rfl | rfl
  all_goals
    simp at hx
    simp [run_underlying h, go_sem, hx]
end Go.Proofs.YtoaooblodgejdaaDoor
