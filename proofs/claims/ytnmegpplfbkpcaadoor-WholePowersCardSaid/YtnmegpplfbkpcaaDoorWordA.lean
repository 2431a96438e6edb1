/- The contracts of word.alphabet, word.Check. -/
import Derived.Test.YtnmegpplfbkpcaaDoorInts
import Derived.Test.YtnmegpplfbkpcaaDoorBase
import Derived.Test.YtnmegpplfbkpcaaDoorErrB
import Derived.Test.YtnmegpplfbkpcaaDoorIdx
import Derived.WalkKit
import Derived.Lib.Hide
namespace Go.Proofs.YtnmegpplfbkpcaaDoor
open Go.RowKit
set_option linter.unusedVariables false
set_option maxRecDepth 100000

def alphB (k : Int) : Bool := decide (1 ≤ k) && decide (k ≤ 4)
theorem alph_true {k : Int} : alphB k = true ↔ 1 ≤ k ∧ k ≤ 4 := by simp [alphB]
theorem alph_any (k : Int) (W : World) :
    Calls Tryd.prog 71 #[.int .i64 k] W fun e w' => e = .returned (.bool (alphB k)) ∧ W = w' := by
  by_cases h1 : 1 ≤ k
  · by_cases h2 : k ≤ 4
    · have e : alphB k = true := alph_true.2 ⟨h1, h2⟩
      rw [e]; clear e
      go_enter Tryd.func71, Tryd.ntmps71
      go_wp2
      go_ret
      exact ⟨rfl, rfl⟩
    · have e : alphB k = false := by simp [alphB]; omega
      rw [e]; clear e
      go_enter Tryd.func71, Tryd.ntmps71
      go_wp2
      go_ret
      exact ⟨rfl, rfl⟩
  · have e : alphB k = false := by simp [alphB]; omega
    rw [e]; clear e
    go_enter Tryd.func71, Tryd.ntmps71
    go_wp2
    go_ret
    exact ⟨rfl, rfl⟩

end Go.Proofs.YtnmegpplfbkpcaaDoor
