/- Arguments of the type api.Rule, opened, with their capacities (for seats without rows). -/
import Derived.Test.YteneiianpghalaaDoorOpenInts
import Derived.Test.YteneiianpghalaaDoorErrB
import Derived.Test.YteneiianpghalaaDoorRuleA
import Derived.Lib.SmallJoins
import Derived.Test.YteneiianpghalaaDoorOpenSl
namespace Go.Proofs.YteneiianpghalaaDoor
open Go.RowKit Go.ChangeShapes Go.WideShapes Go.Deep
set_option linter.unusedVariables false
set_option maxRecDepth 100000

theorem rule_underS : Tryd.prog.underlying 24 = some (.struct #[⟨ "K", 3, 0, false, "", "", 0⟩, ⟨ "R", 3, 1, false, "", "", 8⟩, ⟨ "Table", 22, 2, false, "", "", 16⟩]) := by kernel_rfl
theorem open_ruleS {H : Type} {enc : TypeId × Value → H} {w : World} {r : Reach} {b0 : Nat} {v : Value} {d : DataW H} {p : List MemPlace} {ts : List TypeId} {ds : List (DataW H)} {j : Nat}
    (hv : Value.okWide Tryd.prog w r b0 24 v) (h : DataW.Trod enc Tryd.prog w 0 (fun _ => true) true 24 v d p)
    (hz : (DataW.weightsEach Tryd.prog ts ds).all (· ≤ reachBytes) = true) (ht : ts[j]? = some 24) (hd : ds[j]? = some d) :
    ∃ (k r : Int) (a : Option Addr) (n c : Nat) (l : List Int), v = ruleV k r a n c ∧ SlI w a n c l := by
  obtain ⟨v0, v1, v2, y0, y1, y2, m, rfl, rfl, _, g0, g1, g2⟩ := Joins.open_agg3 rule_underS (by kernel_rfl) (by kernel_rfl) hv h
  obtain ⟨n0, r0, _, _⟩ := DataW.trod_int Tryd.underlying3 (show DataW.trod enc Tryd.prog w 0 (fun _ => true) true m 3 [v0] = some y0 from g0)
  obtain ⟨n1, r1, _, _⟩ := DataW.trod_int Tryd.underlying3 (show DataW.trod enc Tryd.prog w 0 (fun _ => true) true m 3 [v1] = some y1 from g1)
  cases r0; cases r1
  have hin := weights_in rule_underS hz ht hd
  obtain ⟨a, n, c, l, rfl, hL⟩ := open_sl (j := 2) g2 hin rfl rfl
  exact ⟨n0, n1, a, n, c, l, rfl, hL⟩
end Go.Proofs.YteneiianpghalaaDoor
