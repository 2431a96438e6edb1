/- Arguments of the types api.Row and api.Rule, opened, with their capacities. -/
import Derived.Test.YtnmegpplfbkpcaaDoorOpenInts
import Derived.Test.YtnmegpplfbkpcaaDoorErrB
import Derived.Test.YtnmegpplfbkpcaaDoorRowA
import Derived.Test.YtnmegpplfbkpcaaDoorRuleA
import Derived.Lib.SmallJoins
import Derived.Test.YtnmegpplfbkpcaaDoorOpenSl
namespace Go.Proofs.YtnmegpplfbkpcaaDoor
open Go.RowKit Go.ChangeShapes Go.WideShapes Go.Deep
set_option linter.unusedVariables false
set_option maxRecDepth 100000

theorem row_under : Tryd.prog.underlying 26 = some (.struct #[⟨ "At", 3, 0, false, "", "", 0⟩, ⟨ "Left", 22, 1, false, "", "", 8⟩, ⟨ "Core", 22, 2, false, "", "", 32⟩, ⟨ "Right", 22, 3, false, "", "", 56⟩]) := by kernel_rfl
theorem rule_underS : Tryd.prog.underlying 24 = some (.struct #[⟨ "K", 3, 0, false, "", "", 0⟩, ⟨ "R", 3, 1, false, "", "", 8⟩, ⟨ "Table", 22, 2, false, "", "", 16⟩]) := by kernel_rfl
theorem open_row {H : Type} {enc : TypeId × Value → H} {w : World} {r : Reach} {b0 : Nat} {v : Value} {d : DataW H} {p : List MemPlace} {ts : List TypeId} {ds : List (DataW H)} {j : Nat}
    (hv : Value.okWide Tryd.prog w r b0 26 v) (h : DataW.Trod enc Tryd.prog w 0 (fun _ => true) true 26 v d p)
    (hz : (DataW.weightsEach Tryd.prog ts ds).all (· ≤ reachBytes) = true) (ht : ts[j]? = some 26) (hd : ds[j]? = some d) :
    ∃ (p : Int) (aL : Option Addr) (nL cL : Nat) (L : List Int) (aC : Option Addr) (nC cC : Nat) (C : List Int) (aR : Option Addr) (nR cR : Nat) (Q : List Int), v = rowV p aL nL cL aC nC cC aR nR cR ∧ RowM w aL nL cL L aC nC cC C aR nR cR Q := by
  obtain ⟨v0, v1, v2, v3, y0, y1, y2, y3, m, rfl, rfl, _, g0, g1, g2, g3⟩ := Joins.open_agg4 row_under (by kernel_rfl) (by kernel_rfl) hv h
  obtain ⟨n0, r0, _, _⟩ := DataW.trod_int Tryd.underlying3 (show DataW.trod enc Tryd.prog w 0 (fun _ => true) true m 3 [v0] = some y0 from g0)
  cases r0
  have hin := weights_in row_under hz ht hd
  obtain ⟨aL, nL, cL, L, rfl, hL⟩ := open_sl (j := 1) g1 hin rfl rfl
  obtain ⟨aC, nC, cC, C, rfl, hC⟩ := open_sl (j := 2) g2 hin rfl rfl
  obtain ⟨aR, nR, cR, Q, rfl, hR⟩ := open_sl (j := 3) g3 hin rfl rfl
  exact ⟨n0, aL, nL, cL, L, aC, nC, cC, C, aR, nR, cR, Q, rfl, hL, hC, hR⟩
theorem open_ruleS {H : Type} {enc : TypeId × Value → H} {w : World} {r : Reach} {b0 : Nat} {v : Value} {d : DataW H} {p : List MemPlace} {ts : List TypeId} {ds : List (DataW H)} {j : Nat}
    (hv : Value.okWide Tryd.prog w r b0 24 v) (h : DataW.Trod enc Tryd.prog w 0 (fun _ => true) true 24 v d p)
    (hz : (DataW.weightsEach Tryd.prog ts ds).all (· ≤ reachBytes) = true) (ht : ts[j]? = some 24) (hd : ds[j]? = some d) :
    ∃ (k r : Int) (a : Option Addr) (n c : Nat) (l : List Int), v = ruleV k r a n c ∧ SlI w a n c l := by
  obtain ⟨v0, v1, v2, y0, y1, y2, m, rfl, rfl, _, g0, g1, g2⟩ := Joins.open_agg3 rule_underS (by kernel_rfl) (by kernel_rfl) hv h
  obtain ⟨n0, r0, _, _⟩ := DataW.trod_int Tryd.underlying3 (show DataW.trod enc Tryd.prog w 0 (fun _ => true) true m 3 [v0] = some y0 from g0)
  obtain ⟨n1, r1, _, _⟩ := DataW.trod_int Tryd.underlying3 (show DataW.trod enc Tryd.prog w 0 (fun _ => true) true m 3 [v1] = some y1 from g1)
  cases r0; cases r1
  have hin := weights_in rule_underS hz ht hd
  obtain ⟨a, n, c, l, rfl, hL⟩ := open_sl (j := 2) g2 hin rfl rfl
  exact ⟨n0, n1, a, n, c, l, rfl, hL⟩
end Go.Proofs.YtnmegpplfbkpcaaDoor
