/- An argument of the type api.Patch, opened with its capacity. -/
import Derived.Test.YtoaooblodgejdaaDoorPatX
import Derived.Test.YtoaooblodgejdaaDoorOpenSl
namespace Go.Proofs.YtoaooblodgejdaaDoor
open Go.RowKit Go.ChangeShapes Go.WideShapes Go.Deep
set_option linter.unusedVariables false
set_option maxRecDepth 100000

theorem open_patchS {H : Type} {enc : TypeId × Value → H} {w : World} {r : Reach} {b0 : Nat} {v : Value} {d : DataW H} {p : List MemPlace} {ts : List TypeId} {ds : List (DataW H)} {j : Nat}
    (hv : Value.okWide Tryd.prog w r b0 24 v) (h : DataW.Trod enc Tryd.prog w 0 (fun _ => true) true 24 v d p)
    (hz : (DataW.weightsEach Tryd.prog ts ds).all (· ≤ reachBytes) = true) (ht : ts[j]? = some 24) (hd : ds[j]? = some d) :
    ∃ (k r : Int) (a : Option Addr) (n c : Nat) (l : List Int), v = patV k r a n c ∧ SlI w a n c l ∧ I64 l := by
  obtain ⟨v0, v1, v2, y0, y1, y2, m, rfl, rfl, _, g0, g1, g2⟩ := Joins.open_agg3 patch_under (by kernel_rfl) (by kernel_rfl) hv h
  obtain ⟨n0, r0, _, _⟩ := DataW.trod_int Tryd.underlying3 (show DataW.trod enc Tryd.prog w 0 (fun _ => true) true m 3 [v0] = some y0 from g0)
  obtain ⟨n1, r1, _, _⟩ := DataW.trod_int Tryd.underlying3 (show DataW.trod enc Tryd.prog w 0 (fun _ => true) true m 3 [v1] = some y1 from g1)
  cases r0; cases r1
  have hin := weights_in patch_under hz ht hd
  obtain ⟨a, n, c, l, rfl, hL, hB⟩ := open_slB (j := 2) g2 hin rfl rfl
  exact ⟨n0, n1, a, n, c, l, rfl, hL, hB⟩
end Go.Proofs.YtoaooblodgejdaaDoor
