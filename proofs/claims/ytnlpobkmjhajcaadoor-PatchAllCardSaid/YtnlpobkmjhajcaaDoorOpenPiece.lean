/- An argument of the type edenlaw21.Piece, opened. -/
import Derived.Test.YtnlpobkmjhajcaaDoorOpenInts
import Derived.Lib.SmallJoins
namespace Go.Proofs.YtnlpobkmjhajcaaDoor
open Go.RowKit Go.ChangeShapes Go.WideShapes Go.Deep
set_option linter.unusedVariables false
set_option maxRecDepth 100000

theorem piece_under : Tryd.prog.underlying 34 = some (.struct #[⟨ "X", 3, 0, false, "", "", 0⟩, ⟨ "Y", 3, 1, false, "", "", 8⟩, ⟨ "W", 3, 2, false, "", "", 16⟩, ⟨ "H", 3, 3, false, "", "", 24⟩]) := by kernel_rfl
theorem open_piece {H : Type} {enc : TypeId × Value → H} {w : World} {base : Nat} {spare : Nat → Bool} {held : Bool} {r : Reach} {b0 : Nat} {v : Value} {d : DataW H} {p : List MemPlace}
    (hv : Value.okWide Tryd.prog w r b0 34 v) (h : DataW.Trod enc Tryd.prog w base spare held 34 v d p) :
    ∃ (x y k g : Int), v = .agg #[.int .i64 x, .int .i64 y, .int .i64 k, .int .i64 g] := by
  obtain ⟨v0, v1, v2, v3, y0, y1, y2, y3, m, rfl, _, _, g0, g1, g2, g3⟩ := Joins.open_agg4 piece_under (by kernel_rfl) (by kernel_rfl) hv h
  obtain ⟨n0, r0, _, _⟩ := DataW.trod_int Tryd.underlying3 (show DataW.trod enc Tryd.prog w base spare held m 3 [v0] = some y0 from g0)
  obtain ⟨n1, r1, _, _⟩ := DataW.trod_int Tryd.underlying3 (show DataW.trod enc Tryd.prog w base spare held m 3 [v1] = some y1 from g1)
  obtain ⟨n2, r2, _, _⟩ := DataW.trod_int Tryd.underlying3 (show DataW.trod enc Tryd.prog w base spare held m 3 [v2] = some y2 from g2)
  obtain ⟨n3, r3, _, _⟩ := DataW.trod_int Tryd.underlying3 (show DataW.trod enc Tryd.prog w base spare held m 3 [v3] = some y3 from g3)
  cases r0; cases r1; cases r2; cases r3
  exact ⟨n0, n1, n2, n3, rfl⟩
end Go.Proofs.YtnlpobkmjhajcaaDoor
