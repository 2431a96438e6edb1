/- An argument of the type api.Rule, opened. -/
import Derived.Test.YtjgblanpaanglaaDoorOpenInts
import Derived.Test.YtjgblanpaanglaaDoorRuleA
import Derived.Lib.SmallJoins
namespace Go.Proofs.YtjgblanpaanglaaDoor
open Go.RowKit Go.ChangeShapes Go.WideShapes Go.Deep
set_option linter.unusedVariables false
set_option maxRecDepth 100000

theorem rule_under : Tryd.prog.underlying 24 = some (.struct #[⟨ "K", 3, 0, false, "", "", 0⟩, ⟨ "R", 3, 1, false, "", "", 8⟩, ⟨ "Table", 22, 2, false, "", "", 16⟩]) := by kernel_rfl

theorem open_rule {H : Type} {enc : TypeId × Value → H} {w : World} {base : Nat} {spare : Nat → Bool} {held : Bool} {r : Reach} {b0 : Nat} {v : Value} {d : DataW H} {p : List MemPlace}
    (hv : Value.okWide Tryd.prog w r b0 24 v) (h : DataW.Trod enc Tryd.prog w base spare held 24 v d p) :
    ∃ (k r : Int) (a : Option Addr) (n c : Nat) (l : List Int), v = ruleV k r a n c ∧ RK .i64 w a n l ∧ n ≤ c ∧ c ≤ maxLen := by
  obtain ⟨v0, v1, v2, y0, y1, y2, m, rfl, _, _, g0, g1, g2⟩ := Joins.open_agg3 rule_under (by kernel_rfl) (by kernel_rfl) hv h
  obtain ⟨n0, r0, _, _⟩ := DataW.trod_int Tryd.underlying3 (show DataW.trod enc Tryd.prog w base spare held m 3 [v0] = some y0 from g0)
  obtain ⟨n1, r1, _, _⟩ := DataW.trod_int Tryd.underlying3 (show DataW.trod enc Tryd.prog w base spare held m 3 [v1] = some y1 from g1)
  cases r0; cases r1
  have g3 : DataW.trod enc Tryd.prog w base spare held m 22 [v2] = some y2 := g2
  have key : ∃ a n c, v2 = .slice a n c := by
    rcases open_slice Tryd.underlying22 g3 with ⟨h0, _⟩ | ⟨ad, len, cap, _, _, _, _, h0, _⟩
    · cases h0; exact ⟨_, _, _, rfl⟩
    · cases h0; exact ⟨_, _, _, rfl⟩
  obtain ⟨a, n, c, rfl⟩ := key
  obtain ⟨l, e1, e2, e3, e4, _⟩ := open_intsl g3
  exact ⟨n0, n1, a, n, c, l, rfl, ⟨e1.symm, e4⟩, e3, e2⟩
end Go.Proofs.YtjgblanpaanglaaDoor
