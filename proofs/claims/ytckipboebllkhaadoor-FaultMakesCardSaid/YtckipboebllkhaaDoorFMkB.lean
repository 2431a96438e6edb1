/- What the listed variables give FaultMakes: the errors' texts are short; the table of powers of ten. -/
import Derived.Test.YtckipboebllkhaaDoorFMkA
import Derived.Test.YtckipboebllkhaaDoorShapeF
import Derived.Lib.LaidTab
namespace Go.Proofs.YtckipboebllkhaaDoor
open Go.RowKit Go.ChangeShapes
set_option linter.unusedVariables false
set_option maxRecDepth 100000
theorem sent_size {W : World} {R : Nat → Addr} (hS : Sent W R) (h : laidMet Tryd.prog (sentL.map fun x => (x.1, .iface "*errors.errorString" (.ptr (.agg [.lit (.string x.2.1)])))) W) : ∀ k, k < 12 → ∃ s, W.cell? (R k) = some (.string s) ∧ s.size ≤ 1000 := by
  obtain ⟨ps, hv, hnd, hrows⟩ := h
  obtain ⟨A, hA1, hA2, hA3, hA4⟩ := laidVars_all Tryd.underlying26 sent_rows Tryd.underlying126 Tryd.underlying128 rfl rfl Tryd.underlying9 (by kernel_rfl) (by kernel_rfl) sentL ps hv sentL_ok hrows hnd
  have hlen : A.length = 12 := hA1
  have hget : ∀ k, k < 12 → A[k]? = some (A.getD k default) := fun k hk => by
    simp [hlen, hk]
  intro k hk
  have hL : ∃ x, sentL[k]? = some x ∧ x.2.2 = gix k ∧ x.2.1.length ≤ 1000 := by
    have hall : ((List.range 12).all fun k => match sentL[k]? with | some x => decide (x.2.2 = gix k) && decide (x.2.1.length ≤ 1000) | none => false) = true := by decide
    have := List.all_eq_true.1 hall k (List.mem_range.2 hk)
    cases hx : sentL[k]? with
    | none => rw [hx] at this; cases this
    | some x => rw [hx] at this; simp only [Bool.and_eq_true, decide_eq_true_eq] at this; exact ⟨x, rfl, this.1, this.2⟩
  obtain ⟨x, hx, hg, hl⟩ := hL
  obtain ⟨h1, ⟨s, hs, hsl⟩, _⟩ := hA4 k x _ hx (hget k hk)
  rw [hg] at h1
  have h2 := (hS.glob k hk).symm.trans h1
  have e : R k = A.getD k default := by
    simp only [Option.some.injEq, Value.iface.injEq, Value.pointer.injEq, true_and] at h2
    exact h2
  rw [e]
  refine ⟨s, hs, ?_⟩
  have : s.size = s.data.toList.length := (Array.length_toList (xs := s.data)).symm
  rw [this, hsl]
  exact hl
theorem laidMet_drop {P : Program} {w : World} {l : List (String × DataW Unit)} (k : Nat) (h : laidMet P l w) : laidMet P (l.drop k) w := by
  refine laidMet_mid (a := l.take k) (b := []) ?_
  rw [List.append_nil, List.take_append_drop]
  exact h
theorem tab_of_laid {W : World} {laid : List (String × DataW Unit)} (i : Nat) (h : laidMetH Tryd.prog laid W) (e : ((laid.filter fun x => x.2.handleName?.isNone).drop i).take 1 = [("internal/strconv.uint64pow10", Lib.tabData .u64 Lib.pow10Tab)]) : Tab W := by
  have h2 := laidMet_drop i (laidMetH_none h)
  rw [← List.take_append_drop 1 ((laid.filter fun x => x.2.handleName?.isNone).drop i), e] at h2
  exact Lib.tabIs_of_head (g := 13) (t := 155) (e := 148) (n := 20) (rest := []) (by kernel_rfl) (by kernel_rfl) Tryd.underlying155 Tryd.underlying148 (by kernel_rfl) (by kernel_rfl) (laidMet_mid (a := []) h2)
theorem size_of_row {W : World} {R : Nat → Addr} {laid : List (String × DataW Unit)} (i : Nat) (hS : Sent W R) (h : laidMetH Tryd.prog laid W) (e : ((laid.filter fun x => x.2.handleName?.isNone).drop i).take 12 = sentL.map fun x => (x.1, .iface "*errors.errorString" (.ptr (.agg [.lit (.string x.2.1)])))) : ∀ k, k < 12 → ∃ s, W.cell? (R k) = some (.string s) ∧ s.size ≤ 1000 := by
  have h1 := laidMet_drop i (laidMetH_none h)
  rw [← List.take_append_drop 12 ((laid.filter fun x => x.2.handleName?.isNone).drop i), e] at h1
  exact sent_size hS (laidMet_mid (a := []) h1)
end Go.Proofs.YtckipboebllkhaaDoor
