/- The contract of slices.Clone over numbers. -/
import Derived.Test.YtiglilecmieelaaGreatDoorInts
import Derived.Test.YtiglilecmieelaaGreatDoorBase
import Derived.WalkKit
import Derived.WalkSpells
import Derived.Lib.Hide
namespace Go.Proofs.YtiglilecmieelaaGreatDoor
open Go.RowKit
set_option linter.unusedVariables false
set_option maxRecDepth 100000

theorem clone_any (a : Option Addr) (n c : Nat) (l : List Int) (W : World) (hR : RK .i64 W a n l) (hm : n * 8 ≤ 140737488351232) (hnc : n ≤ c) (hcap : a = none → c = 0) :
    Calls Tryz.prog 47 #[.slice a n c] W fun e w' => ∃ a' c', e = .returned (.slice a' n c') ∧ w'.ownsRow W.heap.size 3 1 (.slice a' n c') n (l.map (Value.int .i64)) ∧ Below W.heap.size W w' := by
  cases a with
  | none =>
    have hc0 := hcap rfl
    subst hc0
    obtain rfl : n = 0 := by omega
    have hl : l = [] := List.eq_nil_of_length_eq_zero hR.len.symm
    subst hl
    clear hR
    have heq := @Lib.run_eql_slice_nil Tryz.prog
    go_enter Tryz.func47, Tryz.ntmps47
    go_wp2
    go_ret
    exact ⟨_, _, rfl, World.ownsRow_nil _ _ _ _, bnil W⟩
  | some ad =>
    have HR := Lib.hid hR; clear hR
    have heq := @Lib.run_eql_slice_nil Tryz.prog
    go_enter Tryz.func47, Tryz.ntmps47
    go_wp2_with (first
      | (at_builtin; refine apx rfl _ _ _ rfl W.heap.size et_int _ 0 [] (own_empty _ _ rfl (Nat.le_refl _)) rfl _ n _ _ rfl (by simp) (HR.out.al _).2 (nums_one _ _) (by unfold maxLen; omega) (by omega) (by simp) ?_; intro a6 c6 w6 h6; have o6 := h6.own; simp only [Nat.zero_add, List.nil_append] at o6))
    go_ret
    exact ⟨_, _, rfl, o6, (balloc (bnil W) _).trans h6.below⟩

theorem own_cap {w : World} {base sz n c : Nat} {e : TypeId} {a : Option Addr} {cs : List Value} (h : w.ownsRow base e sz (.slice a n c) n cs) : n ≤ c ∧ c ≤ maxLen ∧ (a = none → c = 0) := by
  rcases h.2 with ⟨h1, _⟩ | ⟨g, cap, cur, h1, _, _, h3, h4, _⟩
  · cases h1; exact ⟨Nat.le_refl _, Nat.zero_le _, fun _ => rfl⟩
  · cases h1; exact ⟨h3, h4, fun e => by cases e⟩

end Go.Proofs.YtiglilecmieelaaGreatDoor
