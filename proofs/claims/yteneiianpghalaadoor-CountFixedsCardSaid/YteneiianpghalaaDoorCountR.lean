/- Plain: the words by their numbers, and the word behind each. -/
import Derived.Test.YteneiianpghalaaDoorCntX
import Derived.Test.YteneiianpghalaaDoorWordH
namespace Go.Proofs.YteneiianpghalaaDoor
set_option linter.unusedVariables false

theorem horn_digsF {k : Nat} (hk : 0 < k) : ∀ n i, i < k ^ n → horn k (digsF k n i) = i
  | 0, i, hi => by
    have : i = 0 := by rw [Nat.pow_zero] at hi; omega
    subst this; rfl
  | n + 1, i, hi => by
    have hN : 0 < k ^ n := Nat.pow_pos hk
    rw [digsF, horn_cons, digsF_len, horn_digsF hk n _ (Nat.mod_lt _ hN), Int.toNat_natCast, Nat.mul_comm]
    exact Nat.div_add_mod i (k ^ n)
theorem digsF_zero {k : Nat} (hk : 0 < k) : ∀ n, digsF k n 0 = List.replicate n 0
  | 0 => rfl
  | n + 1 => by rw [digsF, Nat.zero_div, Nat.zero_mod, digsF_zero hk n, List.replicate_succ]; rfl
/-- the word behind the word number i is the word number i + 1 -/
theorem next_digsF {k n i j : Nat} (hk : 1 ≤ k) (hi : i + 1 < k ^ n) (h : LastUp (k : Int) (digsF k n i) j) : bump (digsF k n i) j = digsF k n (i + 1) := by
  have hm := digsF_mem (k := k) hk n i (by omega)
  refine horn_inj (k := k) (by rw [bump_len h.1, digsF_len, digsF_len]) (bump_mem hm h) (digsF_mem hk n (i + 1) hi) ?_
  rw [horn_bump hk hm h, horn_digsF hk n i (by omega), horn_digsF hk n (i + 1) hi]
theorem noUp_digsF {k n i : Nat} (hk : 1 ≤ k) (hi : i + 1 < k ^ n) : ¬ NoUp (k : Int) (digsF k n i) := fun h => by
  have := horn_noUp hk (digsF_mem (k := k) hk n i (by omega)) h
  rw [horn_digsF hk n i (by omega), digsF_len] at this
  omega
end Go.Proofs.YteneiianpghalaaDoor
