/- Plain: a number's halves of 16 bits (edenref02) and its limbs. -/
import Derived.Test.YtnmegpplfbkpcaaDoorNatL
namespace Go.Proofs.YtnmegpplfbkpcaaDoor
set_option linter.unusedVariables false
def hlvF : Nat → Nat → List Nat
  | 0, _ => []
  | f + 1, n => if n = 0 then [] else n % 65536 :: hlvF f (n / 65536)
/-- a number's halves, the lowest first -/
def hlv (n : Nat) : List Nat := hlvF n n
theorem hlvF_eq : ∀ (f g n : Nat), n ≤ f → n ≤ g → hlvF f n = hlvF g n := by
  intro f
  induction f with
  | zero =>
    intro g n h1 h2
    obtain rfl : n = 0 := by omega
    cases g <;> simp [hlvF]
  | succ f ih =>
    intro g n h1 h2
    cases g with
    | zero => obtain rfl : n = 0 := by omega
              simp [hlvF]
    | succ g =>
      simp only [hlvF]
      by_cases h : n = 0
      · rw [if_pos h, if_pos h]
      · rw [if_neg h, if_neg h]
        congr 1
        have : n / 65536 < n := Nat.div_lt_self (by omega) (by decide)
        exact ih g _ (by omega) (by omega)
theorem hlv_zero : hlv 0 = [] := rfl
theorem hlv_pos {n : Nat} (h : n ≠ 0) : hlv n = n % 65536 :: hlv (n / 65536) := by
  unfold hlv
  cases n with
  | zero => exact absurd rfl h
  | succ n =>
    have : (n + 1) / 65536 < n + 1 := Nat.div_lt_self (by omega) (by decide)
    conv => lhs; unfold hlvF
    rw [if_neg h]
    congr 1
    exact hlvF_eq _ _ _ (by omega) (Nat.le_refl _)
theorem hlv_lt (n : Nat) : ∀ x ∈ hlv n, x < 65536 := by
  induction n using Nat.strongRecOn with
  | ind n ih =>
    by_cases h : n = 0
    · subst h; intro x hx; cases hx
    · rw [hlv_pos h]
      intro x hx
      rcases List.mem_cons.1 hx with rfl | hx
      · exact Nat.mod_lt _ (by decide)
      · exact ih _ (Nat.div_lt_self (by omega) (by decide)) x hx
theorem hlv_last {n : Nat} (h : n ≠ 0) : (hlv n).getD ((hlv n).length - 1) 0 ≠ 0 := by
  induction n using Nat.strongRecOn with
  | ind n ih =>
    have hlt : n / 65536 < n := Nat.div_lt_self (by omega) (by decide)
    rw [hlv_pos h]
    by_cases hm : n / 65536 = 0
    · rw [hm, hlv_zero]
      show n % 65536 ≠ 0
      omega
    · have e := ih _ hlt hm
      have hl : 0 < (hlv (n / 65536)).length := by rw [hlv_pos hm]; simp
      have e2 : (n % 65536 :: hlv (n / 65536)).length - 1 = (hlv (n / 65536)).length - 1 + 1 := by simp; omega
      rw [e2, List.getD_cons_succ]
      exact e
/-- two halves make a limb -/
def pairs : List Nat → List Nat
  | [] => []
  | [a] => [a]
  | a :: b :: r => (a + 65536 * b) :: pairs r
theorem pairs_hlv (n : Nat) : pairs (hlv n) = limbs n := by
  induction n using Nat.strongRecOn with
  | ind n ih =>
    by_cases h : n = 0
    · subst h; rfl
    · rw [hlv_pos h, limbs_pos h]
      by_cases hm : n / 65536 = 0
      · rw [hm, hlv_zero]
        have h1 : n / B32 = 0 := by show n / 4294967296 = 0; omega
        have h2 : n % B32 = n % 65536 := by show n % 4294967296 = _; omega
        rw [h1, h2]
        rfl
      · rw [hlv_pos hm]
        show (n % 65536 + 65536 * (n / 65536 % 65536)) :: pairs (hlv (n / 65536 / 65536)) = _
        have e1 : n / 65536 / 65536 = n / B32 := Nat.div_div_eq_div_mul _ _ _
        have e2 : n % 65536 + 65536 * (n / 65536 % 65536) = n % B32 := by show _ = n % 4294967296; omega
        rw [e1, e2, ih (n / B32) (Nat.div_lt_self (by omega) (by decide))]
end Go.Proofs.YtnmegpplfbkpcaaDoor
