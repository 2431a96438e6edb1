/- Plain: the document's count of ways; where it is not none there is a predecessor. What three columns make. -/
import Derived.Test.YtoaooblodgejdaaDoorRjP
namespace Go.Proofs.YtoaooblodgejdaaDoor
open Go.RowKit
set_option linter.unusedVariables false
set_option maxRecDepth 100000

abbrev M64 : Nat := 18446744073709551616
/-- the sum of the first n -/
def sumN (n : Nat) (f : Nat → Nat) : Nat := match n with
  | 0 => 0
  | n + 1 => sumN n f + f n
theorem sumN_pos {f : Nat → Nat} : ∀ n, sumN n f ≠ 0 → ∃ i, i < n ∧ f i ≠ 0
  | 0, h => absurd rfl h
  | n + 1, h => by
    by_cases h0 : f n = 0
    · have h2 : sumN n f ≠ 0 := by intro e; apply h; show sumN n f + f n = 0; omega
      obtain ⟨i, hi, hf⟩ := sumN_pos n h2
      exact ⟨i, by omega, hf⟩
    · exact ⟨n, by omega, h0⟩
theorem sumN_zero {f : Nat → Nat} : ∀ n, (∀ i, i < n → f i = 0) → sumN n f = 0
  | 0, _ => rfl
  | n + 1, h => by
    show sumN n f + f n = 0
    rw [sumN_zero n (fun i hi => h i (by omega)), h n (by omega)]
/-- do the three columns of the number y (of base m) make column k? -/
def mkF (t cols : List Int) (h m k y : Nat) : Bool := (looksF t (y / m / m) (y / m % m) (y % m) (cols.getD k 0).toNat h 0).2
def trm (t cols : List Int) (h m k : Nat) (at_ : Nat → Nat) (u y : Nat) : Nat := if y % (m * m) = u ∧ mkF t cols h m k y = true then at_ (y / m) else 0
/-- what of at comes to the pair u by the first x threes -/
def nxF (t cols : List Int) (h m k : Nat) (at_ : Nat → Nat) (x u : Nat) : Nat := sumN x (trm t cols h m k at_ u) % M64
theorem nxF_succ (t cols : List Int) (h m k : Nat) (at_ : Nat → Nat) (x u : Nat) : nxF t cols h m k at_ (x + 1) u = (sumN x (trm t cols h m k at_ u) + trm t cols h m k at_ u x) % M64 := rfl
/-- in how many ways the pair u is come to behind k columns -/
def fwF (t cols : List Int) (h m : Nat) : Nat → Nat → Nat
  | 0, _ => 1
  | k + 1, u => nxF t cols h m k (fwF t cols h m k) (m * m * m) u
def waysF (t cols : List Int) (h m w : Nat) : Nat := sumN (m * m) (fwF t cols h m w) % M64
theorem fwF_lt (t cols : List Int) (h m : Nat) : ∀ k u, fwF t cols h m k u < M64
  | 0, _ => by show 1 < _; decide
  | k + 1, u => Nat.mod_lt _ (by decide)
theorem nxF_zero (t cols : List Int) (h m k : Nat) (at_ : Nat → Nat) (u : Nat) : nxF t cols h m k at_ 0 u = 0 := rfl
theorem nxF_skip {t cols : List Int} {h m k : Nat} {at_ : Nat → Nat} {x : Nat} (hs : mkF t cols h m k x = false ∨ at_ (x / m) = 0) (u : Nat) : nxF t cols h m k at_ (x + 1) u = nxF t cols h m k at_ x u := by
  have h0 : trm t cols h m k at_ u x = 0 := by
    unfold trm
    rcases hs with hs | hs
    · rw [if_neg (by rw [hs]; simp)]
    · rw [hs, ite_self]
  rw [nxF_succ, h0, Nat.add_zero]
  rfl
theorem nxF_ne {t cols : List Int} {h m k : Nat} {at_ : Nat → Nat} {x u : Nat} (hu : x % (m * m) ≠ u) : nxF t cols h m k at_ (x + 1) u = nxF t cols h m k at_ x u := by
  have h0 : trm t cols h m k at_ u x = 0 := by unfold trm; rw [if_neg (fun e => hu e.1)]
  rw [nxF_succ, h0, Nat.add_zero]
  rfl
theorem nxF_take {t cols : List Int} {h m k : Nat} {at_ : Nat → Nat} {x : Nat} (hs : mkF t cols h m k x = true) : nxF t cols h m k at_ (x + 1) (x % (m * m)) = (nxF t cols h m k at_ x (x % (m * m)) + at_ (x / m)) % M64 := by
  have h0 : trm t cols h m k at_ (x % (m * m)) x = at_ (x / m) := by unfold trm; rw [if_pos ⟨rfl, hs⟩]
  rw [nxF_succ, h0]
  unfold nxF
  rw [Nat.mod_add_mod]
/-- a whole line of threes that comes to nothing -/
theorem nxF_line {t cols : List Int} {h m k : Nat} {at_ : Nat → Nat} {i : Nat} (h0 : at_ i = 0) : ∀ c, c ≤ m → ∀ u, nxF t cols h m k at_ (i * m + c) u = nxF t cols h m k at_ (i * m) u
  | 0, _, u => rfl
  | c + 1, hc, u => by
    have e : (i * m + c) / m = i := by rw [Nat.mul_comm, Nat.mul_add_div (by omega), Nat.div_eq_of_lt (by omega), Nat.add_zero]
    show nxF t cols h m k at_ (i * m + c + 1) u = _
    rw [nxF_skip (.inr (by rw [e]; exact h0)), nxF_line h0 c (by omega) u]
/-- where a pair is come to there are columns that make the first k -/
theorem fw_path {t cols : List Int} {h m : Nat} (hm : 0 < m) : ∀ k u, u < m * m → fwF t cols h m k u ≠ 0 → ∃ v : Nat → Nat, (∀ x, v x < m) ∧ v k = u / m ∧ v (k + 1) = u % m ∧ ∀ x, x < k → (looksF t (v x) (v (x + 1)) (v (x + 2)) (cols.getD x 0).toNat h 0).2 = true
  | 0, u, hu, _ => by
    have h1 : u / m < m := Nat.div_lt_of_lt_mul hu
    have h2 := Nat.mod_lt u hm
    exact ⟨fun x => if x = 0 then u / m else u % m, fun x => by show (if x = 0 then u / m else u % m) < m; split <;> omega, rfl, rfl, fun x hx => by omega⟩
  | k + 1, u, hu, hne => by
    have hs : sumN (m * m * m) (trm t cols h m k (fwF t cols h m k) u) ≠ 0 := by
      intro e
      apply hne
      show sumN (m * m * m) (trm t cols h m k (fwF t cols h m k) u) % M64 = 0
      rw [e]
      rfl
    obtain ⟨y, hy, hf⟩ := sumN_pos _ hs
    unfold trm at hf
    by_cases hc : y % (m * m) = u ∧ mkF t cols h m k y = true
    · rw [if_pos hc] at hf
      have hym : y / m < m * m := Nat.div_lt_of_lt_mul (by rw [Nat.mul_comm]; exact hy)
      obtain ⟨v, hv, e1, e2, hp⟩ := fw_path hm k (y / m) hym hf
      have hu1 : u / m = y / m % m := by
        rw [← hc.1, Nat.mod_mul_left_div_self]
      have hu2 : u % m = y % m := by
        rw [← hc.1, Nat.mod_mul_right_mod]
      refine ⟨fun x => if x = k + 2 then u % m else v x, fun x => ?_, ?_, ?_, fun x hx => ?_⟩
      · show (if x = k + 2 then u % m else v x) < m
        split
        · exact Nat.mod_lt _ hm
        · exact hv x
      · show (if k + 1 = k + 2 then u % m else v (k + 1)) = u / m
        rw [if_neg (by omega), e2, hu1]
      · show (if k + 1 + 1 = k + 2 then u % m else v (k + 1 + 1)) = u % m
        rw [if_pos rfl]
      · show (looksF t (if x = k + 2 then u % m else v x) (if x + 1 = k + 2 then u % m else v (x + 1)) (if x + 2 = k + 2 then u % m else v (x + 2)) (cols.getD x 0).toNat h 0).2 = true
        rw [if_neg (by omega), if_neg (by omega)]
        rcases Nat.lt_or_ge x k with h1 | h1
        · rw [if_neg (by omega)]
          exact hp x h1
        · obtain rfl : x = k := by omega
          rw [if_pos rfl, e1, e2, hu2]
          exact hc.2
    · rw [if_neg hc] at hf
      exact absurd rfl hf
theorem ways_none {t cols : List Int} {h m w : Nat} (hm : 0 < m) (hno : ∀ v, ¬ Pred t cols h m w v) : waysF t cols h m w = 0 := by
  have h0 : sumN (m * m) (fwF t cols h m w) = 0 := sumN_zero _ fun i hi => by
    refine Decidable.byContradiction fun hne => ?_
    obtain ⟨v, hv, _, _, hp⟩ := fw_path hm w i hi hne
    exact hno v ⟨fun x _ => hv x, hp⟩
  unfold waysF
  rw [h0]
  rfl
/-- what three columns make, of the first k lines -/
def madeV (t : List Int) (a b c : Nat) : Nat → Nat
  | 0 => 0
  | k + 1 => madeV t a b c k + (symF t a b c k).toNat * 2 ^ k
theorem madeV_lt {t : List Int} (ht : IsTab t) (a b c : Nat) : ∀ k, madeV t a b c k < 2 ^ k
  | 0 => by simp [madeV]
  | k + 1 => by
    have ih := madeV_lt ht a b c k
    have hs : symF t a b c k = 0 ∨ symF t a b c k = 1 := by
      unfold symF
      have h9 := wixT_lt a b c k 3
      have h2 : (2 : Nat) ^ (3 * 3) = 512 := by decide
      refine ht.sym _ ?_
      rw [List.getD_eq_getElem?_getD, List.getElem?_eq_getElem (by rw [ht.len]; omega)]
      exact List.getElem_mem _
    have h1 : (symF t a b c k).toNat ≤ 1 := by omega
    have h3 : (symF t a b c k).toNat * 2 ^ k ≤ 1 * 2 ^ k := Nat.mul_le_mul_right _ h1
    unfold madeV
    rw [Nat.pow_succ]
    omega
theorem madeV_of {t : List Int} {a b c x : Nat} : ∀ k, (∀ j, j < k → symF t a b c j = ((cb x j : Nat) : Int)) → madeV t a b c k = x % 2 ^ k
  | 0, _ => by simp [madeV, Nat.mod_one]
  | k + 1, h => by
    unfold madeV
    rw [madeV_of k (fun j hj => h j (by omega)), h k (by omega), Int.toNat_natCast]
    unfold cb
    rw [Nat.pow_succ, Nat.mod_mul, Nat.mul_comm]
end Go.Proofs.YtoaooblodgejdaaDoor
