/- Plain: predecessors counted from behind and from ahead; the count is not none just if there is a predecessor. -/
import Derived.Test.YtoaooblodgejdaaDoorRjQ
namespace Go.Proofs.YtoaooblodgejdaaDoor
open Go.RowKit
set_option linter.unusedVariables false
set_option maxRecDepth 100000

theorem sumN_congr {f g : Nat → Nat} : ∀ n, (∀ i, i < n → f i = g i) → sumN n f = sumN n g
  | 0, _ => rfl
  | n + 1, h => by
    show sumN n f + f n = sumN n g + g n
    rw [sumN_congr n (fun i hi => h i (by omega)), h n (by omega)]
theorem sumN_mod {f g : Nat → Nat} {M : Nat} : ∀ n, (∀ i, i < n → f i % M = g i % M) → sumN n f % M = sumN n g % M
  | 0, _ => rfl
  | n + 1, h => by
    show (sumN n f + f n) % M = (sumN n g + g n) % M
    rw [Nat.add_mod, sumN_mod n (fun i hi => h i (by omega)), h n (by omega), ← Nat.add_mod]
theorem sumN_add (f g : Nat → Nat) : ∀ n, sumN n (fun i => f i + g i) = sumN n f + sumN n g
  | 0 => rfl
  | n + 1 => by
    show sumN n (fun i => f i + g i) + (f n + g n) = (sumN n f + f n) + (sumN n g + g n)
    rw [sumN_add f g n]; omega
theorem sumN_const0 (n : Nat) : sumN n (fun _ => 0) = 0 := sumN_zero n fun _ _ => rfl
theorem sumN_swap (f : Nat → Nat → Nat) (m : Nat) : ∀ n, sumN n (fun i => sumN m (fun j => f i j)) = sumN m (fun j => sumN n (fun i => f i j))
  | 0 => (sumN_const0 m).symm
  | n + 1 => by
    show sumN n (fun i => sumN m (fun j => f i j)) + sumN m (fun j => f n j) = sumN m (fun j => sumN n (fun i => f i j) + f n j)
    rw [sumN_swap f m n, sumN_add]
theorem sumN_mul (f : Nat → Nat) (c : Nat) : ∀ n, sumN n (fun i => c * f i) = c * sumN n f
  | 0 => rfl
  | n + 1 => by
    show sumN n (fun i => c * f i) + c * f n = c * (sumN n f + f n)
    rw [sumN_mul f c n, Nat.mul_add]
theorem sumN_one (g : Nat → Nat) (y : Nat) : ∀ n, sumN n (fun u => if y = u then g u else 0) = if y < n then g y else 0
  | 0 => rfl
  | n + 1 => by
    show sumN n (fun u => if y = u then g u else 0) + (if y = n then g n else 0) = _
    rw [sumN_one g y n]
    by_cases h : y = n
    · subst h; rw [if_neg (by omega), if_pos rfl, if_pos (by omega)]; omega
    · rw [if_neg h]
      by_cases h2 : y < n
      · rw [if_pos h2, if_pos (by omega)]; omega
      · rw [if_neg h2, if_neg (by omega)]
theorem sumN_append (f : Nat → Nat) (n : Nat) : ∀ m, sumN (n + m) f = sumN n f + sumN m (fun c => f (n + c))
  | 0 => rfl
  | m + 1 => by
    show sumN (n + m) f + f (n + m) = sumN n f + (sumN m (fun c => f (n + c)) + f (n + m))
    rw [sumN_append f n m]; omega
theorem sumN_split (f : Nat → Nat) (m : Nat) : ∀ n, sumN (n * m) f = sumN n (fun i => sumN m (fun c => f (i * m + c)))
  | 0 => by rw [Nat.zero_mul]; rfl
  | n + 1 => by
    rw [Nat.succ_mul, sumN_append, sumN_split f m n]
    rfl
theorem sumN_le {f : Nat → Nat} {b : Nat} : ∀ n, (∀ i, i < n → f i ≤ b) → sumN n f ≤ n * b
  | 0, _ => by show 0 ≤ _; omega
  | n + 1, h => by
    have := sumN_le n (fun i hi => h i (by omega))
    have := h n (by omega)
    show sumN n f + f n ≤ _
    rw [Nat.succ_mul]; omega
theorem sumN_ge {f : Nat → Nat} {j : Nat} : ∀ n, j < n → f j ≤ sumN n f
  | 0, h => by omega
  | n + 1, h => by
    show f j ≤ sumN n f + f n
    by_cases e : j = n
    · subst e; omega
    · have := sumN_ge (f := f) n (by omega : j < n); omega
/-- in how many ways a pair goes on, over the last s columns -/
def bwN (t cols : List Int) (h m w : Nat) : Nat → Nat → Nat
  | 0, _ => 1
  | s + 1, i => sumN m (fun c => if mkF t cols h m (w - 1 - s) (i * m + c) = true then bwN t cols h m w s (i % m * m + c) else 0)
/-- the same, in 64 bits -/
def bwF (t cols : List Int) (h m w : Nat) : Nat → Nat → Nat
  | 0, _ => 1
  | s + 1, i => sumN m (fun c => if mkF t cols h m (w - 1 - s) (i * m + c) = true then bwF t cols h m w s (i % m * m + c) else 0) % M64
/-- how many predecessors -/
def cntN (t cols : List Int) (h m w : Nat) : Nat := sumN (m * m) (bwN t cols h m w w)
def fwN (t cols : List Int) (h m : Nat) : Nat → Nat → Nat
  | 0, _ => 1
  | k + 1, u => sumN (m * m * m) (trm t cols h m k (fwN t cols h m k) u)
theorem fw_mod (t cols : List Int) (h m : Nat) : ∀ k u, fwF t cols h m k u = fwN t cols h m k u % M64
  | 0, _ => by show 1 = 1 % M64; decide
  | k + 1, u => by
    refine sumN_mod _ fun y _ => ?_
    unfold trm
    split
    · rw [fw_mod t cols h m k, Nat.mod_mod]
    · rfl
theorem bw_mod (t cols : List Int) (h m w : Nat) : ∀ s i, bwF t cols h m w s i = bwN t cols h m w s i % M64
  | 0, _ => by show 1 = 1 % M64; decide
  | s + 1, i => by
    refine sumN_mod _ fun c _ => ?_
    by_cases e : mkF t cols h m (w - 1 - s) (i * m + c) = true
    · rw [if_pos e, if_pos e, bw_mod t cols h m w s, Nat.mod_mod]
    · rw [if_neg e, if_neg e]
theorem bwF_lt (t cols : List Int) (h m w : Nat) : ∀ s i, bwF t cols h m w s i < M64
  | 0, _ => by show 1 < _; decide
  | s + 1, i => Nat.mod_lt _ (by decide)
theorem pair_mod {m i c : Nat} (hc : c < m) : (i * m + c) % (m * m) = i % m * m + c := by
  have h1 := Nat.div_add_mod i m
  have h2 : i * m = (m * (i / m) + i % m) * m := by rw [h1]
  have h3 : i % m < m := Nat.mod_lt _ (by omega)
  have h4 : (i % m + 1) * m ≤ m * m := Nat.mul_le_mul_right _ h3
  rw [Nat.succ_mul] at h4
  rw [h2, Nat.add_mul, Nat.mul_right_comm, Nat.add_assoc, Nat.mul_add_mod, Nat.mod_eq_of_lt (by omega)]
theorem pair_rem {m i c : Nat} (hc : c < m) : (i * m + c) % m = c := by rw [Nat.mul_comm, Nat.mul_add_mod, Nat.mod_eq_of_lt hc]
theorem pair_div {m i c : Nat} (hc : c < m) : (i * m + c) / m = i := by rw [Nat.mul_comm, Nat.mul_add_div (by omega), Nat.div_eq_of_lt hc, Nat.add_zero]
theorem meet_step (t cols : List Int) (h m w k : Nat) (hk : k < w) : sumN (m * m) (fun u => bwN t cols h m w (w - (k + 1)) u * fwN t cols h m (k + 1) u) = sumN (m * m) (fun u => bwN t cols h m w (w - k) u * fwN t cols h m k u) := by
  obtain ⟨s, hs⟩ : ∃ s, w - k = s + 1 := ⟨w - k - 1, by omega⟩
  have hs1 : w - (k + 1) = s := by omega
  have hs2 : w - 1 - s = k := by omega
  rw [hs, hs1]
  have e1 : sumN (m * m) (fun u => bwN t cols h m w s u * fwN t cols h m (k + 1) u) = sumN (m * m) (fun u => sumN (m * m * m) (fun y => bwN t cols h m w s u * trm t cols h m k (fwN t cols h m k) u y)) :=
    sumN_congr _ fun u _ => (sumN_mul _ _ _).symm
  rw [e1, sumN_swap]
  have e2 : ∀ y, y < m * m * m → sumN (m * m) (fun u => bwN t cols h m w s u * trm t cols h m k (fwN t cols h m k) u y) = if mkF t cols h m k y = true then bwN t cols h m w s (y % (m * m)) * fwN t cols h m k (y / m) else 0 := by
    intro y hy
    have hmm : 0 < m * m := by
      rcases Nat.eq_zero_or_pos (m * m) with e | e
      · rw [e] at hy; omega
      · exact e
    by_cases hm : mkF t cols h m k y = true
    · rw [if_pos hm]
      have := sumN_one (fun u => bwN t cols h m w s u * fwN t cols h m k (y / m)) (y % (m * m)) (m * m)
      rw [if_pos (Nat.mod_lt _ hmm)] at this
      rw [← this]
      refine sumN_congr _ fun u _ => ?_
      unfold trm
      by_cases e : y % (m * m) = u
      · rw [if_pos ⟨e, hm⟩, if_pos e]
      · rw [if_neg (fun g => e g.1), if_neg e, Nat.mul_zero]
    · rw [if_neg hm]
      refine sumN_zero _ fun u _ => ?_
      unfold trm
      rw [if_neg (fun g => hm g.2), Nat.mul_zero]
  rw [sumN_congr _ e2, sumN_split]
  refine sumN_congr _ fun i _ => ?_
  show _ = sumN m (fun c => if mkF t cols h m (w - 1 - s) (i * m + c) = true then bwN t cols h m w s (i % m * m + c) else 0) * fwN t cols h m k i
  rw [hs2, Nat.mul_comm (sumN m _), ← sumN_mul]
  refine sumN_congr _ fun c hc => ?_
  by_cases e : mkF t cols h m k (i * m + c) = true
  · rw [if_pos e, if_pos e, pair_mod hc, pair_div hc, Nat.mul_comm]
  · rw [if_neg e, if_neg e, Nat.mul_zero]
theorem meet_all (t cols : List Int) (h m w : Nat) : ∀ k, k ≤ w → sumN (m * m) (fun u => bwN t cols h m w (w - k) u * fwN t cols h m k u) = cntN t cols h m w
  | 0, _ => by
    unfold cntN
    rw [Nat.sub_zero]
    refine sumN_congr _ fun u _ => ?_
    show _ * 1 = _
    rw [Nat.mul_one]
  | k + 1, hk => by rw [meet_step t cols h m w k (by omega), meet_all t cols h m w k (by omega)]
/-- both counts are one -/
theorem ways_cnt (t cols : List Int) (h m w : Nat) : waysF t cols h m w = cntN t cols h m w % M64 ∧ sumN (m * m) (bwF t cols h m w w) % M64 = cntN t cols h m w % M64 := by
  constructor
  · have hm := meet_all t cols h m w w (Nat.le_refl _)
    rw [Nat.sub_self] at hm
    unfold waysF
    rw [← hm]
    refine sumN_mod _ fun u _ => ?_
    rw [fw_mod, Nat.mod_mod]
    show _ = 1 * _ % _
    rw [Nat.one_mul]
  · unfold cntN
    refine sumN_mod _ fun u _ => ?_
    rw [bw_mod, Nat.mod_mod]
theorem bwN_le (t cols : List Int) (h m w : Nat) : ∀ s i, bwN t cols h m w s i ≤ m ^ s
  | 0, _ => by show 1 ≤ 1; omega
  | s + 1, i => by
    have := sumN_le (f := fun c => if mkF t cols h m (w - 1 - s) (i * m + c) = true then bwN t cols h m w s (i % m * m + c) else 0) (b := m ^ s) m (fun c _ => by
      show (if _ then _ else 0) ≤ _
      split
      · exact bwN_le t cols h m w s _
      · omega)
    rw [Nat.pow_succ, Nat.mul_comm]
    exact this
theorem cntN_le (t cols : List Int) (h m w : Nat) : cntN t cols h m w ≤ m * m * m ^ w := sumN_le _ fun i _ => bwN_le t cols h m w w i
theorem cntN_lt {t cols : List Int} {h m w : Nat} (hm : m ≤ 64) (hw : w ≤ 8) : cntN t cols h m w < M64 := by
  have h1 := cntN_le t cols h m w
  have h2 : m ^ w ≤ 64 ^ 8 := Nat.le_trans (Nat.pow_le_pow_left hm w) (Nat.pow_le_pow_right (by omega) hw)
  have h3 : m * m * m ^ w ≤ 64 * 64 * 64 ^ 8 := Nat.mul_le_mul (Nat.mul_le_mul hm hm) h2
  have h4 : (64 : Nat) * 64 * 64 ^ 8 = 1152921504606846976 := by decide
  show _ < 18446744073709551616
  omega
theorem bwN_pos {t cols : List Int} {h m w : Nat} {v : Nat → Nat} (hv : Pred t cols h m w v) : ∀ s, s ≤ w → 1 ≤ bwN t cols h m w s (v (w - s) * m + v (w - s + 1))
  | 0, _ => Nat.le_refl _
  | s + 1, hs => by
    have ih := bwN_pos hv s (by omega)
    have e1 : w - s = w - (s + 1) + 1 := by omega
    rw [e1] at ih
    have c0 := hv.lt (w - (s + 1)) (by omega)
    have c1 := hv.lt (w - (s + 1) + 1) (by omega)
    have c2 := hv.lt (w - (s + 1) + 1 + 1) (by omega)
    have hm := hv.mks (w - (s + 1)) (by omega)
    generalize w - (s + 1) = k at *
    have hk : w - 1 - s = k := by omega
    have hmk : mkF t cols h m (w - 1 - s) ((v k * m + v (k + 1)) * m + v (k + 1 + 1)) = true := by
      unfold mkF
      rw [pair_div c2, pair_div c1, pair_rem c1, pair_rem c2, hk]
      exact hm
    have hge := sumN_ge (f := fun c => if mkF t cols h m (w - 1 - s) ((v k * m + v (k + 1)) * m + c) = true then bwN t cols h m w s ((v k * m + v (k + 1)) % m * m + c) else 0) m c2
    rw [if_pos hmk, pair_rem c1] at hge
    refine Nat.le_trans ih (Nat.le_trans hge ?_)
    show _ ≤ sumN m (fun c => if mkF t cols h m (w - 1 - s) ((v k * m + v (k + 1)) * m + c) = true then bwN t cols h m w s ((v k * m + v (k + 1)) % m * m + c) else 0)
    rw [pair_rem c1]
    exact Nat.le_refl _
/-- there is a predecessor just if they are not none -/
theorem cntN_pos {t cols : List Int} {h m w : Nat} (hm0 : 0 < m) (hm : m ≤ 64) (hw : w ≤ 8) : cntN t cols h m w ≠ 0 ↔ ∃ v, Pred t cols h m w v := by
  constructor
  · intro hne
    refine Classical.byContradiction fun hno => ?_
    have hz := ways_none (t := t) (cols := cols) (h := h) (w := w) hm0 (fun v hv => hno ⟨v, hv⟩)
    rw [(ways_cnt t cols h m w).1, Nat.mod_eq_of_lt (cntN_lt hm hw)] at hz
    exact hne hz
  · rintro ⟨v, hv⟩ hz
    have h1 := bwN_pos hv w (Nat.le_refl _)
    rw [Nat.sub_self] at h1
    have c0 := hv.lt 0 (by omega)
    have c1 := hv.lt 1 (by omega)
    have h2 : v 0 * m + v (0 + 1) < m * m := by
      have : (v 0 + 1) * m ≤ m * m := Nat.mul_le_mul_right _ c0
      rw [Nat.succ_mul] at this
      have e : v (0 + 1) = v 1 := rfl
      omega
    have h3 := sumN_ge (f := bwN t cols h m w w) (m * m) h2
    unfold cntN at hz
    omega
end Go.Proofs.YtoaooblodgejdaaDoor
