import Derived.Test.YtiglilecmieelaaGreatDoorEdnO
/- Plain: a set's words of 64 bits, and its text. -/
namespace Go.Proofs.YtiglilecmieelaaGreatDoor
set_option linter.unusedVariables false

def wordB (m j : Nat) : Nat := m / 2 ^ (64 * j) % 2 ^ 64
theorem wordB_test (m j i : Nat) : (wordB m j).testBit i = (decide (i < 64) && m.testBit (64 * j + i)) := by
  unfold wordB
  rw [Nat.testBit_mod_two_pow, Nat.testBit_div_two_pow, Nat.add_comm i]
theorem wordB_lt (m j : Nat) : wordB m j < 18446744073709551616 := Nat.mod_lt _ (by decide)
theorem wordB_or (m x j : Nat) : wordB (m ||| 2 ^ x) j = if j = x / 64 then wordB m j ||| 2 ^ (x % 64) else wordB m j := by
  apply Nat.eq_of_testBit_eq
  intro i
  rw [wordB_test, Nat.testBit_or, Nat.testBit_two_pow]
  by_cases hj : j = x / 64
  · rw [if_pos hj, Nat.testBit_or, wordB_test, Nat.testBit_two_pow]
    by_cases hi : i < 64
    · have : (x = 64 * j + i) ↔ (x % 64 = i) := by omega
      simp [hi, this]
    · have : ¬ x % 64 = i := by omega
      simp [hi, this]
  · rw [if_neg hj, wordB_test]
    by_cases hi : i < 64
    · have : ¬ x = 64 * j + i := by omega
      simp [hi, this]
    · simp [hi]
theorem wordB_bit (m x : Nat) : m.testBit x = (wordB m (x / 64)).testBit (x % 64) := by
  rw [wordB_test, decide_eq_true (Nat.mod_lt x (by decide)), Bool.true_and, Nat.div_add_mod]
def wordsB (W m : Nat) : List Nat := (List.range W).map (wordB m)
def byteB (m i : Nat) : Nat := m / 256 ^ i % 256
theorem byte_word (m j i : Nat) (hi : i < 8) : byteB (wordB m j) i = byteB m (8 * j + i) := by
  unfold byteB
  apply Nat.eq_of_testBit_eq
  intro b
  have h256 : ∀ e, 256 ^ e = 2 ^ (8 * e) := fun e => by rw [show (256 : Nat) = 2 ^ 8 from rfl, ← Nat.pow_mul]
  rw [show (256 : Nat) = 2 ^ 8 from rfl, Nat.testBit_mod_two_pow, Nat.testBit_mod_two_pow, ← Nat.pow_mul, ← Nat.pow_mul, Nat.testBit_div_two_pow, Nat.testBit_div_two_pow, wordB_test]
  by_cases hb : b < 8
  · have h1 : b + 8 * i < 64 := by omega
    have h2 : 64 * j + (b + 8 * i) = b + 8 * (8 * j + i) := by omega
    simp [hb, h1, h2]
  · simp [hb]
def keyB (W m : Nat) : List Nat := (List.range (8 * W)).map (byteB m)
theorem keyB_inj {W m m' : Nat} (h1 : m < 2 ^ (64 * W)) (h2 : m' < 2 ^ (64 * W)) (h : keyB W m = keyB W m') : m = m' := by
  have key : ∀ i, i < 8 * W → byteB m i = byteB m' i := fun i hi => by
    have := congrArg (fun l : List Nat => l[i]?) h
    simpa [keyB, hi] using this
  apply Nat.eq_of_testBit_eq
  intro x
  by_cases hx : x < 64 * W
  · have hk := key (x / 8) (by omega)
    have ht : (byteB m (x / 8)).testBit (x % 8) = (byteB m' (x / 8)).testBit (x % 8) := by rw [hk]
    unfold byteB at ht
    rw [show (256 : Nat) = 2 ^ 8 from rfl, Nat.testBit_mod_two_pow, Nat.testBit_mod_two_pow, ← Nat.pow_mul, Nat.testBit_div_two_pow, Nat.testBit_div_two_pow, decide_eq_true (Nat.mod_lt x (by decide)), Bool.true_and, Bool.true_and, Nat.add_comm, Nat.div_add_mod] at ht
    exact ht
  · rw [Nat.testBit_lt_two_pow (Nat.lt_of_lt_of_le h1 (Nat.pow_le_pow_right (by decide) (by omega))), Nat.testBit_lt_two_pow (Nat.lt_of_lt_of_le h2 (Nat.pow_le_pow_right (by decide) (by omega)))]
theorem mask_words {n W : Nat} {l : List Nat} (hW : n ≤ 64 * W) (h : ∀ x ∈ l, x < n) : maskB l < 2 ^ (64 * W) :=
  Nat.lt_of_lt_of_le (mask_lt h) (Nat.pow_le_pow_right (by decide) hW)
end Go.Proofs.YtiglilecmieelaaGreatDoor
