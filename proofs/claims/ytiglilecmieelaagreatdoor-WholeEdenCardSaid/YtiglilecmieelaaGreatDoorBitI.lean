/- Bits of 64-bit integers with a sign, in plain numbers. or, shifts of small numbers, in plain numbers. -/
import Derived.WalkKit
import Derived.Laws.BitsAllLaws
import Derived.IntWalk
namespace Go.Proofs.YtiglilecmieelaaGreatDoor
open Go.RowKit
set_option linter.unusedVariables false

theorem ofInt64_nat (x : Int) : ((BitVec.ofInt 64 x).toNat : Int) = x % 18446744073709551616 := by
  rw [BitVec.toNat_ofInt]
  have : (0 : Int) ≤ x % 18446744073709551616 := Int.emod_nonneg _ (by decide)
  show (((x % 18446744073709551616).toNat : Nat) : Int) = _
  omega
theorem wrap_small (n : Nat) (h : n ≤ 9223372036854775807) : IntKind.i64.wrap (n : Int) = (n : Int) := IntWalk.i64_in _ (by omega)
theorem and7_i64 (t : Int) : bits .and .i64 t 7 = t % 8 := by
  have h1 := ofInt64_nat t
  have e : ((BitVec.ofInt 64 t &&& BitVec.ofInt 64 7).toNat) = (BitVec.ofInt 64 t).toNat % 8 := by
    rw [BitVec.toNat_and, show (BitVec.ofInt 64 7).toNat = 7 from by decide, nat_mask3]
  show IntKind.i64.wrap ((BitVec.ofInt 64 t &&& BitVec.ofInt 64 7).toNat : Int) = _
  rw [e, wrap_small _ (by omega)]
  omega
theorem andNot1_nat (a : BitVec 64) : (a &&& ~~~(1#64)).toNat = 0 ↔ a.toNat < 2 := by
  constructor
  · intro h
    have hz : a &&& ~~~(1#64) = 0#64 := BitVec.eq_of_toNat_eq (by simpa using h)
    refine Nat.lt_pow_two_of_testBit (n := 1) _ fun i hi => ?_
    have hb := congrArg (fun v => BitVec.getLsbD v i) hz
    simp only [BitVec.getLsbD_and, BitVec.getLsbD_not, BitVec.getLsbD_zero] at hb
    by_cases h64 : i < 64
    · have h1 : (1#64).getLsbD i = false := by simp [BitVec.getLsbD_one]; omega
      simp only [h64, h1, decide_true, Bool.not_false, Bool.and_true] at hb
      exact hb
    · exact Nat.testBit_lt_two_pow (Nat.lt_of_lt_of_le a.isLt (Nat.pow_le_pow_right (by decide) (by omega)))
  · intro h
    have : a = 0#64 ∨ a = 1#64 := by
      rcases (show a.toNat = 0 ∨ a.toNat = 1 by omega) with e | e
      · exact .inl (BitVec.eq_of_toNat_eq (by simpa using e))
      · exact .inr (BitVec.eq_of_toNat_eq (by simpa using e))
    rcases this with rfl | rfl <;> decide
theorem andNot1_i64 {x : Int} (h1 : -9223372036854775808 ≤ x) (h2 : x ≤ 9223372036854775807) : (bits .andNot .i64 x 1 != 0) = decide (x ≠ 0 ∧ x ≠ 1) := by
  have hx := ofInt64_nat x
  have hk := andNot1_nat (BitVec.ofInt 64 x)
  have e : bits .andNot .i64 x 1 = IntKind.i64.wrap ((BitVec.ofInt 64 x &&& ~~~(1#64)).toNat : Int) := rfl
  have hlt := (BitVec.ofInt 64 x &&& ~~~(1#64)).isLt
  have hw : ∀ n : Nat, n < 18446744073709551616 → (IntKind.i64.wrap (n : Int) = 0 ↔ n = 0) := by
    intro n hn
    rw [IntWalk.i64_left]
    unfold wrap64
    omega
  have hz := hw _ hlt
  rw [Bool.eq_iff_iff, bne_iff_ne, decide_eq_true_iff, e, Ne, hz, hk]
  omega
end Go.Proofs.YtiglilecmieelaaGreatDoor
namespace Go.Proofs.YtiglilecmieelaaGreatDoor
open Go.RowKit
set_option linter.unusedVariables false

theorem ofInt64_small {a : Nat} (h : a < 4611686018427387904) : (BitVec.ofInt 64 (a : Int)).toNat = a := by
  have := ofInt64_nat (a : Int)
  omega
theorem or_i64 {a b : Nat} (ha : a < 4611686018427387904) (hb : b < 4611686018427387904) : bits .or .i64 (a : Int) (b : Int) = ((a ||| b : Nat) : Int) := by
  have hlt : a ||| b < 2 ^ 62 := Nat.or_lt_two_pow ha hb
  show IntKind.i64.wrap ((BitVec.ofInt 64 (a : Int) ||| BitVec.ofInt 64 (b : Int)).toNat : Int) = _
  rw [BitVec.toNat_or, ofInt64_small ha, ofInt64_small hb, wrap_small _ (by omega)]
theorem or_at {a c Y : Nat} (ha : a < 2 ^ Y) : a ||| c * 2 ^ Y = a + c * 2 ^ Y := by
  rw [Nat.or_comm, Nat.mul_comm c, ← Nat.two_pow_add_eq_or_of_lt ha, Nat.add_comm]
theorem and_i64 {a b : Nat} (ha : a < 4611686018427387904) (hb : b < 4611686018427387904) : bits .and .i64 (a : Int) (b : Int) = ((a &&& b : Nat) : Int) := by
  have hlt : a &&& b < 2 ^ 62 := Nat.and_lt_two_pow _ hb
  show IntKind.i64.wrap ((BitVec.ofInt 64 (a : Int) &&& BitVec.ofInt 64 (b : Int)).toNat : Int) = _
  rw [BitVec.toNat_and, ofInt64_small ha, ofInt64_small hb, wrap_small _ (by omega)]
theorem and1_i64 {a : Nat} (ha : a < 4611686018427387904) : bits .and .i64 (a : Int) 1 = ((a % 2 : Nat) : Int) := by
  have h := and_i64 (b := 1) ha (by decide)
  rw [Nat.and_one_is_mod] at h
  exact h
end Go.Proofs.YtiglilecmieelaaGreatDoor
