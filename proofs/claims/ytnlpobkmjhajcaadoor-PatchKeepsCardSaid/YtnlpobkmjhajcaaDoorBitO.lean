/- or, shifts of small numbers, in plain numbers. -/
import Derived.Test.YtnlpobkmjhajcaaDoorBitI
namespace Go.Proofs.YtnlpobkmjhajcaaDoor
open Go.RowKit
set_option linter.unusedVariables false

theorem ofInt64_small {a : Nat} (h : a < 4611686018427387904) : (BitVec.ofInt 64 (a : Int)).toNat = a := by
  have := ofInt64_nat (a : Int)
  omega
theorem or_i64 {a b : Nat} (ha : a < 4611686018427387904) (hb : b < 4611686018427387904) : bits .or .i64 (a : Int) (b : Int) = ((a ||| b : Nat) : Int) := by
  have hlt : a ||| b < 2 ^ 62 := Nat.or_lt_two_pow ha hb
  show IntKind.i64.wrap ((BitVec.ofInt 64 (a : Int) ||| BitVec.ofInt 64 (b : Int)).toNat : Int) = _
  rw [BitVec.toNat_or, ofInt64_small ha, ofInt64_small hb, wrap_small _ (by omega)]
theorem or_at {a c Y : Nat} (ha : a < 2 ^ Y) : a ||| c * 2 ^ Y = a + c * 2 ^ Y := by
  rw [Nat.or_comm, Nat.mul_comm c, ← Nat.two_pow_add_eq_or_of_lt ha, Nat.add_comm]
theorem and_i64 {a b : Nat} (ha : a < 4611686018427387904) (hb : b < 4611686018427387904) : bits .and .i64 (a : Int) (b : Int) = ((a &&& b : Nat) : Int) := by
  have hlt : a &&& b < 2 ^ 62 := Nat.and_lt_two_pow _ hb
  show IntKind.i64.wrap ((BitVec.ofInt 64 (a : Int) &&& BitVec.ofInt 64 (b : Int)).toNat : Int) = _
  rw [BitVec.toNat_and, ofInt64_small ha, ofInt64_small hb, wrap_small _ (by omega)]
theorem and1_i64 {a : Nat} (ha : a < 4611686018427387904) : bits .and .i64 (a : Int) 1 = ((a % 2 : Nat) : Int) := by
  have h := and_i64 (b := 1) ha (by decide)
  rw [Nat.and_one_is_mod] at h
  exact h
end Go.Proofs.YtnlpobkmjhajcaaDoor
