/- edenref24.Most. -/
import Derived.Test.YtoaooblodgejdaaDoorPatX
namespace Go.Proofs.YtoaooblodgejdaaDoor
open Go.RowKit
set_option linter.unusedVariables false
set_option maxRecDepth 100000

set_option maxHeartbeats 4000000 in
theorem most24_any (h : Nat) (hh : h ≤ 4) (W : World) : Calls Tryd.prog 81 #[.int .i64 (h : Nat)] W fun e w' => e = .returned (.int .i64 ((4 * 2 ^ h : Nat) : Int)) ∧ w' = W := by
  go_enter Tryd.func81, Tryd.ntmps81
  go_wp2_with fail
  go_loopw [3, 4] (fun x i wr => ∃ k : Nat, k ≤ h ∧ i = .int .i64 (k : Nat) ∧ x = .int .i64 ((4 * 2 ^ k : Nat) : Int) ∧ wr = W) (fun _ i _ => h - (intOf i).toNat)
  case atStart => exact ⟨0, by omega, rfl, rfl, rfl⟩
  case round =>
    obtain ⟨k, hk, rfl, rfl, rfl⟩ := hrel
    by_cases hkh : k < h
    · have k1 : (k : Int) < (h : Int) := by omega
      have hb : 4 * 2 ^ k ≤ 64 := by
        have := Nat.pow_le_pow_right (n := 2) (by omega) (show k ≤ 4 by omega)
        have h2 : (2 : Nat) ^ 4 = 16 := by decide
        omega
      have he : 4 * 2 ^ (k + 1) = 4 * 2 ^ k * 2 := by rw [Nat.pow_succ]; omega
      have HEQ := Lib.hid he
      clear he
      obtain ⟨x, hx⟩ : ∃ x, 4 * 2 ^ k = x := ⟨_, rfl⟩
      rw [hx] at hb ⊢
      have HX := Lib.hid hx
      clear hx
      have xw : IntKind.i64.wrap ((x : Int) * 2) = (x : Int) * 2 := IntWalk.i64_in _ (by omega)
      go_wp2_with fail
      go_roundw
      case rel => exact ⟨k + 1, by omega, by go_num, by rw [HEQ.out, HX.out]; simp, by first | rfl | trivial⟩
      case measure => simp [intOf]; omega
    · obtain rfl : k = h := by omega
      go_wp2
      go_ret
      exact ⟨rfl, rfl⟩
end Go.Proofs.YtoaooblodgejdaaDoor
