/- Package twins: nodes. -/
import Derived.Test.YtiglilecmieelaaGreatDoorBase
import Derived.Test.YtiglilecmieelaaGreatDoorInts
import Derived.WalkKit
import Derived.Lib.Hide
import Derived.LoopTactic
import Derived.IntWalk
namespace Go.Proofs.YtiglilecmieelaaGreatDoor
open Go.RowKit
set_option linter.unusedVariables false
set_option maxRecDepth 100000

set_option maxHeartbeats 1000000 in
theorem tnodes_ok (N V : Nat) (W : World) (hV : N * N = V) (h1 : 1 ≤ N) (hN : N ≤ 256) :
    Calls Tryz.prog 33 #[.int .i64 (V : Nat)] W fun e w' => e = .returned (.int .i64 (N : Nat)) ∧ w' = W := by
  have HV := Lib.hid hV
  have hVle : V ≤ 65536 := by rw [← hV]; exact Nat.le_trans (Nat.mul_le_mul hN hN) (by decide)
  clear hV
  go_enter Tryz.func33, Tryz.ntmps33
  go_wp2
  go_loop [3] (fun s => ∃ m : Nat, 1 ≤ m ∧ m ≤ N ∧ s = .int .i64 (m : Nat)) (fun s => N - (intOf s).toNat)
  case atStart => exact ⟨1, Nat.le_refl _, h1, rfl⟩
  case round =>
    obtain ⟨m, hm1, hm, rfl⟩ := hrel
    obtain ⟨Q, hQ⟩ : ∃ Q, m * m = Q := ⟨_, rfl⟩
    have hQI : (m : Int) * (m : Int) = (Q : Int) := by rw [← hQ, Int.natCast_mul]
    have hQle : Q ≤ 65536 := by rw [← hQ]; exact Nat.le_trans (Nat.mul_le_mul (show m ≤ 256 by omega) (show m ≤ 256 by omega)) (by decide)
    have q1 : IntKind.i64.wrap (Q : Int) = (Q : Int) := IntWalk.i64_in _ (by omega)
    have q2 : IntKind.i64.wrap ((m : Int) + 1) = ((m + 1 : Nat) : Int) := by rw [IntWalk.i64_in _ (by omega)]; omega
    by_cases hlt : m < N
    · have hlt2 : (Q : Int) < (V : Int) := by
        have h2 : (m + 1) * (m + 1) ≤ N * N := Nat.mul_le_mul hlt hlt
        rw [HV.out] at h2
        have h3 : (m + 1) * (m + 1) = Q + 2 * m + 1 := by rw [← hQ]; rw [Nat.add_mul, Nat.mul_add]; omega
        omega
      clear hQ hQle
      go_wp2
      go_round
      case rel => exact ⟨m + 1, by omega, by omega, by go_num⟩
      case measure => simp [intOf]; omega
    · obtain rfl : m = N := by omega
      obtain rfl : Q = V := hQ.symm.trans HV.out
      clear hQ hQle
      have hge : ¬ (Q : Int) < (Q : Int) := Int.lt_irrefl _
      go_wp2
      go_ret
      exact ⟨rfl, rfl⟩
end Go.Proofs.YtiglilecmieelaaGreatDoor
