/- The contract of edenlaw17.all. -/
import Derived.Test.YteneiianpghalaaDoorCntX
namespace Go.Proofs.YteneiianpghalaaDoor
open Go.RowKit
set_option linter.unusedVariables false
set_option maxRecDepth 100000

theorem pow_mono {k i n : Nat} (hk : 1 ≤ k) (h : i ≤ n) : k ^ i ≤ k ^ n := Nat.pow_le_pow_right hk h
set_option maxHeartbeats 2000000 in
theorem all_small (k n m : Nat) (W : World) (hk : 1 ≤ k) (hk4 : k ≤ 4) (hm : m = k ^ n) (h300 : m ≤ 300) (hn : n ≤ 100) :
    Calls Tryd.prog 16 #[.int .i64 k, .int .i64 n] W fun e w' => e = .returned (.int .i64 m) ∧ W = w' := by
  have HM := Lib.hid hm; clear hm
  go_enter Tryd.func16, Tryd.ntmps16
  go_wp2_with fail
  go_loop [5, 6] (fun xx ix => ∃ i x : Nat, i ≤ n ∧ ix = .int .i64 i ∧ xx = .int .i64 x ∧ Hid (x = k ^ i)) (fun _ ix => n - (intOf ix).toNat)
  case atStart => exact ⟨0, 1, by omega, rfl, rfl, (Nat.pow_zero k).symm⟩
  case round =>
    obtain ⟨i, x, hi, rfl, rfl, HX⟩ := hrel
    by_cases hin : i < n
    · have hx : x * k ≤ 300 := by
        rw [HX.out, ← Nat.pow_succ]
        exact Nat.le_trans (pow_mono (n := n) hk (by omega)) (by rw [← HM.out]; exact h300)
      obtain ⟨y, hy⟩ : ∃ y : Nat, (x : Int) * (k : Int) = (y : Int) ∧ y = x * k := ⟨x * k, by rw [Int.natCast_mul], rfl⟩
      have HY : Hid (y = k ^ (i + 1)) := by show _ = _; rw [hy.2, HX.out, ← Nat.pow_succ]
      have hy1 := hy.1
      have hy2 : y ≤ 300 := by rw [hy.2]; exact hx
      clear hy hx
      go_wp2
      go_round
      case rel => exact ⟨i + 1, y, by omega, by go_num, rfl, HY.out⟩
      case measure => simp [intOf]; omega
    · obtain rfl : n = i := by omega
      obtain rfl : m = x := HM.out.trans HX.out.symm
      go_wp2
      go_ret
      exact ⟨rfl, rfl⟩
set_option maxHeartbeats 2000000 in
theorem all_big (k n : Nat) (W : World) (hk : 1 ≤ k) (hk4 : k ≤ 4) (h300 : 300 < k ^ n) (hn : n ≤ 100) :
    Calls Tryd.prog 16 #[.int .i64 k, .int .i64 n] W fun e w' => e = .returned (.int .i64 0) ∧ W = w' := by
  have HB := Lib.hid h300; clear h300
  go_enter Tryd.func16, Tryd.ntmps16
  go_wp2_with fail
  go_loop [5, 6] (fun xx ix => ∃ i x : Nat, i ≤ n ∧ ix = .int .i64 i ∧ xx = .int .i64 x ∧ x ≤ 300 ∧ Hid (x = k ^ i)) (fun _ ix => n - (intOf ix).toNat)
  case atStart => exact ⟨0, 1, by omega, rfl, rfl, by omega, (Nat.pow_zero k).symm⟩
  case round =>
    obtain ⟨i, x, hi, rfl, rfl, hx3, HX⟩ := hrel
    by_cases hin : i < n
    · have hx : x * k ≤ 1200 := Nat.le_trans (Nat.mul_le_mul hx3 hk4) (by decide)
      obtain ⟨y, hy⟩ : ∃ y : Nat, (x : Int) * (k : Int) = (y : Int) ∧ y = x * k := ⟨x * k, by rw [Int.natCast_mul], rfl⟩
      have HY : Hid (y = k ^ (i + 1)) := by show _ = _; rw [hy.2, HX.out, ← Nat.pow_succ]
      have hy1 := hy.1
      have hy2 : y ≤ 1200 := by rw [hy.2]; exact hx
      clear hy hx
      by_cases hb : 300 < y
      · go_wp2
        go_ret
        exact ⟨rfl, rfl⟩
      · go_wp2
        go_round
        case rel => exact ⟨i + 1, y, by omega, by go_num, rfl, by omega, HY.out⟩
        case measure => simp [intOf]; omega
    · obtain rfl : n = i := by omega
      have := HB.out
      have := HX.out
      omega
end Go.Proofs.YteneiianpghalaaDoor
