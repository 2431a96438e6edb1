/- The contract of edenref03.Bad. -/
import Derived.Test.YteneiianpghalaaDoorIdx
import Derived.WalkKit
import Derived.Lib.Hide
namespace Go.Proofs.YteneiianpghalaaDoor
open Go.RowKit
set_option linter.unusedVariables false
set_option maxRecDepth 100000

set_option maxHeartbeats 2000000 in
theorem refBad_any (k : Int) (a : Option Addr) (n c : Nat) (l : List Int) (W : World) (hR : RK .i64 W a n l) (hm : n ≤ maxLen) :
    Calls Tryd.prog 132 #[.int .i64 k, .slice a n c] W fun e w' => e = .returned (.int .i64 (idxI (badB k) l)) ∧ W = w' := by
  unfold maxLen at hm
  have HL := Lib.hid hR.len
  have HR := Lib.hid hR; clear hR
  go_enter Tryd.func132, Tryd.ntmps132
  go_wp2_with fail
  go_loop [5] (fun ix => ∃ i : Nat, i ≤ n ∧ ix = .int .i64 i ∧ Hid (∀ x ∈ l.take i, badB k x = false)) (fun ix => n - (intOf ix).toNat)
  case atStart => exact ⟨0, by omega, rfl, fun x hx => by simp at hx⟩
  case round =>
    obtain ⟨i, hi, rfl, HT⟩ := hrel
    by_cases hin : i < n
    · obtain ⟨b, o, rfl, hbo, hc⟩ := HR.out.addr (by omega)
      have z0 := hc i hin
      obtain ⟨z, hz⟩ : ∃ z, l.getD i 0 = z := ⟨_, rfl⟩
      rw [hz] at z0
      have HZ := Lib.hid hz
      clear hc hz
      have i0 : (0 : Int) ≤ (i : Int) := by omega
      have i1 : (i : Int) < (n : Int) := by omega
      by_cases hz0 : z < 0
      · have HX : Hid (idxI (badB k) l = (i : Int)) := findIdx_at (by have := HL.out; omega) HT.out (by rw [HZ.out]; exact badB_true.2 (.inl hz0))
        go_wp2
        go_ret
        rw [HX.out]
        exact ⟨rfl, rfl⟩
      · by_cases hzk : k ≤ z
        · have HX : Hid (idxI (badB k) l = (i : Int)) := findIdx_at (by have := HL.out; omega) HT.out (by rw [HZ.out]; exact badB_true.2 (.inr hzk))
          go_wp2
          go_ret
          rw [HX.out]
          exact ⟨rfl, rfl⟩
        · have HX : Hid (∀ x ∈ l.take (i + 1), badB k x = false) := all_take_succ (by have := HL.out; omega) HT.out (by rw [HZ.out]; exact badB_false.2 ⟨by omega, by omega⟩)
          go_wp2
          go_round
          case rel => exact ⟨i + 1, by omega, by go_num, HX⟩
          case measure => simp [intOf]; omega
    · obtain rfl : i = n := by omega
      have HX : Hid (idxI (badB k) l = -1) := findIdx_none (by have := HT.out; rwa [List.take_of_length_le (by have := HL.out; omega)] at this)
      go_wp2
      go_ret
      rw [HX.out]
      exact ⟨rfl, rfl⟩
end Go.Proofs.YteneiianpghalaaDoor
