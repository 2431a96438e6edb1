/- The contract of slices.Equal over numbers. -/
import Derived.Test.YtnmegpplfbkpcaaDoorInts
import Derived.WalkKit
import Derived.Deep.QuietTactic
import Derived.BigQuiet
import Derived.Lib.Hide
namespace Go.Proofs.YtnmegpplfbkpcaaDoor
open Go.RowKit
set_option linter.unusedVariables false
set_option maxRecDepth 100000

set_option maxHeartbeats 1000000 in
theorem slEq_any (a1 a2 : Option Addr) (n1 n2 c1 c2 : Nat) (l1 l2 : List Int) (W : World) (hR1 : RK .i64 W a1 n1 l1) (hR2 : RK .i64 W a2 n2 l2) (hm1 : n1 ≤ maxLen) (hm2 : n2 ≤ maxLen) :
    Calls Tryd.prog 35 #[.slice a1 n1 c1, .slice a2 n2 c2] W fun e w' => e = .returned (.bool (decide (l1 = l2))) ∧ ∃ n, w' = W.drewN n := by
  unfold maxLen at hm1 hm2
  have hl1 := hR1.len
  have hl2 := hR2.len
  have HR1 := Lib.hid hR1; clear hR1
  have HR2 := Lib.hid hR2; clear hR2
  by_cases hlen : n1 = n2
  · have hn1 : n1 ≤ n2 := by omega
    have hn2 : n2 ≤ n1 := by omega
    have hne : ((n1 : Int) != (n2 : Int)) = false := by simp; omega
    clear hlen
    have g1 : n1 ≤ l1.length := by omega
    have g2 : n2 ≤ l2.length := by omega
    have HL1 := Lib.hid hl1; clear hl1
    have HL2 := Lib.hid hl2; clear hl2
    go_enter Tryd.func35, Tryd.ntmps35
    go_wp2_with fail
    clear hne
    go_loopw [13] (fun i wr => ∃ (k n : Nat), k ≤ n1 ∧ i = .int .i64 k ∧ l1.take k = l2.take k ∧ wr = W.drewN n) (fun i _ => n1 - (intOf i).toNat)
    case atStart => exact ⟨0, 0, by omega, rfl, rfl, rfl⟩
    case round =>
      obtain ⟨k, n, hk, rfl, heq, rfl⟩ := hrel
      by_cases hlt : k < n1
      · have hlt2 : k < n2 := by omega
        obtain ⟨b1, o1, rfl, hbo1, hc1⟩ := HR1.out.addr (by omega)
        obtain ⟨b2, o2, rfl, hbo2, hc2⟩ := HR2.out.addr (by omega)
        have x0 := hc1 k hlt
        have y0 := hc2 k hlt2
        clear hc1 hc2
        have HE : Hid (l1.getD k 0 = l2.getD k 0 → l1.take (k + 1) = l2.take (k + 1)) := fun h => take_eq_step (by omega) (by omega) heq h
        have HN : Hid (¬ l1.getD k 0 = l2.getD k 0 → decide (l1 = l2) = false) := fun h => by
          rw [decide_eq_false_iff_not]; intro e; subst e; exact h rfl
        clear heq
        have i0 : (0 : Int) ≤ (k : Int) := by omega
        have i1 : (k : Int) < (n1 : Int) := by omega
        have i2 : (k : Int) < (n2 : Int) := by omega
        generalize l1.getD k 0 = z1 at *
        generalize l2.getD k 0 = z2 at *
        by_cases hz : z1 = z2
        · have HE2 := Lib.hid (HE.out hz)
          have hne : (z1 != z2) = false := by simpa using hz
          clear hz
          go_wp2_with fail
          go_quiet (fail)
          go_wp2
          go_roundw
          case rel => exact ⟨k + 1, _, by omega, by go_num, HE2.out, rfl⟩
          case measure => simp [intOf]; omega
        · have HE2 := Lib.hid (HN.out hz)
          have hne : (z1 != z2) = true := by simpa using hz
          clear hz
          go_wp2_with fail
          go_quiet (fail)
          go_wp2
          go_ret
          rw [HE2.out]
          exact ⟨rfl, n + nq, by simp⟩
      · have hfin : decide (l1 = l2) = true := by
          rw [decide_eq_true_eq]
          have := HL1.out; have := HL2.out
          rw [List.take_of_length_le (by omega), List.take_of_length_le (by omega)] at heq
          exact heq
        have HF := Lib.hid hfin
        clear heq hfin
        go_wp2
        go_ret
        rw [HF.out]
        exact ⟨rfl, _, rfl⟩
  · have hfin : decide (l1 = l2) = false := by
      rw [decide_eq_false_iff_not]; intro e; subst e; omega
    have hne : ((n1 : Int) != (n2 : Int)) = true := by simp; omega
    rw [hfin]
    clear hfin hlen hl1 hl2
    go_enter Tryd.func35, Tryd.ntmps35
    go_wp2
    go_ret
    exact ⟨rfl, 0, rfl⟩

end Go.Proofs.YtnmegpplfbkpcaaDoor
