/- The contract of ring.Neck. -/
import Derived.Test.YtjgblanpaanglaaDoorWordL
import Derived.Test.YtjgblanpaanglaaDoorWTr
import Derived.Test.YtjgblanpaanglaaDoorRngW
import Derived.Deep.QuietTactic
import Derived.BigQuiet
namespace Go.Proofs.YtjgblanpaanglaaDoor
open Go.RowKit
set_option linter.unusedVariables false
set_option maxRecDepth 100000

theorem turnAt_lt {m n : Nat} (h : m < n) : turnAt (m : Int) n = m := by
  unfold turnAt
  rw [Int.emod_eq_of_lt (by omega) (by omega)]
  rfl
set_option maxHeartbeats 4000000 in
theorem neck_ok (a : Option Addr) (n c : Nat) (l : List Int) (W : World) (hW : SlI W a n c l) (hn : 0 < n) :
    Calls Tryd.prog 17 #[.slice a n c] W fun e w' => ∃ (m : Nat) (a' : Option Addr) (c' : Nat), e = .returned (.tuple #[.slice a' n c', .nilIface]) ∧ IsLeast l m ∧ OwI w' W.heap.size a' n c' (rot l m) ∧ Below W.heap.size W w' := by
  have HW := Lib.hid hW
  have h8 := hW.n8
  have hnm := hW.nm
  clear hW
  have n0 : ((n : Int) == 0) = false := by rw [beq_eq_false_iff_ne]; omega
  go_enter Tryd.func17, Tryd.ntmps17
  go_wp2_with fail
  refine (least_any a n c l _ HW.out.rk hn h8).mono ?_; rintro e w1 ⟨m, hm, rfl, hb1⟩
  have HM := Lib.hid hm
  have hlt : m < n := by rw [HW.out.rk.len]; exact hm.lt
  clear hm
  have HB1 := Lib.hid hb1
  go_wp2_with fail
  refine (turn_any a n c l m _ (HW.out.rk.up HB1.out) HW.out.le h8 HW.out.mx HW.out.nn).mono ?_; rintro e w2 ⟨a', c', rfl, ho, hb2⟩
  rw [turnAt_lt hlt] at ho
  have HO := Lib.hid ho
  clear ho
  go_wp2
  go_ret2
  exact ⟨m, a', c', rfl, HM.out, ⟨owns_base HO.out HB1.out.size⟩, bstep HB1.out hb2⟩
end Go.Proofs.YtjgblanpaanglaaDoor
