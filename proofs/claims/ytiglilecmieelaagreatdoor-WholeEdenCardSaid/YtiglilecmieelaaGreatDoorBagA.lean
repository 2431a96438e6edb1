/- Package bag: Len, set. -/
import Derived.Test.YtiglilecmieelaaGreatDoorBase
import Derived.Test.YtiglilecmieelaaGreatDoorInts
import Derived.WalkKit
import Derived.Lib.Hide
import Derived.Maps.OwnSet
import Derived.Maps.OwnOps
namespace Go.Proofs.YtiglilecmieelaaGreatDoor
open Go.RowKit
set_option linter.unusedVariables false
set_option maxRecDepth 100000

set_option maxHeartbeats 1000000 in
theorem blen_ok (g : Nat) (a : Option Addr) (m c : Nat) (w : World) (h1 : w.cell? ⟨g, 1, none⟩ = some (.slice a m c)) :
    Calls Tryz.prog 20 #[.pointer (some ⟨g, 0, none⟩)] w fun e w' => e = .returned (.int .i64 (m : Nat)) ∧ w' = w := by
  go_enter Tryz.func20, Tryz.ntmps20
  go_wp2
  go_ret
  exact ⟨rfl, rfl⟩
set_option maxHeartbeats 1000000 in
theorem bset_ok (g j : Nat) (b o m c : Nat) (at_ : Int) (v : Value) (w : World) (h1 : w.cell? ⟨g, 1, none⟩ = some (.slice (some ⟨b, o, none⟩) m c)) (hv : w.cell? ⟨b, o + j, none⟩ = some v) (hj : j < m) (hm : m ≤ 1000000) :
    Calls Tryz.prog 61 #[.pointer (some ⟨g, 0, none⟩), .int .i64 j, .int .i64 at_] w fun e w' => e = .returned (.tuple #[v, .nilIface]) ∧ w' = w := by
  have g0 : (0 : Int) ≤ (j : Int) := by omega
  have g1 : (j : Int) < (m : Int) := by omega
  clear hm
  go_enter Tryz.func61, Tryz.ntmps61
  go_wp2_with fail
  go_ret2
  exact ⟨rfl, rfl⟩
set_option maxHeartbeats 1000000 in
theorem bnew_ok (n : Nat) (w : World) (hn : n ≤ 8192) :
    Calls Tryz.prog 18 #[.int .i64 n] w fun e w' => e = .returned (.tuple #[.pointer (some ⟨w.heap.size + 1, 0, none⟩), .nilIface]) ∧ w' = (w.alloc (.map #[] 0)).alloc (.cells #[.int .i64 n, .slice none 0 0, .map (some w.heap.size)] 106) := by
  have g0 : (0 : Int) ≤ (n : Int) := by omega
  have g1 : ¬ (8192 : Int) < (n : Int) := by omega
  have hmm := @run_makeMap Tryz.prog
  clear hn
  go_enter Tryz.func18, Tryz.ntmps18
  go_wp2_with fail
  go_ret2
  exact ⟨by simp, rfl⟩
end Go.Proofs.YtiglilecmieelaaGreatDoor
