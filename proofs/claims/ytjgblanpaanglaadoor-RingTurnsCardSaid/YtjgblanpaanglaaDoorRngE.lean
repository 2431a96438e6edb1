/- ring.walk and ring.After where they refuse. -/
import Derived.Test.YtjgblanpaanglaaDoorRngW
namespace Go.Proofs.YtjgblanpaanglaaDoor
open Go.RowKit
set_option linter.unusedVariables false
set_option maxRecDepth 100000

theorem rwalk_err (k r t : Int) (a : Option Addr) (n c : Nat) (l : List Int) (aw : Option Addr) (nw cw : Nat) (wl : List Int) (fv : Value) (W : World) (R : Nat → Addr) (hG : Glob W R) (hR : RK .i64 W a n l) (hm : n ≤ maxLen) (hW : RK .i64 W aw nw wl) (hmw : nw ≤ maxLen) (h : ∀ kn rn : Nat, k = kn → r = rn → IsRule kn rn l → ¬ IsRing kn wl) :
    Calls Tryd.prog 31 #[ruleV k r a n c, .slice aw nw cw, .int .i64 t, fv] W (ErrB W) := by
  have HH := Lib.hid h; clear h
  have HG := Lib.hid hG; clear hG
  have HR := Lib.hid hR; clear hR
  have HW := Lib.hid hW; clear hW
  obtain ⟨Wb, hWb⟩ : ∃ Wb, W.alloc (.cells #[.int .i64 k, .int .i64 r, .slice a n c] 24) = Wb := ⟨_, rfl⟩
  have HBX : Hid (Below W.heap.size W Wb) := by rw [← hWb]; exact balloc (bnil W) _
  have HWB := Lib.hid hWb; clear hWb
  go_enter Tryd.func31, Tryd.ntmps31
  go_wp2_with fail
  rw [HWB.out]
  refine (ringcheck_err k r a n c l aw nw cw wl _ R (HG.out.up HBX.out) (HR.out.up HBX.out) hm (HW.out.up HBX.out) hmw HH.out).mono ?_; rintro e w1 ⟨g1, rfl, hb1⟩
  go_wp2
  go_ret2
  exact ⟨_, rfl, HBX.out.trans (hb1.mono HBX.out.size)⟩
theorem rafter_err (k r t : Int) (a : Option Addr) (n c : Nat) (l : List Int) (aw : Option Addr) (nw cw : Nat) (wl : List Int) (W : World) (R : Nat → Addr) (hG : Glob W R) (hR : RK .i64 W a n l) (hm : n ≤ maxLen) (hW : RK .i64 W aw nw wl) (hmw : nw ≤ maxLen) (h : ∀ kn rn : Nat, k = kn → r = rn → IsRule kn rn l → ¬ IsRing kn wl) :
    Calls Tryd.prog 10 #[ruleV k r a n c, .slice aw nw cw, .int .i64 t] W (ErrB W) := by
  obtain ⟨Wb, hWb⟩ : ∃ Wb, W.alloc (.cells #[.int .i64 k, .int .i64 r, .slice a n c] 24) = Wb := ⟨_, rfl⟩
  have HBX : Hid (Below W.heap.size W Wb) := by rw [← hWb]; exact balloc (bnil W) _
  have HWB := Lib.hid hWb; clear hWb
  go_enter Tryd.func10, Tryd.ntmps10
  go_wp2_with fail
  rw [HWB.out]
  refine (rwalk_err k r t a n c l aw nw cw wl _ _ R (hG.up HBX.out) (hR.up HBX.out) hm (hW.up HBX.out) hmw h).mono ?_; rintro e w1 ⟨g1, rfl, hb1⟩
  go_wp2
  go_ret2
  exact ⟨_, rfl, HBX.out.trans (hb1.mono HBX.out.size)⟩
end Go.Proofs.YtjgblanpaanglaaDoor
