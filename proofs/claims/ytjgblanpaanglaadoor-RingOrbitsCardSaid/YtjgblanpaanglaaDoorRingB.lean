/- The contracts of ring.check and ring.Step where they refuse. -/
import Derived.Test.YtjgblanpaanglaaDoorRingA
import Derived.WalkKit
import Derived.Lib.Hide
namespace Go.Proofs.YtjgblanpaanglaaDoor
open Go.RowKit
set_option linter.unusedVariables false
set_option maxRecDepth 100000

set_option maxHeartbeats 4000000 in
theorem ringcheck_err (k r : Int) (a : Option Addr) (n c : Nat) (l : List Int) (aw : Option Addr) (nw cw : Nat) (wl : List Int) (W : World) (R : Nat → Addr) (hG : Glob W R) (hR : RK .i64 W a n l) (hm : n ≤ maxLen) (hW : RK .i64 W aw nw wl) (hmw : nw ≤ maxLen) (h : ∀ kn rn : Nat, k = kn → r = rn → IsRule kn rn l → ¬ IsRing kn wl) :
    Calls Tryd.prog 34 #[ruleV k r a n c, .slice aw nw cw] W (ErrA W) := by
  have hmw' : nw ≤ 9223372036854775807 := hmw
  have HH := Lib.hid h; clear h
  have HG := Lib.hid hG; clear hG
  have HWL := Lib.hid hW.len
  have HR := Lib.hid hR; clear hR
  have HW := Lib.hid hW; clear hW
  obtain ⟨Wb, hWb⟩ : ∃ Wb, W.alloc (.cells #[.int .i64 k, .int .i64 r, .slice a n c] 24) = Wb := ⟨_, rfl⟩
  have HX : Hid (Wb.cell? ⟨W.heap.size, 0, none⟩ = some (.int .i64 k)) := by show _ = _; rw [← hWb]; simp
  have HSZ : Hid (W.heap.size < Wb.heap.size) := by show _ < _; rw [← hWb]; simp
  have HBX : Hid (Below W.heap.size W Wb) := by rw [← hWb]; exact balloc (bnil W) _
  have HWB := Lib.hid hWb; clear hWb
  cases he : ruleErr k r l with
  | some at_ =>
    have HE := Lib.hid he; clear he
    go_enter Tryd.func34, Tryd.ntmps34
    go_wp2_with fail
    rw [HWB.out]
    refine (rcheck_err k r a n c l _ R (HG.out.up HBX.out) (HR.out.up HBX.out) hm at_ HE.out).mono ?_; rintro e w1 ⟨g1, rfl, he1, hb1⟩
    have HB1 := Lib.hid (HBX.out.trans (hb1.mono HBX.out.size))
    clear he1 hb1
    go_wp2_with fail
    refine (undr_some _ _ _ _ _).mono ?_; rintro e w2 ⟨rfl, rfl⟩
    go_wp2
    go_ret
    exact ⟨_, rfl, balloc HB1.out _⟩
  | none =>
    obtain ⟨kn, rn, rfl, rfl, hI⟩ := ruleErr_none he
    have hno := HH.out kn rn rfl rfl hI
    have HI := Lib.hid hI; clear hI he HH
    by_cases h0 : nw = 0
    · subst h0
      clear hno
      go_enter Tryd.func34, Tryd.ntmps34
      go_wp2_with fail
      rw [HWB.out]
      refine (rcheck_ok kn rn a n c l _ (HR.out.up HBX.out) HI.out).mono ?_; rintro e w1 ⟨rfl, hb1⟩
      have HB1 := Lib.hid (HBX.out.trans (hb1.mono HBX.out.size))
      clear hb1
      go_wp2_with fail
      refine (ring_wrong _ _ _ R (HG.out.up HB1.out) (by rfl)).mono ?_; rintro e w' ⟨rfl, rfl⟩
      go_wp2
      go_ret
      exact ⟨_, rfl, balloc HB1.out _⟩
    · have hnz : ((nw : Int) == 0) = false := by rw [beq_eq_false_iff_ne]; omega
      by_cases hbig : 4096 < nw
      · clear hno
        go_enter Tryd.func34, Tryd.ntmps34
        go_wp2_with fail
        rw [HWB.out]
        refine (rcheck_ok kn rn a n c l _ (HR.out.up HBX.out) HI.out).mono ?_; rintro e w1 ⟨rfl, hb1⟩
        have HB1 := Lib.hid (HBX.out.trans (hb1.mono HBX.out.size))
        clear hb1
        go_wp2_with fail
        refine (ring_wrong _ _ _ R (HG.out.up HB1.out) (by rfl)).mono ?_; rintro e w' ⟨rfl, rfl⟩
        go_wp2
        go_ret
        exact ⟨_, rfl, balloc HB1.out _⟩
      · obtain ⟨i, hi⟩ : ∃ i, idxI (badB (kn : Int)) wl = i := ⟨_, rfl⟩
        have hi0 : 0 ≤ i := by
          by_cases hq : 0 ≤ i
          · exact hq
          · have hwl := HWL.out
            exact absurd ⟨by omega, by omega, fun x hx => badB_false.1 (idxI_neg (by rw [hi]; exact hq) x hx)⟩ hno
        have HII := Lib.hid hi
        clear hi hno
        have hmf : ∀ (fn : Fn) (first cap : Array Value) (w : World), (Instr.makeFunc fn first cap).run Tryd.prog w = .ok (.func fn first cap) w := fun _ _ _ _ => rfl
        have eg : ∀ args w, (callFunc 58 args).run Tryd.prog w = .ok (.enter 58 args) w := enters_of Tryd.func58 (by kernel_rfl) rfl
        have EG := Lib.hid eg; clear eg
        go_enter Tryd.func34, Tryd.ntmps34
        go_wp2_with fail
        rw [HWB.out]
        refine (rcheck_ok kn rn a n c l _ (HR.out.up HBX.out) HI.out).mono ?_; rintro e w1 ⟨rfl, hb1⟩
        have hx1 := (hb1.cell (p := ⟨W.heap.size, 0, none⟩) HSZ.out).trans HX.out
        have HP : Hid (PredOf 58 #[.pointer (some ⟨W.heap.size, 0, none⟩)] (badB kn) w1) := ring_pred kn W.heap.size _ (Nat.lt_of_lt_of_le HSZ.out hb1.size) hx1
        have HB1 := Lib.hid (HBX.out.trans (hb1.mono HBX.out.size))
        clear hb1 hx1
        go_wp2_with fail
        refine (indexFunc_any aw nw cw wl 58 _ (badB kn) _ (HW.out.up HB1.out) hmw EG.out HP.out).mono ?_; rintro e w' ⟨rfl, m, rfl⟩
        rw [HII.out]
        go_wp2_with fail
        refine (ring_wrong _ _ _ R (HG.out.up (below_drewN HB1.out m)) (by rfl)).mono ?_; rintro e w' ⟨rfl, rfl⟩
        go_wp2
        go_ret
        exact ⟨_, rfl, balloc (below_drewN HB1.out m) _⟩

theorem ringstep_err (k r : Int) (a : Option Addr) (n c : Nat) (l : List Int) (aw : Option Addr) (nw cw : Nat) (wl : List Int) (W : World) (R : Nat → Addr) (hG : Glob W R) (hR : RK .i64 W a n l) (hm : n ≤ maxLen) (hW : RK .i64 W aw nw wl) (hmw : nw ≤ maxLen) (h : ∀ kn rn : Nat, k = kn → r = rn → IsRule kn rn l → ¬ IsRing kn wl) :
    Calls Tryd.prog 15 #[ruleV k r a n c, .slice aw nw cw] W (ErrB W) := by
  have HH := Lib.hid h; clear h
  have HG := Lib.hid hG; clear hG
  have HR := Lib.hid hR; clear hR
  have HW := Lib.hid hW; clear hW
  obtain ⟨Wb, hWb⟩ : ∃ Wb, W.alloc (.cells #[.int .i64 k, .int .i64 r, .slice a n c] 24) = Wb := ⟨_, rfl⟩
  have HBX : Hid (Below W.heap.size W Wb) := by rw [← hWb]; exact balloc (bnil W) _
  have HWB := Lib.hid hWb; clear hWb
  go_enter Tryd.func15, Tryd.ntmps15
  go_wp2_with fail
  rw [HWB.out]
  refine (ringcheck_err k r a n c l aw nw cw wl _ R (HG.out.up HBX.out) (HR.out.up HBX.out) hm (HW.out.up HBX.out) hmw HH.out).mono ?_; rintro e w1 ⟨g1, rfl, hb1⟩
  go_wp2
  go_ret2
  exact ⟨_, rfl, HBX.out.trans (hb1.mono HBX.out.size)⟩
end Go.Proofs.YtjgblanpaanglaaDoor
