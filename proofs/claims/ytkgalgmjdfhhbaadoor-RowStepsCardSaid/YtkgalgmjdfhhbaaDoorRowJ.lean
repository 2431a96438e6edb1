/- The contract of edenref07.Check. -/
import Derived.Test.YtkgalgmjdfhhbaaDoorRowA
import Derived.Test.YtkgalgmjdfhhbaaDoorRefBad
import Derived.Test.YtkgalgmjdfhhbaaDoorRawE
import Derived.Test.YtkgalgmjdfhhbaaDoorRawF
import Derived.Test.YtkgalgmjdfhhbaaDoorRowD
import Derived.Deep.RegionHeld3
import Derived.Deep.RegionLaw
import Derived.WalkKit
import Derived.Lib.Hide
namespace Go.Proofs.YtkgalgmjdfhhbaaDoor
open Go.RowKit
set_option linter.unusedVariables false
set_option maxRecDepth 100000

/-- an error as the document has it -/
def RefErr (op : ByteArray) (at_ k : Int) (W : World) (e : Ending) (w' : World) : Prop := ∃ b1 b2, e = .returned (.agg #[.int .i64 k, .slice (some ⟨b1, 0, none⟩) 1 1, .slice (some ⟨b2, 0, none⟩) 1 1]) ∧ (W.heap.size ≤ b1 ∧ W.heap.size ≤ b2) ∧ WantIs w' (.agg #[.int .i64 k, .slice (some ⟨b1, 0, none⟩) 1 1, .slice (some ⟨b2, 0, none⟩) 1 1]) (some (op, at_, k)) ∧ Below W.heap.size W w'

set_option maxHeartbeats 8000000 in
theorem refcheck_front (k p : Int) (aL aC aR : Option Addr) (nL cL nC cC nR cR : Nat) (L C Q : List Int) (W : World) (hM : RowM W aL nL cL L aC nC cC C aR nR cR Q) (x : Int × Int) (he : rowErr k p L C Q = some x) (hx : x.2 ≠ 2) :
    Calls Tryd.prog 27 #[.int .i64 k, rowV p aL nL cL aC nC cC aR nR cR] W (RefErr opRow x.1 x.2 W) := by
  have mL := hM.l.nm
  have mC := hM.c.nm
  have mR := hM.r.nm
  unfold maxLen at mL mC mR
  have eL := hM.l.rk.len
  have eC := hM.c.rk.len
  have eR := hM.r.rk.len
  clear hM
  have hbx := balloc (bnil W) (.cells #[.int .i64 p, .slice aL nL cL, .slice aC nC cC, .slice aR nR cR] 26)
  unfold rowErr at he
  rw [← eL, ← eC, ← eR] at he
  clear eL eC eR
  by_cases c0 : k < 1
  · rw [if_pos (by omega)] at he
    cases he
    clear hx
    go_enter Tryd.func27, Tryd.ntmps27
    go_wp2_with fail
    refine (rawNew_fresh _ _ _ _ rfl).mono ?_; rintro e w5 ⟨b1, b2, rfl, l1, l2, hw5, hb5⟩
    obtain ⟨⟨q0, q1, q2⟩, f0, f1, f2⟩ := res3 (g := W.heap.size + 1) (by simp) hb5
    go_wp2
    obtain ⟨w6, e6, ⟨r0, r1, r2⟩, hw6, hb6⟩ := ref_fin (g := W.heap.size + 1) (by simp) hb5 (by simp at l1 ⊢; omega) (by simp at l2 ⊢; omega) hw5
    rw [e6]
    refine bodyPost_ret (v := .agg #[_, .slice (some ⟨b1, 0, none⟩) 1 1, .slice (some ⟨b2, 0, none⟩) 1 1]) (by simp [results, Tryd.results27, go_sem, r0, r1, r2]; rfl) rfl ?_
    exact ⟨_, _, rfl, ⟨by simp at l1; omega, by simp at l2; omega⟩, hw6, hbx.trans (hb6.mono hbx.size)⟩
  by_cases c1 : 4 < k
  · rw [if_pos (by omega)] at he
    cases he
    clear hx
    go_enter Tryd.func27, Tryd.ntmps27
    go_wp2_with fail
    refine (rawNew_fresh _ _ _ _ rfl).mono ?_; rintro e w5 ⟨b1, b2, rfl, l1, l2, hw5, hb5⟩
    obtain ⟨⟨q0, q1, q2⟩, f0, f1, f2⟩ := res3 (g := W.heap.size + 1) (by simp) hb5
    go_wp2
    obtain ⟨w6, e6, ⟨r0, r1, r2⟩, hw6, hb6⟩ := ref_fin (g := W.heap.size + 1) (by simp) hb5 (by simp at l1 ⊢; omega) (by simp at l2 ⊢; omega) hw5
    rw [e6]
    refine bodyPost_ret (v := .agg #[_, .slice (some ⟨b1, 0, none⟩) 1 1, .slice (some ⟨b2, 0, none⟩) 1 1]) (by simp [results, Tryd.results27, go_sem, r0, r1, r2]; rfl) rfl ?_
    exact ⟨_, _, rfl, ⟨by simp at l1; omega, by simp at l2; omega⟩, hw6, hbx.trans (hb6.mono hbx.size)⟩
  by_cases c2 : p < -4096
  · rw [if_neg (by omega), if_pos (by omega)] at he
    cases he
    clear hx
    go_enter Tryd.func27, Tryd.ntmps27
    go_wp2_with fail
    refine (rawNew_fresh _ _ _ _ rfl).mono ?_; rintro e w5 ⟨b1, b2, rfl, l1, l2, hw5, hb5⟩
    obtain ⟨⟨q0, q1, q2⟩, f0, f1, f2⟩ := res3 (g := W.heap.size + 1) (by simp) hb5
    go_wp2
    obtain ⟨w6, e6, ⟨r0, r1, r2⟩, hw6, hb6⟩ := ref_fin (g := W.heap.size + 1) (by simp) hb5 (by simp at l1 ⊢; omega) (by simp at l2 ⊢; omega) hw5
    rw [e6]
    refine bodyPost_ret (v := .agg #[_, .slice (some ⟨b1, 0, none⟩) 1 1, .slice (some ⟨b2, 0, none⟩) 1 1]) (by simp [results, Tryd.results27, go_sem, r0, r1, r2]; rfl) rfl ?_
    exact ⟨_, _, rfl, ⟨by simp at l1; omega, by simp at l2; omega⟩, hw6, hbx.trans (hb6.mono hbx.size)⟩
  by_cases c3 : 4096 < p
  · rw [if_neg (by omega), if_pos (by omega)] at he
    cases he
    clear hx
    go_enter Tryd.func27, Tryd.ntmps27
    go_wp2_with fail
    refine (rawNew_fresh _ _ _ _ rfl).mono ?_; rintro e w5 ⟨b1, b2, rfl, l1, l2, hw5, hb5⟩
    obtain ⟨⟨q0, q1, q2⟩, f0, f1, f2⟩ := res3 (g := W.heap.size + 1) (by simp) hb5
    go_wp2
    obtain ⟨w6, e6, ⟨r0, r1, r2⟩, hw6, hb6⟩ := ref_fin (g := W.heap.size + 1) (by simp) hb5 (by simp at l1 ⊢; omega) (by simp at l2 ⊢; omega) hw5
    rw [e6]
    refine bodyPost_ret (v := .agg #[_, .slice (some ⟨b1, 0, none⟩) 1 1, .slice (some ⟨b2, 0, none⟩) 1 1]) (by simp [results, Tryd.results27, go_sem, r0, r1, r2]; rfl) rfl ?_
    exact ⟨_, _, rfl, ⟨by simp at l1; omega, by simp at l2; omega⟩, hw6, hbx.trans (hb6.mono hbx.size)⟩
  by_cases c4 : nL = 0
  · rw [if_neg (by omega), if_neg (by omega), if_pos (by omega)] at he
    cases he
    clear hx
    subst c4
    go_enter Tryd.func27, Tryd.ntmps27
    go_wp2_with fail
    refine (rawNew_fresh _ _ _ _ rfl).mono ?_; rintro e w5 ⟨b1, b2, rfl, l1, l2, hw5, hb5⟩
    obtain ⟨⟨q0, q1, q2⟩, f0, f1, f2⟩ := res3 (g := W.heap.size + 1) (by simp) hb5
    go_wp2
    obtain ⟨w6, e6, ⟨r0, r1, r2⟩, hw6, hb6⟩ := ref_fin (g := W.heap.size + 1) (by simp) hb5 (by simp at l1 ⊢; omega) (by simp at l2 ⊢; omega) hw5
    rw [e6]
    refine bodyPost_ret (v := .agg #[_, .slice (some ⟨b1, 0, none⟩) 1 1, .slice (some ⟨b2, 0, none⟩) 1 1]) (by simp [results, Tryd.results27, go_sem, r0, r1, r2]; rfl) rfl ?_
    exact ⟨_, _, rfl, ⟨by simp at l1; omega, by simp at l2; omega⟩, hw6, hbx.trans (hb6.mono hbx.size)⟩
  have czL : ((nL : Int) == 0) = false := by rw [beq_eq_false_iff_ne]; omega
  by_cases c5 : nR = 0
  · rw [if_neg (by omega), if_neg (by omega), if_neg (by omega), if_pos (by omega)] at he
    cases he
    clear hx
    subst c5
    go_enter Tryd.func27, Tryd.ntmps27
    go_wp2_with fail
    refine (rawNew_fresh _ _ _ _ rfl).mono ?_; rintro e w5 ⟨b1, b2, rfl, l1, l2, hw5, hb5⟩
    obtain ⟨⟨q0, q1, q2⟩, f0, f1, f2⟩ := res3 (g := W.heap.size + 1) (by simp) hb5
    go_wp2
    obtain ⟨w6, e6, ⟨r0, r1, r2⟩, hw6, hb6⟩ := ref_fin (g := W.heap.size + 1) (by simp) hb5 (by simp at l1 ⊢; omega) (by simp at l2 ⊢; omega) hw5
    rw [e6]
    refine bodyPost_ret (v := .agg #[_, .slice (some ⟨b1, 0, none⟩) 1 1, .slice (some ⟨b2, 0, none⟩) 1 1]) (by simp [results, Tryd.results27, go_sem, r0, r1, r2]; rfl) rfl ?_
    exact ⟨_, _, rfl, ⟨by simp at l1; omega, by simp at l2; omega⟩, hw6, hbx.trans (hb6.mono hbx.size)⟩
  have czR : ((nR : Int) == 0) = false := by rw [beq_eq_false_iff_ne]; omega
  by_cases c6 : 8192 < nL
  · rw [if_neg (by omega), if_neg (by omega), if_neg (by omega), if_neg (by omega), if_pos (by omega)] at he
    cases he
    clear hx
    go_enter Tryd.func27, Tryd.ntmps27
    go_wp2_with fail
    refine (rawNew_fresh _ _ _ _ rfl).mono ?_; rintro e w5 ⟨b1, b2, rfl, l1, l2, hw5, hb5⟩
    obtain ⟨⟨q0, q1, q2⟩, f0, f1, f2⟩ := res3 (g := W.heap.size + 1) (by simp) hb5
    go_wp2
    obtain ⟨w6, e6, ⟨r0, r1, r2⟩, hw6, hb6⟩ := ref_fin (g := W.heap.size + 1) (by simp) hb5 (by simp at l1 ⊢; omega) (by simp at l2 ⊢; omega) hw5
    rw [e6]
    refine bodyPost_ret (v := .agg #[_, .slice (some ⟨b1, 0, none⟩) 1 1, .slice (some ⟨b2, 0, none⟩) 1 1]) (by simp [results, Tryd.results27, go_sem, r0, r1, r2]; rfl) rfl ?_
    exact ⟨_, _, rfl, ⟨by simp at l1; omega, by simp at l2; omega⟩, hw6, hbx.trans (hb6.mono hbx.size)⟩
  by_cases c7 : 8192 < nR
  · rw [if_neg (by omega), if_neg (by omega), if_neg (by omega), if_neg (by omega), if_neg (by omega), if_pos (by omega)] at he
    cases he
    clear hx
    go_enter Tryd.func27, Tryd.ntmps27
    go_wp2_with fail
    refine (rawNew_fresh _ _ _ _ rfl).mono ?_; rintro e w5 ⟨b1, b2, rfl, l1, l2, hw5, hb5⟩
    obtain ⟨⟨q0, q1, q2⟩, f0, f1, f2⟩ := res3 (g := W.heap.size + 1) (by simp) hb5
    go_wp2
    obtain ⟨w6, e6, ⟨r0, r1, r2⟩, hw6, hb6⟩ := ref_fin (g := W.heap.size + 1) (by simp) hb5 (by simp at l1 ⊢; omega) (by simp at l2 ⊢; omega) hw5
    rw [e6]
    refine bodyPost_ret (v := .agg #[_, .slice (some ⟨b1, 0, none⟩) 1 1, .slice (some ⟨b2, 0, none⟩) 1 1]) (by simp [results, Tryd.results27, go_sem, r0, r1, r2]; rfl) rfl ?_
    exact ⟨_, _, rfl, ⟨by simp at l1; omega, by simp at l2; omega⟩, hw6, hbx.trans (hb6.mono hbx.size)⟩
  by_cases c8 : 16384 < nC
  · rw [if_neg (by omega), if_neg (by omega), if_neg (by omega), if_neg (by omega), if_neg (by omega), if_neg (by omega), if_pos (by omega)] at he
    cases he
    clear hx
    go_enter Tryd.func27, Tryd.ntmps27
    go_wp2_with fail
    refine (rawNew_fresh _ _ _ _ rfl).mono ?_; rintro e w5 ⟨b1, b2, rfl, l1, l2, hw5, hb5⟩
    obtain ⟨⟨q0, q1, q2⟩, f0, f1, f2⟩ := res3 (g := W.heap.size + 1) (by simp) hb5
    go_wp2
    obtain ⟨w6, e6, ⟨r0, r1, r2⟩, hw6, hb6⟩ := ref_fin (g := W.heap.size + 1) (by simp) hb5 (by simp at l1 ⊢; omega) (by simp at l2 ⊢; omega) hw5
    rw [e6]
    refine bodyPost_ret (v := .agg #[_, .slice (some ⟨b1, 0, none⟩) 1 1, .slice (some ⟨b2, 0, none⟩) 1 1]) (by simp [results, Tryd.results27, go_sem, r0, r1, r2]; rfl) rfl ?_
    exact ⟨_, _, rfl, ⟨by simp at l1; omega, by simp at l2; omega⟩, hw6, hbx.trans (hb6.mono hbx.size)⟩
  rw [if_neg (by omega), if_neg (by omega), if_neg (by omega), if_neg (by omega), if_neg (by omega), if_neg (by omega), if_neg (by omega)] at he
  split at he
  · cases he
    exact absurd rfl hx
  · cases he
end Go.Proofs.YtkgalgmjdfhhbaaDoor
