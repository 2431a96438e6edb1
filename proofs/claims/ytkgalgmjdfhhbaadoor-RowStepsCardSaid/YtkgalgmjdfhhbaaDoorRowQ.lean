/- The contracts of edenref07.Cell, edenref07.Cut, for all arguments. -/
import Derived.Test.YtkgalgmjdfhhbaaDoorRowO
import Derived.Test.YtkgalgmjdfhhbaaDoorBox7
namespace Go.Proofs.YtkgalgmjdfhhbaaDoor
open Go.RowKit
set_option linter.unusedVariables false
set_option maxRecDepth 100000

set_option maxHeartbeats 8000000 in
theorem refcell_any (k p i : Int)  (aL aC aR : Option Addr) (nL cL nC cC nR cR : Nat) (L C Q : List Int) (W : World) (hM : RowM W aL nL cL L aC nC cC C aR nR cR Q) :
    Calls Tryd.prog 24 #[.int .i64 k, rowV p aL nL cL aC nC cC aR nR cR, .int .i64 i ] W (WithRef W (.int .i64 (cellV k p L C Q i)) (tell opRow (cellErr k p L C Q i))) := by
  obtain ⟨Wb, hWb⟩ : ∃ Wb, (W.alloc (.cells #[.int .i64 p, .slice aL nL cL, .slice aC nC cC, .slice aR nR cR] 26)).alloc (.cells #[.int .i64 0, .slice none 0 0, .slice none 0 0] 47) = Wb := ⟨_, rfl⟩
  have HX : Hid (Wb.cell? ⟨W.heap.size, 0, none⟩ = some (.int .i64 p) ∧ Wb.cell? ⟨W.heap.size, 1, none⟩ = some (.slice aL nL cL) ∧ Wb.cell? ⟨W.heap.size, 2, none⟩ = some (.slice aC nC cC) ∧ Wb.cell? ⟨W.heap.size, 3, none⟩ = some (.slice aR nR cR)) := by rw [← hWb]; exact ⟨cell_al _ (by simp), cell_al _ (by simp), cell_al _ (by simp), cell_al _ (by simp)⟩
  have HSZ : Hid (Wb.heap.size = W.heap.size + 2) := by show _ = _; rw [← hWb]; simp
  have HS0 : Hid (W.heap.size < Wb.heap.size) := by show _ < _; have := HSZ.out; omega
  have HBX : Hid (Below W.heap.size W Wb) := by rw [← hWb]; exact balloc (balloc (bnil W) _) _
  have HBX1 := Lib.hid (balloc (bnil W) (.cells #[.int .i64 p, .slice aL nL cL, .slice aC nC cC, .slice aR nR cR] 26))
  have HM := Lib.hid hM; clear hM
  have HWB := Lib.hid hWb; clear hWb
  cases hr : rowErr k p L C Q with
  | some x =>
    obtain ⟨at_, n0⟩ := x
    have hc : cellErr k p L C Q i = some (at_, n0) := by unfold cellErr; rw [hr]
    have HC := Lib.hid hc
    have HR := Lib.hid hr
    have hn0 : (n0 != 0) = true := by have := rowErr_ne hr; simpa using this
    clear hc hr
    go_enter Tryd.func24, Tryd.ntmps24
    go_wp2_with fail
    rw [HWB.out]
    refine (refcheck_er k p aL aC aR nL cL nC cC nR cR L C Q _ (HM.out.up HBX.out) at_ n0 HR.out).mono ?_; rintro e w1 ⟨b1, b2, rfl, ⟨l1, l2⟩, hw1, hb1⟩
    obtain ⟨We, hWe⟩ : ∃ We, w1.alloc (.cells #[.int .i64 n0, .slice (some ⟨b1, 0, none⟩) 1 1, .slice (some ⟨b2, 0, none⟩) 1 1] 47) = We := ⟨_, rfl⟩
    have hbe : Below w1.heap.size w1 We := by rw [← hWe]; exact balloc (bnil w1) _
    have HWT := Lib.hid (hw1.up hbe)
    have HC1 := Lib.hid (hb1.trans (hbe.mono hb1.size))
    have LB := Lib.hid (show W.heap.size + 1 < b1 ∧ W.heap.size + 1 < b2 by have := HSZ.out; omega)
    have HWE := Lib.hid hWe
    clear hb1 hbe hWe hw1 l1 l2
    go_wp2_with fail
    rw [HWE.out]
    refine (rawBad_any _ _ _ _).mono ?_; rintro e w8 ⟨rfl, hb8⟩
    have hz8 := HC1.out.trans (hb8.mono HC1.out.size)
    have HWT8 := HWT.out.up hb8
    rw [← HWB.out] at hz8
    have he8 := hb8
    rw [← HWE.out] at he8
    obtain ⟨⟨v0, v1, v2⟩, g0, g1, g2⟩ := res3 rfl he8
    obtain ⟨⟨q0, q1, q2⟩, f0, f1, f2⟩ := res3 (g := W.heap.size + 1) (by simp) hz8
    go_wp2
    go_region
    obtain ⟨w9, e9, ⟨r0, r1, r2⟩, hb9, hk9, hs9⟩ := res3_set (g := W.heap.size + 1) (u0 := .int .i64 n0) (u1 := .slice (some ⟨b1, 0, none⟩) 1 1) (u2 := .slice (some ⟨b2, 0, none⟩) 1 1) (by simp) hz8
    rw [e9]
    go_wp2
    refine bodyPost_ret (v := .tuple #[.int .i64 0, .agg #[.int .i64 n0, .slice (some ⟨b1, 0, none⟩) 1 1, .slice (some ⟨b2, 0, none⟩) 1 1]]) (by simp [results, Tryd.results24, go_sem, r0, r1, r2]) rfl ?_
    have hw9 := (HWT8.other hk9 hs9 (by have := LB.out; omega) (by have := LB.out; omega)).up (Below.drew (bnil w9))
    have hb := Below.drew (HBX1.out.trans (hb9.mono HBX1.out.size))
    exact ⟨n0, _, 1, 1, _, 1, 1, by unfold cellV; rw [if_neg (by rw [HC.out]; simp)], by rw [HC.out]; exact hw9, hb⟩
  | none =>
    have HR := Lib.hid hr
    have hHR := hr
    obtain ⟨kn, rfl, hrow⟩ := rowErr_none hr
    have HROW := Lib.hid hrow
    have hp1 := hrow.p1
    have hp2 := hrow.p2
    have hl : 0 < nL := by rw [HM.out.l.rk.len]; exact hrow.l1
    have hq : 0 < nR := by rw [HM.out.r.rk.len]; exact hrow.r1
    clear hrow
    cases hpl : placeB i with
    | false =>
      have hc : cellErr (kn : Int) p L C Q i = some (5, 3) := by unfold cellErr; rw [hHR, hpl]; rfl
      have HC := Lib.hid hc
      have hpd : decide (-1048576 ≤ i ∧ i ≤ 1048576) = false := hpl
      have hpd2 := of_decide_eq_false hpd
      clear hc hr hHR hpl hpd
      by_cases hi1 : i < -1048576
      · clear hpd2
        go_enter Tryd.func24, Tryd.ntmps24
        go_wp2_with fail
        rw [HWB.out]
        refine (refcheck_ok0 kn p aL aC aR nL cL nC cC nR cR L C Q _ (HM.out.up HBX.out) HR.out).mono ?_; rintro e w1 ⟨rfl, hb1⟩
        obtain ⟨We, hWe⟩ : ∃ We, w1.alloc (.cells #[.int .i64 0, .slice none 0 0, .slice none 0 0] 47) = We := ⟨_, rfl⟩
        have hbe : Below w1.heap.size w1 We := by rw [← hWe]; exact balloc (bnil w1) _
        have HC1 := Lib.hid (hb1.trans (hbe.mono hb1.size))
        have HB1 := Lib.hid (HBX.out.trans (HC1.out.mono HBX.out.size))
        have HWE := Lib.hid hWe
        clear hb1 hbe hWe
        go_wp2_with fail
        rw [HWE.out]
        refine (rawBad_any _ _ _ _).mono ?_; rintro e w2 ⟨rfl, hb2⟩
        have HC2 := Lib.hid (HC1.out.trans (hb2.mono HC1.out.size))
        have HB2 := Lib.hid (bstep HB1.out hb2)
        clear hb2
        go_wp2_with fail
        refine (rawNew_fresh _ _ _ _ rfl).mono ?_; rintro e w8 ⟨b1, b2, rfl, lb1, lb2, hw8, hb8⟩
        have hz := HC2.out.trans (hb8.mono HC2.out.size)
        have LB := Lib.hid (show W.heap.size + 1 < b1 ∧ W.heap.size + 1 < b2 by have := HSZ.out; have := HC2.out.size; omega)
        rw [← HWB.out] at hz
        obtain ⟨⟨q0, q1, q2⟩, f0, f1, f2⟩ := res3 (g := W.heap.size + 1) (by simp) hz
        go_wp2
        obtain ⟨w9, e9, ⟨r0, r1, r2⟩, hb9, hk9, hs9⟩ := res3_set (g := W.heap.size + 1) (u0 := .int .i64 3) (u1 := .slice (some ⟨b1, 0, none⟩) 1 1) (u2 := .slice (some ⟨b2, 0, none⟩) 1 1) (by simp) hz
        rw [e9]
        refine bodyPost_ret (v := .tuple #[.int .i64 0, .agg #[.int .i64 3, .slice (some ⟨b1, 0, none⟩) 1 1, .slice (some ⟨b2, 0, none⟩) 1 1]]) (by simp [results, Tryd.results24, go_sem, r0, r1, r2]) rfl ?_
        have hw9 := hw8.other hk9 hs9 (by have := LB.out; omega) (by have := LB.out; omega)
        have hb := HBX1.out.trans (hb9.mono HBX1.out.size)
        exact ⟨3, _, 1, 1, _, 1, 1, by unfold cellV; rw [if_neg (by rw [HC.out]; simp)], by rw [HC.out]; exact hw9, hb⟩
      · have hi2 : 1048576 < i := by omega
        clear hpd2
        go_enter Tryd.func24, Tryd.ntmps24
        go_wp2_with fail
        rw [HWB.out]
        refine (refcheck_ok0 kn p aL aC aR nL cL nC cC nR cR L C Q _ (HM.out.up HBX.out) HR.out).mono ?_; rintro e w1 ⟨rfl, hb1⟩
        obtain ⟨We, hWe⟩ : ∃ We, w1.alloc (.cells #[.int .i64 0, .slice none 0 0, .slice none 0 0] 47) = We := ⟨_, rfl⟩
        have hbe : Below w1.heap.size w1 We := by rw [← hWe]; exact balloc (bnil w1) _
        have HC1 := Lib.hid (hb1.trans (hbe.mono hb1.size))
        have HB1 := Lib.hid (HBX.out.trans (HC1.out.mono HBX.out.size))
        have HWE := Lib.hid hWe
        clear hb1 hbe hWe
        go_wp2_with fail
        rw [HWE.out]
        refine (rawBad_any _ _ _ _).mono ?_; rintro e w2 ⟨rfl, hb2⟩
        have HC2 := Lib.hid (HC1.out.trans (hb2.mono HC1.out.size))
        have HB2 := Lib.hid (bstep HB1.out hb2)
        clear hb2
        go_wp2_with fail
        refine (rawNew_fresh _ _ _ _ rfl).mono ?_; rintro e w8 ⟨b1, b2, rfl, lb1, lb2, hw8, hb8⟩
        have hz := HC2.out.trans (hb8.mono HC2.out.size)
        have LB := Lib.hid (show W.heap.size + 1 < b1 ∧ W.heap.size + 1 < b2 by have := HSZ.out; have := HC2.out.size; omega)
        rw [← HWB.out] at hz
        obtain ⟨⟨q0, q1, q2⟩, f0, f1, f2⟩ := res3 (g := W.heap.size + 1) (by simp) hz
        go_wp2
        obtain ⟨w9, e9, ⟨r0, r1, r2⟩, hb9, hk9, hs9⟩ := res3_set (g := W.heap.size + 1) (u0 := .int .i64 3) (u1 := .slice (some ⟨b1, 0, none⟩) 1 1) (u2 := .slice (some ⟨b2, 0, none⟩) 1 1) (by simp) hz
        rw [e9]
        refine bodyPost_ret (v := .tuple #[.int .i64 0, .agg #[.int .i64 3, .slice (some ⟨b1, 0, none⟩) 1 1, .slice (some ⟨b2, 0, none⟩) 1 1]]) (by simp [results, Tryd.results24, go_sem, r0, r1, r2]) rfl ?_
        have hw9 := hw8.other hk9 hs9 (by have := LB.out; omega) (by have := LB.out; omega)
        have hb := HBX1.out.trans (hb9.mono HBX1.out.size)
        exact ⟨3, _, 1, 1, _, 1, 1, by unfold cellV; rw [if_neg (by rw [HC.out]; simp)], by rw [HC.out]; exact hw9, hb⟩
    | true =>
      have hi : -1048576 ≤ i ∧ i ≤ 1048576 := by unfold placeB at hpl; exact of_decide_eq_true hpl
      have hi1 := hi.1
      have hi2 := hi.2
      have hc : cellErr (kn : Int) p L C Q i = none := by unfold cellErr; rw [hHR, hpl]; rfl
      have HC := Lib.hid hc
      clear hi hc hr hHR hpl
      go_enter Tryd.func24, Tryd.ntmps24
      go_wp2_with fail
      rw [HWB.out]
      refine (refcheck_ok0 kn p aL aC aR nL cL nC cC nR cR L C Q _ (HM.out.up HBX.out) HR.out).mono ?_; rintro e w1 ⟨rfl, hb1⟩
      obtain ⟨We, hWe⟩ : ∃ We, w1.alloc (.cells #[.int .i64 0, .slice none 0 0, .slice none 0 0] 47) = We := ⟨_, rfl⟩
      have hbe : Below w1.heap.size w1 We := by rw [← hWe]; exact balloc (bnil w1) _
      have HC1 := Lib.hid (hb1.trans (hbe.mono hb1.size))
      have HB1 := Lib.hid (HBX.out.trans (HC1.out.mono HBX.out.size))
      have HWE := Lib.hid hWe
      clear hb1 hbe hWe
      go_wp2_with fail
      rw [HWE.out]
      refine (rawBad_any _ _ _ _).mono ?_; rintro e w2 ⟨rfl, hb2⟩
      have HC2 := Lib.hid (HC1.out.trans (hb2.mono HC1.out.size))
      have HB2 := Lib.hid (bstep HB1.out hb2)
      clear hb2
      have x0 := (HC2.out.cell (p := ⟨W.heap.size, 0, none⟩) HS0.out).trans HX.out.1
      have x1 := (HC2.out.cell (p := ⟨W.heap.size, 1, none⟩) HS0.out).trans HX.out.2.1
      have x2 := (HC2.out.cell (p := ⟨W.heap.size, 2, none⟩) HS0.out).trans HX.out.2.2.1
      have x3 := (HC2.out.cell (p := ⟨W.heap.size, 3, none⟩) HS0.out).trans HX.out.2.2.2
      go_wp2_with fail
      refine (refAt_any p i aL aC aR nL cL nC cC nR cR L C Q _ (HM.out.up HB2.out) hl hq (by omega) (by omega) (by omega) (by omega)).mono ?_; rintro e w8 ⟨rfl, hb8⟩
      have hz := HC2.out.trans (hb8.mono HC2.out.size)
      rw [← HWB.out] at hz
      obtain ⟨⟨q0, q1, q2⟩, f0, f1, f2⟩ := res3 (g := W.heap.size + 1) (by simp) hz
      clear x0 x1 x2 x3
      go_wp2
      obtain ⟨w9, e9, ⟨r0, r1, r2⟩, hb9, hk9, hs9⟩ := res3_set (g := W.heap.size + 1) (u0 := .int .i64 0) (u1 := .slice none 0 0) (u2 := .slice none 0 0) (by simp) hz
      rw [e9]
      refine bodyPost_ret (v := .tuple #[.int .i64 (cellF p L C Q i), .agg #[.int .i64 0, .slice none 0 0, .slice none 0 0]]) (by simp [results, Tryd.results24, go_sem, r0, r1, r2]) rfl ?_
      have hb := HBX1.out.trans (hb9.mono HBX1.out.size)
      refine ⟨0, none, 0, 0, none, 0, 0, by unfold cellV; rw [if_pos HC.out], ?_, hb⟩
      rw [HC.out]
      exact errVal_none w9

set_option maxHeartbeats 8000000 in
theorem refcut_any (k p i : Int) (n : Int) (aL aC aR : Option Addr) (nL cL nC cC nR cR : Nat) (L C Q : List Int) (W : World) (hM : RowM W aL nL cL L aC nC cC C aR nR cR Q) :
    Calls Tryd.prog 25 #[.int .i64 k, rowV p aL nL cL aC nC cC aR nR cR, .int .i64 i , .int .i64 n] W (ListRef W (cutV k p L C Q i n) (tell opRow (cutErr k p L C Q i n))) := by
  obtain ⟨Wb, hWb⟩ : ∃ Wb, (W.alloc (.cells #[.int .i64 p, .slice aL nL cL, .slice aC nC cC, .slice aR nR cR] 26)).alloc (.cells #[.int .i64 0, .slice none 0 0, .slice none 0 0] 47) = Wb := ⟨_, rfl⟩
  have HX : Hid (Wb.cell? ⟨W.heap.size, 0, none⟩ = some (.int .i64 p) ∧ Wb.cell? ⟨W.heap.size, 1, none⟩ = some (.slice aL nL cL) ∧ Wb.cell? ⟨W.heap.size, 2, none⟩ = some (.slice aC nC cC) ∧ Wb.cell? ⟨W.heap.size, 3, none⟩ = some (.slice aR nR cR)) := by rw [← hWb]; exact ⟨cell_al _ (by simp), cell_al _ (by simp), cell_al _ (by simp), cell_al _ (by simp)⟩
  have HSZ : Hid (Wb.heap.size = W.heap.size + 2) := by show _ = _; rw [← hWb]; simp
  have HS0 : Hid (W.heap.size < Wb.heap.size) := by show _ < _; have := HSZ.out; omega
  have HBX : Hid (Below W.heap.size W Wb) := by rw [← hWb]; exact balloc (balloc (bnil W) _) _
  have HBX1 := Lib.hid (balloc (bnil W) (.cells #[.int .i64 p, .slice aL nL cL, .slice aC nC cC, .slice aR nR cR] 26))
  have HM := Lib.hid hM; clear hM
  have HWB := Lib.hid hWb; clear hWb
  cases hr : rowErr k p L C Q with
  | some x =>
    obtain ⟨at_, n0⟩ := x
    have hc : cellErr k p L C Q i = some (at_, n0) := by unfold cellErr; rw [hr]
    have HC := Lib.hid hc
    have HR := Lib.hid hr
    have hn0 : (n0 != 0) = true := by have := rowErr_ne hr; simpa using this
    clear hc hr
    go_enter Tryd.func25, Tryd.ntmps25
    go_wp2_with fail
    rw [HWB.out]
    refine (refcheck_er k p aL aC aR nL cL nC cC nR cR L C Q _ (HM.out.up HBX.out) at_ n0 HR.out).mono ?_; rintro e w1 ⟨b1, b2, rfl, ⟨l1, l2⟩, hw1, hb1⟩
    obtain ⟨We, hWe⟩ : ∃ We, w1.alloc (.cells #[.int .i64 n0, .slice (some ⟨b1, 0, none⟩) 1 1, .slice (some ⟨b2, 0, none⟩) 1 1] 47) = We := ⟨_, rfl⟩
    have hbe : Below w1.heap.size w1 We := by rw [← hWe]; exact balloc (bnil w1) _
    have HWT := Lib.hid (hw1.up hbe)
    have HC1 := Lib.hid (hb1.trans (hbe.mono hb1.size))
    have LB := Lib.hid (show W.heap.size + 1 < b1 ∧ W.heap.size + 1 < b2 by have := HSZ.out; omega)
    have HWE := Lib.hid hWe
    clear hb1 hbe hWe hw1 l1 l2
    go_wp2_with fail
    rw [HWE.out]
    refine (rawBad_any _ _ _ _).mono ?_; rintro e w8 ⟨rfl, hb8⟩
    have hz8 := HC1.out.trans (hb8.mono HC1.out.size)
    have HWT8 := HWT.out.up hb8
    rw [← HWB.out] at hz8
    have he8 := hb8
    rw [← HWE.out] at he8
    obtain ⟨⟨v0, v1, v2⟩, g0, g1, g2⟩ := res3 rfl he8
    obtain ⟨⟨q0, q1, q2⟩, f0, f1, f2⟩ := res3 (g := W.heap.size + 1) (by simp) hz8
    go_wp2
    go_region
    obtain ⟨w9, e9, ⟨r0, r1, r2⟩, hb9, hk9, hs9⟩ := res3_set (g := W.heap.size + 1) (u0 := .int .i64 n0) (u1 := .slice (some ⟨b1, 0, none⟩) 1 1) (u2 := .slice (some ⟨b2, 0, none⟩) 1 1) (by simp) hz8
    rw [e9]
    go_wp2
    refine bodyPost_ret (v := .tuple #[.slice none 0 0, .agg #[.int .i64 n0, .slice (some ⟨b1, 0, none⟩) 1 1, .slice (some ⟨b2, 0, none⟩) 1 1]]) (by simp [results, Tryd.results25, go_sem, r0, r1, r2]) rfl ?_
    have hw9 := (HWT8.other hk9 hs9 (by have := LB.out; omega) (by have := LB.out; omega)).up (Below.drew (bnil w9))
    have hb := Below.drew (HBX1.out.trans (hb9.mono HBX1.out.size))
    have hcu : cutErr k p L C Q i n = some (at_, n0) := by unfold cutErr; rw [HC.out]
    exact ⟨none, 0, 0, n0, _, 1, 1, _, 1, 1, rfl, by unfold cutV; rw [if_neg (by rw [hcu]; simp)]; exact RK.nil, by rw [hcu]; exact hw9, hb⟩
  | none =>
    have HR := Lib.hid hr
    have hHR := hr
    obtain ⟨kn, rfl, hrow⟩ := rowErr_none hr
    have HROW := Lib.hid hrow
    have hp1 := hrow.p1
    have hp2 := hrow.p2
    have hl : 0 < nL := by rw [HM.out.l.rk.len]; exact hrow.l1
    have hq : 0 < nR := by rw [HM.out.r.rk.len]; exact hrow.r1
    clear hrow
    cases hpl : placeB i with
    | false =>
      have hc : cellErr (kn : Int) p L C Q i = some (5, 3) := by unfold cellErr; rw [hHR, hpl]; rfl
      have HC := Lib.hid hc
      have hpd : decide (-1048576 ≤ i ∧ i ≤ 1048576) = false := hpl
      have hpd2 := of_decide_eq_false hpd
      clear hc hr hHR hpl hpd
      by_cases hi1 : i < -1048576
      · clear hpd2
        go_enter Tryd.func25, Tryd.ntmps25
        go_wp2_with fail
        rw [HWB.out]
        refine (refcheck_ok0 kn p aL aC aR nL cL nC cC nR cR L C Q _ (HM.out.up HBX.out) HR.out).mono ?_; rintro e w1 ⟨rfl, hb1⟩
        obtain ⟨We, hWe⟩ : ∃ We, w1.alloc (.cells #[.int .i64 0, .slice none 0 0, .slice none 0 0] 47) = We := ⟨_, rfl⟩
        have hbe : Below w1.heap.size w1 We := by rw [← hWe]; exact balloc (bnil w1) _
        have HC1 := Lib.hid (hb1.trans (hbe.mono hb1.size))
        have HB1 := Lib.hid (HBX.out.trans (HC1.out.mono HBX.out.size))
        have HWE := Lib.hid hWe
        clear hb1 hbe hWe
        go_wp2_with fail
        rw [HWE.out]
        refine (rawBad_any _ _ _ _).mono ?_; rintro e w2 ⟨rfl, hb2⟩
        have HC2 := Lib.hid (HC1.out.trans (hb2.mono HC1.out.size))
        have HB2 := Lib.hid (bstep HB1.out hb2)
        clear hb2
        go_wp2_with fail
        refine (rawNew_fresh _ _ _ _ rfl).mono ?_; rintro e w8 ⟨b1, b2, rfl, lb1, lb2, hw8, hb8⟩
        have hz := HC2.out.trans (hb8.mono HC2.out.size)
        have LB := Lib.hid (show W.heap.size + 1 < b1 ∧ W.heap.size + 1 < b2 by have := HSZ.out; have := HC2.out.size; omega)
        rw [← HWB.out] at hz
        obtain ⟨⟨q0, q1, q2⟩, f0, f1, f2⟩ := res3 (g := W.heap.size + 1) (by simp) hz
        go_wp2
        obtain ⟨w9, e9, ⟨r0, r1, r2⟩, hb9, hk9, hs9⟩ := res3_set (g := W.heap.size + 1) (u0 := .int .i64 3) (u1 := .slice (some ⟨b1, 0, none⟩) 1 1) (u2 := .slice (some ⟨b2, 0, none⟩) 1 1) (by simp) hz
        rw [e9]
        refine bodyPost_ret (v := .tuple #[.slice none 0 0, .agg #[.int .i64 3, .slice (some ⟨b1, 0, none⟩) 1 1, .slice (some ⟨b2, 0, none⟩) 1 1]]) (by simp [results, Tryd.results25, go_sem, r0, r1, r2]) rfl ?_
        have hw9 := hw8.other hk9 hs9 (by have := LB.out; omega) (by have := LB.out; omega)
        have hb := HBX1.out.trans (hb9.mono HBX1.out.size)
        have hcu : cutErr (kn : Int) p L C Q i n = some (5, 3) := by unfold cutErr; rw [HC.out]
        exact ⟨none, 0, 0, 3, _, 1, 1, _, 1, 1, rfl, by unfold cutV; rw [if_neg (by rw [hcu]; simp)]; exact RK.nil, by rw [hcu]; exact hw9, hb⟩
      · have hi2 : 1048576 < i := by omega
        clear hpd2
        go_enter Tryd.func25, Tryd.ntmps25
        go_wp2_with fail
        rw [HWB.out]
        refine (refcheck_ok0 kn p aL aC aR nL cL nC cC nR cR L C Q _ (HM.out.up HBX.out) HR.out).mono ?_; rintro e w1 ⟨rfl, hb1⟩
        obtain ⟨We, hWe⟩ : ∃ We, w1.alloc (.cells #[.int .i64 0, .slice none 0 0, .slice none 0 0] 47) = We := ⟨_, rfl⟩
        have hbe : Below w1.heap.size w1 We := by rw [← hWe]; exact balloc (bnil w1) _
        have HC1 := Lib.hid (hb1.trans (hbe.mono hb1.size))
        have HB1 := Lib.hid (HBX.out.trans (HC1.out.mono HBX.out.size))
        have HWE := Lib.hid hWe
        clear hb1 hbe hWe
        go_wp2_with fail
        rw [HWE.out]
        refine (rawBad_any _ _ _ _).mono ?_; rintro e w2 ⟨rfl, hb2⟩
        have HC2 := Lib.hid (HC1.out.trans (hb2.mono HC1.out.size))
        have HB2 := Lib.hid (bstep HB1.out hb2)
        clear hb2
        go_wp2_with fail
        refine (rawNew_fresh _ _ _ _ rfl).mono ?_; rintro e w8 ⟨b1, b2, rfl, lb1, lb2, hw8, hb8⟩
        have hz := HC2.out.trans (hb8.mono HC2.out.size)
        have LB := Lib.hid (show W.heap.size + 1 < b1 ∧ W.heap.size + 1 < b2 by have := HSZ.out; have := HC2.out.size; omega)
        rw [← HWB.out] at hz
        obtain ⟨⟨q0, q1, q2⟩, f0, f1, f2⟩ := res3 (g := W.heap.size + 1) (by simp) hz
        go_wp2
        obtain ⟨w9, e9, ⟨r0, r1, r2⟩, hb9, hk9, hs9⟩ := res3_set (g := W.heap.size + 1) (u0 := .int .i64 3) (u1 := .slice (some ⟨b1, 0, none⟩) 1 1) (u2 := .slice (some ⟨b2, 0, none⟩) 1 1) (by simp) hz
        rw [e9]
        refine bodyPost_ret (v := .tuple #[.slice none 0 0, .agg #[.int .i64 3, .slice (some ⟨b1, 0, none⟩) 1 1, .slice (some ⟨b2, 0, none⟩) 1 1]]) (by simp [results, Tryd.results25, go_sem, r0, r1, r2]) rfl ?_
        have hw9 := hw8.other hk9 hs9 (by have := LB.out; omega) (by have := LB.out; omega)
        have hb := HBX1.out.trans (hb9.mono HBX1.out.size)
        have hcu : cutErr (kn : Int) p L C Q i n = some (5, 3) := by unfold cutErr; rw [HC.out]
        exact ⟨none, 0, 0, 3, _, 1, 1, _, 1, 1, rfl, by unfold cutV; rw [if_neg (by rw [hcu]; simp)]; exact RK.nil, by rw [hcu]; exact hw9, hb⟩
    | true =>
      have hi : -1048576 ≤ i ∧ i ≤ 1048576 := by unfold placeB at hpl; exact of_decide_eq_true hpl
      have hi1 := hi.1
      have hi2 := hi.2
      have hc : cellErr (kn : Int) p L C Q i = none := by unfold cellErr; rw [hHR, hpl]; rfl
      have HC := Lib.hid hc
      clear hi hc hr hHR hpl
      by_cases hn : n < 0
      · have hcu : cutErr (kn : Int) p L C Q i n = some (6, 3) := by unfold cutErr; rw [HC.out]; simp [hn]
        have HCU := Lib.hid hcu
        clear hcu
        go_enter Tryd.func25, Tryd.ntmps25
        go_wp2_with fail
        rw [HWB.out]
        refine (refcheck_ok0 kn p aL aC aR nL cL nC cC nR cR L C Q _ (HM.out.up HBX.out) HR.out).mono ?_; rintro e w1 ⟨rfl, hb1⟩
        obtain ⟨We, hWe⟩ : ∃ We, w1.alloc (.cells #[.int .i64 0, .slice none 0 0, .slice none 0 0] 47) = We := ⟨_, rfl⟩
        have hbe : Below w1.heap.size w1 We := by rw [← hWe]; exact balloc (bnil w1) _
        have HC1 := Lib.hid (hb1.trans (hbe.mono hb1.size))
        have HB1 := Lib.hid (HBX.out.trans (HC1.out.mono HBX.out.size))
        have HWE := Lib.hid hWe
        clear hb1 hbe hWe
        go_wp2_with fail
        rw [HWE.out]
        refine (rawBad_any _ _ _ _).mono ?_; rintro e w2 ⟨rfl, hb2⟩
        have HC2 := Lib.hid (HC1.out.trans (hb2.mono HC1.out.size))
        have HB2 := Lib.hid (bstep HB1.out hb2)
        clear hb2
        go_wp2_with fail
        refine (rawNew_fresh _ _ _ _ rfl).mono ?_; rintro e w8 ⟨b1, b2, rfl, lb1, lb2, hw8, hb8⟩
        have hz := HC2.out.trans (hb8.mono HC2.out.size)
        have LB := Lib.hid (show W.heap.size + 1 < b1 ∧ W.heap.size + 1 < b2 by have := HSZ.out; have := HC2.out.size; omega)
        rw [← HWB.out] at hz
        obtain ⟨⟨q0, q1, q2⟩, f0, f1, f2⟩ := res3 (g := W.heap.size + 1) (by simp) hz
        go_wp2
        obtain ⟨w9, e9, ⟨r0, r1, r2⟩, hb9, hk9, hs9⟩ := res3_set (g := W.heap.size + 1) (u0 := .int .i64 3) (u1 := .slice (some ⟨b1, 0, none⟩) 1 1) (u2 := .slice (some ⟨b2, 0, none⟩) 1 1) (by simp) hz
        rw [e9]
        refine bodyPost_ret (v := .tuple #[.slice none 0 0, .agg #[.int .i64 3, .slice (some ⟨b1, 0, none⟩) 1 1, .slice (some ⟨b2, 0, none⟩) 1 1]]) (by simp [results, Tryd.results25, go_sem, r0, r1, r2]) rfl ?_
        have hw9 := hw8.other hk9 hs9 (by have := LB.out; omega) (by have := LB.out; omega)
        have hb := HBX1.out.trans (hb9.mono HBX1.out.size)
        exact ⟨none, 0, 0, 3, _, 1, 1, _, 1, 1, rfl, by unfold cutV; rw [if_neg (by rw [HCU.out]; simp)]; exact RK.nil, by rw [HCU.out]; exact hw9, hb⟩
      by_cases hn4 : 4096 < n
      · have hcu : cutErr (kn : Int) p L C Q i n = some (6, 4) := by unfold cutErr; rw [HC.out]; simp [hn, hn4]
        have HCU := Lib.hid hcu
        clear hcu
        go_enter Tryd.func25, Tryd.ntmps25
        go_wp2_with fail
        rw [HWB.out]
        refine (refcheck_ok0 kn p aL aC aR nL cL nC cC nR cR L C Q _ (HM.out.up HBX.out) HR.out).mono ?_; rintro e w1 ⟨rfl, hb1⟩
        obtain ⟨We, hWe⟩ : ∃ We, w1.alloc (.cells #[.int .i64 0, .slice none 0 0, .slice none 0 0] 47) = We := ⟨_, rfl⟩
        have hbe : Below w1.heap.size w1 We := by rw [← hWe]; exact balloc (bnil w1) _
        have HC1 := Lib.hid (hb1.trans (hbe.mono hb1.size))
        have HB1 := Lib.hid (HBX.out.trans (HC1.out.mono HBX.out.size))
        have HWE := Lib.hid hWe
        clear hb1 hbe hWe
        go_wp2_with fail
        rw [HWE.out]
        refine (rawBad_any _ _ _ _).mono ?_; rintro e w2 ⟨rfl, hb2⟩
        have HC2 := Lib.hid (HC1.out.trans (hb2.mono HC1.out.size))
        have HB2 := Lib.hid (bstep HB1.out hb2)
        clear hb2
        go_wp2_with fail
        refine (rawNew_fresh _ _ _ _ rfl).mono ?_; rintro e w8 ⟨b1, b2, rfl, lb1, lb2, hw8, hb8⟩
        have hz := HC2.out.trans (hb8.mono HC2.out.size)
        have LB := Lib.hid (show W.heap.size + 1 < b1 ∧ W.heap.size + 1 < b2 by have := HSZ.out; have := HC2.out.size; omega)
        rw [← HWB.out] at hz
        obtain ⟨⟨q0, q1, q2⟩, f0, f1, f2⟩ := res3 (g := W.heap.size + 1) (by simp) hz
        go_wp2
        obtain ⟨w9, e9, ⟨r0, r1, r2⟩, hb9, hk9, hs9⟩ := res3_set (g := W.heap.size + 1) (u0 := .int .i64 4) (u1 := .slice (some ⟨b1, 0, none⟩) 1 1) (u2 := .slice (some ⟨b2, 0, none⟩) 1 1) (by simp) hz
        rw [e9]
        refine bodyPost_ret (v := .tuple #[.slice none 0 0, .agg #[.int .i64 4, .slice (some ⟨b1, 0, none⟩) 1 1, .slice (some ⟨b2, 0, none⟩) 1 1]]) (by simp [results, Tryd.results25, go_sem, r0, r1, r2]) rfl ?_
        have hw9 := hw8.other hk9 hs9 (by have := LB.out; omega) (by have := LB.out; omega)
        have hb := HBX1.out.trans (hb9.mono HBX1.out.size)
        exact ⟨none, 0, 0, 4, _, 1, 1, _, 1, 1, rfl, by unfold cutV; rw [if_neg (by rw [HCU.out]; simp)]; exact RK.nil, by rw [HCU.out]; exact hw9, hb⟩
      obtain ⟨m, rfl⟩ : ∃ m : Nat, n = (m : Int) := ⟨n.toNat, by omega⟩
      have hm : m ≤ 4096 := by omega
      have hcu : cutErr (kn : Int) p L C Q i (m : Int) = none := by unfold cutErr; rw [HC.out]; simp [hn4]
      have HCU := Lib.hid hcu
      clear hcu hn hn4
      go_enter Tryd.func25, Tryd.ntmps25
      go_wp2_with fail
      rw [HWB.out]
      refine (refcheck_ok0 kn p aL aC aR nL cL nC cC nR cR L C Q _ (HM.out.up HBX.out) HR.out).mono ?_; rintro e w1 ⟨rfl, hb1⟩
      obtain ⟨We, hWe⟩ : ∃ We, w1.alloc (.cells #[.int .i64 0, .slice none 0 0, .slice none 0 0] 47) = We := ⟨_, rfl⟩
      have hbe : Below w1.heap.size w1 We := by rw [← hWe]; exact balloc (bnil w1) _
      have HC1 := Lib.hid (hb1.trans (hbe.mono hb1.size))
      have HB1 := Lib.hid (HBX.out.trans (HC1.out.mono HBX.out.size))
      have HWE := Lib.hid hWe
      clear hb1 hbe hWe
      go_wp2_with fail
      rw [HWE.out]
      refine (rawBad_any _ _ _ _).mono ?_; rintro e w2 ⟨rfl, hb2⟩
      have HC2 := Lib.hid (HC1.out.trans (hb2.mono HC1.out.size))
      have HB2 := Lib.hid (bstep HB1.out hb2)
      clear hb2
      have x0 := (HC2.out.cell (p := ⟨W.heap.size, 0, none⟩) HS0.out).trans HX.out.1
      have x1 := (HC2.out.cell (p := ⟨W.heap.size, 1, none⟩) HS0.out).trans HX.out.2.1
      have x2 := (HC2.out.cell (p := ⟨W.heap.size, 2, none⟩) HS0.out).trans HX.out.2.2.1
      have x3 := (HC2.out.cell (p := ⟨W.heap.size, 3, none⟩) HS0.out).trans HX.out.2.2.2
      go_wp2_with fail
      refine (refPiece_any p i m aL aC aR nL cL nC cC nR cR L C Q _ (HM.out.up HB2.out) hl hq (by omega) (by omega) (by omega) (by omega) (by omega)).mono ?_; rintro e w8 ⟨a8, c8, rfl, ho8, hb8⟩
      have hni := ho8.notin (g := W.heap.size + 1) (Or.inl (by have := HSZ.out; have := HC2.out.size; omega))
      have hz := HC2.out.trans (hb8.mono HC2.out.size)
      rw [← HWB.out] at hz
      obtain ⟨⟨q0, q1, q2⟩, f0, f1, f2⟩ := res3 (g := W.heap.size + 1) (by simp) hz
      clear x0 x1 x2 x3
      go_wp2
      obtain ⟨w9, e9, ⟨r0, r1, r2⟩, hb9, hk9, hs9⟩ := res3_set (g := W.heap.size + 1) (u0 := .int .i64 0) (u1 := .slice none 0 0) (u2 := .slice none 0 0) (by simp) hz
      rw [e9]
      refine bodyPost_ret (v := .tuple #[.slice a8 m c8, .agg #[.int .i64 0, .slice none 0 0, .slice none 0 0]]) (by simp [results, Tryd.results25, go_sem, r0, r1, r2]) rfl ?_
      have hb := HBX1.out.trans (hb9.mono HBX1.out.size)
      refine ⟨a8, m, c8, 0, none, 0, 0, none, 0, 0, rfl, ?_, ?_, hb⟩
      · unfold cutV
        rw [if_pos HCU.out, Int.toNat_natCast]
        exact ho8.rk.other hk9 hs9 hni
      · rw [HCU.out]
        exact errVal_none w9
end Go.Proofs.YtkgalgmjdfhhbaaDoor
