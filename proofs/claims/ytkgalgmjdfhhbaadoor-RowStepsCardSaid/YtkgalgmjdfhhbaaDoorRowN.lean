/- The contract of edenref07.Same where it refuses. -/
import Derived.Test.YtkgalgmjdfhhbaaDoorRowL
namespace Go.Proofs.YtkgalgmjdfhhbaaDoor
open Go.RowKit
set_option linter.unusedVariables false
set_option maxRecDepth 100000

theorem rowErr_ne {k p : Int} {L C Q : List Int} {a n : Int} (h : rowErr k p L C Q = some (a, n)) : n ≠ 0 := by
  unfold rowErr at h
  (repeat' split at h) <;> first | (cases h; done) | (simp only [Option.some.injEq, Prod.mk.injEq] at h; omega)

/-- no answer, and an error as the document has it -/
def RefErr2 (op : ByteArray) (at_ k : Int) (W : World) (e : Ending) (w' : World) : Prop := ∃ b1 b2, e = .returned (.tuple #[.bool false, .agg #[.int .i64 k, .slice (some ⟨b1, 0, none⟩) 1 1, .slice (some ⟨b2, 0, none⟩) 1 1]]) ∧ WantIs w' (.agg #[.int .i64 k, .slice (some ⟨b1, 0, none⟩) 1 1, .slice (some ⟨b2, 0, none⟩) 1 1]) (some (op, at_, k)) ∧ Below W.heap.size W w'

theorem refcheck_er (k p : Int) (aL aC aR : Option Addr) (nL cL nC cC nR cR : Nat) (L C Q : List Int) (W : World) (hM : RowM W aL nL cL L aC nC cC C aR nR cR Q) (at_ n : Int) (he : rowErr k p L C Q = some (at_, n)) :
    Calls Tryd.prog 27 #[.int .i64 k, rowV p aL nL cL aC nC cC aR nR cR] W (RefErr opRow at_ n W) := refcheck_err k p aL aC aR nL cL nC cC nR cR L C Q W hM (at_, n) he

set_option maxHeartbeats 8000000 in
theorem refSame_err1 (k p : Int) (aL aC aR : Option Addr) (nL cL nC cC nR cR : Nat) (L C Q : List Int) (p' : Int) (bL bC bR : Option Addr) (mL dL mC dC mR dR : Nat) (L' C' Q' : List Int) (W : World)
    (hM : RowM W aL nL cL L aC nC cC C aR nR cR Q) (hM' : RowM W bL mL dL L' bC mC dC C' bR mR dR Q') (at_ n : Int) (h : rowErr k p L C Q = some (at_, n)) :
    Calls Tryd.prog 21 #[.int .i64 k, rowV p aL nL cL aC nC cC aR nR cR, rowV p' bL mL dL bC mC dC bR mR dR] W (RefErr2 opRow at_ n W) := by
  obtain ⟨Wb, hWb⟩ : ∃ Wb, ((W.alloc (.cells #[.int .i64 p, .slice aL nL cL, .slice aC nC cC, .slice aR nR cR] 26)).alloc (.cells #[.int .i64 p', .slice bL mL dL, .slice bC mC dC, .slice bR mR dR] 26)).alloc (.cells #[.int .i64 0, .slice none 0 0, .slice none 0 0] 47) = Wb := ⟨_, rfl⟩
  have HY : Hid (Wb.cell? ⟨W.heap.size + 1, 0, none⟩ = some (.int .i64 p') ∧ Wb.cell? ⟨W.heap.size + 1, 1, none⟩ = some (.slice bL mL dL) ∧ Wb.cell? ⟨W.heap.size + 1, 2, none⟩ = some (.slice bC mC dC) ∧ Wb.cell? ⟨W.heap.size + 1, 3, none⟩ = some (.slice bR mR dR)) := by rw [← hWb]; exact ⟨cell_al _ (by simp), cell_al _ (by simp), cell_al _ (by simp), cell_al _ (by simp)⟩
  have HSZ : Hid (Wb.heap.size = W.heap.size + 3) := by show _ = _; rw [← hWb]; simp
  have HS1 : Hid (W.heap.size + 1 < Wb.heap.size) := by show _ < _; have := HSZ.out; omega
  have HBX : Hid (Below W.heap.size W Wb) := by rw [← hWb]; exact balloc (balloc (balloc (bnil W) _) _) _
  have HM := Lib.hid hM; clear hM
  have HM' := Lib.hid hM'; clear hM'
  have H := Lib.hid h; clear h
  have hn0 : (n != 0) = true := by have := rowErr_ne H.out; simpa using this
  have HWB := Lib.hid hWb; clear hWb
  go_enter Tryd.func21, Tryd.ntmps21
  go_wp2_with fail
  rw [HWB.out]
  refine (refcheck_er k p aL aC aR nL cL nC cC nR cR L C Q _ (HM.out.up HBX.out) at_ n H.out).mono ?_; rintro e w1 ⟨b1, b2, rfl, ⟨l1, l2⟩, hw1, hb1⟩
  obtain ⟨We, hWe⟩ : ∃ We, w1.alloc (.cells #[.int .i64 n, .slice (some ⟨b1, 0, none⟩) 1 1, .slice (some ⟨b2, 0, none⟩) 1 1] 47) = We := ⟨_, rfl⟩
  have hbe : Below w1.heap.size w1 We := by rw [← hWe]; exact balloc (bnil w1) _
  have HWT := Lib.hid (hw1.up hbe)
  have HC1 := Lib.hid (hb1.trans (hbe.mono hb1.size))
  have LB := Lib.hid (show W.heap.size + 1 + 1 < b1 ∧ W.heap.size + 1 + 1 < b2 by have := HSZ.out; omega)
  have HWE := Lib.hid hWe
  clear hb1 hbe hWe hw1 l1 l2
  go_wp2_with fail
  rw [HWE.out]
  refine (rawBad_any _ _ _ _).mono ?_; rintro e w2 ⟨rfl, hb2⟩
  have HCX := Lib.hid (HC1.out.trans (hb2.mono HC1.out.size))
  have HEX := Lib.hid hb2
  have HWTX := Lib.hid (HWT.out.up hb2)
  clear hb2
  have he2 := HEX.out
  rw [← HWE.out] at he2
  obtain ⟨⟨v0, v1, v2⟩, g0, g1, g2⟩ := res3 rfl he2
  clear he2 g0 g1 g2
  go_wp2_with fail
  refine (rawBad_any _ _ _ _).mono ?_; rintro e w8 ⟨rfl, hb8⟩
  have hz8 := HCX.out.trans (hb8.mono HCX.out.size)
  have HWT8 := HWTX.out.up hb8
  rw [← HWB.out] at hz8
  have HBX2 := Lib.hid (balloc (balloc (bnil W) (.cells #[.int .i64 p, .slice aL nL cL, .slice aC nC cC, .slice aR nR cR] 26)) (.cells #[.int .i64 p', .slice bL mL dL, .slice bC mC dC, .slice bR mR dR] 26))
  have he8 := bstep HEX.out hb8
  rw [← HWE.out] at he8
  obtain ⟨⟨v0, v1, v2⟩, g0, g1, g2⟩ := res3 rfl he8
  obtain ⟨⟨q0, q1, q2⟩, f0, f1, f2⟩ := res3 (g := W.heap.size + 1 + 1) (by simp) hz8
  go_wp2
  go_region
  obtain ⟨w9, e9, ⟨r0, r1, r2⟩, hb9, hk9, hs9⟩ := res3_set (g := W.heap.size + 1 + 1) (u0 := .int .i64 n) (u1 := .slice (some ⟨b1, 0, none⟩) 1 1) (u2 := .slice (some ⟨b2, 0, none⟩) 1 1) (by simp) hz8
  rw [e9]
  go_wp2
  refine bodyPost_ret (v := .tuple #[.bool false, .agg #[.int .i64 n, .slice (some ⟨b1, 0, none⟩) 1 1, .slice (some ⟨b2, 0, none⟩) 1 1]]) (by simp [results, Tryd.results21, go_sem, r0, r1, r2]) rfl ?_
  exact ⟨b1, b2, rfl, HWT8.other hk9 hs9 (by have := LB.out; omega) (by have := LB.out; omega), Below.drew (HBX2.out.trans (hb9.mono HBX2.out.size))⟩

set_option maxHeartbeats 8000000 in
theorem refSame_err2 (k p : Int) (aL aC aR : Option Addr) (nL cL nC cC nR cR : Nat) (L C Q : List Int) (p' : Int) (bL bC bR : Option Addr) (mL dL mC dC mR dR : Nat) (L' C' Q' : List Int) (W : World)
    (hM : RowM W aL nL cL L aC nC cC C aR nR cR Q) (hM' : RowM W bL mL dL L' bC mC dC C' bR mR dR Q') (at_ n : Int) (h0 : rowErr k p L C Q = none) (h : rowErr k p' L' C' Q' = some (at_, n)) :
    Calls Tryd.prog 21 #[.int .i64 k, rowV p aL nL cL aC nC cC aR nR cR, rowV p' bL mL dL bC mC dC bR mR dR] W (RefErr2 opRow at_ n W) := by
  obtain ⟨k, rfl, hrow⟩ := rowErr_none h0
  clear h0
  obtain ⟨Wb, hWb⟩ : ∃ Wb, ((W.alloc (.cells #[.int .i64 p, .slice aL nL cL, .slice aC nC cC, .slice aR nR cR] 26)).alloc (.cells #[.int .i64 p', .slice bL mL dL, .slice bC mC dC, .slice bR mR dR] 26)).alloc (.cells #[.int .i64 0, .slice none 0 0, .slice none 0 0] 47) = Wb := ⟨_, rfl⟩
  have HY : Hid (Wb.cell? ⟨W.heap.size + 1, 0, none⟩ = some (.int .i64 p') ∧ Wb.cell? ⟨W.heap.size + 1, 1, none⟩ = some (.slice bL mL dL) ∧ Wb.cell? ⟨W.heap.size + 1, 2, none⟩ = some (.slice bC mC dC) ∧ Wb.cell? ⟨W.heap.size + 1, 3, none⟩ = some (.slice bR mR dR)) := by rw [← hWb]; exact ⟨cell_al _ (by simp), cell_al _ (by simp), cell_al _ (by simp), cell_al _ (by simp)⟩
  have HSZ : Hid (Wb.heap.size = W.heap.size + 3) := by show _ = _; rw [← hWb]; simp
  have HS1 : Hid (W.heap.size + 1 < Wb.heap.size) := by show _ < _; have := HSZ.out; omega
  have HBX : Hid (Below W.heap.size W Wb) := by rw [← hWb]; exact balloc (balloc (balloc (bnil W) _) _) _
  have HM := Lib.hid hM; clear hM
  have HM' := Lib.hid hM'; clear hM'
  have H := Lib.hid h; clear h
  have hn0 : (n != 0) = true := by have := rowErr_ne H.out; simpa using this
  have HROW := Lib.hid hrow; clear hrow
  have HWB := Lib.hid hWb; clear hWb
  go_enter Tryd.func21, Tryd.ntmps21
  go_wp2_with fail
  rw [HWB.out]
  refine (refcheck_ok k p aL aC aR nL cL nC cC nR cR L C Q _ (HM.out.up HBX.out) HROW.out).mono ?_; rintro e w1 ⟨rfl, hb1⟩
  obtain ⟨We, hWe⟩ : ∃ We, w1.alloc (.cells #[.int .i64 0, .slice none 0 0, .slice none 0 0] 47) = We := ⟨_, rfl⟩
  have hbe : Below w1.heap.size w1 We := by rw [← hWe]; exact balloc (bnil w1) _
  have HC1 := Lib.hid (hb1.trans (hbe.mono hb1.size))
  have HB1 := Lib.hid (HBX.out.trans (HC1.out.mono HBX.out.size))
  have HW1 := Lib.hid hb1
  have HSE : Hid (We.heap.size = w1.heap.size + 1) := by show _ = _; rw [← hWe]; simp
  have HWE := Lib.hid hWe
  clear hb1 hbe hWe
  go_wp2_with fail
  rw [HWE.out]
  refine (rawBad_any _ _ _ _).mono ?_; rintro e w2 ⟨rfl, hb2⟩
  have HC2 := Lib.hid (HC1.out.trans (hb2.mono HC1.out.size))
  have HB2 := Lib.hid (bstep HB1.out hb2)
  have HE2 := Lib.hid hb2
  clear hb2
  have y0 := (HC2.out.cell (p := ⟨W.heap.size + 1, 0, none⟩) HS1.out).trans HY.out.1
  have y1 := (HC2.out.cell (p := ⟨W.heap.size + 1, 1, none⟩) HS1.out).trans HY.out.2.1
  have y2 := (HC2.out.cell (p := ⟨W.heap.size + 1, 2, none⟩) HS1.out).trans HY.out.2.2.1
  have y3 := (HC2.out.cell (p := ⟨W.heap.size + 1, 3, none⟩) HS1.out).trans HY.out.2.2.2
  go_wp2_with fail
  refine (refcheck_er k p' bL bC bR mL dL mC dC mR dR L' C' Q' _ (HM'.out.up HB2.out) at_ n H.out).mono ?_; rintro e w3 ⟨b1, b2, rfl, ⟨l1, l2⟩, hw3, hb3⟩
  have he3 := bstep HE2.out hb3
  have hl2 := HE2.out.size
  have hl0 := HW1.out.size
  have LB := Lib.hid (show (W.heap.size + 1 + 1 < b1 ∧ W.heap.size + 1 + 1 < b2) ∧ w1.heap.size < b1 ∧ w1.heap.size < b2 by have := HSZ.out; have := HSE.out; omega)
  rw [← HWE.out] at he3
  obtain ⟨⟨q0, q1, q2⟩, f0, f1, f2⟩ := res3 rfl he3
  obtain ⟨w4, e4, ⟨r0, r1, r2⟩, hb4, hk4, hs4⟩ := res3_set (u0 := .int .i64 n) (u1 := .slice (some ⟨b1, 0, none⟩) 1 1) (u2 := .slice (some ⟨b2, 0, none⟩) 1 1) rfl he3
  have HCX := Lib.hid (HW1.out.trans (hb4.mono HW1.out.size))
  have HWTX := Lib.hid (hw3.other hk4 hs4 (by have := LB.out; omega) (by have := LB.out; omega))
  have HE4 := Lib.hid e4
  have HV := Lib.hid (And.intro r0 (And.intro r1 r2))
  have HSL : Hid (w1.heap.size < w4.heap.size) := by show _ < _; have := hb3.size; have := HSE.out; omega
  clear y0 y1 y2 y3 he3 hb3 e4 hb4 hw3 l1 l2 hl2 hl0 hk4 hs4
  go_wp2_with fail
  rw [HE4.out]
  refine (rawBad_any _ _ _ _).mono ?_; rintro e w8 ⟨rfl, hb8⟩
  have hz8 := HCX.out.trans (hb8.mono HCX.out.size)
  have HWT8 := HWTX.out.up hb8
  clear q0 q1 q2 f0 f1 f2 r0 r1 r2
  rw [← HWB.out] at hz8
  have HBX2 := Lib.hid (balloc (balloc (bnil W) (.cells #[.int .i64 p, .slice aL nL cL, .slice aC nC cC, .slice aR nR cR] 26)) (.cells #[.int .i64 p', .slice bL mL dL, .slice bC mC dC, .slice bR mR dR] 26))
  have v0 := (hb8.cell (p := ⟨w1.heap.size, 0, none⟩) HSL.out).trans HV.out.1
  have v1 := (hb8.cell (p := ⟨w1.heap.size, 1, none⟩) HSL.out).trans HV.out.2.1
  have v2 := (hb8.cell (p := ⟨w1.heap.size, 2, none⟩) HSL.out).trans HV.out.2.2
  obtain ⟨⟨q0, q1, q2⟩, f0, f1, f2⟩ := res3 (g := W.heap.size + 1 + 1) (by simp) hz8
  go_wp2
  go_region
  obtain ⟨w9, e9, ⟨r0, r1, r2⟩, hb9, hk9, hs9⟩ := res3_set (g := W.heap.size + 1 + 1) (u0 := .int .i64 n) (u1 := .slice (some ⟨b1, 0, none⟩) 1 1) (u2 := .slice (some ⟨b2, 0, none⟩) 1 1) (by simp) hz8
  rw [e9]
  go_wp2
  refine bodyPost_ret (v := .tuple #[.bool false, .agg #[.int .i64 n, .slice (some ⟨b1, 0, none⟩) 1 1, .slice (some ⟨b2, 0, none⟩) 1 1]]) (by simp [results, Tryd.results21, go_sem, r0, r1, r2]) rfl ?_
  exact ⟨b1, b2, rfl, HWT8.other hk9 hs9 (by have := LB.out; omega) (by have := LB.out; omega), Below.drew (HBX2.out.trans (hb9.mono HBX2.out.size))⟩

theorem refSame_err (k p : Int) (aL aC aR : Option Addr) (nL cL nC cC nR cR : Nat) (L C Q : List Int) (p' : Int) (bL bC bR : Option Addr) (mL dL mC dC mR dR : Nat) (L' C' Q' : List Int) (W : World)
    (hM : RowM W aL nL cL L aC nC cC C aR nR cR Q) (hM' : RowM W bL mL dL L' bC mC dC C' bR mR dR Q') (at_ n : Int) (h : rowErr k p L C Q = some (at_, n) ∨ rowErr k p L C Q = none ∧ rowErr k p' L' C' Q' = some (at_, n)) :
    Calls Tryd.prog 21 #[.int .i64 k, rowV p aL nL cL aC nC cC aR nR cR, rowV p' bL mL dL bC mC dC bR mR dR] W (RefErr2 opRow at_ n W) := by
  rcases h with h | ⟨h0, h⟩
  · exact refSame_err1 k p aL aC aR nL cL nC cC nR cR L C Q p' bL bC bR mL dL mC dC mR dR L' C' Q' W hM hM' at_ n h
  · exact refSame_err2 k p aL aC aR nL cL nC cC nR cR L C Q p' bL bC bR mL dL mC dC mR dR L' C' Q' W hM hM' at_ n h0 h
end Go.Proofs.YtkgalgmjdfhhbaaDoor
