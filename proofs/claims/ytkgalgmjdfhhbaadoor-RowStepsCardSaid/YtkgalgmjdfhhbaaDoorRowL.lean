/- The contracts of (edenraw.Err).Bad, edenref07.Same where both are rows. -/
import Derived.Test.YtkgalgmjdfhhbaaDoorRowK
import Derived.Test.YtkgalgmjdfhhbaaDoorRowI
namespace Go.Proofs.YtkgalgmjdfhhbaaDoor
open Go.RowKit
set_option linter.unusedVariables false
set_option maxRecDepth 100000

theorem rawBad_any (n : Int) (x y : Value) (W : World) : Calls Tryd.prog 44 #[.agg #[.int .i64 n, x, y]] W fun e w' => e = .returned (.bool (n != 0)) ∧ Below W.heap.size W w' := by
  go_enter Tryd.func44, Tryd.ntmps44
  go_wp2
  go_ret
  exact ⟨rfl, balloc (bnil W) _⟩

set_option maxHeartbeats 8000000 in
theorem refSame_ok (k : Nat) (p : Int) (aL aC aR : Option Addr) (nL cL nC cC nR cR : Nat) (L C Q : List Int) (p' : Int) (bL bC bR : Option Addr) (mL dL mC dC mR dR : Nat) (L' C' Q' : List Int) (W : World)
    (hM : RowM W aL nL cL L aC nC cC C aR nR cR Q) (h : IsRow k p L C Q) (hM' : RowM W bL mL dL L' bC mC dC C' bR mR dR Q') (h' : IsRow k p' L' C' Q') :
    Calls Tryd.prog 21 #[.int .i64 k, rowV p aL nL cL aC nC cC aR nR cR, rowV p' bL mL dL bC mC dC bR mR dR] W fun e w' => ∃ b : Bool, e = .returned (.tuple #[.bool b, .agg #[.int .i64 0, .slice none 0 0, .slice none 0 0]]) ∧ (b = true ↔ ∀ i, cellF p L C Q i = cellF p' L' C' Q' i) ∧ Below W.heap.size W w' := by
  obtain ⟨Wb, hWb⟩ : ∃ Wb, ((W.alloc (.cells #[.int .i64 p, .slice aL nL cL, .slice aC nC cC, .slice aR nR cR] 26)).alloc (.cells #[.int .i64 p', .slice bL mL dL, .slice bC mC dC, .slice bR mR dR] 26)).alloc (.cells #[.int .i64 0, .slice none 0 0, .slice none 0 0] 47) = Wb := ⟨_, rfl⟩
  have HX : Hid (Wb.cell? ⟨W.heap.size, 0, none⟩ = some (.int .i64 p) ∧ Wb.cell? ⟨W.heap.size, 1, none⟩ = some (.slice aL nL cL) ∧ Wb.cell? ⟨W.heap.size, 2, none⟩ = some (.slice aC nC cC) ∧ Wb.cell? ⟨W.heap.size, 3, none⟩ = some (.slice aR nR cR)) := by rw [← hWb]; exact ⟨cell_al _ (cell_al _ (by simp)), cell_al _ (cell_al _ (by simp)), cell_al _ (cell_al _ (by simp)), cell_al _ (cell_al _ (by simp))⟩
  have HY : Hid (Wb.cell? ⟨W.heap.size + 1, 0, none⟩ = some (.int .i64 p') ∧ Wb.cell? ⟨W.heap.size + 1, 1, none⟩ = some (.slice bL mL dL) ∧ Wb.cell? ⟨W.heap.size + 1, 2, none⟩ = some (.slice bC mC dC) ∧ Wb.cell? ⟨W.heap.size + 1, 3, none⟩ = some (.slice bR mR dR)) := by rw [← hWb]; exact ⟨cell_al _ (by simp), cell_al _ (by simp), cell_al _ (by simp), cell_al _ (by simp)⟩
  have HSZ : Hid (Wb.heap.size = W.heap.size + 3) := by show _ = _; rw [← hWb]; simp
  have HS0 : Hid (W.heap.size < Wb.heap.size) := by show _ < _; have := HSZ.out; omega
  have HS1 : Hid (W.heap.size + 1 < Wb.heap.size) := by show _ < _; have := HSZ.out; omega
  have HBX : Hid (Below W.heap.size W Wb) := by rw [← hWb]; exact balloc (balloc (balloc (bnil W) _) _) _
  have HM := Lib.hid hM; clear hM
  have HM' := Lib.hid hM'; clear hM'
  have H := Lib.hid h; clear h
  have H' := Lib.hid h'; clear h'
  have HWB := Lib.hid hWb; clear hWb
  go_enter Tryd.func21, Tryd.ntmps21
  go_wp2_with fail
  rw [HWB.out]
  refine (refcheck_ok k p aL aC aR nL cL nC cC nR cR L C Q _ (HM.out.up HBX.out) H.out).mono ?_; rintro e w1 ⟨rfl, hb1⟩
  obtain ⟨We, hWe⟩ : ∃ We, w1.alloc (.cells #[.int .i64 0, .slice none 0 0, .slice none 0 0] 47) = We := ⟨_, rfl⟩
  have hbe : Below w1.heap.size w1 We := by rw [← hWe]; exact balloc (bnil w1) _
  have HC1 := Lib.hid (hb1.trans (hbe.mono hb1.size))
  have HB1 := Lib.hid (HBX.out.trans (HC1.out.mono HBX.out.size))
  have HW1 := Lib.hid hb1
  have HWE := Lib.hid hWe
  clear hb1 hbe hWe
  go_wp2_with fail
  rw [HWE.out]
  refine (rawBad_any _ _ _ _).mono ?_; rintro e w2 ⟨rfl, hb2⟩
  have HC2 := Lib.hid (HC1.out.trans (hb2.mono HC1.out.size))
  have HB2 := Lib.hid (bstep HB1.out hb2)
  have HE2 := Lib.hid hb2
  clear hb2
  have y0 := (HC2.out.cell (p := ⟨W.heap.size + 1, 0, none⟩) HS1.out).trans HY.out.1
  have y1 := (HC2.out.cell (p := ⟨W.heap.size + 1, 1, none⟩) HS1.out).trans HY.out.2.1
  have y2 := (HC2.out.cell (p := ⟨W.heap.size + 1, 2, none⟩) HS1.out).trans HY.out.2.2.1
  have y3 := (HC2.out.cell (p := ⟨W.heap.size + 1, 3, none⟩) HS1.out).trans HY.out.2.2.2
  go_wp2_with fail
  refine (refcheck_ok k p' bL bC bR mL dL mC dC mR dR L' C' Q' _ (HM'.out.up HB2.out) H'.out).mono ?_; rintro e w3 ⟨rfl, hb3⟩
  have he3 := bstep HE2.out hb3
  rw [← HWE.out] at he3
  obtain ⟨⟨q0, q1, q2⟩, f0, f1, f2⟩ := res3 rfl he3
  obtain ⟨w4, e4, ⟨r0, r1, r2⟩, hb4, hk4, hs4⟩ := res3_set (u0 := .int .i64 0) (u1 := .slice none 0 0) (u2 := .slice none 0 0) rfl he3
  have HC4 := Lib.hid (HW1.out.trans (hb4.mono HW1.out.size))
  have HB4 := Lib.hid (HBX.out.trans (HC4.out.mono HBX.out.size))
  have HE4 := Lib.hid e4
  clear y0 y1 y2 y3 he3 hb3 e4 hb4
  go_wp2_with fail
  rw [HE4.out]
  refine (rawBad_any _ _ _ _).mono ?_; rintro e w5 ⟨rfl, hb5⟩
  have HC5 := Lib.hid (HC4.out.trans (hb5.mono HC4.out.size))
  have HB5 := Lib.hid (bstep HB4.out hb5)
  clear hb5 q0 q1 q2 f0 f1 f2 r0 r1 r2 hk4 hs4
  have x0 := (HC5.out.cell (p := ⟨W.heap.size, 0, none⟩) HS0.out).trans HX.out.1
  have x1 := (HC5.out.cell (p := ⟨W.heap.size, 1, none⟩) HS0.out).trans HX.out.2.1
  have x2 := (HC5.out.cell (p := ⟨W.heap.size, 2, none⟩) HS0.out).trans HX.out.2.2.1
  have x3 := (HC5.out.cell (p := ⟨W.heap.size, 3, none⟩) HS0.out).trans HX.out.2.2.2
  have y0 := (HC5.out.cell (p := ⟨W.heap.size + 1, 0, none⟩) HS1.out).trans HY.out.1
  have y1 := (HC5.out.cell (p := ⟨W.heap.size + 1, 1, none⟩) HS1.out).trans HY.out.2.1
  have y2 := (HC5.out.cell (p := ⟨W.heap.size + 1, 2, none⟩) HS1.out).trans HY.out.2.2.1
  have y3 := (HC5.out.cell (p := ⟨W.heap.size + 1, 3, none⟩) HS1.out).trans HY.out.2.2.2
  go_wp2_with fail
  refine (refEqual_any k p aL aC aR nL cL nC cC nR cR L C Q p' bL bC bR mL dL mC dC mR dR L' C' Q' _ (HM.out.up HB5.out) H.out (HM'.out.up HB5.out) H'.out).mono ?_; rintro e w6 ⟨b, rfl, hbe, hb6⟩
  have HBE := Lib.hid hbe
  have hz6 := HC5.out.trans (hb6.mono HC5.out.size)
  rw [← HWB.out] at hz6
  have HBX2 := Lib.hid (balloc (balloc (bnil W) (.cells #[.int .i64 p, .slice aL nL cL, .slice aC nC cC, .slice aR nR cR] 26)) (.cells #[.int .i64 p', .slice bL mL dL, .slice bC mC dC, .slice bR mR dR] 26))
  clear hbe hb6 x0 x1 x2 x3 y0 y1 y2 y3
  obtain ⟨⟨q0, q1, q2⟩, f0, f1, f2⟩ := res3 (g := W.heap.size + 1 + 1) (by simp) hz6
  go_wp2
  obtain ⟨w9, e9, ⟨r0, r1, r2⟩, hb9, hk9, hs9⟩ := res3_set (g := W.heap.size + 1 + 1) (u0 := .int .i64 0) (u1 := .slice none 0 0) (u2 := .slice none 0 0) (by simp) hz6
  rw [e9]
  refine bodyPost_ret (v := .tuple #[.bool b, .agg #[.int .i64 0, .slice none 0 0, .slice none 0 0]]) (by simp [results, Tryd.results21, go_sem, r0, r1, r2]) rfl ?_
  exact ⟨b, rfl, HBE.out, HBX2.out.trans (hb9.mono HBX2.out.size)⟩
end Go.Proofs.YtkgalgmjdfhhbaaDoor
