/- The walk of edenlaw07.RowWindows. -/
import Derived.Test.YtkgalgmjdfhhbaaDoorRowG
import Derived.Test.YtkgalgmjdfhhbaaDoorRawIs
namespace Go.Proofs.YtkgalgmjdfhhbaaDoor
open Go.RowKit
set_option linter.unusedVariables false
set_option maxRecDepth 100000

/-- the image's row is a row -/
theorem isrow_image {k r : Nat} {tb : List Int} {p : Int} {L C Q : List Int} (hI : IsRule k r tb) (h : IsRow k p L C Q) (h1 : -4096 ≤ p - (r : Int)) (n : Nat) (hn : n = C.length + 2 * r) (h2 : n ≤ 16384) (a b c : Int) :
    IsRow k (p - (r : Int)) (valsF (img k r tb (cellF p L C Q)) a L.length) (valsF (img k r tb (cellF p L C Q)) b n) (valsF (img k r tb (cellF p L C Q)) c Q.length) :=
  ⟨h.k1, h.k4, h1, by have := h.p2; omega, by rw [valsF_len]; exact h.l1, by rw [valsF_len]; exact h.l2, by rw [valsF_len]; exact h.r1, by rw [valsF_len]; exact h.r2, by rw [valsF_len]; exact h2,
    valsF_mem (img_range hI.sym hI.k1), valsF_mem (img_range hI.sym hI.k1), valsF_mem (img_range hI.sym hI.k1)⟩

set_option maxHeartbeats 8000000 in
theorem rowwin_err (k r : Int) (aT : Option Addr) (nT cT : Nat) (tb : List Int) (p : Int) (aL aC aR : Option Addr) (nL cL nC cC nR cR : Nat) (L C Q : List Int) (p' : Int) (bL bC bR : Option Addr) (mL dL mC dC mR dR : Nat) (L' C' Q' : List Int) (x : Int) (W : World) (R : Nat → Addr) (hG : Glob W R) (hT : SlI W aT nT cT tb) (hM : RowM W aL nL cL L aC nC cC C aR nR cR Q) (hM' : RowM W bL mL dL L' bC mC dC C' bR mR dR Q') (h : ∀ kn rn : Nat, k = kn → r = rn → IsRule kn rn tb → IsRow kn p L C Q → ¬ (-4096 ≤ p - r ∧ nC + 2 * rn ≤ 16384)) :
    Calls Tryd.prog 3 #[ruleV k r aT nT cT, rowV p aL nL cL aC nC cC aR nR cR, rowV p' bL mL dL bC mC dC bR mR dR, .int .i64 x] W (TrueBelow W) := by
  have HH := Lib.hid h; clear h
  obtain ⟨Wb, hWb⟩ : ∃ Wb, ((W.alloc (.cells #[.int .i64 k, .int .i64 r, .slice aT nT cT] 24)).alloc (.cells #[.int .i64 p, .slice aL nL cL, .slice aC nC cC, .slice aR nR cR] 26)).alloc (.cells #[.int .i64 p', .slice bL mL dL, .slice bC mC dC, .slice bR mR dR] 26) = Wb := ⟨_, rfl⟩
  have HT : Hid (Wb.cell? ⟨W.heap.size, 0, none⟩ = some (.int .i64 k) ∧ Wb.cell? ⟨W.heap.size, 1, none⟩ = some (.int .i64 r) ∧ Wb.cell? ⟨W.heap.size, 2, none⟩ = some (.slice aT nT cT)) := by rw [← hWb]; exact ⟨cell_al _ (cell_al _ (by simp)), cell_al _ (cell_al _ (by simp)), cell_al _ (cell_al _ (by simp))⟩
  have HX : Hid (Wb.cell? ⟨W.heap.size + 1, 0, none⟩ = some (.int .i64 p) ∧ Wb.cell? ⟨W.heap.size + 1, 1, none⟩ = some (.slice aL nL cL) ∧ Wb.cell? ⟨W.heap.size + 1, 2, none⟩ = some (.slice aC nC cC) ∧ Wb.cell? ⟨W.heap.size + 1, 3, none⟩ = some (.slice aR nR cR)) := by rw [← hWb]; exact ⟨cell_al _ (by simp), cell_al _ (by simp), cell_al _ (by simp), cell_al _ (by simp)⟩
  have HY : Hid (Wb.cell? ⟨W.heap.size + 1 + 1, 0, none⟩ = some (.int .i64 p') ∧ Wb.cell? ⟨W.heap.size + 1 + 1, 1, none⟩ = some (.slice bL mL dL) ∧ Wb.cell? ⟨W.heap.size + 1 + 1, 2, none⟩ = some (.slice bC mC dC) ∧ Wb.cell? ⟨W.heap.size + 1 + 1, 3, none⟩ = some (.slice bR mR dR)) := by rw [← hWb]; exact ⟨cell_new (by simp) rfl, cell_new (by simp) rfl, cell_new (by simp) rfl, cell_new (by simp) rfl⟩
  have HSZ : Hid (Wb.heap.size = W.heap.size + 3) := by show _ = _; rw [← hWb]; simp
  have HS0 : Hid (W.heap.size < Wb.heap.size) := by show _ < _; have := HSZ.out; omega
  have HS1 : Hid (W.heap.size + 1 < Wb.heap.size) := by show _ < _; have := HSZ.out; omega
  have HS2 : Hid (W.heap.size + 1 + 1 < Wb.heap.size) := by show _ < _; have := HSZ.out; omega
  have HBX : Hid (Below W.heap.size W Wb) := by rw [← hWb]; exact balloc (balloc (balloc (bnil W) _) _) _
  have hmT := hT.nm
  have HTT := Lib.hid hT.rk; clear hT
  have HM := Lib.hid hM; clear hM
  have HM' := Lib.hid hM'; clear hM'
  have HG := Lib.hid hG; clear hG
  have HWB := Lib.hid hWb; clear hWb
  go_enter Tryd.func3, Tryd.ntmps3
  go_wp2_with fail
  rw [HWB.out]
  refine (awake07 _ R (HG.out.up HBX.out)).mono ?_; rintro e w1 ⟨rfl, hb1⟩
  have HC1 := Lib.hid hb1
  have HB1 := Lib.hid (HBX.out.trans (hb1.mono HBX.out.size))
  clear hb1
  have t0 := (HC1.out.cell (p := ⟨W.heap.size, 0, none⟩) HS0.out).trans HT.out.1
  have t1 := (HC1.out.cell (p := ⟨W.heap.size, 1, none⟩) HS0.out).trans HT.out.2.1
  have t2 := (HC1.out.cell (p := ⟨W.heap.size, 2, none⟩) HS0.out).trans HT.out.2.2
  have x0 := (HC1.out.cell (p := ⟨W.heap.size + 1, 0, none⟩) HS1.out).trans HX.out.1
  have x1 := (HC1.out.cell (p := ⟨W.heap.size + 1, 1, none⟩) HS1.out).trans HX.out.2.1
  have x2 := (HC1.out.cell (p := ⟨W.heap.size + 1, 2, none⟩) HS1.out).trans HX.out.2.2.1
  have x3 := (HC1.out.cell (p := ⟨W.heap.size + 1, 3, none⟩) HS1.out).trans HX.out.2.2.2
  go_wp2_with fail
  refine (rowstep_err k r aT nT cT tb p aL aC aR nL cL nC cC nR cR L C Q _ R (HG.out.up HB1.out) (HTT.out.up HB1.out) hmT (HM.out.up HB1.out) HH.out).mono ?_; rintro e w2 ⟨g2, rfl, hb2⟩
  go_wp2
  go_ret
  exact ⟨rfl, balloc (bstep HB1.out hb2) _⟩

set_option maxHeartbeats 16000000 in
theorem rowwin_ok (k r : Nat) (aT : Option Addr) (nT cT : Nat) (tb : List Int) (p : Int) (aL aC aR : Option Addr) (nL cL nC cC nR cR : Nat) (L C Q : List Int) (p' : Int) (bL bC bR : Option Addr) (mL dL mC dC mR dR : Nat) (L' C' Q' : List Int) (x : Int) (W : World) (R : Nat → Addr) (hG : Glob W R) (hT : SlI W aT nT cT tb) (hM : RowM W aL nL cL L aC nC cC C aR nR cR Q) (hM' : RowM W bL mL dL L' bC mC dC C' bR mR dR Q') (hI : IsRule k r tb) (h : IsRow k p L C Q) (h1 : -4096 ≤ p - (r : Int)) (h2 : nC + 2 * r ≤ 16384) :
    Calls Tryd.prog 3 #[ruleV k r aT nT cT, rowV p aL nL cL aC nC cC aR nR cR, rowV p' bL mL dL bC mC dC bR mR dR, .int .i64 x] W (TrueBelow W) := by
  have r3 := hI.r3
  have hp1 := h.p1
  have hp2 := h.p2
  have eL := hM.l.rk.len
  have eC := hM.c.rk.len
  have eR := hM.r.rk.len
  have hL8 : nL * 8 ≤ 140737488351232 := hM.l.n8
  have hR8 : nR * 8 ≤ 140737488351232 := hM.r.n8
  have q1 := Int.lt_tmod_of_pos x (show (0 : Int) < 9000 by omega)
  have q2 := Int.tmod_lt_of_pos x (show (0 : Int) < 9000 by omega)
  obtain ⟨I, hIx, hI1, hI2⟩ : ∃ I : Int, x.tmod 9000 % 9000 - 4500 = I ∧ -4500 ≤ I ∧ I ≤ 4500 := ⟨x.tmod 9000 % 9000 - 4500, rfl, by omega, by omega⟩
  obtain ⟨n', hn'⟩ : ∃ n' : Nat, nC + 2 * r = n' := ⟨_, rfl⟩
  obtain ⟨z, hzI, hz⟩ : ∃ z : Nat, 60 + 2 * (r : Int) = (z : Int) ∧ 60 + 2 * r = z := ⟨60 + 2 * r, by omega, rfl⟩
  have HZZ := Lib.hid hz
  clear hz
  have HEN := Lib.hid hn'
  have himg := isrow_image hI h h1 n' (by omega) (by omega) (p - (r : Int) - (nL : Int)) (p - (r : Int)) (p - (r : Int) + (n' : Int))
  have hcell : ∀ i, cellF (p - (r : Int)) (valsF (img k r tb (cellF p L C Q)) (p - (r : Int) - (nL : Int)) L.length) (valsF (img k r tb (cellF p L C Q)) (p - (r : Int)) n') (valsF (img k r tb (cellF p L C Q)) (p - (r : Int) + (n' : Int)) Q.length) i = img k r tb (cellF p L C Q) i := by
    intro i
    have := cellF_image (k := k) (r := r) (tb := tb) (p := p) (L := L) (C := C) (R := Q) h.l1 h.r1 i
    rw [← eC, hn', ← eL] at this
    rw [← eL]
    exact this
  rw [← eL, ← eR] at himg hcell
  have hcr := h.cell
  obtain ⟨S, hS⟩ : ∃ S, cellF p L C Q = S := ⟨_, rfl⟩
  rw [hS] at himg hcell hcr
  have HIMG := Lib.hid himg
  have HCELL := Lib.hid hcell
  have HSS := Lib.hid hS
  have HCR := Lib.hid hcr
  have HI := Lib.hid hI
  have H := Lib.hid h
  have HHN := Lib.hid h2
  clear himg hcell hS hcr hI h eL eC eR
  obtain ⟨Wb, hWb⟩ : ∃ Wb, ((W.alloc (.cells #[.int .i64 k, .int .i64 r, .slice aT nT cT] 24)).alloc (.cells #[.int .i64 p, .slice aL nL cL, .slice aC nC cC, .slice aR nR cR] 26)).alloc (.cells #[.int .i64 p', .slice bL mL dL, .slice bC mC dC, .slice bR mR dR] 26) = Wb := ⟨_, rfl⟩
  have HT : Hid (Wb.cell? ⟨W.heap.size, 0, none⟩ = some (.int .i64 k) ∧ Wb.cell? ⟨W.heap.size, 1, none⟩ = some (.int .i64 r) ∧ Wb.cell? ⟨W.heap.size, 2, none⟩ = some (.slice aT nT cT)) := by rw [← hWb]; exact ⟨cell_al _ (cell_al _ (by simp)), cell_al _ (cell_al _ (by simp)), cell_al _ (cell_al _ (by simp))⟩
  have HX : Hid (Wb.cell? ⟨W.heap.size + 1, 0, none⟩ = some (.int .i64 p) ∧ Wb.cell? ⟨W.heap.size + 1, 1, none⟩ = some (.slice aL nL cL) ∧ Wb.cell? ⟨W.heap.size + 1, 2, none⟩ = some (.slice aC nC cC) ∧ Wb.cell? ⟨W.heap.size + 1, 3, none⟩ = some (.slice aR nR cR)) := by rw [← hWb]; exact ⟨cell_al _ (by simp), cell_al _ (by simp), cell_al _ (by simp), cell_al _ (by simp)⟩
  have HY : Hid (Wb.cell? ⟨W.heap.size + 1 + 1, 0, none⟩ = some (.int .i64 p') ∧ Wb.cell? ⟨W.heap.size + 1 + 1, 1, none⟩ = some (.slice bL mL dL) ∧ Wb.cell? ⟨W.heap.size + 1 + 1, 2, none⟩ = some (.slice bC mC dC) ∧ Wb.cell? ⟨W.heap.size + 1 + 1, 3, none⟩ = some (.slice bR mR dR)) := by rw [← hWb]; exact ⟨cell_new (by simp) rfl, cell_new (by simp) rfl, cell_new (by simp) rfl, cell_new (by simp) rfl⟩
  have HSZ : Hid (Wb.heap.size = W.heap.size + 3) := by show _ = _; rw [← hWb]; simp
  have HS0 : Hid (W.heap.size < Wb.heap.size) := by show _ < _; have := HSZ.out; omega
  have HS1 : Hid (W.heap.size + 1 < Wb.heap.size) := by show _ < _; have := HSZ.out; omega
  have HS2 : Hid (W.heap.size + 1 + 1 < Wb.heap.size) := by show _ < _; have := HSZ.out; omega
  have HBX : Hid (Below W.heap.size W Wb) := by rw [← hWb]; exact balloc (balloc (balloc (bnil W) _) _) _
  have hmT := hT.nm
  have HTT := Lib.hid hT.rk; clear hT
  have HM := Lib.hid hM; clear hM
  have HM' := Lib.hid hM'; clear hM'
  have HG := Lib.hid hG; clear hG
  have HWB := Lib.hid hWb; clear hWb
  go_enter Tryd.func3, Tryd.ntmps3
  go_wp2_with fail
  rw [HWB.out]
  refine (awake07 _ R (HG.out.up HBX.out)).mono ?_; rintro e w1 ⟨rfl, hb1⟩
  have HC1 := Lib.hid hb1
  have HB1 := Lib.hid (HBX.out.trans (hb1.mono HBX.out.size))
  clear hb1
  have t0 := (HC1.out.cell (p := ⟨W.heap.size, 0, none⟩) HS0.out).trans HT.out.1
  have t1 := (HC1.out.cell (p := ⟨W.heap.size, 1, none⟩) HS0.out).trans HT.out.2.1
  have t2 := (HC1.out.cell (p := ⟨W.heap.size, 2, none⟩) HS0.out).trans HT.out.2.2
  have x0 := (HC1.out.cell (p := ⟨W.heap.size + 1, 0, none⟩) HS1.out).trans HX.out.1
  have x1 := (HC1.out.cell (p := ⟨W.heap.size + 1, 1, none⟩) HS1.out).trans HX.out.2.1
  have x2 := (HC1.out.cell (p := ⟨W.heap.size + 1, 2, none⟩) HS1.out).trans HX.out.2.2.1
  have x3 := (HC1.out.cell (p := ⟨W.heap.size + 1, 3, none⟩) HS1.out).trans HX.out.2.2.2
  go_wp2_with fail
  refine (rowstep_ok k r aT nT cT tb p aL aC aR nL cL nC cC nR cR L C Q _ R (HG.out.up HB1.out) (HTT.out.up HB1.out) HI.out (HM.out.up HB1.out) H.out h1 HHN.out).mono ?_; rintro e w2 ⟨a1, c1, a2, c2, a3, c3, rfl, ho2⟩
  rw [HEN.out, HSS.out] at ho2
  rw [HEN.out]
  obtain ⟨Wa, hWa⟩ : ∃ Wa, w2.alloc (.cells #[.int .i64 (p - (r : Int)), .slice a1 nL c1, .slice a2 n' c2, .slice a3 nR c3] 26) = Wa := ⟨_, rfl⟩
  have HA : Hid (Wa.cell? ⟨w2.heap.size, 0, none⟩ = some (.int .i64 (p - (r : Int))) ∧ Wa.cell? ⟨w2.heap.size, 1, none⟩ = some (.slice a1 nL c1) ∧ Wa.cell? ⟨w2.heap.size, 2, none⟩ = some (.slice a2 n' c2) ∧ Wa.cell? ⟨w2.heap.size, 3, none⟩ = some (.slice a3 nR c3)) := by rw [← hWa]; exact ⟨by simp, by simp, by simp, by simp⟩
  have HSA : Hid (w2.heap.size < Wa.heap.size) := by show _ < _; rw [← hWa]; simp
  have hba : Below w2.heap.size w2 Wa := by rw [← hWa]; exact balloc (bnil w2) _
  have hn4 : n' ≤ 16384 := by have := HHN.out; have := HEN.out; omega
  have HMA : Hid (RowM Wa a1 nL c1 (valsF (img k r tb S) (p - (r : Int) - (nL : Int)) nL) a2 n' c2 (valsF (img k r tb S) (p - (r : Int)) n') a3 nR c3 (valsF (img k r tb S) (p - (r : Int) + (n' : Int)) nR)) :=
    ⟨(ho2.L.sl hL8).up hba, (ho2.C.sl (by omega)).up hba, (ho2.R.sl hR8).up hba⟩
  have HC2w := Lib.hid (HC1.out.trans (ho2.bel.mono HC1.out.size))
  have HC2 := Lib.hid (HC1.out.trans ((ho2.bel.trans (hba.mono ho2.bel.size)).mono HC1.out.size))
  have HB2 := Lib.hid (bstep HB1.out (ho2.bel.trans (hba.mono ho2.bel.size)))
  have HWA := Lib.hid hWa
  clear hWa ho2 hba t0 t1 t2 x0 x1 x2 x3
  have t0 := (HC2.out.cell (p := ⟨W.heap.size, 0, none⟩) HS0.out).trans HT.out.1
  have t1 := (HC2.out.cell (p := ⟨W.heap.size, 1, none⟩) HS0.out).trans HT.out.2.1
  have t2 := (HC2.out.cell (p := ⟨W.heap.size, 2, none⟩) HS0.out).trans HT.out.2.2
  have x0 := (HC2.out.cell (p := ⟨W.heap.size + 1, 0, none⟩) HS1.out).trans HX.out.1
  have x1 := (HC2.out.cell (p := ⟨W.heap.size + 1, 1, none⟩) HS1.out).trans HX.out.2.1
  have x2 := (HC2.out.cell (p := ⟨W.heap.size + 1, 2, none⟩) HS1.out).trans HX.out.2.2.1
  have x3 := (HC2.out.cell (p := ⟨W.heap.size + 1, 3, none⟩) HS1.out).trans HX.out.2.2.2
  rw [← HWA.out] at t0 t1 t2 x0 x1 x2 x3
  go_wp2_with fail
  rw [HWA.out]
  refine (cut_ok k (p - (r : Int)) I 60 a1 a2 a3 nL c1 n' c2 nR c3 _ _ _ _ R (HG.out.up HB2.out) HMA.out HIMG.out (by omega) (by omega) (by decide)).mono ?_; rintro e w3 ⟨aP, cP, rfl, hoP, hb3⟩
  rw [valsF_congr (t := img k r tb S) (b := I) fun j _ => HCELL.out _] at hoP
  have HD3 := Lib.hid hb3
  have HOP := Lib.hid hoP
  have HC3 := Lib.hid (HC2.out.trans (hb3.mono HC2.out.size))
  have HB3 := Lib.hid (bstep HB2.out hb3)
  clear hoP hb3 t0 t1 t2 x0 x1 x2 x3
  have t0 := (HC3.out.cell (p := ⟨W.heap.size, 0, none⟩) HS0.out).trans HT.out.1
  have t1 := (HC3.out.cell (p := ⟨W.heap.size, 1, none⟩) HS0.out).trans HT.out.2.1
  have t2 := (HC3.out.cell (p := ⟨W.heap.size, 2, none⟩) HS0.out).trans HT.out.2.2
  have x0 := (HC3.out.cell (p := ⟨W.heap.size + 1, 0, none⟩) HS1.out).trans HX.out.1
  have x1 := (HC3.out.cell (p := ⟨W.heap.size + 1, 1, none⟩) HS1.out).trans HX.out.2.1
  have x2 := (HC3.out.cell (p := ⟨W.heap.size + 1, 2, none⟩) HS1.out).trans HX.out.2.2.1
  have x3 := (HC3.out.cell (p := ⟨W.heap.size + 1, 3, none⟩) HS1.out).trans HX.out.2.2.2
  go_wp2_with fail
  refine (cut_ok k p (I - (r : Int)) z aL aC aR nL cL nC cC nR cR L C Q _ R (HG.out.up HB3.out) (HM.out.up HB3.out) H.out (by omega) (by omega) (by omega)).mono ?_; rintro e w4 ⟨aQ, cQ, rfl, hoQ, hb4⟩
  rw [HSS.out] at hoQ
  have HOQ := Lib.hid hoQ
  have HOP4 := Lib.hid (HOP.out.up hb4)
  have HD4 := Lib.hid (bstep HD3.out hb4)
  have HC4 := Lib.hid (HC3.out.trans (hb4.mono HC3.out.size))
  have HB4 := Lib.hid (bstep HB3.out hb4)
  clear hoQ hb4 HOP t0 t1 t2 x0 x1 x2 x3
  have t0 := (HC4.out.cell (p := ⟨W.heap.size, 0, none⟩) HS0.out).trans HT.out.1
  have t1 := (HC4.out.cell (p := ⟨W.heap.size, 1, none⟩) HS0.out).trans HT.out.2.1
  have t2 := (HC4.out.cell (p := ⟨W.heap.size, 2, none⟩) HS0.out).trans HT.out.2.2
  go_wp2_with fail
  refine (rstep_ok k r aT nT cT tb aQ z cQ _ _ (HTT.out.up HB4.out) HOQ.out.rk HI.out (by omega) (valsF_mem HCR.out)).mono ?_; rintro e w5 ⟨aZ, cZ, rfl, hoZ, hb5⟩
  rw [stepL_vals, show I - (r : Int) + (r : Int) = I by omega, show z - 2 * r = 60 by omega] at hoZ
  rw [show z - 2 * r = 60 by omega]
  have HOZ := Lib.hid hoZ
  have HOP5 := Lib.hid (HOP4.out.up hb5)
  have HD5 := Lib.hid (bstep HD4.out hb5)
  have HC5 := Lib.hid (HC4.out.trans (hb5.mono HC4.out.size))
  have HB5 := Lib.hid (bstep HB4.out hb5)
  clear hoZ hb5 HOP4 HOQ t0 t1 t2
  go_wp2_with fail
  refine (ints_eqB aP aZ 60 60 cP cZ (valsF (img k r tb S) I 60) _ HOP5.out.rk HOZ.out.rk (by rw [valsF_len]; decide)).mono ?_; rintro e w6 ⟨rfl, hb6⟩
  have HD6 := Lib.hid (bstep HD5.out hb6)
  have HC6 := Lib.hid (HC5.out.trans (hb6.mono HC5.out.size))
  have HB6 := Lib.hid (bstep HB5.out hb6)
  clear hb6 HOP5 HOZ
  have t0 := (HC6.out.cell (p := ⟨W.heap.size, 0, none⟩) HS0.out).trans HT.out.1
  have t1 := (HC6.out.cell (p := ⟨W.heap.size, 1, none⟩) HS0.out).trans HT.out.2.1
  have t2 := (HC6.out.cell (p := ⟨W.heap.size, 2, none⟩) HS0.out).trans HT.out.2.2
  have y0 := (HC6.out.cell (p := ⟨W.heap.size + 1 + 1, 0, none⟩) HS2.out).trans HY.out.1
  have y1 := (HC6.out.cell (p := ⟨W.heap.size + 1 + 1, 1, none⟩) HS2.out).trans HY.out.2.1
  have y2 := (HC6.out.cell (p := ⟨W.heap.size + 1 + 1, 2, none⟩) HS2.out).trans HY.out.2.2.1
  have y3 := (HC6.out.cell (p := ⟨W.heap.size + 1 + 1, 3, none⟩) HS2.out).trans HY.out.2.2.2
  by_cases hy : IsRow k p' L' C' Q' ∧ -4096 ≤ p' - (r : Int) ∧ mC + 2 * r ≤ 16384
  · obtain ⟨hy0, hy1, hy2⟩ := hy
    have HYR := Lib.hid hy0
    have eL' := HM'.out.l.rk.len
    have eC' := HM'.out.c.rk.len
    have eR' := HM'.out.r.rk.len
    obtain ⟨m', hm'⟩ : ∃ m' : Nat, mC + 2 * r = m' := ⟨_, rfl⟩
    have HEM := Lib.hid hm'
    have himg' := isrow_image HI.out hy0 hy1 m' (by omega) (by omega) (p' - (r : Int) - (mL : Int)) (p' - (r : Int)) (p' - (r : Int) + (m' : Int))
    have hcell' : ∀ i, cellF (p' - (r : Int)) (valsF (img k r tb (cellF p' L' C' Q')) (p' - (r : Int) - (mL : Int)) L'.length) (valsF (img k r tb (cellF p' L' C' Q')) (p' - (r : Int)) m') (valsF (img k r tb (cellF p' L' C' Q')) (p' - (r : Int) + (m' : Int)) Q'.length) i = img k r tb (cellF p' L' C' Q') i := by
      intro i
      have := cellF_image (k := k) (r := r) (tb := tb) (p := p') (L := L') (C := C') (R := Q') hy0.l1 hy0.r1 i
      rw [← eC', hm', ← eL'] at this
      rw [← eL']
      exact this
    rw [← eL', ← eR'] at himg' hcell'
    have HIMG' := Lib.hid himg'
    have HCELL' := Lib.hid hcell'
    have hL8' : mL * 8 ≤ 140737488351232 := HM'.out.l.n8
    have hR8' : mR * 8 ≤ 140737488351232 := HM'.out.r.n8
    have HHM := Lib.hid hy2
    have hm4 : m' ≤ 16384 := by omega
    clear himg' hcell' eL' eC' eR' hy0
    go_wp2_with fail
    refine (rowstep_ok k r aT nT cT tb p' bL bC bR mL dL mC dC mR dR L' C' Q' _ R (HG.out.up HB6.out) (HTT.out.up HB6.out) HI.out (HM'.out.up HB6.out) HYR.out hy1 HHM.out).mono ?_; rintro e w7 ⟨b1, d1, b2, d2, b3, d3, rfl, ho7⟩
    rw [HEM.out] at ho7
    rw [HEM.out]
    obtain ⟨Wc, hWc⟩ : ∃ Wc, w7.alloc (.cells #[.int .i64 (p' - (r : Int)), .slice b1 mL d1, .slice b2 m' d2, .slice b3 mR d3] 26) = Wc := ⟨_, rfl⟩
    have HV : Hid (Wc.cell? ⟨w7.heap.size, 0, none⟩ = some (.int .i64 (p' - (r : Int))) ∧ Wc.cell? ⟨w7.heap.size, 1, none⟩ = some (.slice b1 mL d1) ∧ Wc.cell? ⟨w7.heap.size, 2, none⟩ = some (.slice b2 m' d2) ∧ Wc.cell? ⟨w7.heap.size, 3, none⟩ = some (.slice b3 mR d3)) := by rw [← hWc]; exact ⟨by simp, by simp, by simp, by simp⟩
    have HSV : Hid (w7.heap.size < Wc.heap.size) := by show _ < _; rw [← hWc]; simp
    have hbc : Below w7.heap.size w7 Wc := by rw [← hWc]; exact balloc (bnil w7) _
    have hb67 := ho7.bel.trans (hbc.mono ho7.bel.size)
    have HMC : Hid (RowM Wc b1 mL d1 (valsF (img k r tb (cellF p' L' C' Q')) (p' - (r : Int) - (mL : Int)) mL) b2 m' d2 (valsF (img k r tb (cellF p' L' C' Q')) (p' - (r : Int)) m') b3 mR d3 (valsF (img k r tb (cellF p' L' C' Q')) (p' - (r : Int) + (m' : Int)) mR)) :=
      ⟨(ho7.L.sl hL8').up hbc, (ho7.C.sl (by omega)).up hbc, (ho7.R.sl hR8').up hbc⟩
    have HC7w := Lib.hid (HC6.out.trans (ho7.bel.mono HC6.out.size))
    have HC7 := Lib.hid (HC6.out.trans (hb67.mono HC6.out.size))
    have HB7 := Lib.hid (bstep HB6.out hb67)
    have HD7 := Lib.hid (bstep HD6.out hb67)
    have HWC := Lib.hid hWc
    clear hWc ho7 hbc hb67 t0 t1 t2 y0 y1 y2 y3
    have t0 := (HC7.out.cell (p := ⟨W.heap.size, 0, none⟩) HS0.out).trans HT.out.1
    have t1 := (HC7.out.cell (p := ⟨W.heap.size, 1, none⟩) HS0.out).trans HT.out.2.1
    have t2 := (HC7.out.cell (p := ⟨W.heap.size, 2, none⟩) HS0.out).trans HT.out.2.2
    have x0 := (HC7.out.cell (p := ⟨W.heap.size + 1, 0, none⟩) HS1.out).trans HX.out.1
    have x1 := (HC7.out.cell (p := ⟨W.heap.size + 1, 1, none⟩) HS1.out).trans HX.out.2.1
    have x2 := (HC7.out.cell (p := ⟨W.heap.size + 1, 2, none⟩) HS1.out).trans HX.out.2.2.1
    have x3 := (HC7.out.cell (p := ⟨W.heap.size + 1, 3, none⟩) HS1.out).trans HX.out.2.2.2
    have y0 := (HC7.out.cell (p := ⟨W.heap.size + 1 + 1, 0, none⟩) HS2.out).trans HY.out.1
    have y1 := (HC7.out.cell (p := ⟨W.heap.size + 1 + 1, 1, none⟩) HS2.out).trans HY.out.2.1
    have y2 := (HC7.out.cell (p := ⟨W.heap.size + 1 + 1, 2, none⟩) HS2.out).trans HY.out.2.2.1
    have y3 := (HC7.out.cell (p := ⟨W.heap.size + 1 + 1, 3, none⟩) HS2.out).trans HY.out.2.2.2
    rw [← HWC.out] at t0 t1 t2 x0 x1 x2 x3 y0 y1 y2 y3
    go_wp2_with fail
    rw [HWC.out]
    refine (same_ok k p aL aC aR nL cL nC cC nR cR L C Q p' bL bC bR mL dL mC dC mR dR L' C' Q' _ R (HG.out.up HB7.out) (HM.out.up HB7.out) H.out (HM'.out.up HB7.out) HYR.out).mono ?_; rintro e w8 ⟨b, rfl, hbe, hb8⟩
    have HC8 := Lib.hid (HC7.out.trans (hb8.mono HC7.out.size))
    have HB8 := Lib.hid (bstep HB7.out hb8)
    have HD8 := Lib.hid (bstep HD7.out hb8)
    have HE8 := Lib.hid hb8
    have HBE := Lib.hid hbe
    clear hb8 hbe t0 t1 t2 x0 x1 x2 x3 y0 y1 y2 y3
    cases b with
    | false =>
      clear HBE
      go_wp2
      go_ret
      exact ⟨rfl, HB8.out⟩
    | true =>
      have t0 := (HC8.out.cell (p := ⟨W.heap.size, 0, none⟩) HS0.out).trans HT.out.1
      have t1 := (HC8.out.cell (p := ⟨W.heap.size, 1, none⟩) HS0.out).trans HT.out.2.1
      have t2 := (HC8.out.cell (p := ⟨W.heap.size, 2, none⟩) HS0.out).trans HT.out.2.2
      have u0 := (HD8.out.cell (p := ⟨w2.heap.size, 0, none⟩) HSA.out).trans HA.out.1
      have u1 := (HD8.out.cell (p := ⟨w2.heap.size, 1, none⟩) HSA.out).trans HA.out.2.1
      have u2 := (HD8.out.cell (p := ⟨w2.heap.size, 2, none⟩) HSA.out).trans HA.out.2.2.1
      have u3 := (HD8.out.cell (p := ⟨w2.heap.size, 3, none⟩) HSA.out).trans HA.out.2.2.2
      have v0 := (HE8.out.cell (p := ⟨w7.heap.size, 0, none⟩) HSV.out).trans HV.out.1
      have v1 := (HE8.out.cell (p := ⟨w7.heap.size, 1, none⟩) HSV.out).trans HV.out.2.1
      have v2 := (HE8.out.cell (p := ⟨w7.heap.size, 2, none⟩) HSV.out).trans HV.out.2.2.1
      have v3 := (HE8.out.cell (p := ⟨w7.heap.size, 3, none⟩) HSV.out).trans HV.out.2.2.2
      go_wp2_with fail
      refine (same_ok k (p - (r : Int)) a1 a2 a3 nL c1 n' c2 nR c3 _ _ _ (p' - (r : Int)) b1 b2 b3 mL d1 m' d2 mR d3 _ _ _ _ R (HG.out.up HB8.out) (HMA.out.up HD8.out) HIMG.out (HMC.out.up HE8.out) HIMG'.out).mono ?_; rintro e w9 ⟨b, rfl, hbe, hb9⟩
      obtain rfl : b = true := hbe.2 fun i => by
        rw [HCELL.out, HCELL'.out]
        have := HBE.out.1 (by simp)
        rw [HSS.out] at this
        exact img_congr fun j _ => this _
      clear hbe
      go_wp2
      go_ret
      exact ⟨rfl, bstep HB8.out hb9⟩
  · have hno : ∀ kn rn : Nat, (k : Int) = kn → (r : Int) = rn → IsRule kn rn tb → IsRow kn p' L' C' Q' → ¬ (-4096 ≤ p' - (r : Int) ∧ mC + 2 * rn ≤ 16384) := by
      intro kn rn e1 e2 _ h4 h5
      obtain rfl : k = kn := by omega
      obtain rfl : r = rn := by omega
      exact hy ⟨h4, h5⟩
    have HNO := Lib.hid hno
    clear hno hy
    go_wp2_with fail
    refine (rowstep_err k r aT nT cT tb p' bL bC bR mL dL mC dC mR dR L' C' Q' _ R (HG.out.up HB6.out) (HTT.out.up HB6.out) hmT (HM'.out.up HB6.out) HNO.out).mono ?_; rintro e w7 ⟨g7, rfl, hb7⟩
    obtain ⟨Wc, hWc⟩ : ∃ Wc, w7.alloc (.cells #[.int .i64 0, .slice none 0 0, .slice none 0 0, .slice none 0 0] 26) = Wc := ⟨_, rfl⟩
    have hbc : Below w7.heap.size w7 Wc := by rw [← hWc]; exact balloc (bnil w7) _
    have hb67 := hb7.trans (hbc.mono hb7.size)
    have HC7w := Lib.hid (HC6.out.trans (hb7.mono HC6.out.size))
    have HC7 := Lib.hid (HC6.out.trans (hb67.mono HC6.out.size))
    have HB7 := Lib.hid (bstep HB6.out hb67)
    have HWC := Lib.hid hWc
    clear hWc hb7 hbc hb67 t0 t1 t2 y0 y1 y2 y3
    have t0 := (HC7.out.cell (p := ⟨W.heap.size, 0, none⟩) HS0.out).trans HT.out.1
    have t1 := (HC7.out.cell (p := ⟨W.heap.size, 1, none⟩) HS0.out).trans HT.out.2.1
    have t2 := (HC7.out.cell (p := ⟨W.heap.size, 2, none⟩) HS0.out).trans HT.out.2.2
    have x0 := (HC7.out.cell (p := ⟨W.heap.size + 1, 0, none⟩) HS1.out).trans HX.out.1
    have x1 := (HC7.out.cell (p := ⟨W.heap.size + 1, 1, none⟩) HS1.out).trans HX.out.2.1
    have x2 := (HC7.out.cell (p := ⟨W.heap.size + 1, 2, none⟩) HS1.out).trans HX.out.2.2.1
    have x3 := (HC7.out.cell (p := ⟨W.heap.size + 1, 3, none⟩) HS1.out).trans HX.out.2.2.2
    have y0 := (HC7.out.cell (p := ⟨W.heap.size + 1 + 1, 0, none⟩) HS2.out).trans HY.out.1
    have y1 := (HC7.out.cell (p := ⟨W.heap.size + 1 + 1, 1, none⟩) HS2.out).trans HY.out.2.1
    have y2 := (HC7.out.cell (p := ⟨W.heap.size + 1 + 1, 2, none⟩) HS2.out).trans HY.out.2.2.1
    have y3 := (HC7.out.cell (p := ⟨W.heap.size + 1 + 1, 3, none⟩) HS2.out).trans HY.out.2.2.2
    rw [← HWC.out] at t0 t1 t2 x0 x1 x2 x3 y0 y1 y2 y3
    cases hy : rowErr (k : Int) p' L' C' Q' with
    | some z =>
      have HE := Lib.hid hy; clear hy
      have HNI := Lib.hid (rowErr_of H.out)
      go_wp2_with fail
      rw [HWC.out]
      refine (same_err k p aL aC aR nL cL nC cC nR cR L C Q p' bL bC bR mL dL mC dC mR dR L' C' Q' _ R (HG.out.up HB7.out) (HM.out.up HB7.out) (HM'.out.up HB7.out) z (.inr ⟨HNI.out, HE.out⟩)).mono ?_; rintro e w8 ⟨g8, rfl, he8, hb8⟩
      clear he8
      go_wp2
      go_ret
      exact ⟨rfl, bstep HB7.out hb8⟩
    | none =>
      obtain ⟨kn, e1, hy0⟩ := rowErr_none hy
      obtain rfl : k = kn := by omega
      have HYR := Lib.hid hy0; clear hy hy0 e1
      go_wp2_with fail
      rw [HWC.out]
      refine (same_ok k p aL aC aR nL cL nC cC nR cR L C Q p' bL bC bR mL dL mC dC mR dR L' C' Q' _ R (HG.out.up HB7.out) (HM.out.up HB7.out) H.out (HM'.out.up HB7.out) HYR.out).mono ?_; rintro e w8 ⟨b, rfl, hbe, hb8⟩
      clear hbe
      go_wp2
      go_ret
      exact ⟨rfl, bstep HB7.out hb8⟩

theorem rowwin_row (k r : Int) (aT : Option Addr) (nT cT : Nat) (tb : List Int) (p : Int) (aL : Option Addr) (nL cL : Nat) (L : List Int) (aC : Option Addr) (nC cC : Nat) (C : List Int) (aR : Option Addr) (nR cR : Nat) (Q : List Int) (p' : Int) (bL : Option Addr) (mL dL : Nat) (L' : List Int) (bC : Option Addr) (mC dC : Nat) (C' : List Int) (bR : Option Addr) (mR dR : Nat) (Q' : List Int) (x : Int) (W : World) (R : Nat → Addr) (hS : Sent W R)
    (hT : SlI W aT nT cT tb) (hM : RowM W aL nL cL L aC nC cC C aR nR cR Q) (hM' : RowM W bL mL dL L' bC mC dC C' bR mR dR Q') :
    Calls Tryd.prog 3 #[ruleV k r aT nT cT, rowV p aL nL cL aC nC cC aR nR cR, rowV p' bL mL dL bC mC dC bR mR dR, .int .i64 x] W (TrueBelow W) := by
  by_cases h : ∃ kn rn : Nat, k = kn ∧ r = rn ∧ IsRule kn rn tb ∧ IsRow kn p L C Q ∧ -4096 ≤ p - r ∧ nC + 2 * rn ≤ 16384
  · obtain ⟨kn, rn, rfl, rfl, hI, hR, h1, h2⟩ := h
    exact rowwin_ok kn rn aT nT cT tb p aL aC aR nL cL nC cC nR cR L C Q p' bL bC bR mL dL mC dC mR dR L' C' Q' x W R hS.glob hT hM hM' hI hR h1 h2
  · exact rowwin_err k r aT nT cT tb p aL aC aR nL cL nC cC nR cR L C Q p' bL bC bR mL dL mC dC mR dR L' C' Q' x W R hS.glob hT hM hM' fun kn rn e1 e2 h3 h4 h5 => h ⟨kn, rn, e1, e2, h3, h4, h5.1, h5.2⟩
end Go.Proofs.YtkgalgmjdfhhbaaDoor
