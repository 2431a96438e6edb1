/- The walk of edenlaw07.RowKeeps. -/
import Derived.Test.YtkgalgmjdfhhbaaDoorRowG
import Derived.Test.YtkgalgmjdfhhbaaDoorRawIs
import Derived.Test.YtkgalgmjdfhhbaaDoorApart
namespace Go.Proofs.YtkgalgmjdfhhbaaDoor
open Go.RowKit
set_option linter.unusedVariables false
set_option maxRecDepth 100000

theorem vals_core (p : Int) (L C Q : List Int) : valsF (cellF p L C Q) p C.length = C := by
  apply List.ext_getElem
  · rw [valsF_len]
  · intro i h1 h2
    have : (valsF (cellF p L C Q) p C.length).getD i 0 = C.getD i 0 := by
      rw [valsF_getD h2, cellF_mid (by omega) (by omega)]
      congr 1
      omega
    simpa [h1, h2] using this

set_option maxHeartbeats 8000000 in
theorem rowkeep_big (k r : Int) (aT : Option Addr) (nT cT : Nat) (tb : List Int) (p : Int) (aL aC aR : Option Addr) (nL cL nC cC nR cR : Nat) (L C Q : List Int) (W : World) (R : Nat → Addr) (hG : Glob W R) (hT : SlI W aT nT cT tb) (hM : RowM W aL nL cL L aC nC cC C aR nR cR Q) (h100 : 100 < nC) :
    Calls Tryd.prog 4 #[ruleV k r aT nT cT, rowV p aL nL cL aC nC cC aR nR cR] W (TrueBelow W) := by
  have hL8 : nL * 8 ≤ 140737488351232 := hM.l.n8
  have hC8 : nC * 8 ≤ 140737488351232 := hM.c.n8
  have hR8 : nR * 8 ≤ 140737488351232 := hM.r.n8
  obtain ⟨Wb, hWb⟩ : ∃ Wb, (W.alloc (.cells #[.int .i64 k, .int .i64 r, .slice aT nT cT] 24)).alloc (.cells #[.int .i64 p, .slice aL nL cL, .slice aC nC cC, .slice aR nR cR] 26) = Wb := ⟨_, rfl⟩
  have HT : Hid (Wb.cell? ⟨W.heap.size, 0, none⟩ = some (.int .i64 k) ∧ Wb.cell? ⟨W.heap.size, 1, none⟩ = some (.int .i64 r) ∧ Wb.cell? ⟨W.heap.size, 2, none⟩ = some (.slice aT nT cT)) := by rw [← hWb]; exact ⟨cell_al _ (by simp), cell_al _ (by simp), cell_al _ (by simp)⟩
  have HX : Hid (Wb.cell? ⟨W.heap.size + 1, 0, none⟩ = some (.int .i64 p) ∧ Wb.cell? ⟨W.heap.size + 1, 1, none⟩ = some (.slice aL nL cL) ∧ Wb.cell? ⟨W.heap.size + 1, 2, none⟩ = some (.slice aC nC cC) ∧ Wb.cell? ⟨W.heap.size + 1, 3, none⟩ = some (.slice aR nR cR)) := by rw [← hWb]; exact ⟨cell_new (by simp) rfl, cell_new (by simp) rfl, cell_new (by simp) rfl, cell_new (by simp) rfl⟩
  have HSZ : Hid (Wb.heap.size = W.heap.size + 2) := by show _ = _; rw [← hWb]; simp
  have HS0 : Hid (W.heap.size < Wb.heap.size) := by show _ < _; have := HSZ.out; omega
  have HS1 : Hid (W.heap.size + 1 < Wb.heap.size) := by show _ < _; have := HSZ.out; omega
  have HBX : Hid (Below W.heap.size W Wb) := by rw [← hWb]; exact balloc (balloc (bnil W) _) _
  have hmT := hT.nm
  have HTT := Lib.hid hT.rk; clear hT
  have HM := Lib.hid hM; clear hM
  have HG := Lib.hid hG; clear hG
  have HWB := Lib.hid hWb; clear hWb
  go_enter Tryd.func4, Tryd.ntmps4
  go_wp2_with fail
  rw [HWB.out]
  refine (awake07 _ R (HG.out.up HBX.out)).mono ?_; rintro e w1 ⟨rfl, hb1⟩
  have HC1 := Lib.hid hb1
  have HB1 := Lib.hid (HBX.out.trans (hb1.mono HBX.out.size))
  clear hb1
  have x0 := (HC1.out.cell (p := ⟨W.heap.size + 1, 0, none⟩) HS1.out).trans HX.out.1
  have x1 := (HC1.out.cell (p := ⟨W.heap.size + 1, 1, none⟩) HS1.out).trans HX.out.2.1
  have x2 := (HC1.out.cell (p := ⟨W.heap.size + 1, 2, none⟩) HS1.out).trans HX.out.2.2.1
  have x3 := (HC1.out.cell (p := ⟨W.heap.size + 1, 3, none⟩) HS1.out).trans HX.out.2.2.2
  go_wp2
  go_ret
  exact ⟨rfl, HB1.out⟩

set_option maxHeartbeats 8000000 in
theorem rowkeep_err (k r : Int) (aT : Option Addr) (nT cT : Nat) (tb : List Int) (p : Int) (aL aC aR : Option Addr) (nL cL nC cC nR cR : Nat) (L C Q : List Int) (W : World) (R : Nat → Addr) (hG : Glob W R) (hT : SlI W aT nT cT tb) (hM : RowM W aL nL cL L aC nC cC C aR nR cR Q) (h100 : nC ≤ 100) (h : ∀ kn rn : Nat, k = kn → r = rn → IsRule kn rn tb → IsRow kn p L C Q → ¬ (-4096 ≤ p - r ∧ nC + 2 * rn ≤ 16384)) :
    Calls Tryd.prog 4 #[ruleV k r aT nT cT, rowV p aL nL cL aC nC cC aR nR cR] W (TrueBelow W) := by
  have HH := Lib.hid h; clear h
  have hL8 : nL * 8 ≤ 140737488351232 := hM.l.n8
  have hC8 : nC * 8 ≤ 140737488351232 := hM.c.n8
  have hR8 : nR * 8 ≤ 140737488351232 := hM.r.n8
  obtain ⟨Wb, hWb⟩ : ∃ Wb, (W.alloc (.cells #[.int .i64 k, .int .i64 r, .slice aT nT cT] 24)).alloc (.cells #[.int .i64 p, .slice aL nL cL, .slice aC nC cC, .slice aR nR cR] 26) = Wb := ⟨_, rfl⟩
  have HT : Hid (Wb.cell? ⟨W.heap.size, 0, none⟩ = some (.int .i64 k) ∧ Wb.cell? ⟨W.heap.size, 1, none⟩ = some (.int .i64 r) ∧ Wb.cell? ⟨W.heap.size, 2, none⟩ = some (.slice aT nT cT)) := by rw [← hWb]; exact ⟨cell_al _ (by simp), cell_al _ (by simp), cell_al _ (by simp)⟩
  have HX : Hid (Wb.cell? ⟨W.heap.size + 1, 0, none⟩ = some (.int .i64 p) ∧ Wb.cell? ⟨W.heap.size + 1, 1, none⟩ = some (.slice aL nL cL) ∧ Wb.cell? ⟨W.heap.size + 1, 2, none⟩ = some (.slice aC nC cC) ∧ Wb.cell? ⟨W.heap.size + 1, 3, none⟩ = some (.slice aR nR cR)) := by rw [← hWb]; exact ⟨cell_new (by simp) rfl, cell_new (by simp) rfl, cell_new (by simp) rfl, cell_new (by simp) rfl⟩
  have HSZ : Hid (Wb.heap.size = W.heap.size + 2) := by show _ = _; rw [← hWb]; simp
  have HS0 : Hid (W.heap.size < Wb.heap.size) := by show _ < _; have := HSZ.out; omega
  have HS1 : Hid (W.heap.size + 1 < Wb.heap.size) := by show _ < _; have := HSZ.out; omega
  have HBX : Hid (Below W.heap.size W Wb) := by rw [← hWb]; exact balloc (balloc (bnil W) _) _
  have hmT := hT.nm
  have HTT := Lib.hid hT.rk; clear hT
  have HM := Lib.hid hM; clear hM
  have HG := Lib.hid hG; clear hG
  have HWB := Lib.hid hWb; clear hWb
  go_enter Tryd.func4, Tryd.ntmps4
  go_wp2_with fail
  rw [HWB.out]
  refine (awake07 _ R (HG.out.up HBX.out)).mono ?_; rintro e w1 ⟨rfl, hb1⟩
  have HC1 := Lib.hid hb1
  have HB1 := Lib.hid (HBX.out.trans (hb1.mono HBX.out.size))
  clear hb1
  have x0 := (HC1.out.cell (p := ⟨W.heap.size + 1, 0, none⟩) HS1.out).trans HX.out.1
  have x1 := (HC1.out.cell (p := ⟨W.heap.size + 1, 1, none⟩) HS1.out).trans HX.out.2.1
  have x2 := (HC1.out.cell (p := ⟨W.heap.size + 1, 2, none⟩) HS1.out).trans HX.out.2.2.1
  have x3 := (HC1.out.cell (p := ⟨W.heap.size + 1, 3, none⟩) HS1.out).trans HX.out.2.2.2
  go_wp2_with fail
  refine (lent7 p aL aC aR nL cL nC cC nR cR L C Q _ (HM.out.up HB1.out)).mono ?_; rintro e w2 ⟨gL, gC, gR, rfl, hlL, hlC, hlR, hb2⟩
  obtain ⟨Wm, hWm⟩ : ∃ Wm, w2.alloc (.cells #[.int .i64 p, .slice (some ⟨gL, 0, none⟩) nL (nL + 2), .slice (some ⟨gC, 0, none⟩) nC (nC + 2), .slice (some ⟨gR, 0, none⟩) nR (nR + 2)] 26) = Wm := ⟨_, rfl⟩
  have HMB : Hid (Wm.cell? ⟨w2.heap.size, 0, none⟩ = some (.int .i64 p) ∧ Wm.cell? ⟨w2.heap.size, 1, none⟩ = some (.slice (some ⟨gL, 0, none⟩) nL (nL + 2)) ∧ Wm.cell? ⟨w2.heap.size, 2, none⟩ = some (.slice (some ⟨gC, 0, none⟩) nC (nC + 2)) ∧ Wm.cell? ⟨w2.heap.size, 3, none⟩ = some (.slice (some ⟨gR, 0, none⟩) nR (nR + 2))) := by rw [← hWm]; exact ⟨cell_new rfl rfl, cell_new rfl rfl, cell_new rfl rfl, cell_new rfl rfl⟩
  have HSM : Hid (w2.heap.size < Wm.heap.size) := by show _ < _; rw [← hWm]; simp
  have hbm : Below w2.heap.size w2 Wm := by rw [← hWm]; exact balloc (bnil w2) _
  have HLL := Lib.hid (hlL.up hbm)
  have HLC := Lib.hid (hlC.up hbm)
  have HLR := Lib.hid (hlR.up hbm)
  have HMM : Hid (RowM Wm (some ⟨gL, 0, none⟩) nL (nL + 2) L (some ⟨gC, 0, none⟩) nC (nC + 2) C (some ⟨gR, 0, none⟩) nR (nR + 2) Q) := ⟨(hlL.up hbm).sl hL8, (hlC.up hbm).sl hC8, (hlR.up hbm).sl hR8⟩
  have HC2 := Lib.hid (HC1.out.trans ((hb2.trans (hbm.mono hb2.size)).mono HC1.out.size))
  have HB2 := Lib.hid (bstep HB1.out (hb2.trans (hbm.mono hb2.size)))
  have HE2 := Lib.hid (bnil Wm)
  have HWM := Lib.hid hWm
  clear hWm hlL hlC hlR hbm hb2 x0 x1 x2 x3
  have t0 := (HC2.out.cell (p := ⟨W.heap.size, 0, none⟩) HS0.out).trans HT.out.1
  have t1 := (HC2.out.cell (p := ⟨W.heap.size, 1, none⟩) HS0.out).trans HT.out.2.1
  have t2 := (HC2.out.cell (p := ⟨W.heap.size, 2, none⟩) HS0.out).trans HT.out.2.2
  have m0 := (HE2.out.cell (p := ⟨w2.heap.size, 0, none⟩) HSM.out).trans HMB.out.1
  have m1 := (HE2.out.cell (p := ⟨w2.heap.size, 1, none⟩) HSM.out).trans HMB.out.2.1
  have m2 := (HE2.out.cell (p := ⟨w2.heap.size, 2, none⟩) HSM.out).trans HMB.out.2.2.1
  have m3 := (HE2.out.cell (p := ⟨w2.heap.size, 3, none⟩) HSM.out).trans HMB.out.2.2.2
  rw [← HWM.out] at t0 t1 t2 m0 m1 m2 m3
  go_wp2_with fail
  rw [HWM.out]
  refine (rowstep_err k r aT nT cT tb p (some ⟨gL, 0, none⟩) (some ⟨gC, 0, none⟩) (some ⟨gR, 0, none⟩) nL (nL + 2) nC (nC + 2) nR (nR + 2) L C Q _ R (HG.out.up HB2.out) (HTT.out.up HB2.out) hmT HMM.out HH.out).mono ?_; rintro e w3 ⟨g3, rfl, hb3⟩
  obtain ⟨Wa, hWa⟩ : ∃ Wa, w3.alloc (.cells #[.int .i64 0, .slice none 0 0, .slice none 0 0, .slice none 0 0] 26) = Wa := ⟨_, rfl⟩
  have hba : Below w3.heap.size w3 Wa := by rw [← hWa]; exact balloc (bnil w3) _
  have hb3a := hb3.trans (hba.mono hb3.size)
  have HC3 := Lib.hid (HC2.out.trans (hb3a.mono HC2.out.size))
  have HB3 := Lib.hid (bstep HB2.out hb3a)
  have HE3 := Lib.hid hb3a
  have HWA := Lib.hid hWa
  clear hWa hba hb3a hb3 t0 t1 t2 m0 m1 m2 m3
  have x0 := (HC3.out.cell (p := ⟨W.heap.size + 1, 0, none⟩) HS1.out).trans HX.out.1
  have x1 := (HC3.out.cell (p := ⟨W.heap.size + 1, 1, none⟩) HS1.out).trans HX.out.2.1
  have x2 := (HC3.out.cell (p := ⟨W.heap.size + 1, 2, none⟩) HS1.out).trans HX.out.2.2.1
  have x3 := (HC3.out.cell (p := ⟨W.heap.size + 1, 3, none⟩) HS1.out).trans HX.out.2.2.2
  have m0 := (HE3.out.cell (p := ⟨w2.heap.size, 0, none⟩) HSM.out).trans HMB.out.1
  have m1 := (HE3.out.cell (p := ⟨w2.heap.size, 1, none⟩) HSM.out).trans HMB.out.2.1
  have m2 := (HE3.out.cell (p := ⟨w2.heap.size, 2, none⟩) HSM.out).trans HMB.out.2.2.1
  have m3 := (HE3.out.cell (p := ⟨w2.heap.size, 3, none⟩) HSM.out).trans HMB.out.2.2.2
  rw [← HWA.out] at x0 x1 x2 x3 m0 m1 m2 m3
  go_wp2_with fail
  rw [HWA.out]
  refine (kept7 p aL aC aR nL cL nC cC nR cR gL gC gR L C Q _ (HM.out.up HB3.out) (HLL.out.up HE3.out) (HLC.out.up HE3.out) (HLR.out.up HE3.out)).mono ?_; rintro e w4 ⟨rfl, hb4⟩
  go_wp2
  go_ret
  exact ⟨rfl, bstep HB3.out hb4⟩

set_option maxHeartbeats 16000000 in
theorem rowkeep_ok (k r : Nat) (aT : Option Addr) (nT cT : Nat) (tb : List Int) (p : Int) (aL aC aR : Option Addr) (nL cL nC cC nR cR : Nat) (L C Q : List Int) (W : World) (R : Nat → Addr) (hG : Glob W R) (hT : SlI W aT nT cT tb) (hM : RowM W aL nL cL L aC nC cC C aR nR cR Q) (h100 : nC ≤ 100) (hI : IsRule k r tb) (h : IsRow k p L C Q) (h1 : -4096 ≤ p - (r : Int)) (h2 : nC + 2 * r ≤ 16384) :
    Calls Tryd.prog 4 #[ruleV k r aT nT cT, rowV p aL nL cL aC nC cC aR nR cR] W (TrueBelow W) := by
  have r3 := hI.r3
  have hp1 := h.p1
  have hp2 := h.p2
  have l2 : nL ≤ 8192 := by rw [hM.l.rk.len]; exact h.l2
  have r2 : nR ≤ 8192 := by rw [hM.r.rk.len]; exact h.r2
  have HCL := Lib.hid hM.c.rk.len
  obtain ⟨n', hn'⟩ : ∃ n' : Nat, nC + 2 * r = n' := ⟨_, rfl⟩
  have hn4 : n' ≤ 16384 := by omega
  have HEN := Lib.hid hn'
  have hvc := vals_core p L C Q
  rw [← hM.c.rk.len] at hvc
  have HVC := Lib.hid hvc
  obtain ⟨S, hS⟩ : ∃ S, cellF p L C Q = S := ⟨_, rfl⟩
  have HSS := Lib.hid hS
  have HI := Lib.hid hI
  have H := Lib.hid h
  have HHN := Lib.hid h2
  clear hvc hS hI h hn' h2
  have hL8 : nL * 8 ≤ 140737488351232 := hM.l.n8
  have hC8 : nC * 8 ≤ 140737488351232 := hM.c.n8
  have hR8 : nR * 8 ≤ 140737488351232 := hM.r.n8
  obtain ⟨Wb, hWb⟩ : ∃ Wb, (W.alloc (.cells #[.int .i64 k, .int .i64 r, .slice aT nT cT] 24)).alloc (.cells #[.int .i64 p, .slice aL nL cL, .slice aC nC cC, .slice aR nR cR] 26) = Wb := ⟨_, rfl⟩
  have HT : Hid (Wb.cell? ⟨W.heap.size, 0, none⟩ = some (.int .i64 k) ∧ Wb.cell? ⟨W.heap.size, 1, none⟩ = some (.int .i64 r) ∧ Wb.cell? ⟨W.heap.size, 2, none⟩ = some (.slice aT nT cT)) := by rw [← hWb]; exact ⟨cell_al _ (by simp), cell_al _ (by simp), cell_al _ (by simp)⟩
  have HX : Hid (Wb.cell? ⟨W.heap.size + 1, 0, none⟩ = some (.int .i64 p) ∧ Wb.cell? ⟨W.heap.size + 1, 1, none⟩ = some (.slice aL nL cL) ∧ Wb.cell? ⟨W.heap.size + 1, 2, none⟩ = some (.slice aC nC cC) ∧ Wb.cell? ⟨W.heap.size + 1, 3, none⟩ = some (.slice aR nR cR)) := by rw [← hWb]; exact ⟨cell_new (by simp) rfl, cell_new (by simp) rfl, cell_new (by simp) rfl, cell_new (by simp) rfl⟩
  have HSZ : Hid (Wb.heap.size = W.heap.size + 2) := by show _ = _; rw [← hWb]; simp
  have HS0 : Hid (W.heap.size < Wb.heap.size) := by show _ < _; have := HSZ.out; omega
  have HS1 : Hid (W.heap.size + 1 < Wb.heap.size) := by show _ < _; have := HSZ.out; omega
  have HBX : Hid (Below W.heap.size W Wb) := by rw [← hWb]; exact balloc (balloc (bnil W) _) _
  have hmT := hT.nm
  have HTT := Lib.hid hT.rk; clear hT
  have HM := Lib.hid hM; clear hM
  have HG := Lib.hid hG; clear hG
  have HWB := Lib.hid hWb; clear hWb
  go_enter Tryd.func4, Tryd.ntmps4
  go_wp2_with fail
  rw [HWB.out]
  refine (awake07 _ R (HG.out.up HBX.out)).mono ?_; rintro e w1 ⟨rfl, hb1⟩
  have HC1 := Lib.hid hb1
  have HB1 := Lib.hid (HBX.out.trans (hb1.mono HBX.out.size))
  clear hb1
  have x0 := (HC1.out.cell (p := ⟨W.heap.size + 1, 0, none⟩) HS1.out).trans HX.out.1
  have x1 := (HC1.out.cell (p := ⟨W.heap.size + 1, 1, none⟩) HS1.out).trans HX.out.2.1
  have x2 := (HC1.out.cell (p := ⟨W.heap.size + 1, 2, none⟩) HS1.out).trans HX.out.2.2.1
  have x3 := (HC1.out.cell (p := ⟨W.heap.size + 1, 3, none⟩) HS1.out).trans HX.out.2.2.2
  go_wp2_with fail
  refine (lent7 p aL aC aR nL cL nC cC nR cR L C Q _ (HM.out.up HB1.out)).mono ?_; rintro e w2 ⟨gL, gC, gR, rfl, hlL, hlC, hlR, hb2⟩
  obtain ⟨Wm, hWm⟩ : ∃ Wm, w2.alloc (.cells #[.int .i64 p, .slice (some ⟨gL, 0, none⟩) nL (nL + 2), .slice (some ⟨gC, 0, none⟩) nC (nC + 2), .slice (some ⟨gR, 0, none⟩) nR (nR + 2)] 26) = Wm := ⟨_, rfl⟩
  have HMB : Hid (Wm.cell? ⟨w2.heap.size, 0, none⟩ = some (.int .i64 p) ∧ Wm.cell? ⟨w2.heap.size, 1, none⟩ = some (.slice (some ⟨gL, 0, none⟩) nL (nL + 2)) ∧ Wm.cell? ⟨w2.heap.size, 2, none⟩ = some (.slice (some ⟨gC, 0, none⟩) nC (nC + 2)) ∧ Wm.cell? ⟨w2.heap.size, 3, none⟩ = some (.slice (some ⟨gR, 0, none⟩) nR (nR + 2))) := by rw [← hWm]; exact ⟨cell_new rfl rfl, cell_new rfl rfl, cell_new rfl rfl, cell_new rfl rfl⟩
  have HSM : Hid (w2.heap.size < Wm.heap.size) := by show _ < _; rw [← hWm]; simp
  have hbm : Below w2.heap.size w2 Wm := by rw [← hWm]; exact balloc (bnil w2) _
  have HLL := Lib.hid (hlL.up hbm)
  have HLC := Lib.hid (hlC.up hbm)
  have HLR := Lib.hid (hlR.up hbm)
  have HMM : Hid (RowM Wm (some ⟨gL, 0, none⟩) nL (nL + 2) L (some ⟨gC, 0, none⟩) nC (nC + 2) C (some ⟨gR, 0, none⟩) nR (nR + 2) Q) := ⟨(hlL.up hbm).sl hL8, (hlC.up hbm).sl hC8, (hlR.up hbm).sl hR8⟩
  have HC2 := Lib.hid (HC1.out.trans ((hb2.trans (hbm.mono hb2.size)).mono HC1.out.size))
  have HB2 := Lib.hid (bstep HB1.out (hb2.trans (hbm.mono hb2.size)))
  have HE2 := Lib.hid (bnil Wm)
  have HWM := Lib.hid hWm
  clear hWm hlL hlC hlR hbm hb2 x0 x1 x2 x3
  have t0 := (HC2.out.cell (p := ⟨W.heap.size, 0, none⟩) HS0.out).trans HT.out.1
  have t1 := (HC2.out.cell (p := ⟨W.heap.size, 1, none⟩) HS0.out).trans HT.out.2.1
  have t2 := (HC2.out.cell (p := ⟨W.heap.size, 2, none⟩) HS0.out).trans HT.out.2.2
  have m0 := (HE2.out.cell (p := ⟨w2.heap.size, 0, none⟩) HSM.out).trans HMB.out.1
  have m1 := (HE2.out.cell (p := ⟨w2.heap.size, 1, none⟩) HSM.out).trans HMB.out.2.1
  have m2 := (HE2.out.cell (p := ⟨w2.heap.size, 2, none⟩) HSM.out).trans HMB.out.2.2.1
  have m3 := (HE2.out.cell (p := ⟨w2.heap.size, 3, none⟩) HSM.out).trans HMB.out.2.2.2
  rw [← HWM.out] at t0 t1 t2 m0 m1 m2 m3
  go_wp2_with fail
  rw [HWM.out]
  refine (rowstep_ok k r aT nT cT tb p (some ⟨gL, 0, none⟩) (some ⟨gC, 0, none⟩) (some ⟨gR, 0, none⟩) nL (nL + 2) nC (nC + 2) nR (nR + 2) L C Q _ R (HG.out.up HB2.out) (HTT.out.up HB2.out) HI.out HMM.out H.out h1 HHN.out).mono ?_; rintro e w3 ⟨a1, c1, a2, c2, a3, c3, rfl, ho3⟩
  rw [HEN.out, HSS.out] at ho3
  rw [HEN.out]
  obtain ⟨Wa, hWa⟩ : ∃ Wa, w3.alloc (.cells #[.int .i64 (p - (r : Int)), .slice a1 nL c1, .slice a2 n' c2, .slice a3 nR c3] 26) = Wa := ⟨_, rfl⟩
  have HAB : Hid (Wa.cell? ⟨w3.heap.size, 0, none⟩ = some (.int .i64 (p - (r : Int))) ∧ Wa.cell? ⟨w3.heap.size, 1, none⟩ = some (.slice a1 nL c1) ∧ Wa.cell? ⟨w3.heap.size, 2, none⟩ = some (.slice a2 n' c2) ∧ Wa.cell? ⟨w3.heap.size, 3, none⟩ = some (.slice a3 nR c3)) := by rw [← hWa]; exact ⟨cell_new rfl rfl, cell_new rfl rfl, cell_new rfl rfl, cell_new rfl rfl⟩
  have HSA : Hid (w3.heap.size < Wa.heap.size) := by show _ < _; rw [← hWa]; simp
  have hba : Below w3.heap.size w3 Wa := by rw [← hWa]; exact balloc (bnil w3) _
  have hb3a := ho3.bel.trans (hba.mono ho3.bel.size)
  have HA1 := Lib.hid (ho3.L.up hba)
  have HA2 := Lib.hid (ho3.C.up hba)
  have HA3 := Lib.hid (ho3.R.up hba)
  have HAP := Lib.hid (And.intro ho3.LC (And.intro ho3.LR ho3.CR))
  have HC3 := Lib.hid (HC2.out.trans (hb3a.mono HC2.out.size))
  have HB3 := Lib.hid (bstep HB2.out hb3a)
  have HE3 := Lib.hid hb3a
  have HWA := Lib.hid hWa
  clear hWa hba hb3a ho3 t0 t1 t2 m0 m1 m2 m3
  have t0 := (HC3.out.cell (p := ⟨W.heap.size, 0, none⟩) HS0.out).trans HT.out.1
  have t1 := (HC3.out.cell (p := ⟨W.heap.size, 1, none⟩) HS0.out).trans HT.out.2.1
  have t2 := (HC3.out.cell (p := ⟨W.heap.size, 2, none⟩) HS0.out).trans HT.out.2.2
  have m0 := (HE3.out.cell (p := ⟨w2.heap.size, 0, none⟩) HSM.out).trans HMB.out.1
  have m1 := (HE3.out.cell (p := ⟨w2.heap.size, 1, none⟩) HSM.out).trans HMB.out.2.1
  have m2 := (HE3.out.cell (p := ⟨w2.heap.size, 2, none⟩) HSM.out).trans HMB.out.2.2.1
  have m3 := (HE3.out.cell (p := ⟨w2.heap.size, 3, none⟩) HSM.out).trans HMB.out.2.2.2
  rw [← HWA.out] at t0 t1 t2 m0 m1 m2 m3
  go_wp2_with fail
  rw [HWA.out]
  refine (rowstep_ok k r aT nT cT tb p (some ⟨gL, 0, none⟩) (some ⟨gC, 0, none⟩) (some ⟨gR, 0, none⟩) nL (nL + 2) nC (nC + 2) nR (nR + 2) L C Q _ R (HG.out.up HB3.out) (HTT.out.up HB3.out) HI.out (HMM.out.up HE3.out) H.out h1 HHN.out).mono ?_; rintro e w4 ⟨b1, d1, b2, d2, b3, d3, rfl, ho4⟩
  rw [HEN.out, HSS.out] at ho4
  rw [HEN.out]
  obtain ⟨Wd, hWd⟩ : ∃ Wd, w4.alloc (.cells #[.int .i64 (p - (r : Int)), .slice b1 nL d1, .slice b2 n' d2, .slice b3 nR d3] 26) = Wd := ⟨_, rfl⟩
  have HDB : Hid (Wd.cell? ⟨w4.heap.size, 0, none⟩ = some (.int .i64 (p - (r : Int))) ∧ Wd.cell? ⟨w4.heap.size, 1, none⟩ = some (.slice b1 nL d1) ∧ Wd.cell? ⟨w4.heap.size, 2, none⟩ = some (.slice b2 n' d2) ∧ Wd.cell? ⟨w4.heap.size, 3, none⟩ = some (.slice b3 nR d3)) := by rw [← hWd]; exact ⟨cell_new rfl rfl, cell_new rfl rfl, cell_new rfl rfl, cell_new rfl rfl⟩
  have HSD : Hid (w4.heap.size < Wd.heap.size) := by show _ < _; rw [← hWd]; simp
  have hbd : Below w4.heap.size w4 Wd := by rw [← hWd]; exact balloc (bnil w4) _
  have hb4d := ho4.bel.trans (hbd.mono ho4.bel.size)
  have HD1 := Lib.hid (ho4.L.up hbd)
  have HD2 := Lib.hid (ho4.C.up hbd)
  have HD3 := Lib.hid (ho4.R.up hbd)
  have HDP := Lib.hid (And.intro ho4.LC (And.intro ho4.LR ho4.CR))
  have HC4 := Lib.hid (HC3.out.trans (hb4d.mono HC3.out.size))
  have HB4 := Lib.hid (bstep HB3.out hb4d)
  have HE4 := Lib.hid (bstep HE3.out hb4d)
  have HF4 := Lib.hid hb4d
  have HWD := Lib.hid hWd
  clear hWd hbd hb4d ho4 t0 t1 t2 m0 m1 m2 m3
  have t0 := (HC4.out.cell (p := ⟨W.heap.size, 0, none⟩) HS0.out).trans HT.out.1
  have t1 := (HC4.out.cell (p := ⟨W.heap.size, 1, none⟩) HS0.out).trans HT.out.2.1
  have t2 := (HC4.out.cell (p := ⟨W.heap.size, 2, none⟩) HS0.out).trans HT.out.2.2
  have x0 := (HC4.out.cell (p := ⟨W.heap.size + 1, 0, none⟩) HS1.out).trans HX.out.1
  have x1 := (HC4.out.cell (p := ⟨W.heap.size + 1, 1, none⟩) HS1.out).trans HX.out.2.1
  have x2 := (HC4.out.cell (p := ⟨W.heap.size + 1, 2, none⟩) HS1.out).trans HX.out.2.2.1
  have x3 := (HC4.out.cell (p := ⟨W.heap.size + 1, 3, none⟩) HS1.out).trans HX.out.2.2.2
  have m0 := (HE4.out.cell (p := ⟨w2.heap.size, 0, none⟩) HSM.out).trans HMB.out.1
  have m1 := (HE4.out.cell (p := ⟨w2.heap.size, 1, none⟩) HSM.out).trans HMB.out.2.1
  have m2 := (HE4.out.cell (p := ⟨w2.heap.size, 2, none⟩) HSM.out).trans HMB.out.2.2.1
  have m3 := (HE4.out.cell (p := ⟨w2.heap.size, 3, none⟩) HSM.out).trans HMB.out.2.2.2
  rw [← HWD.out] at t0 t1 t2 x0 x1 x2 x3 m0 m1 m2 m3
  go_wp2_with fail
  rw [HWD.out]
  refine (cut_ok k p p nC (some ⟨gL, 0, none⟩) (some ⟨gC, 0, none⟩) (some ⟨gR, 0, none⟩) nL (nL + 2) nC (nC + 2) nR (nR + 2) L C Q _ R (HG.out.up HB4.out) (HMM.out.up HE4.out) H.out (by omega) (by omega) (by omega)).mono ?_; rintro e w5 ⟨aP, cP, rfl, hoP, hb5⟩
  rw [HVC.out] at hoP
  have HOP := Lib.hid hoP
  have HC5 := Lib.hid (HC4.out.trans (hb5.mono HC4.out.size))
  have HB5 := Lib.hid (bstep HB4.out hb5)
  have HE5 := Lib.hid (bstep HE4.out hb5)
  have HF5 := Lib.hid (bstep HF4.out hb5)
  have HP5 := Lib.hid hb5
  clear hoP hb5 t0 t1 t2 x0 x1 x2 x3 m0 m1 m2 m3
  have t0 := (HC5.out.cell (p := ⟨W.heap.size, 0, none⟩) HS0.out).trans HT.out.1
  have t1 := (HC5.out.cell (p := ⟨W.heap.size, 1, none⟩) HS0.out).trans HT.out.2.1
  have t2 := (HC5.out.cell (p := ⟨W.heap.size, 2, none⟩) HS0.out).trans HT.out.2.2
  have x0 := (HC5.out.cell (p := ⟨W.heap.size + 1, 0, none⟩) HS1.out).trans HX.out.1
  have x1 := (HC5.out.cell (p := ⟨W.heap.size + 1, 1, none⟩) HS1.out).trans HX.out.2.1
  have x2 := (HC5.out.cell (p := ⟨W.heap.size + 1, 2, none⟩) HS1.out).trans HX.out.2.2.1
  have x3 := (HC5.out.cell (p := ⟨W.heap.size + 1, 3, none⟩) HS1.out).trans HX.out.2.2.2
  have m0 := (HE5.out.cell (p := ⟨w2.heap.size, 0, none⟩) HSM.out).trans HMB.out.1
  have m1 := (HE5.out.cell (p := ⟨w2.heap.size, 1, none⟩) HSM.out).trans HMB.out.2.1
  have m2 := (HE5.out.cell (p := ⟨w2.heap.size, 2, none⟩) HSM.out).trans HMB.out.2.2.1
  have m3 := (HE5.out.cell (p := ⟨w2.heap.size, 3, none⟩) HSM.out).trans HMB.out.2.2.2
  go_wp2_with fail
  refine (cut_ok k p p nC (some ⟨gL, 0, none⟩) (some ⟨gC, 0, none⟩) (some ⟨gR, 0, none⟩) nL (nL + 2) nC (nC + 2) nR (nR + 2) L C Q _ R (HG.out.up HB5.out) (HMM.out.up HE5.out) H.out (by omega) (by omega) (by omega)).mono ?_; rintro e w6 ⟨aZ, cZ, rfl, hoZ, hb6⟩
  rw [HVC.out] at hoZ
  have HOZ := Lib.hid hoZ
  have HC6 := Lib.hid (HC5.out.trans (hb6.mono HC5.out.size))
  have HB6 := Lib.hid (bstep HB5.out hb6)
  have HE6 := Lib.hid (bstep HE5.out hb6)
  have HF6 := Lib.hid (bstep HF5.out hb6)
  have HP6 := Lib.hid (bstep HP5.out hb6)
  have HQ6 := Lib.hid hb6
  clear hoZ hb6 t0 t1 t2 x0 x1 x2 x3 m0 m1 m2 m3
  have x0 := (HC6.out.cell (p := ⟨W.heap.size + 1, 0, none⟩) HS1.out).trans HX.out.1
  have x1 := (HC6.out.cell (p := ⟨W.heap.size + 1, 1, none⟩) HS1.out).trans HX.out.2.1
  have x2 := (HC6.out.cell (p := ⟨W.heap.size + 1, 2, none⟩) HS1.out).trans HX.out.2.2.1
  have x3 := (HC6.out.cell (p := ⟨W.heap.size + 1, 3, none⟩) HS1.out).trans HX.out.2.2.2
  have u0 := (HF6.out.cell (p := ⟨w3.heap.size, 0, none⟩) HSA.out).trans HAB.out.1
  have u1 := (HF6.out.cell (p := ⟨w3.heap.size, 1, none⟩) HSA.out).trans HAB.out.2.1
  have u2 := (HF6.out.cell (p := ⟨w3.heap.size, 2, none⟩) HSA.out).trans HAB.out.2.2.1
  have u3 := (HF6.out.cell (p := ⟨w3.heap.size, 3, none⟩) HSA.out).trans HAB.out.2.2.2
  have v0 := (HP6.out.cell (p := ⟨w4.heap.size, 0, none⟩) HSD.out).trans HDB.out.1
  have v1 := (HP6.out.cell (p := ⟨w4.heap.size, 1, none⟩) HSD.out).trans HDB.out.2.1
  have v2 := (HP6.out.cell (p := ⟨w4.heap.size, 2, none⟩) HSD.out).trans HDB.out.2.2.1
  have v3 := (HP6.out.cell (p := ⟨w4.heap.size, 3, none⟩) HSD.out).trans HDB.out.2.2.2
  go_wp2_with fail
  refine (rows_eq (p - (r : Int)) a1 a2 a3 nL c1 n' c2 nR c3 b1 b2 b3 d1 d2 d3 _ _ _ _ (HA1.out.up HF6.out).rk (HA2.out.up HF6.out).rk (HA3.out.up HF6.out).rk (HD1.out.up HP6.out).rk (HD2.out.up HP6.out).rk (HD3.out.up HP6.out).rk (by omega) (by omega) (by omega)).mono ?_; rintro e w7 ⟨rfl, hb7⟩
  have HC7 := Lib.hid (HC6.out.trans (hb7.mono HC6.out.size))
  have HB7 := Lib.hid (bstep HB6.out hb7)
  have HE7 := Lib.hid (bstep HE6.out hb7)
  have HF7 := Lib.hid (bstep HF6.out hb7)
  have HP7 := Lib.hid (bstep HP6.out hb7)
  have HQ7 := Lib.hid (bstep HQ6.out hb7)
  have HR7 := Lib.hid hb7
  clear hb7 x0 x1 x2 x3 u0 u1 u2 u3 v0 v1 v2 v3
  have x0 := (HC7.out.cell (p := ⟨W.heap.size + 1, 0, none⟩) HS1.out).trans HX.out.1
  have x1 := (HC7.out.cell (p := ⟨W.heap.size + 1, 1, none⟩) HS1.out).trans HX.out.2.1
  have x2 := (HC7.out.cell (p := ⟨W.heap.size + 1, 2, none⟩) HS1.out).trans HX.out.2.2.1
  have x3 := (HC7.out.cell (p := ⟨W.heap.size + 1, 3, none⟩) HS1.out).trans HX.out.2.2.2
  go_wp2_with fail
  refine (ints_eqB aP aC nC nC cP cC C _ (HOP.out.up HQ7.out).rk (HM.out.c.rk.up HB7.out) (by rw [← HCL.out]; unfold maxLen; omega)).mono ?_; rintro e w8 ⟨rfl, hb8⟩
  have HC8 := Lib.hid (HC7.out.trans (hb8.mono HC7.out.size))
  have HB8 := Lib.hid (bstep HB7.out hb8)
  have HE8 := Lib.hid (bstep HE7.out hb8)
  have HF8 := Lib.hid (bstep HF7.out hb8)
  have HP8 := Lib.hid (bstep HP7.out hb8)
  have HQ8 := Lib.hid (bstep HQ7.out hb8)
  have HR8 := Lib.hid (bstep HR7.out hb8)
  clear hb8 x0 x1 x2 x3
  have x0 := (HC8.out.cell (p := ⟨W.heap.size + 1, 0, none⟩) HS1.out).trans HX.out.1
  have x1 := (HC8.out.cell (p := ⟨W.heap.size + 1, 1, none⟩) HS1.out).trans HX.out.2.1
  have x2 := (HC8.out.cell (p := ⟨W.heap.size + 1, 2, none⟩) HS1.out).trans HX.out.2.2.1
  have x3 := (HC8.out.cell (p := ⟨W.heap.size + 1, 3, none⟩) HS1.out).trans HX.out.2.2.2
  go_wp2_with fail
  refine (ints_eqB aZ aC nC nC cZ cC C _ (HOZ.out.up HR8.out).rk (HM.out.c.rk.up HB8.out) (by rw [← HCL.out]; unfold maxLen; omega)).mono ?_; rintro e w9 ⟨rfl, hb9⟩
  have HC9 := Lib.hid (HC8.out.trans (hb9.mono HC8.out.size))
  have HB9 := Lib.hid (bstep HB8.out hb9)
  have HE9 := Lib.hid (bstep HE8.out hb9)
  have HF9 := Lib.hid (bstep HF8.out hb9)
  have HP9 := Lib.hid (bstep HP8.out hb9)
  have HQ9 := Lib.hid (bstep HQ8.out hb9)
  have HR9 := Lib.hid (bstep HR8.out hb9)
  clear hb9 x0 x1 x2 x3
  have u0 := (HF9.out.cell (p := ⟨w3.heap.size, 0, none⟩) HSA.out).trans HAB.out.1
  have u1 := (HF9.out.cell (p := ⟨w3.heap.size, 1, none⟩) HSA.out).trans HAB.out.2.1
  have u2 := (HF9.out.cell (p := ⟨w3.heap.size, 2, none⟩) HSA.out).trans HAB.out.2.2.1
  have u3 := (HF9.out.cell (p := ⟨w3.heap.size, 3, none⟩) HSA.out).trans HAB.out.2.2.2
  have v0 := (HP9.out.cell (p := ⟨w4.heap.size, 0, none⟩) HSD.out).trans HDB.out.1
  have v1 := (HP9.out.cell (p := ⟨w4.heap.size, 1, none⟩) HSD.out).trans HDB.out.2.1
  have v2 := (HP9.out.cell (p := ⟨w4.heap.size, 2, none⟩) HSD.out).trans HDB.out.2.2.1
  have v3 := (HP9.out.cell (p := ⟨w4.heap.size, 3, none⟩) HSD.out).trans HDB.out.2.2.2
  have s3 : Wm.heap.size ≤ Wa.heap.size := HE3.out.size
  have s4 : Wa.heap.size ≤ Wd.heap.size := HF4.out.size
  have s5 : Wd.heap.size ≤ w5.heap.size := HP5.out.size
  have hpair : [((a1, nL, c1) : ApI.It), (a2, n', c2), (a3, nR, c3), (b1, nL, d1), (b2, n', d2), (b3, nR, d3), (aP, nC, cP), (aZ, nC, cZ)].Pairwise fun x y => Ap (ApI.IV x) (ApI.IV y) := by
    have k1 := HAP.out
    have k2 := HDP.out
    have e1 : ∀ {n1 n2 : Nat} {v1 v2 : Value} {cs1 cs2 : List Value} {w' : World} {b' : Nat}, Wa.ownsRow Wm.heap.size 3 1 v1 n1 cs1 → w'.ownsRow b' 3 1 v2 n2 cs2 → Wa.heap.size ≤ b' → Ap v1 v2 := fun x y z => ap_later x y z
    have e2 : ∀ {n1 n2 : Nat} {v1 v2 : Value} {cs1 cs2 : List Value} {w' : World} {b' : Nat}, Wd.ownsRow Wa.heap.size 3 1 v1 n1 cs1 → w'.ownsRow b' 3 1 v2 n2 cs2 → Wd.heap.size ≤ b' → Ap v1 v2 := fun x y z => ap_later x y z
    refine .cons (fun y hy => ?_) (.cons (fun y hy => ?_) (.cons (fun y hy => ?_) (.cons (fun y hy => ?_) (.cons (fun y hy => ?_) (.cons (fun y hy => ?_) (.cons (fun y hy => ?_) (.cons (fun y hy => ?_) .nil)))))))
    · simp only [List.mem_cons, List.not_mem_nil, or_false] at hy
      rcases hy with rfl | rfl | rfl | rfl | rfl | rfl | rfl
      · exact k1.1
      · exact k1.2.1
      · exact e1 HA1.out.own HD1.out.own (Nat.le_refl _)
      · exact e1 HA1.out.own HD2.out.own (Nat.le_refl _)
      · exact e1 HA1.out.own HD3.out.own (Nat.le_refl _)
      · exact e1 HA1.out.own HOP.out.own s4
      · exact e1 HA1.out.own HOZ.out.own (Nat.le_trans s4 s5)
    · simp only [List.mem_cons, List.not_mem_nil, or_false] at hy
      rcases hy with rfl | rfl | rfl | rfl | rfl | rfl
      · exact k1.2.2
      · exact e1 HA2.out.own HD1.out.own (Nat.le_refl _)
      · exact e1 HA2.out.own HD2.out.own (Nat.le_refl _)
      · exact e1 HA2.out.own HD3.out.own (Nat.le_refl _)
      · exact e1 HA2.out.own HOP.out.own s4
      · exact e1 HA2.out.own HOZ.out.own (Nat.le_trans s4 s5)
    · simp only [List.mem_cons, List.not_mem_nil, or_false] at hy
      rcases hy with rfl | rfl | rfl | rfl | rfl
      · exact e1 HA3.out.own HD1.out.own (Nat.le_refl _)
      · exact e1 HA3.out.own HD2.out.own (Nat.le_refl _)
      · exact e1 HA3.out.own HD3.out.own (Nat.le_refl _)
      · exact e1 HA3.out.own HOP.out.own s4
      · exact e1 HA3.out.own HOZ.out.own (Nat.le_trans s4 s5)
    · simp only [List.mem_cons, List.not_mem_nil, or_false] at hy
      rcases hy with rfl | rfl | rfl | rfl
      · exact k2.1
      · exact k2.2.1
      · exact e2 HD1.out.own HOP.out.own (Nat.le_refl _)
      · exact e2 HD1.out.own HOZ.out.own s5
    · simp only [List.mem_cons, List.not_mem_nil, or_false] at hy
      rcases hy with rfl | rfl | rfl
      · exact k2.2.2
      · exact e2 HD2.out.own HOP.out.own (Nat.le_refl _)
      · exact e2 HD2.out.own HOZ.out.own s5
    · simp only [List.mem_cons, List.not_mem_nil, or_false] at hy
      rcases hy with rfl | rfl
      · exact e2 HD3.out.own HOP.out.own (Nat.le_refl _)
      · exact e2 HD3.out.own HOZ.out.own s5
    · simp only [List.mem_cons, List.not_mem_nil, or_false] at hy
      rcases hy with rfl
      exact ap_later HOP.out.own HOZ.out.own (Nat.le_refl _)
    · cases hy
  have HPAIR := Lib.hid hpair
  have hown : ∀ x ∈ [((a1, nL, c1) : ApI.It), (a2, n', c2), (a3, nR, c3), (b1, nL, d1), (b2, n', d2), (b3, nR, d3), (aP, nC, cP), (aZ, nC, cZ)], (∃ xs, w9.ownsRow Wm.heap.size 3 1 (ApI.IV x) x.2.1 xs) ∧ x.2.1 * 8 ≤ 140737488350000 := by
    intro x hx
    simp only [List.mem_cons, List.not_mem_nil, or_false] at hx
    rcases hx with rfl | rfl | rfl | rfl | rfl | rfl | rfl | rfl
    · exact ⟨⟨_, (HA1.out.up HF9.out).own⟩, by show nL * 8 ≤ _; omega⟩
    · exact ⟨⟨_, (HA2.out.up HF9.out).own⟩, by show n' * 8 ≤ _; omega⟩
    · exact ⟨⟨_, (HA3.out.up HF9.out).own⟩, by show nR * 8 ≤ _; omega⟩
    · exact ⟨⟨_, ((HD1.out.up HP9.out).base s3).own⟩, by show nL * 8 ≤ _; omega⟩
    · exact ⟨⟨_, ((HD2.out.up HP9.out).base s3).own⟩, by show n' * 8 ≤ _; omega⟩
    · exact ⟨⟨_, ((HD3.out.up HP9.out).base s3).own⟩, by show nR * 8 ≤ _; omega⟩
    · exact ⟨⟨_, ((HOP.out.up HQ9.out).base (Nat.le_trans s3 s4)).own⟩, by show nC * 8 ≤ _; omega⟩
    · exact ⟨⟨_, ((HOZ.out.up HR9.out).base (Nat.le_trans (Nat.le_trans s3 s4) s5)).own⟩, by show nC * 8 ≤ _; omega⟩
  have HOWN := Lib.hid hown
  clear hpair hown s3 s4 s5
  go_wp2_with fail
  refine (ApI.apart_lit _ Wm.heap.size 8 8 [((a1, nL, c1) : ApI.It), (a2, n', c2), (a3, nR, c3), (b1, nL, d1), (b2, n', d2), (b3, nR, d3), (aP, nC, cP), (aZ, nC, cZ)] w9 _ 22 rfl rfl rfl HE9.out.size HPAIR.out (fun x hx => (HOWN.out x hx).1) (fun x hx => (HOWN.out x hx).2) (by simp)).mono ?_; rintro e w10 ⟨rfl, hb10, _⟩
  have HE10 := Lib.hid (HE9.out.trans hb10)
  have HC10 := Lib.hid (HC9.out.trans (hb10.mono HC2.out.size))
  have HB10 := Lib.hid (HB9.out.trans (hb10.mono HB2.out.size))
  clear hb10 u0 u1 u2 u3 v0 v1 v2 v3
  have x0 := (HC10.out.cell (p := ⟨W.heap.size + 1, 0, none⟩) HS1.out).trans HX.out.1
  have x1 := (HC10.out.cell (p := ⟨W.heap.size + 1, 1, none⟩) HS1.out).trans HX.out.2.1
  have x2 := (HC10.out.cell (p := ⟨W.heap.size + 1, 2, none⟩) HS1.out).trans HX.out.2.2.1
  have x3 := (HC10.out.cell (p := ⟨W.heap.size + 1, 3, none⟩) HS1.out).trans HX.out.2.2.2
  have m0 := (HE10.out.cell (p := ⟨w2.heap.size, 0, none⟩) HSM.out).trans HMB.out.1
  have m1 := (HE10.out.cell (p := ⟨w2.heap.size, 1, none⟩) HSM.out).trans HMB.out.2.1
  have m2 := (HE10.out.cell (p := ⟨w2.heap.size, 2, none⟩) HSM.out).trans HMB.out.2.2.1
  have m3 := (HE10.out.cell (p := ⟨w2.heap.size, 3, none⟩) HSM.out).trans HMB.out.2.2.2
  go_wp2_with fail
  refine (kept7 p aL aC aR nL cL nC cC nR cR gL gC gR L C Q _ (HM.out.up HB10.out) (HLL.out.up HE10.out) (HLC.out.up HE10.out) (HLR.out.up HE10.out)).mono ?_; rintro e w11 ⟨rfl, hb11⟩
  go_wp2
  go_ret
  exact ⟨rfl, bstep HB10.out hb11⟩

theorem rowkeep_row (k r : Int) (aT : Option Addr) (nT cT : Nat) (tb : List Int) (p : Int) (aL : Option Addr) (nL cL : Nat) (L : List Int) (aC : Option Addr) (nC cC : Nat) (C : List Int) (aR : Option Addr) (nR cR : Nat) (Q : List Int) (W : World) (R : Nat → Addr) (hS : Sent W R)
    (hT : SlI W aT nT cT tb) (hM : RowM W aL nL cL L aC nC cC C aR nR cR Q) :
    Calls Tryd.prog 4 #[ruleV k r aT nT cT, rowV p aL nL cL aC nC cC aR nR cR] W (TrueBelow W) := by
  by_cases h100 : nC ≤ 100
  · by_cases h : ∃ kn rn : Nat, k = kn ∧ r = rn ∧ IsRule kn rn tb ∧ IsRow kn p L C Q ∧ -4096 ≤ p - r ∧ nC + 2 * rn ≤ 16384
    · obtain ⟨kn, rn, rfl, rfl, hI, hR, h1, h2⟩ := h
      exact rowkeep_ok kn rn aT nT cT tb p aL aC aR nL cL nC cC nR cR L C Q W R hS.glob hT hM h100 hI hR h1 h2
    · exact rowkeep_err k r aT nT cT tb p aL aC aR nL cL nC cC nR cR L C Q W R hS.glob hT hM h100 fun kn rn e1 e2 h3 h4 h5 => h ⟨kn, rn, e1, e2, h3, h4, h5.1, h5.2⟩
  · exact rowkeep_big k r aT nT cT tb p aL aC aR nL cL nC cC nR cR L C Q W R hS.glob hT hM (by omega)
end Go.Proofs.YtkgalgmjdfhhbaaDoor
