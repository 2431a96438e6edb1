/- The walk of edenlaw07.RowSteps. -/
import Derived.Test.YtkgalgmjdfhhbaaDoorRowW
import Derived.Test.YtkgalgmjdfhhbaaDoorRowG
namespace Go.Proofs.YtkgalgmjdfhhbaaDoor
open Go.RowKit
set_option linter.unusedVariables false
set_option maxRecDepth 100000

theorem rstepO_len (k r : Int) (tb : List Int) (p : Int) (L C Q : List Int) : (rstepO k r tb p L C Q).2.1.length ≤ 1000000 ∧ (rstepO k r tb p L C Q).2.2.1.length ≤ 1000000 ∧ (rstepO k r tb p L C Q).2.2.2.length ≤ 1000000 := by
  unfold rstepO
  split
  · rename_i h
    obtain ⟨kn, rn, rfl, rfl, hI, hR, h1, h2⟩ := rstepD_none h
    have := hR.l2
    have := hR.r2
    simp only [valsF_len, Int.toNat_natCast]
    omega
  · simp

set_option maxHeartbeats 16000000 in
theorem rowsteps_row (k r : Int) (aT : Option Addr) (nT cT : Nat) (tb : List Int) (p : Int) (aL : Option Addr) (nL cL : Nat) (L : List Int) (aC : Option Addr) (nC cC : Nat) (C : List Int) (aR : Option Addr) (nR cR : Nat) (Q : List Int) (W : World) (R : Nat → Addr) (hE : Env W R) (hT : SlI W aT nT cT tb) (hM : RowM W aL nL cL L aC nC cC C aR nR cR Q) :
    Calls Tryd.prog 8 #[ruleV k r aT nT cT, rowV p aL nL cL aC nC cC aR nR cR] W (TrueBelow W) := by
  have hT8 : nT * 8 ≤ 140737488351232 := hT.n8
  have hTm : nT ≤ maxLen := hT.nm
  have hL8 : nL * 8 ≤ 140737488351232 := hM.l.n8
  have hC8 : nC * 8 ≤ 140737488351232 := hM.c.n8
  have hR8 : nR * 8 ≤ 140737488351232 := hM.r.n8
  have hlen := rstepO_len k r tb p L C Q
  obtain ⟨⟨P, l1, l2, l3⟩, hO⟩ : ∃ O, rstepO k r tb p L C Q = O := ⟨_, rfl⟩
  obtain ⟨D, hD⟩ : ∃ D, rstepD k r tb p L C Q = D := ⟨_, rfl⟩
  rw [hO] at hlen
  have HLEN : Hid (l1.length ≤ 1000000 ∧ l2.length ≤ 1000000 ∧ l3.length ≤ 1000000) := hlen
  have HO := Lib.hid hO
  have HD := Lib.hid hD
  clear hO hD hlen
  obtain ⟨Wb, hWb⟩ : ∃ Wb, (W.alloc (.cells #[.int .i64 k, .int .i64 r, .slice aT nT cT] 24)).alloc (.cells #[.int .i64 p, .slice aL nL cL, .slice aC nC cC, .slice aR nR cR] 26) = Wb := ⟨_, rfl⟩
  have BRWb : Hid (Wb.cell? ⟨W.heap.size, 0, none⟩ = some (.int .i64 k) ∧ Wb.cell? ⟨W.heap.size, 1, none⟩ = some (.int .i64 r) ∧ Wb.cell? ⟨W.heap.size, 2, none⟩ = some (.slice aT nT cT)) := by rw [← hWb]; exact ⟨al00 (by simp), al00 (by simp), al00 (by simp)⟩
  have BXWb : Hid (Wb.cell? ⟨W.heap.size + 1, 0, none⟩ = some (.int .i64 p) ∧ Wb.cell? ⟨W.heap.size + 1, 1, none⟩ = some (.slice aL nL cL) ∧ Wb.cell? ⟨W.heap.size + 1, 2, none⟩ = some (.slice aC nC cC) ∧ Wb.cell? ⟨W.heap.size + 1, 3, none⟩ = some (.slice aR nR cR)) := by rw [← hWb]; exact ⟨by simp, by simp, by simp, by simp⟩
  have HBX : Hid (Below W.heap.size W Wb) := by rw [← hWb]; exact balloc (balloc (bnil W) _) _
  have HT := Lib.hid hT.rk; clear hT
  have HM := Lib.hid hM; clear hM
  have HE := Lib.hid hE; clear hE
  have HWB := Lib.hid hWb; clear hWb
  go_enter Tryd.func8, Tryd.ntmps8
  go_wp2_with fail
  rw [HWB.out]
  refine (awake07 _ R (HE.out.up HBX.out).sent.glob).mono ?_; rintro e w1 ⟨rfl, hb1⟩
  have HB1 := Lib.hid (HBX.out.trans (hb1.mono HBX.out.size))
  have BRw1 : Hid (w1.cell? ⟨W.heap.size, 0, none⟩ = some (.int .i64 k) ∧ w1.cell? ⟨W.heap.size, 1, none⟩ = some (.int .i64 r) ∧ w1.cell? ⟨W.heap.size, 2, none⟩ = some (.slice aT nT cT)) := ⟨cpb hb1 BRWb.out.1, cpb hb1 BRWb.out.2.1, cpb hb1 BRWb.out.2.2⟩
  have BXw1 : Hid (w1.cell? ⟨W.heap.size + 1, 0, none⟩ = some (.int .i64 p) ∧ w1.cell? ⟨W.heap.size + 1, 1, none⟩ = some (.slice aL nL cL) ∧ w1.cell? ⟨W.heap.size + 1, 2, none⟩ = some (.slice aC nC cC) ∧ w1.cell? ⟨W.heap.size + 1, 3, none⟩ = some (.slice aR nR cR)) := ⟨cpb hb1 BXWb.out.1, cpb hb1 BXWb.out.2.1, cpb hb1 BXWb.out.2.2.1, cpb hb1 BXWb.out.2.2.2⟩
  clear hb1
  have x0 := BXw1.out.1
  have x1 := BXw1.out.2.1
  have x2 := BXw1.out.2.2.1
  have x3 := BXw1.out.2.2.2
  go_wp2_with fail
  refine (lent7 p aL aC aR nL cL nC cC nR cR L C Q _ (HM.out.up HB1.out)).mono ?_; rintro e w2 ⟨gL, gC, gR, rfl, hlL, hlC, hlR, hb2⟩
  obtain ⟨Wm, hWm⟩ : ∃ Wm, w2.alloc (.cells #[.int .i64 p, .slice (some ⟨gL, 0, none⟩) nL (nL + 2), .slice (some ⟨gC, 0, none⟩) nC (nC + 2), .slice (some ⟨gR, 0, none⟩) nR (nR + 2)] 26) = Wm := ⟨_, rfl⟩
  have hbm : Below w2.heap.size w2 Wm := by rw [← hWm]; exact balloc (bnil w2) _
  have BMWm : Hid (Wm.cell? ⟨w2.heap.size, 0, none⟩ = some (.int .i64 p) ∧ Wm.cell? ⟨w2.heap.size, 1, none⟩ = some (.slice (some ⟨gL, 0, none⟩) nL (nL + 2)) ∧ Wm.cell? ⟨w2.heap.size, 2, none⟩ = some (.slice (some ⟨gC, 0, none⟩) nC (nC + 2)) ∧ Wm.cell? ⟨w2.heap.size, 3, none⟩ = some (.slice (some ⟨gR, 0, none⟩) nR (nR + 2))) := by rw [← hWm]; exact ⟨cell_new rfl rfl, cell_new rfl rfl, cell_new rfl rfl, cell_new rfl rfl⟩
  have hb12 := hb2.trans (hbm.mono hb2.size)
  have HLL := Lib.hid (hlL.up hbm)
  have HLC := Lib.hid (hlC.up hbm)
  have HLR := Lib.hid (hlR.up hbm)
  have HMM : Hid (RowM Wm (some ⟨gL, 0, none⟩) nL (nL + 2) L (some ⟨gC, 0, none⟩) nC (nC + 2) C (some ⟨gR, 0, none⟩) nR (nR + 2) Q) := ⟨(hlL.up hbm).sl hL8, (hlC.up hbm).sl hC8, (hlR.up hbm).sl hR8⟩
  have HB2 := Lib.hid (bstep HB1.out hb12)
  have BRWm : Hid (Wm.cell? ⟨W.heap.size, 0, none⟩ = some (.int .i64 k) ∧ Wm.cell? ⟨W.heap.size, 1, none⟩ = some (.int .i64 r) ∧ Wm.cell? ⟨W.heap.size, 2, none⟩ = some (.slice aT nT cT)) := ⟨cpb hb12 BRw1.out.1, cpb hb12 BRw1.out.2.1, cpb hb12 BRw1.out.2.2⟩
  have BXWm : Hid (Wm.cell? ⟨W.heap.size + 1, 0, none⟩ = some (.int .i64 p) ∧ Wm.cell? ⟨W.heap.size + 1, 1, none⟩ = some (.slice aL nL cL) ∧ Wm.cell? ⟨W.heap.size + 1, 2, none⟩ = some (.slice aC nC cC) ∧ Wm.cell? ⟨W.heap.size + 1, 3, none⟩ = some (.slice aR nR cR)) := ⟨cpb hb12 BXw1.out.1, cpb hb12 BXw1.out.2.1, cpb hb12 BXw1.out.2.2.1, cpb hb12 BXw1.out.2.2.2⟩
  have HWM := Lib.hid hWm
  clear hWm hlL hlC hlR hbm hb2 hb12 x0 x1 x2 x3
  have r0 := BRWm.out.1
  have r1 := BRWm.out.2.1
  have r2 := BRWm.out.2.2
  rw [← HWM.out] at r0 r1 r2
  go_wp2_with fail
  rw [HWM.out]
  clear r0 r1 r2
  refine (lentRule_any k r aT nT cT tb _ (HT.out.up HB2.out) hT8).mono ?_; rintro e w3 ⟨gT, rfl, hlT, hb3⟩
  obtain ⟨Wt, hWt⟩ : ∃ Wt, w3.alloc (.cells #[.int .i64 k, .int .i64 r, .slice (some ⟨gT, 0, none⟩) nT (nT + 2)] 24) = Wt := ⟨_, rfl⟩
  have hbt : Below w3.heap.size w3 Wt := by rw [← hWt]; exact balloc (bnil w3) _
  have BTWt : Hid (Wt.cell? ⟨w3.heap.size, 0, none⟩ = some (.int .i64 k) ∧ Wt.cell? ⟨w3.heap.size, 1, none⟩ = some (.int .i64 r) ∧ Wt.cell? ⟨w3.heap.size, 2, none⟩ = some (.slice (some ⟨gT, 0, none⟩) nT (nT + 2))) := by rw [← hWt]; exact ⟨cell_new rfl rfl, cell_new rfl rfl, cell_new rfl rfl⟩
  have hb13 := hb3.trans (hbt.mono hb3.size)
  have HLT := Lib.hid (hlT.up hbt)
  have HD3 := Lib.hid hb13
  have HB3 := Lib.hid (bstep HB2.out hb13)
  have BRWt : Hid (Wt.cell? ⟨W.heap.size, 0, none⟩ = some (.int .i64 k) ∧ Wt.cell? ⟨W.heap.size, 1, none⟩ = some (.int .i64 r) ∧ Wt.cell? ⟨W.heap.size, 2, none⟩ = some (.slice aT nT cT)) := ⟨cpb hb13 BRWm.out.1, cpb hb13 BRWm.out.2.1, cpb hb13 BRWm.out.2.2⟩
  have BXWt : Hid (Wt.cell? ⟨W.heap.size + 1, 0, none⟩ = some (.int .i64 p) ∧ Wt.cell? ⟨W.heap.size + 1, 1, none⟩ = some (.slice aL nL cL) ∧ Wt.cell? ⟨W.heap.size + 1, 2, none⟩ = some (.slice aC nC cC) ∧ Wt.cell? ⟨W.heap.size + 1, 3, none⟩ = some (.slice aR nR cR)) := ⟨cpb hb13 BXWm.out.1, cpb hb13 BXWm.out.2.1, cpb hb13 BXWm.out.2.2.1, cpb hb13 BXWm.out.2.2.2⟩
  have BMWt : Hid (Wt.cell? ⟨w2.heap.size, 0, none⟩ = some (.int .i64 p) ∧ Wt.cell? ⟨w2.heap.size, 1, none⟩ = some (.slice (some ⟨gL, 0, none⟩) nL (nL + 2)) ∧ Wt.cell? ⟨w2.heap.size, 2, none⟩ = some (.slice (some ⟨gC, 0, none⟩) nC (nC + 2)) ∧ Wt.cell? ⟨w2.heap.size, 3, none⟩ = some (.slice (some ⟨gR, 0, none⟩) nR (nR + 2))) := ⟨cpb hb13 BMWm.out.1, cpb hb13 BMWm.out.2.1, cpb hb13 BMWm.out.2.2.1, cpb hb13 BMWm.out.2.2.2⟩
  have HWT := Lib.hid hWt
  clear hWt hbt hb3 hb13 hlT
  have t0 := BTWt.out.1
  have t1 := BTWt.out.2.1
  have t2 := BTWt.out.2.2
  have m0 := BMWt.out.1
  have m1 := BMWt.out.2.1
  have m2 := BMWt.out.2.2.1
  have m3 := BMWt.out.2.2.2
  rw [← HWT.out] at t0 t1 t2 m0 m1 m2 m3
  go_wp2_with fail
  rw [HWT.out]
  clear t0 t1 t2 m0 m1 m2 m3
  refine (rowstep_any k r (some ⟨gT, 0, none⟩) nT (nT + 2) tb p (some ⟨gL, 0, none⟩) (some ⟨gC, 0, none⟩) (some ⟨gR, 0, none⟩) nL (nL + 2) nC (nC + 2) nR (nR + 2) L C Q _ R (HE.out.up HB3.out).sent (HLT.out.sl hT8).rk hTm (HMM.out.up HD3.out)).mono ?_; rw [HO.out, HD.out]; rintro e w4 ⟨a1, n1, c1, a2, n2, c2, a3, n3, c3, ev, rfl, q1, q2, q3, he4, hb4⟩
  obtain ⟨Wa, hWa⟩ : ∃ Wa, w4.alloc (.cells #[.int .i64 P, .slice a1 n1 c1, .slice a2 n2 c2, .slice a3 n3 c3] 26) = Wa := ⟨_, rfl⟩
  have hba : Below w4.heap.size w4 Wa := by rw [← hWa]; exact balloc (bnil w4) _
  have BAWa : Hid (Wa.cell? ⟨w4.heap.size, 0, none⟩ = some (.int .i64 P) ∧ Wa.cell? ⟨w4.heap.size, 1, none⟩ = some (.slice a1 n1 c1) ∧ Wa.cell? ⟨w4.heap.size, 2, none⟩ = some (.slice a2 n2 c2) ∧ Wa.cell? ⟨w4.heap.size, 3, none⟩ = some (.slice a3 n3 c3)) := by rw [← hWa]; exact ⟨cell_new rfl rfl, cell_new rfl rfl, cell_new rfl rfl, cell_new rfl rfl⟩
  have hb14 := hb4.trans (hba.mono hb4.size)
  have HQ1 := Lib.hid (q1.up hba)
  have HQ2 := Lib.hid (q2.up hba)
  have HQ3 := Lib.hid (q3.up hba)
  have HEV := Lib.hid (he4.up hba)
  have HLT4 := Lib.hid (HLT.out.up hb14)
  have HD4 := Lib.hid (bstep HD3.out hb14)
  have HB4 := Lib.hid (bstep HB3.out hb14)
  have BRWa : Hid (Wa.cell? ⟨W.heap.size, 0, none⟩ = some (.int .i64 k) ∧ Wa.cell? ⟨W.heap.size, 1, none⟩ = some (.int .i64 r) ∧ Wa.cell? ⟨W.heap.size, 2, none⟩ = some (.slice aT nT cT)) := ⟨cpb hb14 BRWt.out.1, cpb hb14 BRWt.out.2.1, cpb hb14 BRWt.out.2.2⟩
  have BXWa : Hid (Wa.cell? ⟨W.heap.size + 1, 0, none⟩ = some (.int .i64 p) ∧ Wa.cell? ⟨W.heap.size + 1, 1, none⟩ = some (.slice aL nL cL) ∧ Wa.cell? ⟨W.heap.size + 1, 2, none⟩ = some (.slice aC nC cC) ∧ Wa.cell? ⟨W.heap.size + 1, 3, none⟩ = some (.slice aR nR cR)) := ⟨cpb hb14 BXWt.out.1, cpb hb14 BXWt.out.2.1, cpb hb14 BXWt.out.2.2.1, cpb hb14 BXWt.out.2.2.2⟩
  have BMWa : Hid (Wa.cell? ⟨w2.heap.size, 0, none⟩ = some (.int .i64 p) ∧ Wa.cell? ⟨w2.heap.size, 1, none⟩ = some (.slice (some ⟨gL, 0, none⟩) nL (nL + 2)) ∧ Wa.cell? ⟨w2.heap.size, 2, none⟩ = some (.slice (some ⟨gC, 0, none⟩) nC (nC + 2)) ∧ Wa.cell? ⟨w2.heap.size, 3, none⟩ = some (.slice (some ⟨gR, 0, none⟩) nR (nR + 2))) := ⟨cpb hb14 BMWt.out.1, cpb hb14 BMWt.out.2.1, cpb hb14 BMWt.out.2.2.1, cpb hb14 BMWt.out.2.2.2⟩
  have BTWa : Hid (Wa.cell? ⟨w3.heap.size, 0, none⟩ = some (.int .i64 k) ∧ Wa.cell? ⟨w3.heap.size, 1, none⟩ = some (.int .i64 r) ∧ Wa.cell? ⟨w3.heap.size, 2, none⟩ = some (.slice (some ⟨gT, 0, none⟩) nT (nT + 2))) := ⟨cpb hb14 BTWt.out.1, cpb hb14 BTWt.out.2.1, cpb hb14 BTWt.out.2.2⟩
  have HWA := Lib.hid hWa
  clear hWa hba hb4 hb14 q1 q2 q3 he4
  have r0 := BRWa.out.1
  have r1 := BRWa.out.2.1
  have r2 := BRWa.out.2.2
  have x0 := BXWa.out.1
  have x1 := BXWa.out.2.1
  have x2 := BXWa.out.2.2.1
  have x3 := BXWa.out.2.2.2
  rw [← HWA.out] at r0 r1 r2 x0 x1 x2 x3
  go_wp2_with fail
  rw [HWA.out]
  clear r0 r1 r2 x0 x1 x2 x3
  refine (refstep_any k r aT nT cT tb p aL aC aR nL cL nC cC nR cR L C Q _ (HT.out.up HB4.out) hTm (HM.out.up HB4.out)).mono ?_; rw [HO.out, HD.out]; rintro e w5 ⟨b1, m1, d1, b2, m2, d2, b3, m3, d3, N, e1, k1, f1, e2, k2, f2, rfl, q1, q2, q3, hw5, hb5⟩
  have h1 := HQ1.out.len
  have h2 := HQ2.out.len
  have h3 := HQ3.out.len
  have h1' := q1.len
  have h2' := q2.len
  have h3' := q3.len
  obtain rfl : n1 = m1 := by rw [h1, h1']
  obtain rfl : n2 = m2 := by rw [h2, h2']
  obtain rfl : n3 = m3 := by rw [h3, h3']
  have hs1 : n1 ≤ 1000000 := by rw [h1]; exact HLEN.out.1
  have hs2 : n2 ≤ 1000000 := by rw [h2]; exact HLEN.out.2.1
  have hs3 : n3 ≤ 1000000 := by rw [h3]; exact HLEN.out.2.2
  clear h1 h2 h3 h1' h2' h3'
  obtain ⟨Wh, hWh⟩ : ∃ Wh, (w5.alloc (.cells #[.int .i64 P, .slice b1 n1 d1, .slice b2 n2 d2, .slice b3 n3 d3] 26)).alloc (.cells #[.int .i64 N, .slice e1 k1 f1, .slice e2 k2 f2] 47) = Wh := ⟨_, rfl⟩
  have hbh : Below w5.heap.size w5 Wh := by rw [← hWh]; exact balloc (balloc (bnil w5) _) _
  have BBWh : Hid (Wh.cell? ⟨w5.heap.size, 0, none⟩ = some (.int .i64 P) ∧ Wh.cell? ⟨w5.heap.size, 1, none⟩ = some (.slice b1 n1 d1) ∧ Wh.cell? ⟨w5.heap.size, 2, none⟩ = some (.slice b2 n2 d2) ∧ Wh.cell? ⟨w5.heap.size, 3, none⟩ = some (.slice b3 n3 d3)) := by rw [← hWh]; exact ⟨al00 (cell_new rfl rfl), al00 (cell_new rfl rfl), al00 (cell_new rfl rfl), al00 (cell_new rfl rfl)⟩
  have BEWh : Hid (Wh.cell? ⟨w5.heap.size + 1, 0, none⟩ = some (.int .i64 N) ∧ Wh.cell? ⟨w5.heap.size + 1, 1, none⟩ = some (.slice e1 k1 f1) ∧ Wh.cell? ⟨w5.heap.size + 1, 2, none⟩ = some (.slice e2 k2 f2)) := by rw [← hWh]; exact ⟨cell_new (by simp) rfl, cell_new (by simp) rfl, cell_new (by simp) rfl⟩
  have hb15 := hb5.trans (hbh.mono hb5.size)
  have HP1 := Lib.hid (q1.up hbh)
  have HP2 := Lib.hid (q2.up hbh)
  have HP3 := Lib.hid (q3.up hbh)
  have HW5 := Lib.hid (hw5.up hbh)
  have HQ15 := Lib.hid (HQ1.out.up hb15)
  have HQ25 := Lib.hid (HQ2.out.up hb15)
  have HQ35 := Lib.hid (HQ3.out.up hb15)
  have HEV5 := Lib.hid (HEV.out.up hb15)
  have HLT5 := Lib.hid (HLT4.out.up hb15)
  have HD5 := Lib.hid (bstep HD4.out hb15)
  have HB5 := Lib.hid (bstep HB4.out hb15)
  have BRWh : Hid (Wh.cell? ⟨W.heap.size, 0, none⟩ = some (.int .i64 k) ∧ Wh.cell? ⟨W.heap.size, 1, none⟩ = some (.int .i64 r) ∧ Wh.cell? ⟨W.heap.size, 2, none⟩ = some (.slice aT nT cT)) := ⟨cpb hb15 BRWa.out.1, cpb hb15 BRWa.out.2.1, cpb hb15 BRWa.out.2.2⟩
  have BXWh : Hid (Wh.cell? ⟨W.heap.size + 1, 0, none⟩ = some (.int .i64 p) ∧ Wh.cell? ⟨W.heap.size + 1, 1, none⟩ = some (.slice aL nL cL) ∧ Wh.cell? ⟨W.heap.size + 1, 2, none⟩ = some (.slice aC nC cC) ∧ Wh.cell? ⟨W.heap.size + 1, 3, none⟩ = some (.slice aR nR cR)) := ⟨cpb hb15 BXWa.out.1, cpb hb15 BXWa.out.2.1, cpb hb15 BXWa.out.2.2.1, cpb hb15 BXWa.out.2.2.2⟩
  have BMWh : Hid (Wh.cell? ⟨w2.heap.size, 0, none⟩ = some (.int .i64 p) ∧ Wh.cell? ⟨w2.heap.size, 1, none⟩ = some (.slice (some ⟨gL, 0, none⟩) nL (nL + 2)) ∧ Wh.cell? ⟨w2.heap.size, 2, none⟩ = some (.slice (some ⟨gC, 0, none⟩) nC (nC + 2)) ∧ Wh.cell? ⟨w2.heap.size, 3, none⟩ = some (.slice (some ⟨gR, 0, none⟩) nR (nR + 2))) := ⟨cpb hb15 BMWa.out.1, cpb hb15 BMWa.out.2.1, cpb hb15 BMWa.out.2.2.1, cpb hb15 BMWa.out.2.2.2⟩
  have BTWh : Hid (Wh.cell? ⟨w3.heap.size, 0, none⟩ = some (.int .i64 k) ∧ Wh.cell? ⟨w3.heap.size, 1, none⟩ = some (.int .i64 r) ∧ Wh.cell? ⟨w3.heap.size, 2, none⟩ = some (.slice (some ⟨gT, 0, none⟩) nT (nT + 2))) := ⟨cpb hb15 BTWa.out.1, cpb hb15 BTWa.out.2.1, cpb hb15 BTWa.out.2.2⟩
  have BAWh : Hid (Wh.cell? ⟨w4.heap.size, 0, none⟩ = some (.int .i64 P) ∧ Wh.cell? ⟨w4.heap.size, 1, none⟩ = some (.slice a1 n1 c1) ∧ Wh.cell? ⟨w4.heap.size, 2, none⟩ = some (.slice a2 n2 c2) ∧ Wh.cell? ⟨w4.heap.size, 3, none⟩ = some (.slice a3 n3 c3)) := ⟨cpb hb15 BAWa.out.1, cpb hb15 BAWa.out.2.1, cpb hb15 BAWa.out.2.2.1, cpb hb15 BAWa.out.2.2.2⟩
  have HWH := Lib.hid hWh
  clear hWh hbh hb5 hb15 q1 q2 q3 hw5
  have a0 := BAWh.out.1
  have a1_ := BAWh.out.2.1
  have a2_ := BAWh.out.2.2.1
  have a3_ := BAWh.out.2.2.2
  have b0 := BBWh.out.1
  have b1_ := BBWh.out.2.1
  have b2_ := BBWh.out.2.2.1
  have b3_ := BBWh.out.2.2.2
  rw [← HWH.out] at a0 a1_ a2_ a3_ b0 b1_ b2_ b3_
  go_wp2_with fail
  rw [HWH.out]
  refine (rows_eq P a1 a2 a3 n1 c1 n2 c2 n3 c3 b1 b2 b3 d1 d2 d3 l1 l2 l3 _ HQ15.out HQ25.out HQ35.out HP1.out HP2.out HP3.out hs1 hs2 hs3).mono ?_; rintro e w6 ⟨rfl, hb6⟩
  clear a0 a1_ a2_ a3_ b0 b1_ b2_ b3_
  have BRw6 : Hid (w6.cell? ⟨W.heap.size, 0, none⟩ = some (.int .i64 k) ∧ w6.cell? ⟨W.heap.size, 1, none⟩ = some (.int .i64 r) ∧ w6.cell? ⟨W.heap.size, 2, none⟩ = some (.slice aT nT cT)) := ⟨cpb hb6 BRWh.out.1, cpb hb6 BRWh.out.2.1, cpb hb6 BRWh.out.2.2⟩
  have BXw6 : Hid (w6.cell? ⟨W.heap.size + 1, 0, none⟩ = some (.int .i64 p) ∧ w6.cell? ⟨W.heap.size + 1, 1, none⟩ = some (.slice aL nL cL) ∧ w6.cell? ⟨W.heap.size + 1, 2, none⟩ = some (.slice aC nC cC) ∧ w6.cell? ⟨W.heap.size + 1, 3, none⟩ = some (.slice aR nR cR)) := ⟨cpb hb6 BXWh.out.1, cpb hb6 BXWh.out.2.1, cpb hb6 BXWh.out.2.2.1, cpb hb6 BXWh.out.2.2.2⟩
  have BMw6 : Hid (w6.cell? ⟨w2.heap.size, 0, none⟩ = some (.int .i64 p) ∧ w6.cell? ⟨w2.heap.size, 1, none⟩ = some (.slice (some ⟨gL, 0, none⟩) nL (nL + 2)) ∧ w6.cell? ⟨w2.heap.size, 2, none⟩ = some (.slice (some ⟨gC, 0, none⟩) nC (nC + 2)) ∧ w6.cell? ⟨w2.heap.size, 3, none⟩ = some (.slice (some ⟨gR, 0, none⟩) nR (nR + 2))) := ⟨cpb hb6 BMWh.out.1, cpb hb6 BMWh.out.2.1, cpb hb6 BMWh.out.2.2.1, cpb hb6 BMWh.out.2.2.2⟩
  have BTw6 : Hid (w6.cell? ⟨w3.heap.size, 0, none⟩ = some (.int .i64 k) ∧ w6.cell? ⟨w3.heap.size, 1, none⟩ = some (.int .i64 r) ∧ w6.cell? ⟨w3.heap.size, 2, none⟩ = some (.slice (some ⟨gT, 0, none⟩) nT (nT + 2))) := ⟨cpb hb6 BTWh.out.1, cpb hb6 BTWh.out.2.1, cpb hb6 BTWh.out.2.2⟩
  have BEw6 : Hid (w6.cell? ⟨w5.heap.size + 1, 0, none⟩ = some (.int .i64 N) ∧ w6.cell? ⟨w5.heap.size + 1, 1, none⟩ = some (.slice e1 k1 f1) ∧ w6.cell? ⟨w5.heap.size + 1, 2, none⟩ = some (.slice e2 k2 f2)) := ⟨cpb hb6 BEWh.out.1, cpb hb6 BEWh.out.2.1, cpb hb6 BEWh.out.2.2⟩
  have HD6 := Lib.hid (bstep HD5.out hb6)
  have HB6 := Lib.hid (bstep HB5.out hb6)
  have HW6 := Lib.hid (HW5.out.up hb6)
  have HEV6 := Lib.hid (HEV5.out.up hb6)
  have HLT6 := Lib.hid (HLT5.out.up hb6)
  clear hb6
  have e0 := BEw6.out.1
  have e1_ := BEw6.out.2.1
  have e2_ := BEw6.out.2.2
  go_wp2_with fail
  refine (rawIs_ch ev _ D _ R (HE.out.up HB6.out) HEV6.out HW6.out).mono ?_; rintro e w7 ⟨rfl, hb7⟩
  clear e0 e1_ e2_
  have BRw7 : Hid (w7.cell? ⟨W.heap.size, 0, none⟩ = some (.int .i64 k) ∧ w7.cell? ⟨W.heap.size, 1, none⟩ = some (.int .i64 r) ∧ w7.cell? ⟨W.heap.size, 2, none⟩ = some (.slice aT nT cT)) := ⟨cpb hb7 BRw6.out.1, cpb hb7 BRw6.out.2.1, cpb hb7 BRw6.out.2.2⟩
  have BXw7 : Hid (w7.cell? ⟨W.heap.size + 1, 0, none⟩ = some (.int .i64 p) ∧ w7.cell? ⟨W.heap.size + 1, 1, none⟩ = some (.slice aL nL cL) ∧ w7.cell? ⟨W.heap.size + 1, 2, none⟩ = some (.slice aC nC cC) ∧ w7.cell? ⟨W.heap.size + 1, 3, none⟩ = some (.slice aR nR cR)) := ⟨cpb hb7 BXw6.out.1, cpb hb7 BXw6.out.2.1, cpb hb7 BXw6.out.2.2.1, cpb hb7 BXw6.out.2.2.2⟩
  have BMw7 : Hid (w7.cell? ⟨w2.heap.size, 0, none⟩ = some (.int .i64 p) ∧ w7.cell? ⟨w2.heap.size, 1, none⟩ = some (.slice (some ⟨gL, 0, none⟩) nL (nL + 2)) ∧ w7.cell? ⟨w2.heap.size, 2, none⟩ = some (.slice (some ⟨gC, 0, none⟩) nC (nC + 2)) ∧ w7.cell? ⟨w2.heap.size, 3, none⟩ = some (.slice (some ⟨gR, 0, none⟩) nR (nR + 2))) := ⟨cpb hb7 BMw6.out.1, cpb hb7 BMw6.out.2.1, cpb hb7 BMw6.out.2.2.1, cpb hb7 BMw6.out.2.2.2⟩
  have BTw7 : Hid (w7.cell? ⟨w3.heap.size, 0, none⟩ = some (.int .i64 k) ∧ w7.cell? ⟨w3.heap.size, 1, none⟩ = some (.int .i64 r) ∧ w7.cell? ⟨w3.heap.size, 2, none⟩ = some (.slice (some ⟨gT, 0, none⟩) nT (nT + 2))) := ⟨cpb hb7 BTw6.out.1, cpb hb7 BTw6.out.2.1, cpb hb7 BTw6.out.2.2⟩
  have HD7 := Lib.hid (bstep HD6.out hb7)
  have HB7 := Lib.hid (bstep HB6.out hb7)
  have HLT7 := Lib.hid (HLT6.out.up hb7)
  clear hb7
  have x0 := BXw7.out.1
  have x1_ := BXw7.out.2.1
  have x2_ := BXw7.out.2.2.1
  have x3_ := BXw7.out.2.2.2
  have m0 := BMw7.out.1
  have m1_ := BMw7.out.2.1
  have m2_ := BMw7.out.2.2.1
  have m3_ := BMw7.out.2.2.2
  go_wp2_with fail
  refine (kept7 p aL aC aR nL cL nC cC nR cR gL gC gR L C Q _ (HM.out.up HB7.out) (HLL.out.up HD7.out) (HLC.out.up HD7.out) (HLR.out.up HD7.out)).mono ?_; rintro e w8 ⟨rfl, hb8⟩
  clear x0 x1_ x2_ x3_ m0 m1_ m2_ m3_
  have BRw8 : Hid (w8.cell? ⟨W.heap.size, 0, none⟩ = some (.int .i64 k) ∧ w8.cell? ⟨W.heap.size, 1, none⟩ = some (.int .i64 r) ∧ w8.cell? ⟨W.heap.size, 2, none⟩ = some (.slice aT nT cT)) := ⟨cpb hb8 BRw7.out.1, cpb hb8 BRw7.out.2.1, cpb hb8 BRw7.out.2.2⟩
  have BTw8 : Hid (w8.cell? ⟨w3.heap.size, 0, none⟩ = some (.int .i64 k) ∧ w8.cell? ⟨w3.heap.size, 1, none⟩ = some (.int .i64 r) ∧ w8.cell? ⟨w3.heap.size, 2, none⟩ = some (.slice (some ⟨gT, 0, none⟩) nT (nT + 2))) := ⟨cpb hb8 BTw7.out.1, cpb hb8 BTw7.out.2.1, cpb hb8 BTw7.out.2.2⟩
  have HB8 := Lib.hid (bstep HB7.out hb8)
  have HLT8 := Lib.hid (HLT7.out.up hb8)
  clear hb8
  have r0 := BRw8.out.1
  have r1_ := BRw8.out.2.1
  have r2_ := BRw8.out.2.2
  have t0 := BTw8.out.1
  have t1_ := BTw8.out.2.1
  have t2_ := BTw8.out.2.2
  go_wp2_with fail
  refine (keptRule_any k r gT aT nT cT tb _ HLT8.out (HT.out.up HB8.out) hT8).mono ?_; rintro e w9 ⟨rfl, hb9⟩
  go_wp2
  go_ret
  exact ⟨rfl, bstep HB8.out hb9⟩
end Go.Proofs.YtkgalgmjdfhhbaaDoor
