/- The contracts of edenlaw07.kept, awake and of edenraw.Rows. -/
import Derived.Test.YtkgalgmjdfhhbaaDoorRowF
namespace Go.Proofs.YtkgalgmjdfhhbaaDoor
open Go.RowKit
set_option linter.unusedVariables false
set_option maxRecDepth 100000

theorem rows_boxes {W Wb : World} {p p' : Int} {aL aC aR bL bC bR : Option Addr} {nL cL nC cC nR cR mL dL mC dC mR dR : Nat}
    (hWb : (W.alloc (.cells #[.int .i64 p, .slice aL nL cL, .slice aC nC cC, .slice aR nR cR] 26)).alloc (.cells #[.int .i64 p', .slice bL mL dL, .slice bC mC dC, .slice bR mR dR] 26) = Wb) :
    (Wb.cell? ⟨W.heap.size, 0, none⟩ = some (.int .i64 p) ∧ Wb.cell? ⟨W.heap.size, 1, none⟩ = some (.slice aL nL cL) ∧ Wb.cell? ⟨W.heap.size, 2, none⟩ = some (.slice aC nC cC) ∧ Wb.cell? ⟨W.heap.size, 3, none⟩ = some (.slice aR nR cR)) ∧
    (Wb.cell? ⟨W.heap.size + 1, 0, none⟩ = some (.int .i64 p') ∧ Wb.cell? ⟨W.heap.size + 1, 1, none⟩ = some (.slice bL mL dL) ∧ Wb.cell? ⟨W.heap.size + 1, 2, none⟩ = some (.slice bC mC dC) ∧ Wb.cell? ⟨W.heap.size + 1, 3, none⟩ = some (.slice bR mR dR)) ∧
    W.heap.size + 1 < Wb.heap.size ∧ W.heap.size < Wb.heap.size ∧ Below W.heap.size W Wb := by
  subst hWb
  exact ⟨⟨by simp, by simp, by simp, by simp⟩, ⟨by simp, by simp, by simp, by simp⟩, by simp, by simp; omega, balloc (balloc (bnil W) _) _⟩

set_option maxHeartbeats 4000000 in
theorem kept7 (p : Int) (aL aC aR : Option Addr) (nL cL nC cC nR cR gL gC gR : Nat) (L C Q : List Int) (W : World) (hM : RowM W aL nL cL L aC nC cC C aR nR cR Q) (hL : LentM W gL nL L) (hC : LentM W gC nC C) (hR : LentM W gR nR Q) :
    Calls Tryd.prog 16 #[rowV p (some ⟨gL, 0, none⟩) nL (nL + 2) (some ⟨gC, 0, none⟩) nC (nC + 2) (some ⟨gR, 0, none⟩) nR (nR + 2), rowV p aL nL cL aC nC cC aR nR cR] W fun e w' => e = .returned (.bool true) ∧ Below W.heap.size W w' := by
  obtain ⟨Wb, hWb⟩ : ∃ Wb, (W.alloc (.cells #[.int .i64 p, .slice (some ⟨gL, 0, none⟩) nL (nL + 2), .slice (some ⟨gC, 0, none⟩) nC (nC + 2), .slice (some ⟨gR, 0, none⟩) nR (nR + 2)] 26)).alloc (.cells #[.int .i64 p, .slice aL nL cL, .slice aC nC cC, .slice aR nR cR] 26) = Wb := ⟨_, rfl⟩
  obtain ⟨hx, hy, hs1, hs0, hbx⟩ := rows_boxes hWb
  have HX := Lib.hid hx; have HY := Lib.hid hy; have HS1 := Lib.hid hs1; have HS0 := Lib.hid hs0; have HBX := Lib.hid hbx
  clear hx hy hs1 hs0 hbx
  have mL := hM.l.n8
  have mC := hM.c.n8
  have mR := hM.r.n8
  have hmx : ∀ n : Nat, n * 8 ≤ 140737488351232 → n + 2 ≤ maxLen := fun n h => by unfold maxLen; omega
  have HMX := Lib.hid hmx
  have HM := Lib.hid hM; clear hM hmx
  have HL := Lib.hid hL; clear hL
  have HC := Lib.hid hC; clear hC
  have HR := Lib.hid hR; clear hR
  have HWB := Lib.hid hWb; clear hWb
  go_enter Tryd.func16, Tryd.ntmps16
  go_wp2_with fail
  rw [HWB.out]
  refine (kept_any gL nL (nL + 2) cL aL L _ (HL.out.up HBX.out) (Nat.le_refl _) (HMX.out nL mL) (HM.out.l.rk.up HBX.out) mL).mono ?_; rintro e w1 ⟨rfl, hb1⟩
  have x0 := (hb1.cell (p := ⟨W.heap.size, 2, none⟩) HS0.out).trans HX.out.2.2.1
  have y0 := (hb1.cell (p := ⟨W.heap.size + 1, 2, none⟩) HS1.out).trans HY.out.2.2.1
  have HC1 := Lib.hid hb1
  have HB1 := Lib.hid (HBX.out.trans (hb1.mono HBX.out.size))
  clear hb1
  go_wp2_with fail
  refine (kept_any gC nC (nC + 2) cC aC C _ (HC.out.up HB1.out) (Nat.le_refl _) (HMX.out nC mC) (HM.out.c.rk.up HB1.out) mC).mono ?_; rintro e w2 ⟨rfl, hb2⟩
  have HC2 := Lib.hid (HC1.out.trans (hb2.mono HC1.out.size))
  have HB2 := Lib.hid (bstep HB1.out hb2)
  clear hb2 x0 y0
  have x0 := (HC2.out.cell (p := ⟨W.heap.size, 3, none⟩) HS0.out).trans HX.out.2.2.2
  have y0 := (HC2.out.cell (p := ⟨W.heap.size + 1, 3, none⟩) HS1.out).trans HY.out.2.2.2
  go_wp2_with fail
  refine (kept_any gR nR (nR + 2) cR aR Q _ (HR.out.up HB2.out) (Nat.le_refl _) (HMX.out nR mR) (HM.out.r.rk.up HB2.out) mR).mono ?_; rintro e w3 ⟨rfl, hb3⟩
  go_wp2
  go_ret
  exact ⟨rfl, bstep HB2.out hb3⟩

set_option maxHeartbeats 4000000 in
theorem rows_eq (p : Int) (aL aC aR : Option Addr) (nL cL nC cC nR cR : Nat) (bL bC bR : Option Addr) (dL dC dR : Nat) (L C Q : List Int) (W : World) (h1 : RK .i64 W aL nL L) (h2 : RK .i64 W aC nC C) (h3 : RK .i64 W aR nR Q) (k1 : RK .i64 W bL nL L) (k2 : RK .i64 W bC nC C) (k3 : RK .i64 W bR nR Q) (m1 : nL ≤ 1000000) (m2 : nC ≤ 1000000) (m3 : nR ≤ 1000000) :
    Calls Tryd.prog 17 #[rowV p aL nL cL aC nC cC aR nR cR, rowV p bL nL dL bC nC dC bR nR dR] W fun e w' => e = .returned (.bool true) ∧ Below W.heap.size W w' := by
  obtain ⟨Wb, hWb⟩ : ∃ Wb, (W.alloc (.cells #[.int .i64 p, .slice aL nL cL, .slice aC nC cC, .slice aR nR cR] 26)).alloc (.cells #[.int .i64 p, .slice bL nL dL, .slice bC nC dC, .slice bR nR dR] 26) = Wb := ⟨_, rfl⟩
  obtain ⟨hx, hy, hs1, hs0, hbx⟩ := rows_boxes hWb
  have HX := Lib.hid hx; have HY := Lib.hid hy; have HS1 := Lib.hid hs1; have HS0 := Lib.hid hs0; have HBX := Lib.hid hbx
  clear hx hy hs1 hs0 hbx
  have g1 : L.length ≤ maxLen := by rw [← h1.len]; unfold maxLen; omega
  have g2 : C.length ≤ maxLen := by rw [← h2.len]; unfold maxLen; omega
  have g3 : Q.length ≤ maxLen := by rw [← h3.len]; unfold maxLen; omega
  have G1 := Lib.hid g1; have G2 := Lib.hid g2; have G3 := Lib.hid g3
  have H1 := Lib.hid h1; have H2 := Lib.hid h2; have H3 := Lib.hid h3
  have K1 := Lib.hid k1; have K2 := Lib.hid k2; have K3 := Lib.hid k3
  clear h1 h2 h3 k1 k2 k3 g1 g2 g3
  have HWB := Lib.hid hWb; clear hWb
  go_enter Tryd.func17, Tryd.ntmps17
  go_wp2_with fail
  rw [HWB.out]
  refine (ints_eqB aL bL nL nL cL dL L _ (H1.out.up HBX.out) (K1.out.up HBX.out) G1.out).mono ?_; rintro e w1 ⟨rfl, hb1⟩
  have x0 := (hb1.cell (p := ⟨W.heap.size, 2, none⟩) HS0.out).trans HX.out.2.2.1
  have y0 := (hb1.cell (p := ⟨W.heap.size + 1, 2, none⟩) HS1.out).trans HY.out.2.2.1
  have HC1 := Lib.hid hb1
  have HB1 := Lib.hid (HBX.out.trans (hb1.mono HBX.out.size))
  clear hb1
  go_wp2_with fail
  refine (ints_eqB aC bC nC nC cC dC C _ (H2.out.up HB1.out) (K2.out.up HB1.out) G2.out).mono ?_; rintro e w2 ⟨rfl, hb2⟩
  have HC2 := Lib.hid (HC1.out.trans (hb2.mono HC1.out.size))
  have HB2 := Lib.hid (bstep HB1.out hb2)
  clear hb2 x0 y0
  have x0 := (HC2.out.cell (p := ⟨W.heap.size, 3, none⟩) HS0.out).trans HX.out.2.2.2
  have y0 := (HC2.out.cell (p := ⟨W.heap.size + 1, 3, none⟩) HS1.out).trans HY.out.2.2.2
  go_wp2_with fail
  refine (ints_eqB aR bR nR nR cR dR Q _ (H3.out.up HB2.out) (K3.out.up HB2.out) G3.out).mono ?_; rintro e w3 ⟨rfl, hb3⟩
  go_wp2
  go_ret
  exact ⟨rfl, bstep HB2.out hb3⟩

theorem cell_new {w : World} {cs : Array Value} {t : TypeId} {g j : Nat} {v : Value} (hg : g = w.heap.size) (h : cs[j]? = some v) : (w.alloc (.cells cs t)).cell? ⟨g, j, none⟩ = some v := by
  subst hg
  have hh : (w.alloc (.cells cs t)).heap[w.heap.size]? = some (.cells cs t) := heap_alloc_new w _
  simp only [World.cell?, hh]
  simpa using h

/-! ### awake -/
theorem awRow1 : IsRow 2 0 [0, 1] [1, 1] [0, 0, 1] := ⟨by decide, by decide, by decide, by decide, by decide, by decide, by decide, by decide, by decide, by decide, by decide, by decide⟩
theorem awRow2 : IsRow 2 (-2) [0, 1] [0, 1, 1, 1, 0] [0, 1, 0] := ⟨by decide, by decide, by decide, by decide, by decide, by decide, by decide, by decide, by decide, by decide, by decide, by decide⟩
theorem awCut : valsF (cellF 0 [0, 1] [1, 1] [0, 0, 1]) (-2) 6 = [0, 1, 1, 1, 0, 0] := by decide +kernel
theorem awOne : ∀ i, cellF 0 [0, 1] [1, 1] [0, 0, 1] i = cellF (-2) [0, 1] [0, 1, 1, 1, 0] [0, 1, 0] i :=
  (same_dec (F := -6) (m := 15) (by decide) (by decide) (by decide) (by decide) (by decide) (by decide)).1 (by decide +kernel)
theorem awBad : rowErr 0 0 [0, 1] [1, 1] [0, 0, 1] = some (0, 3) := by decide +kernel

set_option maxHeartbeats 8000000 in
theorem awake07 (W : World) (R : Nat → Addr) (hG : Glob W R) : Calls Tryd.prog 9 #[] W fun e w' => e = .returned (.bool true) ∧ Below W.heap.size W w' := by
  have HG := Lib.hid hG; clear hG
  obtain ⟨g, hg⟩ : ∃ g, W.heap.size = g := ⟨_, rfl⟩
  obtain ⟨Wa, hWa⟩ : ∃ Wa, (((W.alloc (.cells #[.int .i64 0, .int .i64 1] 3)).alloc (.cells #[.int .i64 1, .int .i64 1] 3)).alloc (.cells #[.int .i64 0, .int .i64 0, .int .i64 1] 3)).alloc (.cells #[.int .i64 0, .slice (some ⟨W.heap.size, 0, none⟩) 2 2, .slice (some ⟨W.heap.size + 1, 0, none⟩) 2 2, .slice (some ⟨W.heap.size + 1 + 1, 0, none⟩) 3 3] 26) = Wa := ⟨_, rfl⟩
  have HX : Hid (Wa.cell? ⟨W.heap.size + 1 + 1 + 1, 0, none⟩ = some (.int .i64 0) ∧ Wa.cell? ⟨W.heap.size + 1 + 1 + 1, 1, none⟩ = some (.slice (some ⟨W.heap.size, 0, none⟩) 2 2) ∧ Wa.cell? ⟨W.heap.size + 1 + 1 + 1, 2, none⟩ = some (.slice (some ⟨W.heap.size + 1, 0, none⟩) 2 2) ∧ Wa.cell? ⟨W.heap.size + 1 + 1 + 1, 3, none⟩ = some (.slice (some ⟨W.heap.size + 1 + 1, 0, none⟩) 3 3)) := by rw [← hWa]; exact ⟨cell_new (by simp) rfl, cell_new (by simp) rfl, cell_new (by simp) rfl, cell_new (by simp) rfl⟩
  have HM : Hid (RowM Wa (some ⟨W.heap.size, 0, none⟩) 2 2 [0, 1] (some ⟨W.heap.size + 1, 0, none⟩) 2 2 [1, 1] (some ⟨W.heap.size + 1 + 1, 0, none⟩) 3 3 [0, 0, 1]) := by
    show RowM _ _ _ _ _ _ _ _ _ _ _ _ _
    rw [← hWa]
    exact ⟨⟨(((rk_new (l := [0, 1]) rfl rfl rfl).al _).al _).al _, by decide, by decide, by decide, fun e => by cases e⟩,
      ⟨((rk_new (l := [1, 1]) (by simp) rfl rfl).al _).al _, by decide, by decide, by decide, fun e => by cases e⟩,
      ⟨(rk_new (l := [0, 0, 1]) (by simp) rfl rfl).al _, by decide, by decide, by decide, fun e => by cases e⟩⟩
  have HSZ : Hid (W.heap.size + 1 + 1 + 1 < Wa.heap.size) := by show _ < _; rw [← hWa]; simp
  have HBX : Hid (Below W.heap.size W Wa) := by rw [← hWa]; exact balloc (balloc (balloc (balloc (bnil W) _) _) _) _
  have HWA := Lib.hid hWa; clear hWa hg
  go_enter Tryd.func9, Tryd.ntmps9
  go_wp2_with fail
  rw [HWA.out]
  refine (cut_ok 2 0 (-2) 6 _ _ _ 2 2 2 2 3 3 [0, 1] [1, 1] [0, 0, 1] _ R (HG.out.up HBX.out) HM.out awRow1 (by decide) (by decide) (by decide)).mono ?_; rintro e w1 ⟨a1, c1, rfl, ho1, hb1⟩
  rw [awCut] at ho1
  have HO1 := Lib.hid ho1; clear ho1
  have x0 := (hb1.cell (p := ⟨W.heap.size + 1 + 1 + 1, 0, none⟩) HSZ.out).trans HX.out.1
  have x1 := (hb1.cell (p := ⟨W.heap.size + 1 + 1 + 1, 1, none⟩) HSZ.out).trans HX.out.2.1
  have x2 := (hb1.cell (p := ⟨W.heap.size + 1 + 1 + 1, 2, none⟩) HSZ.out).trans HX.out.2.2.1
  have x3 := (hb1.cell (p := ⟨W.heap.size + 1 + 1 + 1, 3, none⟩) HSZ.out).trans HX.out.2.2.2
  have HC1 := Lib.hid hb1; clear hb1
  obtain ⟨Wc, hWc⟩ : ∃ Wc, ((w1.alloc (.cells #[.int .i64 0, .int .i64 1] 3)).alloc (.cells #[.int .i64 0, .int .i64 1, .int .i64 1, .int .i64 1, .int .i64 0] 3)).alloc (.cells #[.int .i64 0, .int .i64 1, .int .i64 0] 3) = Wc := ⟨_, rfl⟩
  have HM2 : Hid (RowM Wc (some ⟨w1.heap.size, 0, none⟩) 2 2 [0, 1] (some ⟨w1.heap.size + 1, 0, none⟩) 5 5 [0, 1, 1, 1, 0] (some ⟨w1.heap.size + 1 + 1, 0, none⟩) 3 3 [0, 1, 0]) := by
    show RowM _ _ _ _ _ _ _ _ _ _ _ _ _
    rw [← hWc]
    exact ⟨⟨((rk_new (l := [0, 1]) rfl rfl rfl).al _).al _, by decide, by decide, by decide, fun e => by cases e⟩,
      ⟨(rk_new (l := [0, 1, 1, 1, 0]) (by simp) rfl rfl).al _, by decide, by decide, by decide, fun e => by cases e⟩,
      ⟨rk_new (l := [0, 1, 0]) (by simp) rfl rfl, by decide, by decide, by decide, fun e => by cases e⟩⟩
  have hbc : Below w1.heap.size w1 Wc := by rw [← hWc]; exact balloc (balloc (balloc (bnil w1) _) _) _
  have HD2 := Lib.hid hbc
  have HC2 := Lib.hid (HC1.out.trans (hbc.mono HC1.out.size))
  have HB2 := Lib.hid (HBX.out.trans (HC2.out.mono HBX.out.size))
  have HWC := Lib.hid hWc; clear hWc hbc
  go_wp2_with fail
  rw [HWC.out]
  refine (same_ok 2 0 _ _ _ 2 2 2 2 3 3 [0, 1] [1, 1] [0, 0, 1] (-2) _ _ _ 2 2 5 5 3 3 [0, 1] [0, 1, 1, 1, 0] [0, 1, 0] _ R (HG.out.up HB2.out) (HM.out.up HC2.out) awRow1 HM2.out awRow2).mono ?_; rintro e w3 ⟨b, rfl, hb, hb3⟩
  obtain rfl : b = true := hb.2 awOne
  have HC3 := Lib.hid (HC2.out.trans (hb3.mono HC2.out.size))
  have HB3 := Lib.hid (bstep HB2.out hb3)
  have HD3 := Lib.hid (HO1.out.up (bstep HD2.out hb3))
  clear hb hb3 x0 x1 x2 x3
  go_wp2_with fail
  refine (ints_eqB a1 _ 6 6 c1 6 [0, 1, 1, 1, 0, 0] _ (HD3.out.rk.up (balloc (bnil w3) _)) (rk_new (l := [0, 1, 1, 1, 0, 0]) rfl rfl rfl) (by decide)).mono ?_; rintro e w4 ⟨rfl, hb4⟩
  have hb4' := (balloc (bnil w3) (.cells #[.int .i64 0, .int .i64 1, .int .i64 1, .int .i64 1, .int .i64 0, .int .i64 0] 3)).trans (hb4.mono (by simp))
  have HC4 := Lib.hid (HC3.out.trans (hb4'.mono HC3.out.size))
  have HB4 := Lib.hid (bstep HB3.out hb4')
  clear hb4 hb4'
  have x0 := (HC4.out.cell (p := ⟨W.heap.size + 1 + 1 + 1, 0, none⟩) HSZ.out).trans HX.out.1
  have x1 := (HC4.out.cell (p := ⟨W.heap.size + 1 + 1 + 1, 1, none⟩) HSZ.out).trans HX.out.2.1
  have x2 := (HC4.out.cell (p := ⟨W.heap.size + 1 + 1 + 1, 2, none⟩) HSZ.out).trans HX.out.2.2.1
  have x3 := (HC4.out.cell (p := ⟨W.heap.size + 1 + 1 + 1, 3, none⟩) HSZ.out).trans HX.out.2.2.2
  go_wp2_with fail
  refine (rowcheck_err 0 0 _ _ _ 2 2 2 2 3 3 [0, 1] [1, 1] [0, 0, 1] _ R (HG.out.up HB4.out) (HM.out.up HC4.out) (0, 3) awBad).mono ?_; rintro e w5 ⟨g5, rfl, he5, hb5⟩
  clear he5
  go_wp2
  go_ret
  exact ⟨rfl, bstep HB4.out hb5⟩
end Go.Proofs.YtkgalgmjdfhhbaaDoor
