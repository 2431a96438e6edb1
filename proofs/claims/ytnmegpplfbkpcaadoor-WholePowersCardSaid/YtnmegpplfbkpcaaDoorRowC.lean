/- The contract of row.Same. -/
import Derived.Test.YtnmegpplfbkpcaaDoorRowB
import Derived.Test.YtnmegpplfbkpcaaDoorSlEq
import Derived.WalkKit
import Derived.Deep.RegionWith
import Derived.Lib.Hide
namespace Go.Proofs.YtnmegpplfbkpcaaDoor
open Go.RowKit
set_option linter.unusedVariables false
set_option maxRecDepth 100000

theorem same_dec {p p' : Int} {L C Q L' C' Q' : List Int} {F : Int} {m : Nat} (ha : 0 < L.length) (hb : 0 < L'.length) (ra : 0 < Q.length) (rb : 0 < Q'.length)
    (hF : F = min p p' - (L.length : Int) - (L'.length : Int)) (hm : F + (m : Int) = max (p + (C.length : Int)) (p' + (C'.length : Int)) + (Q.length : Int) + (Q'.length : Int)) :
    decide (valsF (cellF p L C Q) F m = valsF (cellF p' L' C' Q') F m) = true ↔ ∀ i, cellF p L C Q i = cellF p' L' C' Q' i := by
  rw [decide_eq_true_iff]
  constructor
  · intro h i
    refine rows_one ha hb ra rb (fun j h1 h2 => ?_) i
    have := valsF_inj h (j - F).toNat (by omega)
    rwa [show F + (((j - F).toNat : Nat) : Int) = j by omega] at this
  · intro h
    exact valsF_congr fun j _ => h _

set_option maxHeartbeats 8000000 in
theorem same_ok (k : Nat) (p : Int) (aL aC aR : Option Addr) (nL cL nC cC nR cR : Nat) (L C Q : List Int) (p' : Int) (bL bC bR : Option Addr) (mL dL mC dC mR dR : Nat) (L' C' Q' : List Int) (W : World) (R : Nat → Addr) (hG : Glob W R)
    (hM : RowM W aL nL cL L aC nC cC C aR nR cR Q) (h : IsRow k p L C Q) (hM' : RowM W bL mL dL L' bC mC dC C' bR mR dR Q') (h' : IsRow k p' L' C' Q') :
    Calls Tryd.prog 12 #[.int .i64 k, rowV p aL nL cL aC nC cC aR nR cR, rowV p' bL mL dL bC mC dC bR mR dR] W fun e w' => ∃ b : Bool, e = .returned (.tuple #[.bool b, .nilIface]) ∧ (b = true ↔ ∀ i, cellF p L C Q i = cellF p' L' C' Q' i) ∧ Below W.heap.size W w' := by
  have hp1 := h.p1
  have hp2 := h.p2
  have hp1' := h'.p1
  have hp2' := h'.p2
  have hl : 0 < nL := by rw [hM.l.rk.len]; exact h.l1
  have hr : 0 < nR := by rw [hM.r.rk.len]; exact h.r1
  have hl' : 0 < mL := by rw [hM'.l.rk.len]; exact h'.l1
  have hr' : 0 < mR := by rw [hM'.r.rk.len]; exact h'.r1
  have l2 : nL ≤ 8192 := by rw [hM.l.rk.len]; exact h.l2
  have r2 : nR ≤ 8192 := by rw [hM.r.rk.len]; exact h.r2
  have c2 : nC ≤ 16384 := by rw [hM.c.rk.len]; exact h.c2
  have l2' : mL ≤ 8192 := by rw [hM'.l.rk.len]; exact h'.l2
  have r2' : mR ≤ 8192 := by rw [hM'.r.rk.len]; exact h'.r2
  have c2' : mC ≤ 16384 := by rw [hM'.c.rk.len]; exact h'.c2
  obtain ⟨Wb, hWb⟩ : ∃ Wb, (W.alloc (.cells #[.int .i64 p, .slice aL nL cL, .slice aC nC cC, .slice aR nR cR] 26)).alloc (.cells #[.int .i64 p', .slice bL mL dL, .slice bC mC dC, .slice bR mR dR] 26) = Wb := ⟨_, rfl⟩
  have HX : Hid (Wb.cell? ⟨W.heap.size, 0, none⟩ = some (.int .i64 p) ∧ Wb.cell? ⟨W.heap.size, 1, none⟩ = some (.slice aL nL cL) ∧ Wb.cell? ⟨W.heap.size, 2, none⟩ = some (.slice aC nC cC) ∧ Wb.cell? ⟨W.heap.size, 3, none⟩ = some (.slice aR nR cR)) := by rw [← hWb]; exact ⟨by simp, by simp, by simp, by simp⟩
  have HY : Hid (Wb.cell? ⟨W.heap.size + 1, 0, none⟩ = some (.int .i64 p') ∧ Wb.cell? ⟨W.heap.size + 1, 1, none⟩ = some (.slice bL mL dL) ∧ Wb.cell? ⟨W.heap.size + 1, 2, none⟩ = some (.slice bC mC dC) ∧ Wb.cell? ⟨W.heap.size + 1, 3, none⟩ = some (.slice bR mR dR)) := by rw [← hWb]; exact ⟨by simp, by simp, by simp, by simp⟩
  have HSZ : Hid (W.heap.size + 1 < Wb.heap.size) := by show _ < _; rw [← hWb]; simp
  have HSZ0 : Hid (W.heap.size < Wb.heap.size) := by show _ < _; have := HSZ.out; omega
  have HBX : Hid (Below W.heap.size W Wb) := by rw [← hWb]; exact balloc (balloc (bnil W) _) _
  have HM := Lib.hid hM; clear hM
  have HM' := Lib.hid hM'; clear hM'
  have HG := Lib.hid hG; clear hG
  have H := Lib.hid h; clear h
  have H' := Lib.hid h'; clear h'
  have HWB := Lib.hid hWb; clear hWb
  go_enter Tryd.func12, Tryd.ntmps12
  go_wp2_with fail
  rw [HWB.out]
  refine (rowcheck_ok k p aL aC aR nL cL nC cC nR cR L C Q _ R (HG.out.up HBX.out) (HM.out.up HBX.out) H.out).mono ?_; rintro e w1 ⟨rfl, hb1⟩
  have HC1 := Lib.hid hb1
  have HB1 := Lib.hid (HBX.out.trans (hb1.mono HBX.out.size))
  clear hb1
  have y0 := (HC1.out.cell (p := ⟨W.heap.size + 1, 0, none⟩) HSZ.out).trans HY.out.1
  have y1 := (HC1.out.cell (p := ⟨W.heap.size + 1, 1, none⟩) HSZ.out).trans HY.out.2.1
  have y2 := (HC1.out.cell (p := ⟨W.heap.size + 1, 2, none⟩) HSZ.out).trans HY.out.2.2.1
  have y3 := (HC1.out.cell (p := ⟨W.heap.size + 1, 3, none⟩) HSZ.out).trans HY.out.2.2.2
  go_wp2_with fail
  refine (rowcheck_ok k p' bL bC bR mL dL mC dC mR dR L' C' Q' _ R (HG.out.up HB1.out) (HM'.out.up HB1.out) H'.out).mono ?_; rintro e w2 ⟨rfl, hb2⟩
  have HC2 := Lib.hid (HC1.out.trans (hb2.mono HC1.out.size))
  have HB2 := Lib.hid (bstep HB1.out hb2)
  clear hb2 y0 y1 y2 y3
  have x0 := (HC2.out.cell (p := ⟨W.heap.size, 0, none⟩) HSZ0.out).trans HX.out.1
  have x1 := (HC2.out.cell (p := ⟨W.heap.size, 1, none⟩) HSZ0.out).trans HX.out.2.1
  have x2 := (HC2.out.cell (p := ⟨W.heap.size, 2, none⟩) HSZ0.out).trans HX.out.2.2.1
  have x3 := (HC2.out.cell (p := ⟨W.heap.size, 3, none⟩) HSZ0.out).trans HX.out.2.2.2
  have y0 := (HC2.out.cell (p := ⟨W.heap.size + 1, 0, none⟩) HSZ.out).trans HY.out.1
  have y1 := (HC2.out.cell (p := ⟨W.heap.size + 1, 1, none⟩) HSZ.out).trans HY.out.2.1
  have y2 := (HC2.out.cell (p := ⟨W.heap.size + 1, 2, none⟩) HSZ.out).trans HY.out.2.2.1
  have y3 := (HC2.out.cell (p := ⟨W.heap.size + 1, 3, none⟩) HSZ.out).trans HY.out.2.2.2
  have HLT : Hid (W.heap.size + 1 < w2.drew.heap.size) := Nat.lt_of_lt_of_le HSZ.out HC2.out.size
  have hnl := HM.out.l.rk.len
  have hnr := HM.out.r.rk.len
  have hnc := HM.out.c.rk.len
  have hnl' := HM'.out.l.rk.len
  have hnr' := HM'.out.r.rk.len
  have hnc' := HM'.out.c.rk.len
  have HLEN := Lib.hid (And.intro hnl (And.intro hnr (And.intro hnc (And.intro hnl' (And.intro hnr' hnc')))))
  clear hnl hnr hnc hnl' hnr' hnc'
  by_cases hpp : p ≤ p'
  · skip
    by_cases hcc : p' + (mC : Int) ≤ p + (nC : Int)
    · skip
      obtain ⟨m, hm, hm2⟩ : ∃ m : Nat, (p + (nC : Int) + (nR : Int) + (mR : Int)) - (p - (nL : Int) - (mL : Int)) = (m : Int) ∧ m ≤ 1000000 := ⟨((p + (nC : Int) + (nR : Int) + (mR : Int)) - (p - (nL : Int) - (mL : Int))).toNat, by omega, by omega⟩
      have HMM := Lib.hid hm
      have hwm : IntKind.i64.wrap (m : Int) = (m : Int) := IntWalk.i64_in _ (by omega)
      go_wp2_with fail
      go_region_with (first
        | (go_at_call 32; refine (piece_any p' _ m bL bC bR mL dL mC dC mR dR L' C' Q' _ (HM'.out.up HB3.out) hl' hr' (by omega) (by omega) (by omega) (by omega) hm2).mono ?_; rintro e w4 ⟨a4, c4, rfl, ho4, hb4⟩; have HO4 := Lib.hid ho4; have HO3b := Lib.hid (HO3.out.up hb4); have HB4 := Lib.hid (bstep HB3.out hb4); clear ho4 hb4)
        | (go_at_call 32; refine (piece_any p _ m aL aC aR nL cL nC cC nR cR L C Q _ (HM.out.up (Below.drew HB2.out)) hl hr (by omega) (by omega) (by omega) (by omega) hm2).mono ?_; rintro e w3 ⟨a3, c3, rfl, ho3, hb3⟩; have z0 := (hb3.cell (p := ⟨W.heap.size + 1, 0, none⟩) HLT.out).trans y0; have z1 := (hb3.cell (p := ⟨W.heap.size + 1, 1, none⟩) HLT.out).trans y1; have z2 := (hb3.cell (p := ⟨W.heap.size + 1, 2, none⟩) HLT.out).trans y2; have z3 := (hb3.cell (p := ⟨W.heap.size + 1, 3, none⟩) HLT.out).trans y3; have HO3 := Lib.hid ho3; have HB3 := Lib.hid ((Below.drew HB2.out).trans (hb3.mono (Below.drew HB2.out).size)); clear ho3 hb3)
        | (go_at_call 35; refine (slEq_any a3 a4 m m c3 c4 _ _ _ HO3b.out.rk HO4.out.rk (by unfold maxLen; omega) (by unfold maxLen; omega)).mono ?_; rintro e w5 ⟨rfl, q5, rfl⟩))
      all_goals
        go_wp2
        go_ret2
        refine ⟨_, rfl, ?_, bdrewN HB4.out _⟩
        obtain ⟨e1, e2, e3, e4, e5, e6⟩ := HLEN.out
        have hmm := HMM.out
        exact same_dec (by omega) (by omega) (by omega) (by omega) (by omega) (by omega)
    · have hcc2 : p + (nC : Int) < p' + (mC : Int) := by omega
      obtain ⟨m, hm, hm2⟩ : ∃ m : Nat, (p' + (mC : Int) + (nR : Int) + (mR : Int)) - (p - (nL : Int) - (mL : Int)) = (m : Int) ∧ m ≤ 1000000 := ⟨((p' + (mC : Int) + (nR : Int) + (mR : Int)) - (p - (nL : Int) - (mL : Int))).toNat, by omega, by omega⟩
      have HMM := Lib.hid hm
      have hwm : IntKind.i64.wrap (m : Int) = (m : Int) := IntWalk.i64_in _ (by omega)
      go_wp2_with fail
      go_region_with (first
        | (go_at_call 32; refine (piece_any p' _ m bL bC bR mL dL mC dC mR dR L' C' Q' _ (HM'.out.up HB3.out) hl' hr' (by omega) (by omega) (by omega) (by omega) hm2).mono ?_; rintro e w4 ⟨a4, c4, rfl, ho4, hb4⟩; have HO4 := Lib.hid ho4; have HO3b := Lib.hid (HO3.out.up hb4); have HB4 := Lib.hid (bstep HB3.out hb4); clear ho4 hb4)
        | (go_at_call 32; refine (piece_any p _ m aL aC aR nL cL nC cC nR cR L C Q _ (HM.out.up (Below.drew HB2.out)) hl hr (by omega) (by omega) (by omega) (by omega) hm2).mono ?_; rintro e w3 ⟨a3, c3, rfl, ho3, hb3⟩; have z0 := (hb3.cell (p := ⟨W.heap.size + 1, 0, none⟩) HLT.out).trans y0; have z1 := (hb3.cell (p := ⟨W.heap.size + 1, 1, none⟩) HLT.out).trans y1; have z2 := (hb3.cell (p := ⟨W.heap.size + 1, 2, none⟩) HLT.out).trans y2; have z3 := (hb3.cell (p := ⟨W.heap.size + 1, 3, none⟩) HLT.out).trans y3; have HO3 := Lib.hid ho3; have HB3 := Lib.hid ((Below.drew HB2.out).trans (hb3.mono (Below.drew HB2.out).size)); clear ho3 hb3)
        | (go_at_call 35; refine (slEq_any a3 a4 m m c3 c4 _ _ _ HO3b.out.rk HO4.out.rk (by unfold maxLen; omega) (by unfold maxLen; omega)).mono ?_; rintro e w5 ⟨rfl, q5, rfl⟩))
      all_goals
        go_wp2
        go_ret2
        refine ⟨_, rfl, ?_, bdrewN HB4.out _⟩
        obtain ⟨e1, e2, e3, e4, e5, e6⟩ := HLEN.out
        have hmm := HMM.out
        exact same_dec (by omega) (by omega) (by omega) (by omega) (by omega) (by omega)
  · have hpp2 : p' < p := by omega
    by_cases hcc : p' + (mC : Int) ≤ p + (nC : Int)
    · skip
      obtain ⟨m, hm, hm2⟩ : ∃ m : Nat, (p + (nC : Int) + (nR : Int) + (mR : Int)) - (p' - (nL : Int) - (mL : Int)) = (m : Int) ∧ m ≤ 1000000 := ⟨((p + (nC : Int) + (nR : Int) + (mR : Int)) - (p' - (nL : Int) - (mL : Int))).toNat, by omega, by omega⟩
      have HMM := Lib.hid hm
      have hwm : IntKind.i64.wrap (m : Int) = (m : Int) := IntWalk.i64_in _ (by omega)
      go_wp2_with fail
      go_region_with (first
        | (go_at_call 32; refine (piece_any p' _ m bL bC bR mL dL mC dC mR dR L' C' Q' _ (HM'.out.up HB3.out) hl' hr' (by omega) (by omega) (by omega) (by omega) hm2).mono ?_; rintro e w4 ⟨a4, c4, rfl, ho4, hb4⟩; have HO4 := Lib.hid ho4; have HO3b := Lib.hid (HO3.out.up hb4); have HB4 := Lib.hid (bstep HB3.out hb4); clear ho4 hb4)
        | (go_at_call 32; refine (piece_any p _ m aL aC aR nL cL nC cC nR cR L C Q _ (HM.out.up (Below.drew HB2.out)) hl hr (by omega) (by omega) (by omega) (by omega) hm2).mono ?_; rintro e w3 ⟨a3, c3, rfl, ho3, hb3⟩; have z0 := (hb3.cell (p := ⟨W.heap.size + 1, 0, none⟩) HLT.out).trans y0; have z1 := (hb3.cell (p := ⟨W.heap.size + 1, 1, none⟩) HLT.out).trans y1; have z2 := (hb3.cell (p := ⟨W.heap.size + 1, 2, none⟩) HLT.out).trans y2; have z3 := (hb3.cell (p := ⟨W.heap.size + 1, 3, none⟩) HLT.out).trans y3; have HO3 := Lib.hid ho3; have HB3 := Lib.hid ((Below.drew HB2.out).trans (hb3.mono (Below.drew HB2.out).size)); clear ho3 hb3)
        | (go_at_call 35; refine (slEq_any a3 a4 m m c3 c4 _ _ _ HO3b.out.rk HO4.out.rk (by unfold maxLen; omega) (by unfold maxLen; omega)).mono ?_; rintro e w5 ⟨rfl, q5, rfl⟩))
      all_goals
        go_wp2
        go_ret2
        refine ⟨_, rfl, ?_, bdrewN HB4.out _⟩
        obtain ⟨e1, e2, e3, e4, e5, e6⟩ := HLEN.out
        have hmm := HMM.out
        exact same_dec (by omega) (by omega) (by omega) (by omega) (by omega) (by omega)
    · have hcc2 : p + (nC : Int) < p' + (mC : Int) := by omega
      obtain ⟨m, hm, hm2⟩ : ∃ m : Nat, (p' + (mC : Int) + (nR : Int) + (mR : Int)) - (p' - (nL : Int) - (mL : Int)) = (m : Int) ∧ m ≤ 1000000 := ⟨((p' + (mC : Int) + (nR : Int) + (mR : Int)) - (p' - (nL : Int) - (mL : Int))).toNat, by omega, by omega⟩
      have HMM := Lib.hid hm
      have hwm : IntKind.i64.wrap (m : Int) = (m : Int) := IntWalk.i64_in _ (by omega)
      go_wp2_with fail
      go_region_with (first
        | (go_at_call 32; refine (piece_any p' _ m bL bC bR mL dL mC dC mR dR L' C' Q' _ (HM'.out.up HB3.out) hl' hr' (by omega) (by omega) (by omega) (by omega) hm2).mono ?_; rintro e w4 ⟨a4, c4, rfl, ho4, hb4⟩; have HO4 := Lib.hid ho4; have HO3b := Lib.hid (HO3.out.up hb4); have HB4 := Lib.hid (bstep HB3.out hb4); clear ho4 hb4)
        | (go_at_call 32; refine (piece_any p _ m aL aC aR nL cL nC cC nR cR L C Q _ (HM.out.up (Below.drew HB2.out)) hl hr (by omega) (by omega) (by omega) (by omega) hm2).mono ?_; rintro e w3 ⟨a3, c3, rfl, ho3, hb3⟩; have z0 := (hb3.cell (p := ⟨W.heap.size + 1, 0, none⟩) HLT.out).trans y0; have z1 := (hb3.cell (p := ⟨W.heap.size + 1, 1, none⟩) HLT.out).trans y1; have z2 := (hb3.cell (p := ⟨W.heap.size + 1, 2, none⟩) HLT.out).trans y2; have z3 := (hb3.cell (p := ⟨W.heap.size + 1, 3, none⟩) HLT.out).trans y3; have HO3 := Lib.hid ho3; have HB3 := Lib.hid ((Below.drew HB2.out).trans (hb3.mono (Below.drew HB2.out).size)); clear ho3 hb3)
        | (go_at_call 35; refine (slEq_any a3 a4 m m c3 c4 _ _ _ HO3b.out.rk HO4.out.rk (by unfold maxLen; omega) (by unfold maxLen; omega)).mono ?_; rintro e w5 ⟨rfl, q5, rfl⟩))
      all_goals
        go_wp2
        go_ret2
        refine ⟨_, rfl, ?_, bdrewN HB4.out _⟩
        obtain ⟨e1, e2, e3, e4, e5, e6⟩ := HLEN.out
        have hmm := HMM.out
        exact same_dec (by omega) (by omega) (by omega) (by omega) (by omega) (by omega)

theorem same_err (k p : Int) (aL aC aR : Option Addr) (nL cL nC cC nR cR : Nat) (L C Q : List Int) (p' : Int) (bL bC bR : Option Addr) (mL dL mC dC mR dR : Nat) (L' C' Q' : List Int) (W : World) (R : Nat → Addr) (hG : Glob W R)
    (hM : RowM W aL nL cL L aC nC cC C aR nR cR Q) (hM' : RowM W bL mL dL L' bC mC dC C' bR mR dR Q') (x : Int × Int) (h : rowErr k p L C Q = some x ∨ rowErr k p L C Q = none ∧ rowErr k p' L' C' Q' = some x) :
    Calls Tryd.prog 12 #[.int .i64 k, rowV p aL nL cL aC nC cC aR nR cR, rowV p' bL mL dL bC mC dC bR mR dR] W fun e w' => ∃ g, e = .returned (.tuple #[.bool false, .iface 100 (.pointer (some ⟨g, 0, none⟩))]) ∧ IsErr W.heap.size R w' (.iface 100 (.pointer (some ⟨g, 0, none⟩))) opRow x.1 x.2 ∧ Below W.heap.size W w' := by
  obtain ⟨Wb, hWb⟩ : ∃ Wb, (W.alloc (.cells #[.int .i64 p, .slice aL nL cL, .slice aC nC cC, .slice aR nR cR] 26)).alloc (.cells #[.int .i64 p', .slice bL mL dL, .slice bC mC dC, .slice bR mR dR] 26) = Wb := ⟨_, rfl⟩
  have HY : Hid (Wb.cell? ⟨W.heap.size + 1, 0, none⟩ = some (.int .i64 p') ∧ Wb.cell? ⟨W.heap.size + 1, 1, none⟩ = some (.slice bL mL dL) ∧ Wb.cell? ⟨W.heap.size + 1, 2, none⟩ = some (.slice bC mC dC) ∧ Wb.cell? ⟨W.heap.size + 1, 3, none⟩ = some (.slice bR mR dR)) := by rw [← hWb]; exact ⟨by simp, by simp, by simp, by simp⟩
  have HSZ : Hid (W.heap.size + 1 < Wb.heap.size) := by show _ < _; rw [← hWb]; simp
  have HBX : Hid (Below W.heap.size W Wb) := by rw [← hWb]; exact balloc (balloc (bnil W) _) _
  have HM := Lib.hid hM; clear hM
  have HM' := Lib.hid hM'; clear hM'
  have HG := Lib.hid hG; clear hG
  have HWB := Lib.hid hWb; clear hWb
  rcases h with h | ⟨h, h2⟩
  · have HE := Lib.hid h; clear h
    go_enter Tryd.func12, Tryd.ntmps12
    go_wp2_with fail
    rw [HWB.out]
    refine (rowcheck_err k p aL aC aR nL cL nC cC nR cR L C Q _ R (HG.out.up HBX.out) (HM.out.up HBX.out) x HE.out).mono ?_; rintro e w1 ⟨g1, rfl, he1, hb1⟩
    have HE1 := Lib.hid he1; clear he1
    go_wp2
    go_ret2
    exact ⟨_, rfl, HE1.out.base HBX.out.size, HBX.out.trans (hb1.mono HBX.out.size)⟩
  · obtain ⟨kn, rfl, hI⟩ := rowErr_none h
    have HI := Lib.hid hI
    have HE := Lib.hid h2; clear h h2 hI
    go_enter Tryd.func12, Tryd.ntmps12
    go_wp2_with fail
    rw [HWB.out]
    refine (rowcheck_ok kn p aL aC aR nL cL nC cC nR cR L C Q _ R (HG.out.up HBX.out) (HM.out.up HBX.out) HI.out).mono ?_; rintro e w1 ⟨rfl, hb1⟩
    have HB1 := Lib.hid (HBX.out.trans (hb1.mono HBX.out.size))
    have y0 := (hb1.cell (p := ⟨W.heap.size + 1, 0, none⟩) HSZ.out).trans HY.out.1
    have y1 := (hb1.cell (p := ⟨W.heap.size + 1, 1, none⟩) HSZ.out).trans HY.out.2.1
    have y2 := (hb1.cell (p := ⟨W.heap.size + 1, 2, none⟩) HSZ.out).trans HY.out.2.2.1
    have y3 := (hb1.cell (p := ⟨W.heap.size + 1, 3, none⟩) HSZ.out).trans HY.out.2.2.2
    clear hb1
    go_wp2_with fail
    refine (rowcheck_err (kn : Int) p' bL bC bR mL dL mC dC mR dR L' C' Q' _ R (HG.out.up HB1.out) (HM'.out.up HB1.out) x HE.out).mono ?_; rintro e w2 ⟨g2, rfl, he2, hb2⟩
    have HE2 := Lib.hid he2; clear he2
    go_wp2
    go_ret2
    exact ⟨_, rfl, HE2.out.base HB1.out.size, bstep HB1.out hb2⟩
end Go.Proofs.YtnmegpplfbkpcaaDoor
