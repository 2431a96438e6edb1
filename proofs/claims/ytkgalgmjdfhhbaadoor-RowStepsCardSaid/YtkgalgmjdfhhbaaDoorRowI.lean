/- The contract of edenref07.Equal. -/
import Derived.Test.YtkgalgmjdfhhbaaDoorRowH
import Derived.Deep.RegionHeld3
import Derived.WalkKit
import Derived.Lib.Hide
namespace Go.Proofs.YtkgalgmjdfhhbaaDoor
open Go.RowKit
set_option linter.unusedVariables false
set_option maxRecDepth 100000

set_option maxHeartbeats 8000000 in
theorem refEqual_any (k : Nat) (p : Int) (aL aC aR : Option Addr) (nL cL nC cC nR cR : Nat) (L C Q : List Int) (p' : Int) (bL bC bR : Option Addr) (mL dL mC dC mR dR : Nat) (L' C' Q' : List Int) (W : World)
    (hM : RowM W aL nL cL L aC nC cC C aR nR cR Q) (h : IsRow k p L C Q) (hM' : RowM W bL mL dL L' bC mC dC C' bR mR dR Q') (h' : IsRow k p' L' C' Q') :
    Calls Tryd.prog 45 #[rowV p aL nL cL aC nC cC aR nR cR, rowV p' bL mL dL bC mC dC bR mR dR] W fun e w' => ∃ b : Bool, e = .returned (.bool b) ∧ (b = true ↔ ∀ i, cellF p L C Q i = cellF p' L' C' Q' i) ∧ Below W.heap.size W w' := by
  have hp1 := h.p1
  have hp2 := h.p2
  have hp1' := h'.p1
  have hp2' := h'.p2
  have hl : 0 < nL := by rw [hM.l.rk.len]; exact h.l1
  have hr : 0 < nR := by rw [hM.r.rk.len]; exact h.r1
  have hl' : 0 < mL := by rw [hM'.l.rk.len]; exact h'.l1
  have hr' : 0 < mR := by rw [hM'.r.rk.len]; exact h'.r1
  have l2 : nL ≤ 8192 := by rw [hM.l.rk.len]; exact h.l2
  have r2 : nR ≤ 8192 := by rw [hM.r.rk.len]; exact h.r2
  have c2 : nC ≤ 16384 := by rw [hM.c.rk.len]; exact h.c2
  have l2' : mL ≤ 8192 := by rw [hM'.l.rk.len]; exact h'.l2
  have r2' : mR ≤ 8192 := by rw [hM'.r.rk.len]; exact h'.r2
  have c2' : mC ≤ 16384 := by rw [hM'.c.rk.len]; exact h'.c2
  obtain ⟨Wb, hWb⟩ : ∃ Wb, (W.alloc (.cells #[.int .i64 p, .slice aL nL cL, .slice aC nC cC, .slice aR nR cR] 26)).alloc (.cells #[.int .i64 p', .slice bL mL dL, .slice bC mC dC, .slice bR mR dR] 26) = Wb := ⟨_, rfl⟩
  have HX : Hid (Wb.cell? ⟨W.heap.size, 0, none⟩ = some (.int .i64 p) ∧ Wb.cell? ⟨W.heap.size, 1, none⟩ = some (.slice aL nL cL) ∧ Wb.cell? ⟨W.heap.size, 2, none⟩ = some (.slice aC nC cC) ∧ Wb.cell? ⟨W.heap.size, 3, none⟩ = some (.slice aR nR cR)) := by rw [← hWb]; exact ⟨by simp, by simp, by simp, by simp⟩
  have HY : Hid (Wb.cell? ⟨W.heap.size + 1, 0, none⟩ = some (.int .i64 p') ∧ Wb.cell? ⟨W.heap.size + 1, 1, none⟩ = some (.slice bL mL dL) ∧ Wb.cell? ⟨W.heap.size + 1, 2, none⟩ = some (.slice bC mC dC) ∧ Wb.cell? ⟨W.heap.size + 1, 3, none⟩ = some (.slice bR mR dR)) := by rw [← hWb]; exact ⟨by simp, by simp, by simp, by simp⟩
  have HSZ : Hid (W.heap.size + 1 < Wb.heap.size) := by show _ < _; rw [← hWb]; simp
  have HSZ0 : Hid (W.heap.size < Wb.heap.size) := by show _ < _; have := HSZ.out; omega
  have HBX : Hid (Below W.heap.size W Wb) := by rw [← hWb]; exact balloc (balloc (bnil W) _) _
  have HLEN := Lib.hid (And.intro hM.l.rk.len (And.intro hM.r.rk.len (And.intro hM.c.rk.len (And.intro hM'.l.rk.len (And.intro hM'.r.rk.len hM'.c.rk.len)))))
  have HM := Lib.hid hM; clear hM
  have HM' := Lib.hid hM'; clear hM'
  have H := Lib.hid h; clear h
  have H' := Lib.hid h'; clear h'
  have HWB := Lib.hid hWb; clear hWb
  go_enter Tryd.func45, Tryd.ntmps45
  by_cases hpp : p ≤ p'
  · skip
    by_cases hcc : p' + (mC : Int) ≤ p + (nC : Int)
    · skip
      obtain ⟨F, hF⟩ : ∃ F : Int, p - 2 * (nL : Int) - 2 * (mL : Int) = F := ⟨_, rfl⟩
      obtain ⟨T, hT⟩ : ∃ T : Int, p + (nC : Int) + 2 * (nR : Int) + 2 * (mR : Int) = T := ⟨_, rfl⟩
      have hF1 : -100000 ≤ F := by omega
      have hF2 : F ≤ 100000 := by omega
      have hT1 : T ≤ 100000 := by omega
      have hFT : F ≤ T := by omega
      have hT2 : -100000 ≤ T := by omega
      have HF := Lib.hid hF
      have HT := Lib.hid hT
      go_wp2_with fail
      rw [HWB.out]
      clear hF hT
      go_loopw [7] (fun ix wr => ∃ i : Int, F ≤ i ∧ i ≤ T ∧ ix = .int .i64 i ∧ Hid (∀ j, F ≤ j → j < i → cellF p L C Q j = cellF p' L' C' Q' j) ∧ Below Wb.heap.size Wb wr) (fun ix _ => (T - intOf ix).toNat)
      case atStart => exact ⟨F, by omega, by omega, rfl, fun j h1 h2 => by omega, bnil Wb⟩
      case round =>
        obtain ⟨i, hi1, hi2, rfl, HE, hb⟩ := hrel
        have HB := Lib.hid hb; clear hb
        by_cases hin : i < T
        · have hbd := Below.drew HB.out
          have HBD := Lib.hid (HBX.out.trans (hbd.mono HBX.out.size))
          have HSW : Hid (W.heap.size + 1 < wr.drew.heap.size) := Nat.lt_of_lt_of_le HSZ.out hbd.size
          have HSW0 : Hid (W.heap.size < wr.drew.heap.size) := Nat.lt_of_lt_of_le HSZ0.out hbd.size
          have x0 := (hbd.cell (p := ⟨W.heap.size, 0, none⟩) HSZ0.out).trans HX.out.1
          have x1 := (hbd.cell (p := ⟨W.heap.size, 1, none⟩) HSZ0.out).trans HX.out.2.1
          have x2 := (hbd.cell (p := ⟨W.heap.size, 2, none⟩) HSZ0.out).trans HX.out.2.2.1
          have x3 := (hbd.cell (p := ⟨W.heap.size, 3, none⟩) HSZ0.out).trans HX.out.2.2.2
          have y0 := (hbd.cell (p := ⟨W.heap.size + 1, 0, none⟩) HSZ.out).trans HY.out.1
          have y1 := (hbd.cell (p := ⟨W.heap.size + 1, 1, none⟩) HSZ.out).trans HY.out.2.1
          have y2 := (hbd.cell (p := ⟨W.heap.size + 1, 2, none⟩) HSZ.out).trans HY.out.2.2.1
          have y3 := (hbd.cell (p := ⟨W.heap.size + 1, 3, none⟩) HSZ.out).trans HY.out.2.2.2
          have HBW := Lib.hid hbd
          clear hbd
          obtain ⟨z1, hz1⟩ : ∃ z, cellF p L C Q i = z := ⟨_, rfl⟩
          obtain ⟨z2, hz2⟩ : ∃ z, cellF p' L' C' Q' i = z := ⟨_, rfl⟩
          have HZ1 := Lib.hid hz1
          have HZ2 := Lib.hid hz2
          clear hz1 hz2
          go_wp2_with fail
          go_region_held3 (fun w' => w'.cell? ⟨W.heap.size, 0, none⟩ = some (.int .i64 p) ∧ w'.cell? ⟨W.heap.size, 1, none⟩ = some (.slice aL nL cL) ∧ w'.cell? ⟨W.heap.size, 2, none⟩ = some (.slice aC nC cC) ∧ w'.cell? ⟨W.heap.size, 3, none⟩ = some (.slice aR nR cR) ∧ w'.cell? ⟨W.heap.size + 1, 0, none⟩ = some (.int .i64 p') ∧ w'.cell? ⟨W.heap.size + 1, 1, none⟩ = some (.slice bL mL dL) ∧ w'.cell? ⟨W.heap.size + 1, 2, none⟩ = some (.slice bC mC dC) ∧ w'.cell? ⟨W.heap.size + 1, 3, none⟩ = some (.slice bR mR dR))
            (first | with_reducible exact ⟨x0, x1, x2, x3, y0, y1, y2, y3⟩ | with_reducible exact ⟨x50, x51, x52, x53, y50, y51, y52, y53⟩ | with_reducible exact ⟨x60, x61, x62, x63, y60, y61, y62, y63⟩ | go_keep)
            (first
              | (go_at_call 51; refine (refAt_any p' i bL bC bR mL dL mC dC mR dR L' C' Q' _ HM5.out hl' hr' (by omega) (by omega) (by omega) (by omega)).mono ?_; rintro e w6 ⟨rfl, hb6⟩; rw [HZ2.out]; have x60 := (hb6.cell (p := ⟨W.heap.size, 0, none⟩) HS50.out).trans x50; have x61 := (hb6.cell (p := ⟨W.heap.size, 1, none⟩) HS50.out).trans x51; have x62 := (hb6.cell (p := ⟨W.heap.size, 2, none⟩) HS50.out).trans x52; have x63 := (hb6.cell (p := ⟨W.heap.size, 3, none⟩) HS50.out).trans x53; have y60 := (hb6.cell (p := ⟨W.heap.size + 1, 0, none⟩) HS5.out).trans y50; have y61 := (hb6.cell (p := ⟨W.heap.size + 1, 1, none⟩) HS5.out).trans y51; have y62 := (hb6.cell (p := ⟨W.heap.size + 1, 2, none⟩) HS5.out).trans y52; have y63 := (hb6.cell (p := ⟨W.heap.size + 1, 3, none⟩) HS5.out).trans y53; have HB6 := Lib.hid (bstep HB5.out hb6); have HD6 := Lib.hid (HBW5.out.trans (hb6.mono HBW5.out.size)); clear hb6)
              | (go_at_call 51; (fail_if_success (have q := HM5)); refine (refAt_any p i aL aC aR nL cL nC cC nR cR L C Q _ (HM.out.up HBD.out) hl hr (by omega) (by omega) (by omega) (by omega)).mono ?_; rintro e w5 ⟨rfl, hb5⟩; rw [HZ1.out]; have x50 := (hb5.cell (p := ⟨W.heap.size, 0, none⟩) HSW0.out).trans x0; have x51 := (hb5.cell (p := ⟨W.heap.size, 1, none⟩) HSW0.out).trans x1; have x52 := (hb5.cell (p := ⟨W.heap.size, 2, none⟩) HSW0.out).trans x2; have x53 := (hb5.cell (p := ⟨W.heap.size, 3, none⟩) HSW0.out).trans x3; have y50 := (hb5.cell (p := ⟨W.heap.size + 1, 0, none⟩) HSW.out).trans y0; have y51 := (hb5.cell (p := ⟨W.heap.size + 1, 1, none⟩) HSW.out).trans y1; have y52 := (hb5.cell (p := ⟨W.heap.size + 1, 2, none⟩) HSW.out).trans y2; have y53 := (hb5.cell (p := ⟨W.heap.size + 1, 3, none⟩) HSW.out).trans y3; have HS5 := Lib.hid (Nat.lt_of_lt_of_le HSW.out hb5.size); have HS50 := Lib.hid (Nat.lt_of_lt_of_le HSW0.out hb5.size); have HB5 := Lib.hid (bstep HBD.out hb5); have HBW5 := Lib.hid (HBW.out.trans (hb5.mono HBW.out.size)); have HM5 := Lib.hid (HM'.out.up HB5.out); clear hb5))
          by_cases hz : z1 = z2
          · have hne : (z1 != z2) = false := by simpa using hz
            have HQ : Hid (∀ j, F ≤ j → j < i + 1 → cellF p L C Q j = cellF p' L' C' Q' j) := fun j h1 h2 => by
              by_cases e : j = i
              · subst e; rw [HZ1.out, HZ2.out]; exact hz
              · exact HE.out j h1 (by omega)
            clear hz
            go_wp2
            go_roundw
            case rel => exact ⟨i + 1, by omega, by omega, by go_num, HQ, HD6.out⟩
            case measure => simp [intOf]; omega
          · have hne : (z1 != z2) = true := by simpa using hz
            have HQ : Hid (¬ ∀ j, cellF p L C Q j = cellF p' L' C' Q' j) := fun h => hz (by rw [← HZ1.out, ← HZ2.out]; exact h i)
            clear hz
            go_wp2
            go_ret
            exact ⟨false, rfl, ⟨fun e => (by cases e), fun h => absurd h HQ.out⟩, HB6.out⟩
        · obtain rfl : i = T := by omega
          have HQ : Hid (∀ j, cellF p L C Q j = cellF p' L' C' Q' j) := by
            obtain ⟨e1, e2, e3, e4, e5, e6⟩ := HLEN.out
            have hF := HF.out
            have hT := HT.out
            exact rows_one H.out.l1 H'.out.l1 H.out.r1 H'.out.r1 fun j h1 h2 => HE.out j (by omega) (by omega)
          go_wp2
          go_ret
          exact .inr ⟨rfl, HQ.out, HBX.out.trans (HB.out.mono HBX.out.size)⟩
    · have hcc2 : p + (nC : Int) < p' + (mC : Int) := by omega
      obtain ⟨F, hF⟩ : ∃ F : Int, p - 2 * (nL : Int) - 2 * (mL : Int) = F := ⟨_, rfl⟩
      obtain ⟨T, hT⟩ : ∃ T : Int, p' + (mC : Int) + 2 * (nR : Int) + 2 * (mR : Int) = T := ⟨_, rfl⟩
      have hF1 : -100000 ≤ F := by omega
      have hF2 : F ≤ 100000 := by omega
      have hT1 : T ≤ 100000 := by omega
      have hFT : F ≤ T := by omega
      have hT2 : -100000 ≤ T := by omega
      have HF := Lib.hid hF
      have HT := Lib.hid hT
      go_wp2_with fail
      rw [HWB.out]
      clear hF hT
      go_loopw [7] (fun ix wr => ∃ i : Int, F ≤ i ∧ i ≤ T ∧ ix = .int .i64 i ∧ Hid (∀ j, F ≤ j → j < i → cellF p L C Q j = cellF p' L' C' Q' j) ∧ Below Wb.heap.size Wb wr) (fun ix _ => (T - intOf ix).toNat)
      case atStart => exact ⟨F, by omega, by omega, rfl, fun j h1 h2 => by omega, bnil Wb⟩
      case round =>
        obtain ⟨i, hi1, hi2, rfl, HE, hb⟩ := hrel
        have HB := Lib.hid hb; clear hb
        by_cases hin : i < T
        · have hbd := Below.drew HB.out
          have HBD := Lib.hid (HBX.out.trans (hbd.mono HBX.out.size))
          have HSW : Hid (W.heap.size + 1 < wr.drew.heap.size) := Nat.lt_of_lt_of_le HSZ.out hbd.size
          have HSW0 : Hid (W.heap.size < wr.drew.heap.size) := Nat.lt_of_lt_of_le HSZ0.out hbd.size
          have x0 := (hbd.cell (p := ⟨W.heap.size, 0, none⟩) HSZ0.out).trans HX.out.1
          have x1 := (hbd.cell (p := ⟨W.heap.size, 1, none⟩) HSZ0.out).trans HX.out.2.1
          have x2 := (hbd.cell (p := ⟨W.heap.size, 2, none⟩) HSZ0.out).trans HX.out.2.2.1
          have x3 := (hbd.cell (p := ⟨W.heap.size, 3, none⟩) HSZ0.out).trans HX.out.2.2.2
          have y0 := (hbd.cell (p := ⟨W.heap.size + 1, 0, none⟩) HSZ.out).trans HY.out.1
          have y1 := (hbd.cell (p := ⟨W.heap.size + 1, 1, none⟩) HSZ.out).trans HY.out.2.1
          have y2 := (hbd.cell (p := ⟨W.heap.size + 1, 2, none⟩) HSZ.out).trans HY.out.2.2.1
          have y3 := (hbd.cell (p := ⟨W.heap.size + 1, 3, none⟩) HSZ.out).trans HY.out.2.2.2
          have HBW := Lib.hid hbd
          clear hbd
          obtain ⟨z1, hz1⟩ : ∃ z, cellF p L C Q i = z := ⟨_, rfl⟩
          obtain ⟨z2, hz2⟩ : ∃ z, cellF p' L' C' Q' i = z := ⟨_, rfl⟩
          have HZ1 := Lib.hid hz1
          have HZ2 := Lib.hid hz2
          clear hz1 hz2
          go_wp2_with fail
          go_region_held3 (fun w' => w'.cell? ⟨W.heap.size, 0, none⟩ = some (.int .i64 p) ∧ w'.cell? ⟨W.heap.size, 1, none⟩ = some (.slice aL nL cL) ∧ w'.cell? ⟨W.heap.size, 2, none⟩ = some (.slice aC nC cC) ∧ w'.cell? ⟨W.heap.size, 3, none⟩ = some (.slice aR nR cR) ∧ w'.cell? ⟨W.heap.size + 1, 0, none⟩ = some (.int .i64 p') ∧ w'.cell? ⟨W.heap.size + 1, 1, none⟩ = some (.slice bL mL dL) ∧ w'.cell? ⟨W.heap.size + 1, 2, none⟩ = some (.slice bC mC dC) ∧ w'.cell? ⟨W.heap.size + 1, 3, none⟩ = some (.slice bR mR dR))
            (first | with_reducible exact ⟨x0, x1, x2, x3, y0, y1, y2, y3⟩ | with_reducible exact ⟨x50, x51, x52, x53, y50, y51, y52, y53⟩ | with_reducible exact ⟨x60, x61, x62, x63, y60, y61, y62, y63⟩ | go_keep)
            (first
              | (go_at_call 51; refine (refAt_any p' i bL bC bR mL dL mC dC mR dR L' C' Q' _ HM5.out hl' hr' (by omega) (by omega) (by omega) (by omega)).mono ?_; rintro e w6 ⟨rfl, hb6⟩; rw [HZ2.out]; have x60 := (hb6.cell (p := ⟨W.heap.size, 0, none⟩) HS50.out).trans x50; have x61 := (hb6.cell (p := ⟨W.heap.size, 1, none⟩) HS50.out).trans x51; have x62 := (hb6.cell (p := ⟨W.heap.size, 2, none⟩) HS50.out).trans x52; have x63 := (hb6.cell (p := ⟨W.heap.size, 3, none⟩) HS50.out).trans x53; have y60 := (hb6.cell (p := ⟨W.heap.size + 1, 0, none⟩) HS5.out).trans y50; have y61 := (hb6.cell (p := ⟨W.heap.size + 1, 1, none⟩) HS5.out).trans y51; have y62 := (hb6.cell (p := ⟨W.heap.size + 1, 2, none⟩) HS5.out).trans y52; have y63 := (hb6.cell (p := ⟨W.heap.size + 1, 3, none⟩) HS5.out).trans y53; have HB6 := Lib.hid (bstep HB5.out hb6); have HD6 := Lib.hid (HBW5.out.trans (hb6.mono HBW5.out.size)); clear hb6)
              | (go_at_call 51; (fail_if_success (have q := HM5)); refine (refAt_any p i aL aC aR nL cL nC cC nR cR L C Q _ (HM.out.up HBD.out) hl hr (by omega) (by omega) (by omega) (by omega)).mono ?_; rintro e w5 ⟨rfl, hb5⟩; rw [HZ1.out]; have x50 := (hb5.cell (p := ⟨W.heap.size, 0, none⟩) HSW0.out).trans x0; have x51 := (hb5.cell (p := ⟨W.heap.size, 1, none⟩) HSW0.out).trans x1; have x52 := (hb5.cell (p := ⟨W.heap.size, 2, none⟩) HSW0.out).trans x2; have x53 := (hb5.cell (p := ⟨W.heap.size, 3, none⟩) HSW0.out).trans x3; have y50 := (hb5.cell (p := ⟨W.heap.size + 1, 0, none⟩) HSW.out).trans y0; have y51 := (hb5.cell (p := ⟨W.heap.size + 1, 1, none⟩) HSW.out).trans y1; have y52 := (hb5.cell (p := ⟨W.heap.size + 1, 2, none⟩) HSW.out).trans y2; have y53 := (hb5.cell (p := ⟨W.heap.size + 1, 3, none⟩) HSW.out).trans y3; have HS5 := Lib.hid (Nat.lt_of_lt_of_le HSW.out hb5.size); have HS50 := Lib.hid (Nat.lt_of_lt_of_le HSW0.out hb5.size); have HB5 := Lib.hid (bstep HBD.out hb5); have HBW5 := Lib.hid (HBW.out.trans (hb5.mono HBW.out.size)); have HM5 := Lib.hid (HM'.out.up HB5.out); clear hb5))
          by_cases hz : z1 = z2
          · have hne : (z1 != z2) = false := by simpa using hz
            have HQ : Hid (∀ j, F ≤ j → j < i + 1 → cellF p L C Q j = cellF p' L' C' Q' j) := fun j h1 h2 => by
              by_cases e : j = i
              · subst e; rw [HZ1.out, HZ2.out]; exact hz
              · exact HE.out j h1 (by omega)
            clear hz
            go_wp2
            go_roundw
            case rel => exact ⟨i + 1, by omega, by omega, by go_num, HQ, HD6.out⟩
            case measure => simp [intOf]; omega
          · have hne : (z1 != z2) = true := by simpa using hz
            have HQ : Hid (¬ ∀ j, cellF p L C Q j = cellF p' L' C' Q' j) := fun h => hz (by rw [← HZ1.out, ← HZ2.out]; exact h i)
            clear hz
            go_wp2
            go_ret
            exact ⟨false, rfl, ⟨fun e => (by cases e), fun h => absurd h HQ.out⟩, HB6.out⟩
        · obtain rfl : i = T := by omega
          have HQ : Hid (∀ j, cellF p L C Q j = cellF p' L' C' Q' j) := by
            obtain ⟨e1, e2, e3, e4, e5, e6⟩ := HLEN.out
            have hF := HF.out
            have hT := HT.out
            exact rows_one H.out.l1 H'.out.l1 H.out.r1 H'.out.r1 fun j h1 h2 => HE.out j (by omega) (by omega)
          go_wp2
          go_ret
          exact .inr ⟨rfl, HQ.out, HBX.out.trans (HB.out.mono HBX.out.size)⟩
  · have hpp2 : p' < p := by omega
    by_cases hcc : p' + (mC : Int) ≤ p + (nC : Int)
    · skip
      obtain ⟨F, hF⟩ : ∃ F : Int, p' - 2 * (nL : Int) - 2 * (mL : Int) = F := ⟨_, rfl⟩
      obtain ⟨T, hT⟩ : ∃ T : Int, p + (nC : Int) + 2 * (nR : Int) + 2 * (mR : Int) = T := ⟨_, rfl⟩
      have hF1 : -100000 ≤ F := by omega
      have hF2 : F ≤ 100000 := by omega
      have hT1 : T ≤ 100000 := by omega
      have hFT : F ≤ T := by omega
      have hT2 : -100000 ≤ T := by omega
      have HF := Lib.hid hF
      have HT := Lib.hid hT
      go_wp2_with fail
      rw [HWB.out]
      clear hF hT
      go_loopw [7] (fun ix wr => ∃ i : Int, F ≤ i ∧ i ≤ T ∧ ix = .int .i64 i ∧ Hid (∀ j, F ≤ j → j < i → cellF p L C Q j = cellF p' L' C' Q' j) ∧ Below Wb.heap.size Wb wr) (fun ix _ => (T - intOf ix).toNat)
      case atStart => exact ⟨F, by omega, by omega, rfl, fun j h1 h2 => by omega, bnil Wb⟩
      case round =>
        obtain ⟨i, hi1, hi2, rfl, HE, hb⟩ := hrel
        have HB := Lib.hid hb; clear hb
        by_cases hin : i < T
        · have hbd := Below.drew HB.out
          have HBD := Lib.hid (HBX.out.trans (hbd.mono HBX.out.size))
          have HSW : Hid (W.heap.size + 1 < wr.drew.heap.size) := Nat.lt_of_lt_of_le HSZ.out hbd.size
          have HSW0 : Hid (W.heap.size < wr.drew.heap.size) := Nat.lt_of_lt_of_le HSZ0.out hbd.size
          have x0 := (hbd.cell (p := ⟨W.heap.size, 0, none⟩) HSZ0.out).trans HX.out.1
          have x1 := (hbd.cell (p := ⟨W.heap.size, 1, none⟩) HSZ0.out).trans HX.out.2.1
          have x2 := (hbd.cell (p := ⟨W.heap.size, 2, none⟩) HSZ0.out).trans HX.out.2.2.1
          have x3 := (hbd.cell (p := ⟨W.heap.size, 3, none⟩) HSZ0.out).trans HX.out.2.2.2
          have y0 := (hbd.cell (p := ⟨W.heap.size + 1, 0, none⟩) HSZ.out).trans HY.out.1
          have y1 := (hbd.cell (p := ⟨W.heap.size + 1, 1, none⟩) HSZ.out).trans HY.out.2.1
          have y2 := (hbd.cell (p := ⟨W.heap.size + 1, 2, none⟩) HSZ.out).trans HY.out.2.2.1
          have y3 := (hbd.cell (p := ⟨W.heap.size + 1, 3, none⟩) HSZ.out).trans HY.out.2.2.2
          have HBW := Lib.hid hbd
          clear hbd
          obtain ⟨z1, hz1⟩ : ∃ z, cellF p L C Q i = z := ⟨_, rfl⟩
          obtain ⟨z2, hz2⟩ : ∃ z, cellF p' L' C' Q' i = z := ⟨_, rfl⟩
          have HZ1 := Lib.hid hz1
          have HZ2 := Lib.hid hz2
          clear hz1 hz2
          go_wp2_with fail
          go_region_held3 (fun w' => w'.cell? ⟨W.heap.size, 0, none⟩ = some (.int .i64 p) ∧ w'.cell? ⟨W.heap.size, 1, none⟩ = some (.slice aL nL cL) ∧ w'.cell? ⟨W.heap.size, 2, none⟩ = some (.slice aC nC cC) ∧ w'.cell? ⟨W.heap.size, 3, none⟩ = some (.slice aR nR cR) ∧ w'.cell? ⟨W.heap.size + 1, 0, none⟩ = some (.int .i64 p') ∧ w'.cell? ⟨W.heap.size + 1, 1, none⟩ = some (.slice bL mL dL) ∧ w'.cell? ⟨W.heap.size + 1, 2, none⟩ = some (.slice bC mC dC) ∧ w'.cell? ⟨W.heap.size + 1, 3, none⟩ = some (.slice bR mR dR))
            (first | with_reducible exact ⟨x0, x1, x2, x3, y0, y1, y2, y3⟩ | with_reducible exact ⟨x50, x51, x52, x53, y50, y51, y52, y53⟩ | with_reducible exact ⟨x60, x61, x62, x63, y60, y61, y62, y63⟩ | go_keep)
            (first
              | (go_at_call 51; refine (refAt_any p' i bL bC bR mL dL mC dC mR dR L' C' Q' _ HM5.out hl' hr' (by omega) (by omega) (by omega) (by omega)).mono ?_; rintro e w6 ⟨rfl, hb6⟩; rw [HZ2.out]; have x60 := (hb6.cell (p := ⟨W.heap.size, 0, none⟩) HS50.out).trans x50; have x61 := (hb6.cell (p := ⟨W.heap.size, 1, none⟩) HS50.out).trans x51; have x62 := (hb6.cell (p := ⟨W.heap.size, 2, none⟩) HS50.out).trans x52; have x63 := (hb6.cell (p := ⟨W.heap.size, 3, none⟩) HS50.out).trans x53; have y60 := (hb6.cell (p := ⟨W.heap.size + 1, 0, none⟩) HS5.out).trans y50; have y61 := (hb6.cell (p := ⟨W.heap.size + 1, 1, none⟩) HS5.out).trans y51; have y62 := (hb6.cell (p := ⟨W.heap.size + 1, 2, none⟩) HS5.out).trans y52; have y63 := (hb6.cell (p := ⟨W.heap.size + 1, 3, none⟩) HS5.out).trans y53; have HB6 := Lib.hid (bstep HB5.out hb6); have HD6 := Lib.hid (HBW5.out.trans (hb6.mono HBW5.out.size)); clear hb6)
              | (go_at_call 51; (fail_if_success (have q := HM5)); refine (refAt_any p i aL aC aR nL cL nC cC nR cR L C Q _ (HM.out.up HBD.out) hl hr (by omega) (by omega) (by omega) (by omega)).mono ?_; rintro e w5 ⟨rfl, hb5⟩; rw [HZ1.out]; have x50 := (hb5.cell (p := ⟨W.heap.size, 0, none⟩) HSW0.out).trans x0; have x51 := (hb5.cell (p := ⟨W.heap.size, 1, none⟩) HSW0.out).trans x1; have x52 := (hb5.cell (p := ⟨W.heap.size, 2, none⟩) HSW0.out).trans x2; have x53 := (hb5.cell (p := ⟨W.heap.size, 3, none⟩) HSW0.out).trans x3; have y50 := (hb5.cell (p := ⟨W.heap.size + 1, 0, none⟩) HSW.out).trans y0; have y51 := (hb5.cell (p := ⟨W.heap.size + 1, 1, none⟩) HSW.out).trans y1; have y52 := (hb5.cell (p := ⟨W.heap.size + 1, 2, none⟩) HSW.out).trans y2; have y53 := (hb5.cell (p := ⟨W.heap.size + 1, 3, none⟩) HSW.out).trans y3; have HS5 := Lib.hid (Nat.lt_of_lt_of_le HSW.out hb5.size); have HS50 := Lib.hid (Nat.lt_of_lt_of_le HSW0.out hb5.size); have HB5 := Lib.hid (bstep HBD.out hb5); have HBW5 := Lib.hid (HBW.out.trans (hb5.mono HBW.out.size)); have HM5 := Lib.hid (HM'.out.up HB5.out); clear hb5))
          by_cases hz : z1 = z2
          · have hne : (z1 != z2) = false := by simpa using hz
            have HQ : Hid (∀ j, F ≤ j → j < i + 1 → cellF p L C Q j = cellF p' L' C' Q' j) := fun j h1 h2 => by
              by_cases e : j = i
              · subst e; rw [HZ1.out, HZ2.out]; exact hz
              · exact HE.out j h1 (by omega)
            clear hz
            go_wp2
            go_roundw
            case rel => exact ⟨i + 1, by omega, by omega, by go_num, HQ, HD6.out⟩
            case measure => simp [intOf]; omega
          · have hne : (z1 != z2) = true := by simpa using hz
            have HQ : Hid (¬ ∀ j, cellF p L C Q j = cellF p' L' C' Q' j) := fun h => hz (by rw [← HZ1.out, ← HZ2.out]; exact h i)
            clear hz
            go_wp2
            go_ret
            exact ⟨false, rfl, ⟨fun e => (by cases e), fun h => absurd h HQ.out⟩, HB6.out⟩
        · obtain rfl : i = T := by omega
          have HQ : Hid (∀ j, cellF p L C Q j = cellF p' L' C' Q' j) := by
            obtain ⟨e1, e2, e3, e4, e5, e6⟩ := HLEN.out
            have hF := HF.out
            have hT := HT.out
            exact rows_one H.out.l1 H'.out.l1 H.out.r1 H'.out.r1 fun j h1 h2 => HE.out j (by omega) (by omega)
          go_wp2
          go_ret
          exact .inr ⟨rfl, HQ.out, HBX.out.trans (HB.out.mono HBX.out.size)⟩
    · have hcc2 : p + (nC : Int) < p' + (mC : Int) := by omega
      obtain ⟨F, hF⟩ : ∃ F : Int, p' - 2 * (nL : Int) - 2 * (mL : Int) = F := ⟨_, rfl⟩
      obtain ⟨T, hT⟩ : ∃ T : Int, p' + (mC : Int) + 2 * (nR : Int) + 2 * (mR : Int) = T := ⟨_, rfl⟩
      have hF1 : -100000 ≤ F := by omega
      have hF2 : F ≤ 100000 := by omega
      have hT1 : T ≤ 100000 := by omega
      have hFT : F ≤ T := by omega
      have hT2 : -100000 ≤ T := by omega
      have HF := Lib.hid hF
      have HT := Lib.hid hT
      go_wp2_with fail
      rw [HWB.out]
      clear hF hT
      go_loopw [7] (fun ix wr => ∃ i : Int, F ≤ i ∧ i ≤ T ∧ ix = .int .i64 i ∧ Hid (∀ j, F ≤ j → j < i → cellF p L C Q j = cellF p' L' C' Q' j) ∧ Below Wb.heap.size Wb wr) (fun ix _ => (T - intOf ix).toNat)
      case atStart => exact ⟨F, by omega, by omega, rfl, fun j h1 h2 => by omega, bnil Wb⟩
      case round =>
        obtain ⟨i, hi1, hi2, rfl, HE, hb⟩ := hrel
        have HB := Lib.hid hb; clear hb
        by_cases hin : i < T
        · have hbd := Below.drew HB.out
          have HBD := Lib.hid (HBX.out.trans (hbd.mono HBX.out.size))
          have HSW : Hid (W.heap.size + 1 < wr.drew.heap.size) := Nat.lt_of_lt_of_le HSZ.out hbd.size
          have HSW0 : Hid (W.heap.size < wr.drew.heap.size) := Nat.lt_of_lt_of_le HSZ0.out hbd.size
          have x0 := (hbd.cell (p := ⟨W.heap.size, 0, none⟩) HSZ0.out).trans HX.out.1
          have x1 := (hbd.cell (p := ⟨W.heap.size, 1, none⟩) HSZ0.out).trans HX.out.2.1
          have x2 := (hbd.cell (p := ⟨W.heap.size, 2, none⟩) HSZ0.out).trans HX.out.2.2.1
          have x3 := (hbd.cell (p := ⟨W.heap.size, 3, none⟩) HSZ0.out).trans HX.out.2.2.2
          have y0 := (hbd.cell (p := ⟨W.heap.size + 1, 0, none⟩) HSZ.out).trans HY.out.1
          have y1 := (hbd.cell (p := ⟨W.heap.size + 1, 1, none⟩) HSZ.out).trans HY.out.2.1
          have y2 := (hbd.cell (p := ⟨W.heap.size + 1, 2, none⟩) HSZ.out).trans HY.out.2.2.1
          have y3 := (hbd.cell (p := ⟨W.heap.size + 1, 3, none⟩) HSZ.out).trans HY.out.2.2.2
          have HBW := Lib.hid hbd
          clear hbd
          obtain ⟨z1, hz1⟩ : ∃ z, cellF p L C Q i = z := ⟨_, rfl⟩
          obtain ⟨z2, hz2⟩ : ∃ z, cellF p' L' C' Q' i = z := ⟨_, rfl⟩
          have HZ1 := Lib.hid hz1
          have HZ2 := Lib.hid hz2
          clear hz1 hz2
          go_wp2_with fail
          go_region_held3 (fun w' => w'.cell? ⟨W.heap.size, 0, none⟩ = some (.int .i64 p) ∧ w'.cell? ⟨W.heap.size, 1, none⟩ = some (.slice aL nL cL) ∧ w'.cell? ⟨W.heap.size, 2, none⟩ = some (.slice aC nC cC) ∧ w'.cell? ⟨W.heap.size, 3, none⟩ = some (.slice aR nR cR) ∧ w'.cell? ⟨W.heap.size + 1, 0, none⟩ = some (.int .i64 p') ∧ w'.cell? ⟨W.heap.size + 1, 1, none⟩ = some (.slice bL mL dL) ∧ w'.cell? ⟨W.heap.size + 1, 2, none⟩ = some (.slice bC mC dC) ∧ w'.cell? ⟨W.heap.size + 1, 3, none⟩ = some (.slice bR mR dR))
            (first | with_reducible exact ⟨x0, x1, x2, x3, y0, y1, y2, y3⟩ | with_reducible exact ⟨x50, x51, x52, x53, y50, y51, y52, y53⟩ | with_reducible exact ⟨x60, x61, x62, x63, y60, y61, y62, y63⟩ | go_keep)
            (first
              | (go_at_call 51; refine (refAt_any p' i bL bC bR mL dL mC dC mR dR L' C' Q' _ HM5.out hl' hr' (by omega) (by omega) (by omega) (by omega)).mono ?_; rintro e w6 ⟨rfl, hb6⟩; rw [HZ2.out]; have x60 := (hb6.cell (p := ⟨W.heap.size, 0, none⟩) HS50.out).trans x50; have x61 := (hb6.cell (p := ⟨W.heap.size, 1, none⟩) HS50.out).trans x51; have x62 := (hb6.cell (p := ⟨W.heap.size, 2, none⟩) HS50.out).trans x52; have x63 := (hb6.cell (p := ⟨W.heap.size, 3, none⟩) HS50.out).trans x53; have y60 := (hb6.cell (p := ⟨W.heap.size + 1, 0, none⟩) HS5.out).trans y50; have y61 := (hb6.cell (p := ⟨W.heap.size + 1, 1, none⟩) HS5.out).trans y51; have y62 := (hb6.cell (p := ⟨W.heap.size + 1, 2, none⟩) HS5.out).trans y52; have y63 := (hb6.cell (p := ⟨W.heap.size + 1, 3, none⟩) HS5.out).trans y53; have HB6 := Lib.hid (bstep HB5.out hb6); have HD6 := Lib.hid (HBW5.out.trans (hb6.mono HBW5.out.size)); clear hb6)
              | (go_at_call 51; (fail_if_success (have q := HM5)); refine (refAt_any p i aL aC aR nL cL nC cC nR cR L C Q _ (HM.out.up HBD.out) hl hr (by omega) (by omega) (by omega) (by omega)).mono ?_; rintro e w5 ⟨rfl, hb5⟩; rw [HZ1.out]; have x50 := (hb5.cell (p := ⟨W.heap.size, 0, none⟩) HSW0.out).trans x0; have x51 := (hb5.cell (p := ⟨W.heap.size, 1, none⟩) HSW0.out).trans x1; have x52 := (hb5.cell (p := ⟨W.heap.size, 2, none⟩) HSW0.out).trans x2; have x53 := (hb5.cell (p := ⟨W.heap.size, 3, none⟩) HSW0.out).trans x3; have y50 := (hb5.cell (p := ⟨W.heap.size + 1, 0, none⟩) HSW.out).trans y0; have y51 := (hb5.cell (p := ⟨W.heap.size + 1, 1, none⟩) HSW.out).trans y1; have y52 := (hb5.cell (p := ⟨W.heap.size + 1, 2, none⟩) HSW.out).trans y2; have y53 := (hb5.cell (p := ⟨W.heap.size + 1, 3, none⟩) HSW.out).trans y3; have HS5 := Lib.hid (Nat.lt_of_lt_of_le HSW.out hb5.size); have HS50 := Lib.hid (Nat.lt_of_lt_of_le HSW0.out hb5.size); have HB5 := Lib.hid (bstep HBD.out hb5); have HBW5 := Lib.hid (HBW.out.trans (hb5.mono HBW.out.size)); have HM5 := Lib.hid (HM'.out.up HB5.out); clear hb5))
          by_cases hz : z1 = z2
          · have hne : (z1 != z2) = false := by simpa using hz
            have HQ : Hid (∀ j, F ≤ j → j < i + 1 → cellF p L C Q j = cellF p' L' C' Q' j) := fun j h1 h2 => by
              by_cases e : j = i
              · subst e; rw [HZ1.out, HZ2.out]; exact hz
              · exact HE.out j h1 (by omega)
            clear hz
            go_wp2
            go_roundw
            case rel => exact ⟨i + 1, by omega, by omega, by go_num, HQ, HD6.out⟩
            case measure => simp [intOf]; omega
          · have hne : (z1 != z2) = true := by simpa using hz
            have HQ : Hid (¬ ∀ j, cellF p L C Q j = cellF p' L' C' Q' j) := fun h => hz (by rw [← HZ1.out, ← HZ2.out]; exact h i)
            clear hz
            go_wp2
            go_ret
            exact ⟨false, rfl, ⟨fun e => (by cases e), fun h => absurd h HQ.out⟩, HB6.out⟩
        · obtain rfl : i = T := by omega
          have HQ : Hid (∀ j, cellF p L C Q j = cellF p' L' C' Q' j) := by
            obtain ⟨e1, e2, e3, e4, e5, e6⟩ := HLEN.out
            have hF := HF.out
            have hT := HT.out
            exact rows_one H.out.l1 H'.out.l1 H.out.r1 H'.out.r1 fun j h1 h2 => HE.out j (by omega) (by omega)
          go_wp2
          go_ret
          exact .inr ⟨rfl, HQ.out, HBX.out.trans (HB.out.mono HBX.out.size)⟩
end Go.Proofs.YtkgalgmjdfhhbaaDoor
