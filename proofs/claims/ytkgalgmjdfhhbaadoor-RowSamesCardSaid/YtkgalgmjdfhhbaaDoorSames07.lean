/- The walk of edenlaw07.RowSames. -/
import Derived.Test.YtkgalgmjdfhhbaaDoorRowN
import Derived.Test.YtkgalgmjdfhhbaaDoorBox7
import Derived.Deep.RegionHeld3
import Derived.IntWalk
namespace Go.Proofs.YtkgalgmjdfhhbaaDoor
open Go.RowKit
set_option linter.unusedVariables false
set_option maxRecDepth 100000

set_option maxHeartbeats 8000000 in
theorem rowsame_err (k : Int) (p : Int) (aL aC aR : Option Addr) (nL cL nC cC nR cR : Nat) (L C Q : List Int) (p' : Int) (bL bC bR : Option Addr) (mL dL mC dC mR dR : Nat) (L' C' Q' : List Int) (x : Int) (W : World) (R : Nat → Addr) (hE : Env W R)
    (hM : RowM W aL nL cL L aC nC cC C aR nR cR Q) (hM' : RowM W bL mL dL L' bC mC dC C' bR mR dR Q') (at_ n : Int) (h : rowErr k p L C Q = some (at_, n) ∨ rowErr k p L C Q = none ∧ rowErr k p' L' C' Q' = some (at_, n)) :
    Calls Tryd.prog 6 #[.int .i64 k, rowV p aL nL cL aC nC cC aR nR cR, rowV p' bL mL dL bC mC dC bR mR dR, .int .i64 x] W (TrueBelow W) := by
  have H := Lib.hid h; clear h
  obtain ⟨Wb, hWb⟩ : ∃ Wb, (W.alloc (.cells #[.int .i64 p, .slice aL nL cL, .slice aC nC cC, .slice aR nR cR] 26)).alloc (.cells #[.int .i64 p', .slice bL mL dL, .slice bC mC dC, .slice bR mR dR] 26) = Wb := ⟨_, rfl⟩
  obtain ⟨hx, hy, hs1, hs0, hbx⟩ := rows_boxes hWb
  have HX := Lib.hid hx; have HY := Lib.hid hy; have HS1 := Lib.hid hs1; have HS0 := Lib.hid hs0; have HBX := Lib.hid hbx
  clear hx hy hs1 hs0 hbx
  have HM := Lib.hid hM; clear hM
  have HM' := Lib.hid hM'; clear hM'
  have HE := Lib.hid hE; clear hE
  have HWB := Lib.hid hWb; clear hWb
  go_enter Tryd.func6, Tryd.ntmps6
  go_wp2_with fail
  rw [HWB.out]
  refine (awake07 _ R (HE.out.up HBX.out).sent.glob).mono ?_; rintro e w1 ⟨rfl, hb1⟩
  have HC1 := Lib.hid hb1
  have HB1 := Lib.hid (HBX.out.trans (hb1.mono HBX.out.size))
  clear hb1
  have x0 := (HC1.out.cell (p := ⟨W.heap.size, 0, none⟩) HS0.out).trans HX.out.1
  have x1 := (HC1.out.cell (p := ⟨W.heap.size, 1, none⟩) HS0.out).trans HX.out.2.1
  have x2 := (HC1.out.cell (p := ⟨W.heap.size, 2, none⟩) HS0.out).trans HX.out.2.2.1
  have x3 := (HC1.out.cell (p := ⟨W.heap.size, 3, none⟩) HS0.out).trans HX.out.2.2.2
  have y0 := (HC1.out.cell (p := ⟨W.heap.size + 1, 0, none⟩) HS1.out).trans HY.out.1
  have y1 := (HC1.out.cell (p := ⟨W.heap.size + 1, 1, none⟩) HS1.out).trans HY.out.2.1
  have y2 := (HC1.out.cell (p := ⟨W.heap.size + 1, 2, none⟩) HS1.out).trans HY.out.2.2.1
  have y3 := (HC1.out.cell (p := ⟨W.heap.size + 1, 3, none⟩) HS1.out).trans HY.out.2.2.2
  go_wp2_with fail
  refine (same_err k p aL aC aR nL cL nC cC nR cR L C Q p' bL bC bR mL dL mC dC mR dR L' C' Q' _ R (HE.out.up HB1.out).sent.glob (HM.out.up HB1.out) (HM'.out.up HB1.out) (at_, n) H.out).mono ?_; rintro e w2 ⟨g2, rfl, he2, hb2⟩
  have HC2 := Lib.hid (HC1.out.trans (hb2.mono HC1.out.size))
  have HB2 := Lib.hid (bstep HB1.out hb2)
  have HR2 := Lib.hid he2
  clear he2 x0 x1 x2 x3 y0 y1 y2 y3
  clear hb2
  have x0 := (HC2.out.cell (p := ⟨W.heap.size, 0, none⟩) HS0.out).trans HX.out.1
  have x1 := (HC2.out.cell (p := ⟨W.heap.size, 1, none⟩) HS0.out).trans HX.out.2.1
  have x2 := (HC2.out.cell (p := ⟨W.heap.size, 2, none⟩) HS0.out).trans HX.out.2.2.1
  have x3 := (HC2.out.cell (p := ⟨W.heap.size, 3, none⟩) HS0.out).trans HX.out.2.2.2
  have y0 := (HC2.out.cell (p := ⟨W.heap.size + 1, 0, none⟩) HS1.out).trans HY.out.1
  have y1 := (HC2.out.cell (p := ⟨W.heap.size + 1, 1, none⟩) HS1.out).trans HY.out.2.1
  have y2 := (HC2.out.cell (p := ⟨W.heap.size + 1, 2, none⟩) HS1.out).trans HY.out.2.2.1
  have y3 := (HC2.out.cell (p := ⟨W.heap.size + 1, 3, none⟩) HS1.out).trans HY.out.2.2.2
  go_wp2_with fail
  refine (refSame_err k p aL aC aR nL cL nC cC nR cR L C Q p' bL bC bR mL dL mC dC mR dR L' C' Q' _ (HM.out.up HB2.out) (HM'.out.up HB2.out) at_ n H.out).mono ?_; rintro e w3 ⟨b1, b2, rfl, hw3, hb3⟩
  have HC3 := Lib.hid (HC2.out.trans (hb3.mono HC2.out.size))
  have HB3 := Lib.hid (bstep HB2.out hb3)
  have HR3 : Hid (ErrIs w1.heap.size R w3 _ (some (opRow, at_, n))) := HR2.out.up hb3
  have HW3 := Lib.hid hw3
  clear hw3 x0 x1 x2 x3 y0 y1 y2 y3
  clear hb3
  go_wp2_with fail
  refine (rawIs_same _ _ _ (some (opRow, at_, n)) _ R ((HE.out.up HB3.out).al _) (HR3.out.up (balloc (bnil w3) _)) (HW3.out.up (balloc (bnil w3) _))).mono ?_; rintro e w4 ⟨rfl, hb4⟩
  go_wp2
  go_ret
  exact ⟨rfl, bstep (balloc HB3.out _) hb4⟩

/-- pushed out by whole blocks a row stays the row that it is -/
theorem cellF_wide {p : Int} {L C Q : List Int} (hl : 0 < L.length) (hr : 0 < Q.length) (i : Int) : cellF p L C Q i = cellF (p - (L.length : Int)) L (L ++ C ++ Q) Q i := by
  have hlen : (L ++ C ++ Q).length = L.length + C.length + Q.length := by simp; omega
  by_cases h1 : i < p - (L.length : Int)
  · rw [cellF_left (by omega), cellF_left h1, show i - (p - (L.length : Int)) = i - p + (L.length : Int) * 1 by omega, Int.add_mul_emod_self_left]
  by_cases h2 : i < p
  · rw [cellF_left h2, cellF_mid (by omega) (by omega)]
    have e : (i - p) % (L.length : Int) = i - (p - (L.length : Int)) := by
      rw [show i - p = i - (p - (L.length : Int)) + (L.length : Int) * (-1) by omega, Int.add_mul_emod_self_left]
      exact Int.emod_eq_of_lt (by omega) (by omega)
    rw [e, List.append_assoc]
    simp only [List.getD_eq_getElem?_getD]
    rw [List.getElem?_append_left (by omega)]
  by_cases h3 : i < p + (C.length : Int)
  · rw [cellF_mid (by omega) h3, cellF_mid (by omega) (by omega), List.append_assoc]
    simp only [List.getD_eq_getElem?_getD]
    rw [List.getElem?_append_right (by omega), List.getElem?_append_left (by omega)]
    congr 2
    omega
  by_cases h4 : i < p + (C.length : Int) + (Q.length : Int)
  · rw [cellF_right (by omega), cellF_mid (by omega) (by omega)]
    rw [Int.emod_eq_of_lt (by omega) (by omega)]
    simp only [List.getD_eq_getElem?_getD]
    rw [List.getElem?_append_right (by simp; omega)]
    congr 2
    simp
    omega
  · rw [cellF_right (by omega), cellF_right (by omega), show i - (p - (L.length : Int)) - ((L ++ C ++ Q).length : Int) = i - p - (C.length : Int) + (Q.length : Int) * (-1) by omega, Int.add_mul_emod_self_left]
theorem IsRow.wide {k : Nat} {p : Int} {L C Q : List Int} (h : IsRow k p L C Q) (n m : Nat) (hn : n = L.length) (h1 : -4096 ≤ p - (n : Int)) (hm : m = L.length + C.length + Q.length) (h2 : m ≤ 16384) : IsRow k (p - (n : Int)) L (L ++ C ++ Q) Q :=
  ⟨h.k1, h.k4, h1, by have := h.p2; omega, h.l1, h.l2, h.r1, h.r2, by simp; omega, h.symL, fun x hx => by
    rw [List.mem_append, List.mem_append] at hx
    rcases hx with (hx | hx) | hx
    · exact h.symL x hx
    · exact h.symC x hx
    · exact h.symR x hx, h.symR⟩

set_option maxHeartbeats 16000000 in
theorem rowsame_ok (k : Nat) (p : Int) (aL aC aR : Option Addr) (nL cL nC cC nR cR : Nat) (L C Q : List Int) (p' : Int) (bL bC bR : Option Addr) (mL dL mC dC mR dR : Nat) (L' C' Q' : List Int) (x : Int) (W : World) (R : Nat → Addr) (hE : Env W R)
    (hM : RowM W aL nL cL L aC nC cC C aR nR cR Q) (hM' : RowM W bL mL dL L' bC mC dC C' bR mR dR Q') (h : IsRow k p L C Q) (h' : IsRow k p' L' C' Q') :
    Calls Tryd.prog 6 #[.int .i64 k, rowV p aL nL cL aC nC cC aR nR cR, rowV p' bL mL dL bC mC dC bR mR dR, .int .i64 x] W (TrueBelow W) := by
  have hnL := hM.l.rk.len
  have hnC := hM.c.rk.len
  have hnR := hM.r.rk.len
  have hp1 := h.p1
  have hp2 := h.p2
  have hl2 : nL ≤ 8192 := by rw [hnL]; exact h.l2
  have hr2 : nR ≤ 8192 := by rw [hnR]; exact h.r2
  have hc2 : nC ≤ 16384 := by rw [hnC]; exact h.c2
  have mL8 := hM.l.n8
  have mR8 := hM.r.n8
  have nnL := hM.l.nn
  have nnC := hM.c.nn
  have nnR := hM.r.nn
  have HNL := Lib.hid hnL; have HNC := Lib.hid hnC; have HNR := Lib.hid hnR
  clear hnL hnC hnR
  have q1 := Int.lt_tmod_of_pos x (show (0 : Int) < 4000 by omega)
  have q2 := Int.tmod_lt_of_pos x (show (0 : Int) < 4000 by omega)
  obtain ⟨I, hIx, hI1, hI2⟩ : ∃ I : Int, x.tmod 4000 % 4000 = I ∧ 0 ≤ I ∧ I < 4000 := ⟨x.tmod 4000 % 4000, rfl, by omega, by omega⟩
  have H := Lib.hid h; clear h
  have H' := Lib.hid h'; clear h'
  obtain ⟨Wb, hWb⟩ : ∃ Wb, (W.alloc (.cells #[.int .i64 p, .slice aL nL cL, .slice aC nC cC, .slice aR nR cR] 26)).alloc (.cells #[.int .i64 p', .slice bL mL dL, .slice bC mC dC, .slice bR mR dR] 26) = Wb := ⟨_, rfl⟩
  obtain ⟨hx, hy, hs1, hs0, hbx⟩ := rows_boxes hWb
  have HX := Lib.hid hx; have HY := Lib.hid hy; have HS1 := Lib.hid hs1; have HS0 := Lib.hid hs0; have HBX := Lib.hid hbx
  clear hx hy hs1 hs0 hbx
  have HM := Lib.hid hM; clear hM
  have HM' := Lib.hid hM'; clear hM'
  have HE := Lib.hid hE; clear hE
  have HWB := Lib.hid hWb; clear hWb
  go_enter Tryd.func6, Tryd.ntmps6
  go_wp2_with fail
  rw [HWB.out]
  refine (awake07 _ R (HE.out.up HBX.out).sent.glob).mono ?_; rintro e w1 ⟨rfl, hb1⟩
  have HC1 := Lib.hid hb1
  have HB1 := Lib.hid (HBX.out.trans (hb1.mono HBX.out.size))
  clear hb1
  have x0 := (HC1.out.cell (p := ⟨W.heap.size, 0, none⟩) HS0.out).trans HX.out.1
  have x1 := (HC1.out.cell (p := ⟨W.heap.size, 1, none⟩) HS0.out).trans HX.out.2.1
  have x2 := (HC1.out.cell (p := ⟨W.heap.size, 2, none⟩) HS0.out).trans HX.out.2.2.1
  have x3 := (HC1.out.cell (p := ⟨W.heap.size, 3, none⟩) HS0.out).trans HX.out.2.2.2
  have y0 := (HC1.out.cell (p := ⟨W.heap.size + 1, 0, none⟩) HS1.out).trans HY.out.1
  have y1 := (HC1.out.cell (p := ⟨W.heap.size + 1, 1, none⟩) HS1.out).trans HY.out.2.1
  have y2 := (HC1.out.cell (p := ⟨W.heap.size + 1, 2, none⟩) HS1.out).trans HY.out.2.2.1
  have y3 := (HC1.out.cell (p := ⟨W.heap.size + 1, 3, none⟩) HS1.out).trans HY.out.2.2.2
  go_wp2_with fail
  refine (same_ok k p aL aC aR nL cL nC cC nR cR L C Q p' bL bC bR mL dL mC dC mR dR L' C' Q' _ R (HE.out.up HB1.out).sent.glob (HM.out.up HB1.out) H.out (HM'.out.up HB1.out) H'.out).mono ?_; rintro e w2 ⟨b, rfl, hbe, hb2⟩
  have HC2 := Lib.hid (HC1.out.trans (hb2.mono HC1.out.size))
  have HB2 := Lib.hid (bstep HB1.out hb2)
  have HBE := Lib.hid hbe
  clear hbe x0 x1 x2 x3 y0 y1 y2 y3
  clear hb2
  have x0 := (HC2.out.cell (p := ⟨W.heap.size, 0, none⟩) HS0.out).trans HX.out.1
  have x1 := (HC2.out.cell (p := ⟨W.heap.size, 1, none⟩) HS0.out).trans HX.out.2.1
  have x2 := (HC2.out.cell (p := ⟨W.heap.size, 2, none⟩) HS0.out).trans HX.out.2.2.1
  have x3 := (HC2.out.cell (p := ⟨W.heap.size, 3, none⟩) HS0.out).trans HX.out.2.2.2
  have y0 := (HC2.out.cell (p := ⟨W.heap.size + 1, 0, none⟩) HS1.out).trans HY.out.1
  have y1 := (HC2.out.cell (p := ⟨W.heap.size + 1, 1, none⟩) HS1.out).trans HY.out.2.1
  have y2 := (HC2.out.cell (p := ⟨W.heap.size + 1, 2, none⟩) HS1.out).trans HY.out.2.2.1
  have y3 := (HC2.out.cell (p := ⟨W.heap.size + 1, 3, none⟩) HS1.out).trans HY.out.2.2.2
  go_wp2_with fail
  refine (refSame_ok k p aL aC aR nL cL nC cC nR cR L C Q p' bL bC bR mL dL mC dC mR dR L' C' Q' _ (HM.out.up HB2.out) H.out (HM'.out.up HB2.out) H'.out).mono ?_; rintro e w3 ⟨b2, rfl, hbe, hb3⟩
  have HC3 := Lib.hid (HC2.out.trans (hb3.mono HC2.out.size))
  have HB3 := Lib.hid (bstep HB2.out hb3)
  obtain rfl : b = b2 := by rw [Bool.eq_iff_iff, HBE.out, hbe]
  clear hbe x0 x1 x2 x3 y0 y1 y2 y3
  clear hb3
  go_wp2_with fail
  refine (rawIs_same 0 .nilIface _ none _ R ((HE.out.up HB3.out).al _) rfl (errVal_none _)).mono ?_; rintro e w4 ⟨rfl, hb4⟩
  have hb34 := (balloc (bnil w3) (.cells #[.int .i64 0, .slice none 0 0, .slice none 0 0] 47)).trans (hb4.mono (by simp))
  have HC4 := Lib.hid (HC3.out.trans (hb34.mono HC3.out.size))
  have HB4 := Lib.hid (bstep HB3.out hb34)
  clear hb4 hb34
  have x0 := (HC4.out.cell (p := ⟨W.heap.size, 0, none⟩) HS0.out).trans HX.out.1
  have x1 := (HC4.out.cell (p := ⟨W.heap.size, 1, none⟩) HS0.out).trans HX.out.2.1
  have x2 := (HC4.out.cell (p := ⟨W.heap.size, 2, none⟩) HS0.out).trans HX.out.2.2.1
  have x3 := (HC4.out.cell (p := ⟨W.heap.size, 3, none⟩) HS0.out).trans HX.out.2.2.2
  have y0 := (HC4.out.cell (p := ⟨W.heap.size + 1, 0, none⟩) HS1.out).trans HY.out.1
  have y1 := (HC4.out.cell (p := ⟨W.heap.size + 1, 1, none⟩) HS1.out).trans HY.out.2.1
  have y2 := (HC4.out.cell (p := ⟨W.heap.size + 1, 2, none⟩) HS1.out).trans HY.out.2.2.1
  have y3 := (HC4.out.cell (p := ⟨W.heap.size + 1, 3, none⟩) HS1.out).trans HY.out.2.2.2
  go_wp2_with fail
  refine (same_ok k p' bL bC bR mL dL mC dC mR dR L' C' Q' p aL aC aR nL cL nC cC nR cR L C Q _ R (HE.out.up HB4.out).sent.glob (HM'.out.up HB4.out) H'.out (HM.out.up HB4.out) H.out).mono ?_; rintro e w5 ⟨b2, rfl, hbe, hb5⟩
  have HC5 := Lib.hid (HC4.out.trans (hb5.mono HC4.out.size))
  have HB5 := Lib.hid (bstep HB4.out hb5)
  obtain rfl : b = b2 := by rw [Bool.eq_iff_iff, HBE.out, hbe]; exact ⟨fun hh i => (hh i).symm, fun hh i => (hh i).symm⟩
  clear hbe x0 x1 x2 x3 y0 y1 y2 y3
  clear hb5
  have x0 := (HC5.out.cell (p := ⟨W.heap.size, 0, none⟩) HS0.out).trans HX.out.1
  have x1 := (HC5.out.cell (p := ⟨W.heap.size, 1, none⟩) HS0.out).trans HX.out.2.1
  have x2 := (HC5.out.cell (p := ⟨W.heap.size, 2, none⟩) HS0.out).trans HX.out.2.2.1
  have x3 := (HC5.out.cell (p := ⟨W.heap.size, 3, none⟩) HS0.out).trans HX.out.2.2.2
  go_wp2_with fail
  refine (same_ok k p aL aC aR nL cL nC cC nR cR L C Q p aL aC aR nL cL nC cC nR cR L C Q _ R (HE.out.up HB5.out).sent.glob (HM.out.up HB5.out) H.out (HM.out.up HB5.out) H.out).mono ?_; rintro e w6 ⟨b2, rfl, hbe, hb6⟩
  have HC6 := Lib.hid (HC5.out.trans (hb6.mono HC5.out.size))
  have HB6 := Lib.hid (bstep HB5.out hb6)
  obtain rfl : b2 = true := hbe.2 fun _ => rfl
  clear hbe x0 x1 x2 x3
  clear hb6
  have x0 := (HC6.out.cell (p := ⟨W.heap.size, 0, none⟩) HS0.out).trans HX.out.1
  have x1 := (HC6.out.cell (p := ⟨W.heap.size, 1, none⟩) HS0.out).trans HX.out.2.1
  have x2 := (HC6.out.cell (p := ⟨W.heap.size, 2, none⟩) HS0.out).trans HX.out.2.2.1
  have x3 := (HC6.out.cell (p := ⟨W.heap.size, 3, none⟩) HS0.out).trans HX.out.2.2.2
  go_wp2_with fail
  refine (cut_ok k p (I - 2000) 100 aL aC aR nL cL nC cC nR cR L C Q _ R (HE.out.up HB6.out).sent.glob (HM.out.up HB6.out) H.out (by omega) (by omega) (by decide)).mono ?_; rintro e w7 ⟨a7, c7, rfl, ho7, hb7⟩
  have HC7 := Lib.hid (HC6.out.trans (hb7.mono HC6.out.size))
  have HB7 := Lib.hid (bstep HB6.out hb7)
  have HU7 := Lib.hid ho7
  clear ho7 x0 x1 x2 x3
  clear hb7
  have y0 := (HC7.out.cell (p := ⟨W.heap.size + 1, 0, none⟩) HS1.out).trans HY.out.1
  have y1 := (HC7.out.cell (p := ⟨W.heap.size + 1, 1, none⟩) HS1.out).trans HY.out.2.1
  have y2 := (HC7.out.cell (p := ⟨W.heap.size + 1, 2, none⟩) HS1.out).trans HY.out.2.2.1
  have y3 := (HC7.out.cell (p := ⟨W.heap.size + 1, 3, none⟩) HS1.out).trans HY.out.2.2.2
  go_wp2_with fail
  refine (cut_ok k p' (I - 2000) 100 bL bC bR mL dL mC dC mR dR L' C' Q' _ R (HE.out.up HB7.out).sent.glob (HM'.out.up HB7.out) H'.out (by omega) (by omega) (by decide)).mono ?_; rintro e w8 ⟨a8, c8, rfl, ho8, hb8⟩
  have HU8 := Lib.hid (HU7.out.up hb8)
  have HC8 := Lib.hid (HC7.out.trans (hb8.mono HC7.out.size))
  have HB8 := Lib.hid (bstep HB7.out hb8)
  have HV8 := Lib.hid ho8
  clear ho8 y0 y1 y2 y3
  clear hb8
  have x0 := (HC8.out.cell (p := ⟨W.heap.size, 0, none⟩) HS0.out).trans HX.out.1
  have x1 := (HC8.out.cell (p := ⟨W.heap.size, 1, none⟩) HS0.out).trans HX.out.2.1
  have x2 := (HC8.out.cell (p := ⟨W.heap.size, 2, none⟩) HS0.out).trans HX.out.2.2.1
  have x3 := (HC8.out.cell (p := ⟨W.heap.size, 3, none⟩) HS0.out).trans HX.out.2.2.2
  have HVT : b = true → OwI w8 w7.heap.size a8 100 c8 (valsF (cellF p L C Q) (I - 2000) 100) := fun hb => by
    have hints : valsF (cellF p' L' C' Q') (I - 2000) 100 = valsF (cellF p L C Q) (I - 2000) 100 := valsF_congr fun j _ => (HBE.out.1 hb _).symm
    have := HV8.out
    rwa [hints] at this
  clear HV8 HBE
  cases b
  · clear HVT
    by_cases hs : p - (nL : Int) < -4096
    · go_wp2
      go_ret
      exact ⟨rfl, HB8.out⟩
    by_cases hs2 : 16384 < (nC : Int) + (nL : Int) + (nR : Int)
    · go_wp2
      go_ret
      exact ⟨rfl, HB8.out⟩
    obtain ⟨N, hN⟩ : ∃ N : Nat, nL + nC + nR = N := ⟨_, rfl⟩
    have hN1 : N ≤ 16384 := by omega
    have hs3 : -4096 ≤ p - (nL : Int) := by omega
    have HNN := Lib.hid hN
    clear hN
    have hMd := HM.out.up (Below.drew HB8.out)
    have HM0 := Lib.hid hMd
    have HSd : Hid (W.heap.size < w8.drew.heap.size) := Nat.lt_of_lt_of_le HS0.out HC8.out.size
    have y0 : w8.drew.cell? ⟨W.heap.size, 0, none⟩ = some (.int .i64 p) := x0
    have y1 : w8.drew.cell? ⟨W.heap.size, 1, none⟩ = some (.slice aL nL cL) := x1
    have y2 : w8.drew.cell? ⟨W.heap.size, 2, none⟩ = some (.slice aC nC cC) := x2
    have y3 : w8.drew.cell? ⟨W.heap.size, 3, none⟩ = some (.slice aR nR cR) := x3
    clear hMd
    go_wp2_with fail
    clear x0 x1 x2 x3
    go_region_held3 (fun w' => w'.cell? ⟨W.heap.size, 0, none⟩ = some (.int .i64 p) ∧ w'.cell? ⟨W.heap.size, 1, none⟩ = some (.slice aL nL cL) ∧ w'.cell? ⟨W.heap.size, 2, none⟩ = some (.slice aC nC cC) ∧ w'.cell? ⟨W.heap.size, 3, none⟩ = some (.slice aR nR cR))
      (first | with_reducible exact ⟨y0, y1, y2, y3⟩ | with_reducible exact ⟨y50, y51, y52, y53⟩ | with_reducible exact ⟨y60, y61, y62, y63⟩ | with_reducible exact ⟨y70, y71, y72, y73⟩ | go_keep)
      (first
        | (go_at_call 20; refine (copy_any aL nL cL L _ HM0.out.l.rk mL8 nnL).mono ?_; rintro e w5 ⟨a5, c5, rfl, ho5, hb5⟩; have y50 := (hb5.cell (p := ⟨W.heap.size, 0, none⟩) HSd.out).trans y0; have y51 := (hb5.cell (p := ⟨W.heap.size, 1, none⟩) HSd.out).trans y1; have y52 := (hb5.cell (p := ⟨W.heap.size, 2, none⟩) HSd.out).trans y2; have y53 := (hb5.cell (p := ⟨W.heap.size, 3, none⟩) HSd.out).trans y3; have HO5 := Lib.hid ho5; have HE5 := Lib.hid hb5; have HM5 := Lib.hid (HM0.out.up hb5); clear ho5 hb5)
        | ((fail_if_success (have q := HO6)); have q := HO5; refine stx (by rfl) _ _ _ (by rfl) w8.drew.heap.size et_int _ nL _ q.out (by rfl) aC nC cC _ (by rfl) nnC HM5.out.c.rk.2 (nums_one _ _) (by unfold maxLen; omega) (by omega) HE5.out.size ?_; clear q; intro a6 c6 w6 h6; have hE6 := HE5.out.trans h6.below; have y60 := (hE6.cell (p := ⟨W.heap.size, 0, none⟩) HSd.out).trans y0; have y61 := (hE6.cell (p := ⟨W.heap.size, 1, none⟩) HSd.out).trans y1; have y62 := (hE6.cell (p := ⟨W.heap.size, 2, none⟩) HSd.out).trans y2; have y63 := (hE6.cell (p := ⟨W.heap.size, 3, none⟩) HSd.out).trans y3; have HO6 := Lib.hid h6.own; have HM6 := Lib.hid (HM0.out.up hE6); have HE6 := Lib.hid hE6; clear h6 hE6)
        | (have q := HO6; refine stx (by rfl) _ _ _ (by rfl) w8.drew.heap.size et_int _ (nL + nC) _ q.out (by rfl) aR nR cR _ (by rfl) nnR HM6.out.r.rk.2 (nums_one _ _) (by unfold maxLen; omega) (by omega) HE6.out.size ?_; clear q; intro a9 c9 w9 h9; have hE9 := HE6.out.trans h9.below; have y70 := (hE9.cell (p := ⟨W.heap.size, 0, none⟩) HSd.out).trans y0; have y71 := (hE9.cell (p := ⟨W.heap.size, 1, none⟩) HSd.out).trans y1; have y72 := (hE9.cell (p := ⟨W.heap.size, 2, none⟩) HSd.out).trans y2; have y73 := (hE9.cell (p := ⟨W.heap.size, 3, none⟩) HSd.out).trans y3; have HO9 := Lib.hid h9.own; have HE9 := Lib.hid hE9; clear h9 hE9))
    all_goals
      have ho := HO9.out
      rw [← List.map_append, ← List.map_append, HNN.out] at ho
      rw [HNN.out]
      have HOW : Hid (OwI w9 w8.drew.heap.size a9 N c9 (L ++ C ++ Q)) := OwI.mk ho
      have HB9 := Lib.hid (bstep (Below.drew HB8.out) HE9.out)
      have HSn : Hid (W.heap.size < w9.drew.heap.size) := Nat.lt_of_lt_of_le HSd.out HE9.out.size
      have HMn := Lib.hid (HM.out.up (Below.drew HB9.out))
      have HMna := Lib.hid (HM.out.up (Below.drew (balloc HB9.out Z7)))
      have z0 : w9.drew.cell? ⟨W.heap.size, 0, none⟩ = some (.int .i64 p) := y70
      have z1 : w9.drew.cell? ⟨W.heap.size, 1, none⟩ = some (.slice aL nL cL) := y71
      have z2 : w9.drew.cell? ⟨W.heap.size, 2, none⟩ = some (.slice aC nC cC) := y72
      have z3 : w9.drew.cell? ⟨W.heap.size, 3, none⟩ = some (.slice aR nR cR) := y73
      clear ho y0 y1 y2 y3 y50 y51 y52 y53 y60 y61 y62 y63 y70 y71 y72 y73 HO5 HO6 HO9 HM5 HM6 HE5 HE6
      go_wp2_with fail
      have HLn := Lib.hid HMn.out.l.rk
      have hwr : IntKind.i64.wrap (p - (nL : Int)) = p - (nL : Int) := IntWalk.i64_in _ (by omega)
      have HLna := Lib.hid HMna.out.l.rk
      go_region_held3 (fun w' => w'.cell? ⟨W.heap.size, 0, none⟩ = some (.int .i64 p) ∧ w'.cell? ⟨W.heap.size, 1, none⟩ = some (.slice aL nL cL) ∧ w'.cell? ⟨W.heap.size, 3, none⟩ = some (.slice aR nR cR))
        (first | with_reducible exact ⟨z110, z111, z113⟩ | with_reducible exact ⟨cell_al _ z110, cell_al _ z111, cell_al _ z113⟩ | with_reducible exact ⟨z100, z101, z103⟩ | with_reducible exact ⟨cell_al _ z100, cell_al _ z101, cell_al _ z103⟩ | with_reducible exact ⟨z0, z1, z3⟩ | with_reducible exact ⟨cell_al _ z0, cell_al _ z1, cell_al _ z3⟩ | with_reducible exact ⟨cell_set4 z110 hn9, cell_set4 z111 hn9, cell_set4 z113 hn9⟩ | with_reducible exact ⟨cell_set4 z110 hn10, cell_set4 z111 hn10, cell_set4 z113 hn10⟩ | go_keep)
        (first
          | (go_at_call 20; have q := HD10; clear q; (fail_if_success (have q := HD11)); refine (copy_any aR nR cR Q _ ?_ mR8 nnR).mono ?_; (first | with_reducible exact HR10.out | with_reducible exact HR10a.out); rintro e w11 ⟨a11, c11, rfl, ho11, hb11⟩; obtain ⟨hd11, hl11, hz11⟩ := below_mid (w := w10) hb11 (by first | exact Or.inl (by with_reducible rfl) | exact Or.inr (by with_reducible rfl) | exact Or.inr (drew_alloc7 _)); have z110 := (hd11.cell (p := ⟨W.heap.size, 0, none⟩) HS10.out).trans z100; have z111 := (hd11.cell (p := ⟨W.heap.size, 1, none⟩) HS10.out).trans z101; have z113 := (hd11.cell (p := ⟨W.heap.size, 3, none⟩) HS10.out).trans z103; have HO11 := Lib.hid (OwI.mk ho11); (try (have hzz := HZ10; clear hzz; have HZ11 := Lib.hid (And.intro ((hd11.block _ HZ10.out.2).trans HZ10.out.1) (Nat.lt_of_lt_of_le HZ10.out.2 hd11.size)))); (try (with_reducible have HZB := Lib.hid (hz11 rfl))); (try (have hzz := HZ11; obtain ⟨⟨c0, c1', c2', c3'⟩, f0, f1, f2, f3⟩ := z_cells hzz.out.1; clear hzz)); (try (have hzz := HZB; obtain ⟨⟨c0, c1', c2', c3'⟩, f0, f1, f2, f3⟩ := z_cells hzz.out.1; clear hzz)); have HD11 := Lib.hid hd11; have HL11 := Lib.hid hl11; have HB11 := Lib.hid (bstep HB10.out hd11); have hn9 : W.heap.size ≠ w9.heap.size := Nat.ne_of_lt HSn.out; have hn10 : W.heap.size ≠ w10.heap.size := Nat.ne_of_lt HS10.out; clear ho11 hb11 hd11 hl11 hz11)
          | (go_at_call 20; (fail_if_success (have q := HD10)); refine (copy_any aL nL cL L _ ?_ mL8 nnL).mono ?_; (first | with_reducible exact HLn.out | with_reducible exact HLna.out); rintro e w10 ⟨a10, c10, rfl, ho10, hb10⟩; obtain ⟨hd10, hl10, hz10⟩ := below_mid (w := w9.drew) hb10 (by first | exact Or.inl (by with_reducible rfl) | exact Or.inr (by with_reducible rfl) | exact Or.inr (drew_alloc7 _)); have z100 := (hd10.cell (p := ⟨W.heap.size, 0, none⟩) HSn.out).trans z0; have z101 := (hd10.cell (p := ⟨W.heap.size, 1, none⟩) HSn.out).trans z1; have z103 := (hd10.cell (p := ⟨W.heap.size, 3, none⟩) HSn.out).trans z3; have HS10 := Lib.hid (Nat.lt_of_lt_of_le HSn.out hd10.size); have HO10 := Lib.hid (OwI.mk ho10); (try ((with_reducible have hzz := hz10 rfl); have HZ10 : Hid (w10.heap[w9.heap.size]? = some Z7 ∧ w9.heap.size < w10.heap.size) := hzz; clear hzz)); (try ((with_reducible have hzz := hz10 (drew_alloc7 _)); have HZ10 : Hid (w10.heap[w9.heap.size]? = some Z7 ∧ w9.heap.size < w10.heap.size) := hzz; clear hzz)); have HD10 := Lib.hid hd10; have hB10 := bstep (Below.drew HB9.out) hd10; have HR10 := Lib.hid (HM.out.up hB10).r.rk; have HR10a := Lib.hid (HM.out.up (balloc hB10 Z7)).r.rk; have HB10 := Lib.hid hB10; clear ho10 hb10 hd10 hl10 hz10 hB10))
      all_goals
        clear hwr
        have hd911 : Below w9.heap.size w9 w11 := (Below.drew (bnil w9)).trans ((bstep HD10.out HD11.out).mono (Nat.le_refl _))
        have hRM : RowM w11 a10 nL c10 L a9 N c9 (L ++ C ++ Q) a11 nR c11 Q := ⟨(HO10.out.up HD11.out).sl mL8, (HOW.out.up hd911).sl (by omega), HO11.out.sl mR8⟩
        have hl10 : w9.heap.size ≤ w10.heap.size := HD10.out.size
        have hn9' := HOW.out.notin (g := w9.heap.size) (Or.inr (Nat.le_refl _))
        have hn9'' := HOW.out.notin (g := w10.heap.size) (Or.inr hl10)
        first
          | (have q := HZ11; clear q; obtain ⟨wx, ex, hx⟩ := invar_set (g := w9.heap.size) (p := p - (nL : Int)) HZ11.out.1 (Nat.le_refl _) hd911 hRM (HO10.out.notin (by simp)) hn9' (HO11.out.notin (Or.inl (Nat.lt_of_lt_of_le HZ10.out.2 HL11.out))); rw [ex]; obtain ⟨g, hg⟩ : ∃ g, w9.heap.size = g := ⟨_, rfl⟩; rw [hg] at hx)
          | (have q := HZB; clear q; obtain ⟨wx, ex, hx⟩ := invar_set (g := w10.heap.size) (p := p - (nL : Int)) HZB.out.1 hl10 hd911 hRM (HO10.out.notin (Or.inr (Nat.le_refl _))) hn9'' (HO11.out.notin (by simp)); rw [ex]; obtain ⟨g, hg⟩ : ∃ g, w10.heap.size = g := ⟨_, rfl⟩; rw [hg] at hx)
          | (obtain ⟨wx, ex, hx⟩ := invar_alloc (p := p - (nL : Int)) hd911 hRM; rw [ex]; obtain ⟨g, hg⟩ : ∃ g, w11.heap.size = g := ⟨_, rfl⟩; rw [hg] at hx)
        have hbx := hx.bel
        have x0 := (hbx.cell (p := ⟨W.heap.size, 0, none⟩) HSn.out).trans z0
        have x1 := (hbx.cell (p := ⟨W.heap.size, 1, none⟩) HSn.out).trans z1
        have x2 := (hbx.cell (p := ⟨W.heap.size, 2, none⟩) HSn.out).trans z2
        have x3 := (hbx.cell (p := ⟨W.heap.size, 3, none⟩) HSn.out).trans z3
        have u0 := hx.c0
        have u1 := hx.c1
        have u2 := hx.c2
        have u3 := hx.c3
        have HMX := Lib.hid hx.m
        have HBX9 := Lib.hid (bstep HB9.out hbx)
        clear ex hx hbx hd911 hRM hl10 hn9' hn9'' hn9 hn10 z0 z1 z2 z3 z100 z101 z103 z110 z111 z113 HMn HMna HLn HLna HR10 HR10a HO10 HO11 HD10 HD11 HB10 HB11 HL11
        go_wp2_with fail
        rw [hg]
        clear hg
        refine (same_ok k p aL aC aR nL cL nC cC nR cR L C Q (p - (nL : Int)) a10 a9 a11 nL c10 N c9 nR c11 L (L ++ C ++ Q) Q _ R (HE.out.up HBX9.out).sent.glob (HM.out.up HBX9.out) H.out HMX.out (H.out.wide nL N HNL.out hs3 (by rw [← HNN.out, HNL.out, HNC.out, HNR.out]) hN1)).mono ?_; rintro e w13 ⟨b3, rfl, hbe, hb13⟩
        obtain rfl : b3 = true := hbe.2 fun i => by
          have := cellF_wide (p := p) (C := C) H.out.l1 H.out.r1 i
          rwa [← HNL.out] at this
        clear hbe
        go_wp2
        go_ret
        exact ⟨rfl, bstep HBX9.out hb13⟩
  · have HV := Lib.hid (HVT rfl)
    clear HVT
    go_wp2_with fail
    refine (ints_eqB a7 a8 100 100 c7 c8 _ _ HU8.out.rk HV.out.rk (by rw [valsF_len]; decide)).mono ?_; rintro e wz ⟨rfl, hbz⟩
    have HCZ := Lib.hid (HC8.out.trans (hbz.mono HC8.out.size))
    have HBZ := Lib.hid (bstep HB8.out hbz)
    clear hbz x0 x1 x2 x3
    have x0 := (HCZ.out.cell (p := ⟨W.heap.size, 0, none⟩) HS0.out).trans HX.out.1
    have x1 := (HCZ.out.cell (p := ⟨W.heap.size, 1, none⟩) HS0.out).trans HX.out.2.1
    have x2 := (HCZ.out.cell (p := ⟨W.heap.size, 2, none⟩) HS0.out).trans HX.out.2.2.1
    have x3 := (HCZ.out.cell (p := ⟨W.heap.size, 3, none⟩) HS0.out).trans HX.out.2.2.2
    by_cases hs : p - (nL : Int) < -4096
    · go_wp2
      go_ret
      exact ⟨rfl, HBZ.out⟩
    by_cases hs2 : 16384 < (nC : Int) + (nL : Int) + (nR : Int)
    · go_wp2
      go_ret
      exact ⟨rfl, HBZ.out⟩
    obtain ⟨N, hN⟩ : ∃ N : Nat, nL + nC + nR = N := ⟨_, rfl⟩
    have hN1 : N ≤ 16384 := by omega
    have hs3 : -4096 ≤ p - (nL : Int) := by omega
    have HNN := Lib.hid hN
    clear hN
    have hMd := HM.out.up (Below.drew HBZ.out)
    have HM0 := Lib.hid hMd
    have HSd : Hid (W.heap.size < wz.drew.heap.size) := Nat.lt_of_lt_of_le HS0.out HCZ.out.size
    have y0 : wz.drew.cell? ⟨W.heap.size, 0, none⟩ = some (.int .i64 p) := x0
    have y1 : wz.drew.cell? ⟨W.heap.size, 1, none⟩ = some (.slice aL nL cL) := x1
    have y2 : wz.drew.cell? ⟨W.heap.size, 2, none⟩ = some (.slice aC nC cC) := x2
    have y3 : wz.drew.cell? ⟨W.heap.size, 3, none⟩ = some (.slice aR nR cR) := x3
    clear hMd
    go_wp2_with fail
    clear x0 x1 x2 x3
    go_region_held3 (fun w' => w'.cell? ⟨W.heap.size, 0, none⟩ = some (.int .i64 p) ∧ w'.cell? ⟨W.heap.size, 1, none⟩ = some (.slice aL nL cL) ∧ w'.cell? ⟨W.heap.size, 2, none⟩ = some (.slice aC nC cC) ∧ w'.cell? ⟨W.heap.size, 3, none⟩ = some (.slice aR nR cR))
      (first | with_reducible exact ⟨y0, y1, y2, y3⟩ | with_reducible exact ⟨y50, y51, y52, y53⟩ | with_reducible exact ⟨y60, y61, y62, y63⟩ | with_reducible exact ⟨y70, y71, y72, y73⟩ | go_keep)
      (first
        | (go_at_call 20; refine (copy_any aL nL cL L _ HM0.out.l.rk mL8 nnL).mono ?_; rintro e w5 ⟨a5, c5, rfl, ho5, hb5⟩; have y50 := (hb5.cell (p := ⟨W.heap.size, 0, none⟩) HSd.out).trans y0; have y51 := (hb5.cell (p := ⟨W.heap.size, 1, none⟩) HSd.out).trans y1; have y52 := (hb5.cell (p := ⟨W.heap.size, 2, none⟩) HSd.out).trans y2; have y53 := (hb5.cell (p := ⟨W.heap.size, 3, none⟩) HSd.out).trans y3; have HO5 := Lib.hid ho5; have HE5 := Lib.hid hb5; have HM5 := Lib.hid (HM0.out.up hb5); clear ho5 hb5)
        | ((fail_if_success (have q := HO6)); have q := HO5; refine stx (by rfl) _ _ _ (by rfl) wz.drew.heap.size et_int _ nL _ q.out (by rfl) aC nC cC _ (by rfl) nnC HM5.out.c.rk.2 (nums_one _ _) (by unfold maxLen; omega) (by omega) HE5.out.size ?_; clear q; intro a6 c6 w6 h6; have hE6 := HE5.out.trans h6.below; have y60 := (hE6.cell (p := ⟨W.heap.size, 0, none⟩) HSd.out).trans y0; have y61 := (hE6.cell (p := ⟨W.heap.size, 1, none⟩) HSd.out).trans y1; have y62 := (hE6.cell (p := ⟨W.heap.size, 2, none⟩) HSd.out).trans y2; have y63 := (hE6.cell (p := ⟨W.heap.size, 3, none⟩) HSd.out).trans y3; have HO6 := Lib.hid h6.own; have HM6 := Lib.hid (HM0.out.up hE6); have HE6 := Lib.hid hE6; clear h6 hE6)
        | (have q := HO6; refine stx (by rfl) _ _ _ (by rfl) wz.drew.heap.size et_int _ (nL + nC) _ q.out (by rfl) aR nR cR _ (by rfl) nnR HM6.out.r.rk.2 (nums_one _ _) (by unfold maxLen; omega) (by omega) HE6.out.size ?_; clear q; intro a9 c9 w9 h9; have hE9 := HE6.out.trans h9.below; have y70 := (hE9.cell (p := ⟨W.heap.size, 0, none⟩) HSd.out).trans y0; have y71 := (hE9.cell (p := ⟨W.heap.size, 1, none⟩) HSd.out).trans y1; have y72 := (hE9.cell (p := ⟨W.heap.size, 2, none⟩) HSd.out).trans y2; have y73 := (hE9.cell (p := ⟨W.heap.size, 3, none⟩) HSd.out).trans y3; have HO9 := Lib.hid h9.own; have HE9 := Lib.hid hE9; clear h9 hE9))
    all_goals
      have ho := HO9.out
      rw [← List.map_append, ← List.map_append, HNN.out] at ho
      rw [HNN.out]
      have HOW : Hid (OwI w9 wz.drew.heap.size a9 N c9 (L ++ C ++ Q)) := OwI.mk ho
      have HB9 := Lib.hid (bstep (Below.drew HBZ.out) HE9.out)
      have HSn : Hid (W.heap.size < w9.drew.heap.size) := Nat.lt_of_lt_of_le HSd.out HE9.out.size
      have HMn := Lib.hid (HM.out.up (Below.drew HB9.out))
      have HMna := Lib.hid (HM.out.up (Below.drew (balloc HB9.out Z7)))
      have z0 : w9.drew.cell? ⟨W.heap.size, 0, none⟩ = some (.int .i64 p) := y70
      have z1 : w9.drew.cell? ⟨W.heap.size, 1, none⟩ = some (.slice aL nL cL) := y71
      have z2 : w9.drew.cell? ⟨W.heap.size, 2, none⟩ = some (.slice aC nC cC) := y72
      have z3 : w9.drew.cell? ⟨W.heap.size, 3, none⟩ = some (.slice aR nR cR) := y73
      clear ho y0 y1 y2 y3 y50 y51 y52 y53 y60 y61 y62 y63 y70 y71 y72 y73 HO5 HO6 HO9 HM5 HM6 HE5 HE6
      go_wp2_with fail
      have HLn := Lib.hid HMn.out.l.rk
      have hwr : IntKind.i64.wrap (p - (nL : Int)) = p - (nL : Int) := IntWalk.i64_in _ (by omega)
      have HLna := Lib.hid HMna.out.l.rk
      go_region_held3 (fun w' => w'.cell? ⟨W.heap.size, 0, none⟩ = some (.int .i64 p) ∧ w'.cell? ⟨W.heap.size, 1, none⟩ = some (.slice aL nL cL) ∧ w'.cell? ⟨W.heap.size, 3, none⟩ = some (.slice aR nR cR))
        (first | with_reducible exact ⟨z110, z111, z113⟩ | with_reducible exact ⟨cell_al _ z110, cell_al _ z111, cell_al _ z113⟩ | with_reducible exact ⟨z100, z101, z103⟩ | with_reducible exact ⟨cell_al _ z100, cell_al _ z101, cell_al _ z103⟩ | with_reducible exact ⟨z0, z1, z3⟩ | with_reducible exact ⟨cell_al _ z0, cell_al _ z1, cell_al _ z3⟩ | with_reducible exact ⟨cell_set4 z110 hn9, cell_set4 z111 hn9, cell_set4 z113 hn9⟩ | with_reducible exact ⟨cell_set4 z110 hn10, cell_set4 z111 hn10, cell_set4 z113 hn10⟩ | go_keep)
        (first
          | (go_at_call 20; have q := HD10; clear q; (fail_if_success (have q := HD11)); refine (copy_any aR nR cR Q _ ?_ mR8 nnR).mono ?_; (first | with_reducible exact HR10.out | with_reducible exact HR10a.out); rintro e w11 ⟨a11, c11, rfl, ho11, hb11⟩; obtain ⟨hd11, hl11, hz11⟩ := below_mid (w := w10) hb11 (by first | exact Or.inl (by with_reducible rfl) | exact Or.inr (by with_reducible rfl) | exact Or.inr (drew_alloc7 _)); have z110 := (hd11.cell (p := ⟨W.heap.size, 0, none⟩) HS10.out).trans z100; have z111 := (hd11.cell (p := ⟨W.heap.size, 1, none⟩) HS10.out).trans z101; have z113 := (hd11.cell (p := ⟨W.heap.size, 3, none⟩) HS10.out).trans z103; have HO11 := Lib.hid (OwI.mk ho11); (try (have hzz := HZ10; clear hzz; have HZ11 := Lib.hid (And.intro ((hd11.block _ HZ10.out.2).trans HZ10.out.1) (Nat.lt_of_lt_of_le HZ10.out.2 hd11.size)))); (try (with_reducible have HZB := Lib.hid (hz11 rfl))); (try (have hzz := HZ11; obtain ⟨⟨c0, c1', c2', c3'⟩, f0, f1, f2, f3⟩ := z_cells hzz.out.1; clear hzz)); (try (have hzz := HZB; obtain ⟨⟨c0, c1', c2', c3'⟩, f0, f1, f2, f3⟩ := z_cells hzz.out.1; clear hzz)); have HD11 := Lib.hid hd11; have HL11 := Lib.hid hl11; have HB11 := Lib.hid (bstep HB10.out hd11); have hn9 : W.heap.size ≠ w9.heap.size := Nat.ne_of_lt HSn.out; have hn10 : W.heap.size ≠ w10.heap.size := Nat.ne_of_lt HS10.out; clear ho11 hb11 hd11 hl11 hz11)
          | (go_at_call 20; (fail_if_success (have q := HD10)); refine (copy_any aL nL cL L _ ?_ mL8 nnL).mono ?_; (first | with_reducible exact HLn.out | with_reducible exact HLna.out); rintro e w10 ⟨a10, c10, rfl, ho10, hb10⟩; obtain ⟨hd10, hl10, hz10⟩ := below_mid (w := w9.drew) hb10 (by first | exact Or.inl (by with_reducible rfl) | exact Or.inr (by with_reducible rfl) | exact Or.inr (drew_alloc7 _)); have z100 := (hd10.cell (p := ⟨W.heap.size, 0, none⟩) HSn.out).trans z0; have z101 := (hd10.cell (p := ⟨W.heap.size, 1, none⟩) HSn.out).trans z1; have z103 := (hd10.cell (p := ⟨W.heap.size, 3, none⟩) HSn.out).trans z3; have HS10 := Lib.hid (Nat.lt_of_lt_of_le HSn.out hd10.size); have HO10 := Lib.hid (OwI.mk ho10); (try ((with_reducible have hzz := hz10 rfl); have HZ10 : Hid (w10.heap[w9.heap.size]? = some Z7 ∧ w9.heap.size < w10.heap.size) := hzz; clear hzz)); (try ((with_reducible have hzz := hz10 (drew_alloc7 _)); have HZ10 : Hid (w10.heap[w9.heap.size]? = some Z7 ∧ w9.heap.size < w10.heap.size) := hzz; clear hzz)); have HD10 := Lib.hid hd10; have hB10 := bstep (Below.drew HB9.out) hd10; have HR10 := Lib.hid (HM.out.up hB10).r.rk; have HR10a := Lib.hid (HM.out.up (balloc hB10 Z7)).r.rk; have HB10 := Lib.hid hB10; clear ho10 hb10 hd10 hl10 hz10 hB10))
      all_goals
        clear hwr
        have hd911 : Below w9.heap.size w9 w11 := (Below.drew (bnil w9)).trans ((bstep HD10.out HD11.out).mono (Nat.le_refl _))
        have hRM : RowM w11 a10 nL c10 L a9 N c9 (L ++ C ++ Q) a11 nR c11 Q := ⟨(HO10.out.up HD11.out).sl mL8, (HOW.out.up hd911).sl (by omega), HO11.out.sl mR8⟩
        have hl10 : w9.heap.size ≤ w10.heap.size := HD10.out.size
        have hn9' := HOW.out.notin (g := w9.heap.size) (Or.inr (Nat.le_refl _))
        have hn9'' := HOW.out.notin (g := w10.heap.size) (Or.inr hl10)
        first
          | (have q := HZ11; clear q; obtain ⟨wx, ex, hx⟩ := invar_set (g := w9.heap.size) (p := p - (nL : Int)) HZ11.out.1 (Nat.le_refl _) hd911 hRM (HO10.out.notin (by simp)) hn9' (HO11.out.notin (Or.inl (Nat.lt_of_lt_of_le HZ10.out.2 HL11.out))); rw [ex]; obtain ⟨g, hg⟩ : ∃ g, w9.heap.size = g := ⟨_, rfl⟩; rw [hg] at hx)
          | (have q := HZB; clear q; obtain ⟨wx, ex, hx⟩ := invar_set (g := w10.heap.size) (p := p - (nL : Int)) HZB.out.1 hl10 hd911 hRM (HO10.out.notin (Or.inr (Nat.le_refl _))) hn9'' (HO11.out.notin (by simp)); rw [ex]; obtain ⟨g, hg⟩ : ∃ g, w10.heap.size = g := ⟨_, rfl⟩; rw [hg] at hx)
          | (obtain ⟨wx, ex, hx⟩ := invar_alloc (p := p - (nL : Int)) hd911 hRM; rw [ex]; obtain ⟨g, hg⟩ : ∃ g, w11.heap.size = g := ⟨_, rfl⟩; rw [hg] at hx)
        have hbx := hx.bel
        have x0 := (hbx.cell (p := ⟨W.heap.size, 0, none⟩) HSn.out).trans z0
        have x1 := (hbx.cell (p := ⟨W.heap.size, 1, none⟩) HSn.out).trans z1
        have x2 := (hbx.cell (p := ⟨W.heap.size, 2, none⟩) HSn.out).trans z2
        have x3 := (hbx.cell (p := ⟨W.heap.size, 3, none⟩) HSn.out).trans z3
        have u0 := hx.c0
        have u1 := hx.c1
        have u2 := hx.c2
        have u3 := hx.c3
        have HMX := Lib.hid hx.m
        have HBX9 := Lib.hid (bstep HB9.out hbx)
        clear ex hx hbx hd911 hRM hl10 hn9' hn9'' hn9 hn10 z0 z1 z2 z3 z100 z101 z103 z110 z111 z113 HMn HMna HLn HLna HR10 HR10a HO10 HO11 HD10 HD11 HB10 HB11 HL11
        go_wp2_with fail
        rw [hg]
        clear hg
        refine (same_ok k p aL aC aR nL cL nC cC nR cR L C Q (p - (nL : Int)) a10 a9 a11 nL c10 N c9 nR c11 L (L ++ C ++ Q) Q _ R (HE.out.up HBX9.out).sent.glob (HM.out.up HBX9.out) H.out HMX.out (H.out.wide nL N HNL.out hs3 (by rw [← HNN.out, HNL.out, HNC.out, HNR.out]) hN1)).mono ?_; rintro e w13 ⟨b3, rfl, hbe, hb13⟩
        obtain rfl : b3 = true := hbe.2 fun i => by
          have := cellF_wide (p := p) (C := C) H.out.l1 H.out.r1 i
          rwa [← HNL.out] at this
        clear hbe
        go_wp2
        go_ret
        exact ⟨rfl, bstep HBX9.out hb13⟩

theorem rowsame_row (k p : Int) (aL : Option Addr) (nL cL : Nat) (L : List Int) (aC : Option Addr) (nC cC : Nat) (C : List Int) (aR : Option Addr) (nR cR : Nat) (Q : List Int) (p' : Int) (bL : Option Addr) (mL dL : Nat) (L' : List Int) (bC : Option Addr) (mC dC : Nat) (C' : List Int) (bR : Option Addr) (mR dR : Nat) (Q' : List Int) (x : Int) (W : World) (R : Nat → Addr) (hE : Env W R)
    (hM : RowM W aL nL cL L aC nC cC C aR nR cR Q) (hM' : RowM W bL mL dL L' bC mC dC C' bR mR dR Q') :
    Calls Tryd.prog 6 #[.int .i64 k, rowV p aL nL cL aC nC cC aR nR cR, rowV p' bL mL dL bC mC dC bR mR dR, .int .i64 x] W (TrueBelow W) := by
  cases h : rowErr k p L C Q with
  | some y =>
    obtain ⟨a, n⟩ := y
    exact rowsame_err k p aL aC aR nL cL nC cC nR cR L C Q p' bL bC bR mL dL mC dC mR dR L' C' Q' x W R hE hM hM' a n (.inl h)
  | none =>
    cases h' : rowErr k p' L' C' Q' with
    | some y =>
      obtain ⟨a, n⟩ := y
      exact rowsame_err k p aL aC aR nL cL nC cC nR cR L C Q p' bL bC bR mL dL mC dC mR dR L' C' Q' x W R hE hM hM' a n (.inr ⟨h, h'⟩)
    | none =>
      obtain ⟨kn, rfl, hr⟩ := rowErr_none h
      obtain ⟨kn', e, hr'⟩ := rowErr_none h'
      obtain rfl : kn = kn' := by omega
      exact rowsame_ok kn p aL aC aR nL cL nC cC nR cR L C Q p' bL bC bR mL dL mC dC mR dR L' C' Q' x W R hE hM hM' hr hr'
end Go.Proofs.YtkgalgmjdfhhbaaDoor
