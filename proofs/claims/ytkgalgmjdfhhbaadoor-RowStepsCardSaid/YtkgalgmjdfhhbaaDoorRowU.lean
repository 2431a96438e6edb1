/- The contracts of edenref07.after, Image. -/
import Derived.Test.YtkgalgmjdfhhbaaDoorRuleV
import Derived.Test.YtkgalgmjdfhhbaaDoorRowH
import Derived.Test.YtkgalgmjdfhhbaaDoorRowT
import Derived.Test.YtkgalgmjdfhhbaaDoorErrH
import Derived.Test.YtkgalgmjdfhhbaaDoorBox7
import Derived.Deep.RegionHeld3
namespace Go.Proofs.YtkgalgmjdfhhbaaDoor
open Go.RowKit
set_option linter.unusedVariables false
set_option maxRecDepth 100000

theorem al00 {w : World} {a : Addr} {v : Value} {o : Obj} (h : w.cell? a = some v) : (w.alloc o).cell? a = some v := (balloc (bnil w) o).cell (World.block_lt_of_cell? _ _ h) |>.trans h
set_option maxHeartbeats 8000000 in
theorem refAfter_any (k r : Nat) (aT : Option Addr) (nT cT : Nat) (tb : List Int) (p : Int) (aL aC aR : Option Addr) (nL cL nC cC nR cR : Nat) (L C Q : List Int) (q : Int) (m : Nat) (W : World) (hT : RK .i64 W aT nT tb) (hI : IsRule k r tb) (hM : RowM W aL nL cL L aC nC cC C aR nR cR Q) (h : IsRow k p L C Q) (hq1 : -1000000 ≤ q) (hq2 : q ≤ 1000000) (hm : m ≤ 100000) :
    Calls Tryd.prog 70 #[ruleV k r aT nT cT, rowV p aL nL cL aC nC cC aR nR cR, .int .i64 q, .int .i64 m] W fun e w' => ∃ a' c', e = .returned (.slice a' m c') ∧ OwI w' W.heap.size a' m c' (valsF (img k r tb (cellF p L C Q)) q m) ∧ Below W.heap.size W w' := by
  have r3 := hI.r3
  have hp1 := h.p1
  have hp2 := h.p2
  have hl : 0 < nL := by rw [hM.l.rk.len]; exact h.l1
  have hr : 0 < nR := by rw [hM.r.rk.len]; exact h.r1
  have hcr := h.cell
  obtain ⟨F, hF⟩ : ∃ F, cellF p L C Q = F := ⟨_, rfl⟩
  have HF := Lib.hid hF
  rw [hF] at hcr ⊢
  have HCR := Lib.hid hcr
  clear hF hcr h
  obtain ⟨z, hz, hzm⟩ : ∃ z : Nat, (m : Int) + 2 * (r : Int) = (z : Int) ∧ z - 2 * r = m := ⟨m + 2 * r, by omega, by omega⟩
  have hz5 : z ≤ 200000 := by omega
  have HZM := Lib.hid hzm
  clear hzm
  obtain ⟨y, hy⟩ : ∃ y : Int, q - (r : Int) = y := ⟨_, rfl⟩
  have hy1 : -2000000 ≤ y := by omega
  have hy2 : y ≤ 2000000 := by omega
  have hyr : y + (r : Int) = q := by omega
  have HYR := Lib.hid hyr
  clear hyr
  obtain ⟨Wb, hWb⟩ : ∃ Wb, (W.alloc (.cells #[.int .i64 k, .int .i64 r, .slice aT nT cT] 24)).alloc (.cells #[.int .i64 p, .slice aL nL cL, .slice aC nC cC, .slice aR nR cR] 26) = Wb := ⟨_, rfl⟩
  have HX : Hid (Wb.cell? ⟨W.heap.size, 0, none⟩ = some (.int .i64 k) ∧ Wb.cell? ⟨W.heap.size, 1, none⟩ = some (.int .i64 r) ∧ Wb.cell? ⟨W.heap.size, 2, none⟩ = some (.slice aT nT cT) ∧ Wb.cell? ⟨W.heap.size + 1, 0, none⟩ = some (.int .i64 p) ∧ Wb.cell? ⟨W.heap.size + 1, 1, none⟩ = some (.slice aL nL cL) ∧ Wb.cell? ⟨W.heap.size + 1, 2, none⟩ = some (.slice aC nC cC) ∧ Wb.cell? ⟨W.heap.size + 1, 3, none⟩ = some (.slice aR nR cR)) := by rw [← hWb]; exact ⟨al00 (by simp), al00 (by simp), al00 (by simp), by simp, by simp, by simp, by simp⟩
  have HBX : Hid (Below W.heap.size W Wb) := by rw [← hWb]; exact balloc (balloc (bnil W) _) _
  have HT := Lib.hid (hT.up (Below.drew HBX.out)); clear hT
  have HM := Lib.hid (hM.up (Below.drew HBX.out)); clear hM
  have HI := Lib.hid hI; clear hI
  have HWB := Lib.hid hWb; clear hWb
  have HS0 : Hid (Wb.drew.cell? ⟨W.heap.size, 0, none⟩ = some (.int .i64 k) ∧ Wb.drew.cell? ⟨W.heap.size, 1, none⟩ = some (.int .i64 r) ∧ Wb.drew.cell? ⟨W.heap.size, 2, none⟩ = some (.slice aT nT cT) ∧ Wb.drew.cell? ⟨W.heap.size + 1, 0, none⟩ = some (.int .i64 p) ∧ Wb.drew.cell? ⟨W.heap.size + 1, 1, none⟩ = some (.slice aL nL cL) ∧ Wb.drew.cell? ⟨W.heap.size + 1, 2, none⟩ = some (.slice aC nC cC) ∧ Wb.drew.cell? ⟨W.heap.size + 1, 3, none⟩ = some (.slice aR nR cR)) := HX.out
  go_enter Tryd.func70, Tryd.ntmps70
  go_wp2_with fail
  rw [HWB.out]
  have m1 : IntKind.i64.wrap (2 * (r : Int)) = 2 * (r : Int) := IntWalk.i64_in _ (by omega)
  have m2 : IntKind.i64.wrap (z : Int) = (z : Int) := IntWalk.i64_in _ (by omega)
  have m3 : IntKind.i64.wrap y = y := IntWalk.i64_in _ (by omega)
  go_region_held3 (fun w' => w'.cell? ⟨W.heap.size, 0, none⟩ = some (.int .i64 k) ∧ w'.cell? ⟨W.heap.size, 1, none⟩ = some (.int .i64 r) ∧ w'.cell? ⟨W.heap.size, 2, none⟩ = some (.slice aT nT cT) ∧ w'.cell? ⟨W.heap.size + 1, 0, none⟩ = some (.int .i64 p) ∧ w'.cell? ⟨W.heap.size + 1, 1, none⟩ = some (.slice aL nL cL) ∧ w'.cell? ⟨W.heap.size + 1, 2, none⟩ = some (.slice aC nC cC) ∧ w'.cell? ⟨W.heap.size + 1, 3, none⟩ = some (.slice aR nR cR))
    (first | with_reducible exact HS6.out | with_reducible exact HS5.out | with_reducible exact HS0.out | go_keep)
    (first
      | (go_at_call 52; (with_reducible refine (refPiece_any p y z aL aC aR nL cL nC cC nR cR L C Q _ HM.out hl hr (by omega) (by omega) (by omega) (by omega) (by omega)).mono ?_); rintro e w5 ⟨a5, c5, rfl, ho5, hb5⟩; rw [HF.out] at ho5; have HO5 := Lib.hid ho5; have HT5 := Lib.hid (HT.out.up hb5); have HS5 := Lib.hid (And.intro (cpb hb5 (HS0.out).1) (And.intro (cpb hb5 (HS0.out).2.1) (And.intro (cpb hb5 (HS0.out).2.2.1) (And.intro (cpb hb5 (HS0.out).2.2.2.1) (And.intro (cpb hb5 (HS0.out).2.2.2.2.1) (And.intro (cpb hb5 (HS0.out).2.2.2.2.2.1) (cpb hb5 (HS0.out).2.2.2.2.2.2))))))); have HD5 := Lib.hid hb5; clear ho5 hb5)
      | (go_at_call 74; (with_reducible refine (refImg_any k r aT nT cT tb a5 z c5 (valsF F y z) _ HT5.out (HO5.out.sl (by omega)) HI.out (by omega) (valsF_mem HCR.out)).mono ?_); rintro e w6 ⟨a6, c6, rfl, ho6, hb6⟩; rw [stepL_vals, HYR.out, HZM.out] at ho6; rw [HZM.out]; have HS6 := Lib.hid (And.intro (cpb hb6 (HS5.out).1) (And.intro (cpb hb6 (HS5.out).2.1) (And.intro (cpb hb6 (HS5.out).2.2.1) (And.intro (cpb hb6 (HS5.out).2.2.2.1) (And.intro (cpb hb6 (HS5.out).2.2.2.2.1) (And.intro (cpb hb6 (HS5.out).2.2.2.2.2.1) (cpb hb6 (HS5.out).2.2.2.2.2.2))))))); have HD6 := Lib.hid (bstep HD5.out hb6); have HB56 := Lib.hid HD5.out.size; have HO6 := Lib.hid (ho6.base HB56.out); clear ho6 hb6))
  go_wp2
  go_ret
  exact ⟨_, _, rfl, HO6.out.base HBX.out.size, bstep (Below.drew HBX.out) HD6.out⟩

set_option maxHeartbeats 16000000 in
theorem refRowImage (k r : Nat) (aT : Option Addr) (nT cT : Nat) (tb : List Int) (p : Int) (aL aC aR : Option Addr) (nL cL nC cC nR cR : Nat) (L C Q : List Int) (W : World) (hT : RK .i64 W aT nT tb) (hI : IsRule k r tb) (hM : RowM W aL nL cL L aC nC cC C aR nR cR Q) (h : IsRow k p L C Q) (n' : Nat) (hn' : nC + 2 * r = n') :
    Calls Tryd.prog 56 #[ruleV k r aT nT cT, rowV p aL nL cL aC nC cC aR nR cR] W fun e w' => ∃ a1 c1 a2 c2 a3 c3, e = .returned (rowV (p - (r : Int)) a1 nL c1 a2 n' c2 a3 nR c3) ∧ OwI w' W.heap.size a1 nL c1 (valsF (img k r tb (cellF p L C Q)) (p - (r : Int) - (nL : Int)) nL) ∧ OwI w' W.heap.size a2 n' c2 (valsF (img k r tb (cellF p L C Q)) (p - (r : Int)) n') ∧ OwI w' W.heap.size a3 nR c3 (valsF (img k r tb (cellF p L C Q)) (p - (r : Int) + (n' : Int)) nR) ∧ Below W.heap.size W w' := by
  have r3 := hI.r3
  have hp1 := h.p1
  have hp2 := h.p2
  have l2 : nL ≤ 8192 := by rw [hM.l.rk.len]; exact h.l2
  have r2 : nR ≤ 8192 := by rw [hM.r.rk.len]; exact h.r2
  have c2 : nC ≤ 16384 := by rw [hM.c.rk.len]; exact h.c2
  have hnI : (nC : Int) + 2 * (r : Int) = (n' : Int) := by omega
  have hn5 : n' ≤ 16390 := by omega
  clear hn'
  obtain ⟨y, hy⟩ : ∃ y : Int, p - (r : Int) = y := ⟨_, rfl⟩
  have hy1 : -5000 ≤ y := by omega
  have hy2 : y ≤ 5000 := by omega
  rw [hy]
  obtain ⟨G, hG⟩ : ∃ G, img k r tb (cellF p L C Q) = G := ⟨_, rfl⟩
  rw [hG]
  have HG := Lib.hid hG; clear hG
  obtain ⟨Wb, hWb⟩ : ∃ Wb, ((W.alloc (.cells #[.int .i64 k, .int .i64 r, .slice aT nT cT] 24)).alloc (.cells #[.int .i64 p, .slice aL nL cL, .slice aC nC cC, .slice aR nR cR] 26)).alloc (.cells #[.int .i64 0, .slice none 0 0, .slice none 0 0, .slice none 0 0] 26) = Wb := ⟨_, rfl⟩
  have HX : Hid (Wb.cell? ⟨W.heap.size, 0, none⟩ = some (.int .i64 k) ∧ Wb.cell? ⟨W.heap.size, 1, none⟩ = some (.int .i64 r) ∧ Wb.cell? ⟨W.heap.size, 2, none⟩ = some (.slice aT nT cT) ∧ Wb.cell? ⟨W.heap.size + 1, 0, none⟩ = some (.int .i64 p) ∧ Wb.cell? ⟨W.heap.size + 1, 1, none⟩ = some (.slice aL nL cL) ∧ Wb.cell? ⟨W.heap.size + 1, 2, none⟩ = some (.slice aC nC cC) ∧ Wb.cell? ⟨W.heap.size + 1, 3, none⟩ = some (.slice aR nR cR)) := by rw [← hWb]; exact ⟨al00 (al00 (by simp)), al00 (al00 (by simp)), al00 (al00 (by simp)), al00 (by simp), al00 (by simp), al00 (by simp), al00 (by simp)⟩
  have HZ : Hid (Wb.heap[W.heap.size + 1 + 1]? = some (.cells #[.int .i64 0, .slice none 0 0, .slice none 0 0, .slice none 0 0] 26)) := by
    show _ = _
    rw [← hWb]
    have := heap_alloc_new ((W.alloc (.cells #[.int .i64 k, .int .i64 r, .slice aT nT cT] 24)).alloc (.cells #[.int .i64 p, .slice aL nL cL, .slice aC nC cC, .slice aR nR cR] 26)) (.cells #[.int .i64 0, .slice none 0 0, .slice none 0 0, .slice none 0 0] 26)
    simpa using this
  have HSZ : Hid (Wb.heap.size = W.heap.size + 3) := by show _ = _; rw [← hWb]; simp
  have HLZ : Hid (W.heap.size + 1 + 1 < Wb.drew.heap.size) := by show W.heap.size + 1 + 1 < Wb.heap.size; have := HSZ.out; omega
  have HBX : Hid (Below W.heap.size W Wb) := by rw [← hWb]; exact balloc (balloc (balloc (bnil W) _) _) _
  have HT := Lib.hid (hT.up (Below.drew HBX.out)); clear hT
  have HM := Lib.hid (hM.up (Below.drew HBX.out)); clear hM
  have HI := Lib.hid hI; clear hI
  have H := Lib.hid h; clear h
  have HWB := Lib.hid hWb; clear hWb
  have HS0 : Hid (Wb.drew.cell? ⟨W.heap.size, 0, none⟩ = some (.int .i64 k) ∧ Wb.drew.cell? ⟨W.heap.size, 1, none⟩ = some (.int .i64 r) ∧ Wb.drew.cell? ⟨W.heap.size, 2, none⟩ = some (.slice aT nT cT) ∧ Wb.drew.cell? ⟨W.heap.size + 1, 0, none⟩ = some (.int .i64 p) ∧ Wb.drew.cell? ⟨W.heap.size + 1, 1, none⟩ = some (.slice aL nL cL) ∧ Wb.drew.cell? ⟨W.heap.size + 1, 2, none⟩ = some (.slice aC nC cC) ∧ Wb.drew.cell? ⟨W.heap.size + 1, 3, none⟩ = some (.slice aR nR cR)) := HX.out
  have x0 := HX.out.1
  have x1 := HX.out.2.1
  have x2 := HX.out.2.2.1
  have y0 := HX.out.2.2.2.1
  have y1 := HX.out.2.2.2.2.1
  have y2 := HX.out.2.2.2.2.2.1
  have y3 := HX.out.2.2.2.2.2.2
  have hg1 : W.heap.size ≠ W.heap.size + 1 + 1 := by omega
  have hg2 : W.heap.size + 1 ≠ W.heap.size + 1 + 1 := by omega
  have m0 : IntKind.i64.wrap (n' : Int) = (n' : Int) := IntWalk.i64_in _ (by omega)
  have m4 : IntKind.i64.wrap y = y := IntWalk.i64_in _ (by omega)
  go_enter Tryd.func56, Tryd.ntmps56
  go_wp2_with fail
  rw [HWB.out]
  go_wp2_with fail
  have m1 : IntKind.i64.wrap (y - (nL : Int)) = y - (nL : Int) := IntWalk.i64_in _ (by omega)
  have m2 : IntKind.i64.wrap (y + (n' : Int)) = y + (n' : Int) := IntWalk.i64_in _ (by omega)
  clear x0 x1 x2 y0 y1 y2 y3
  go_region_held3 (fun w' => w'.cell? ⟨W.heap.size, 0, none⟩ = some (.int .i64 k) ∧ w'.cell? ⟨W.heap.size, 1, none⟩ = some (.int .i64 r) ∧ w'.cell? ⟨W.heap.size, 2, none⟩ = some (.slice aT nT cT) ∧ w'.cell? ⟨W.heap.size + 1, 0, none⟩ = some (.int .i64 p) ∧ w'.cell? ⟨W.heap.size + 1, 1, none⟩ = some (.slice aL nL cL) ∧ w'.cell? ⟨W.heap.size + 1, 2, none⟩ = some (.slice aC nC cC) ∧ w'.cell? ⟨W.heap.size + 1, 3, none⟩ = some (.slice aR nR cR))
    (first | with_reducible exact HS7.out | with_reducible exact HS6.out | with_reducible exact HS5.out | with_reducible exact HS0.out | with_reducible exact ⟨cell_set4 HS7.out.1 hg1, cell_set4 HS7.out.2.1 hg1, cell_set4 HS7.out.2.2.1 hg1, cell_set4 HS7.out.2.2.2.1 hg2, cell_set4 HS7.out.2.2.2.2.1 hg2, cell_set4 HS7.out.2.2.2.2.2.1 hg2, cell_set4 HS7.out.2.2.2.2.2.2 hg2⟩ | go_keep)
    (first
      | (go_at_call 70; have q := HD6; clear q; (with_reducible refine (refAfter_any k r aT nT cT tb p aL aC aR nL cL nC cC nR cR L C Q (y + (n' : Int)) nR _ (HT.out.up HD6.out) HI.out (HM.out.up HD6.out) H.out (by omega) (by omega) (by omega)).mono ?_); rintro e w7 ⟨b3, d3, rfl, ho7, hb7⟩; rw [HG.out] at ho7; have HD7 := Lib.hid (bstep HD6.out hb7); have HO7 := Lib.hid (ho7.base HD6.out.size); have HP7 := Lib.hid (HP6.out.up hb7); have HQ7 := Lib.hid (HQ6.out.up hb7); have HS7 := Lib.hid (And.intro (cpb hb7 (HS6.out).1) (And.intro (cpb hb7 (HS6.out).2.1) (And.intro (cpb hb7 (HS6.out).2.2.1) (And.intro (cpb hb7 (HS6.out).2.2.2.1) (And.intro (cpb hb7 (HS6.out).2.2.2.2.1) (And.intro (cpb hb7 (HS6.out).2.2.2.2.2.1) (cpb hb7 (HS6.out).2.2.2.2.2.2))))))); have hz7 := (HD7.out.block (W.heap.size + 1 + 1) HLZ.out).trans HZ.out; have HZ7 := Lib.hid hz7; obtain ⟨⟨c0, c1', c2', c3'⟩, f0, f1, f2, f3⟩ := z_cells hz7; clear ho7 hb7 hz7)
      | (go_at_call 70; have q := HD5; clear q; (with_reducible refine (refAfter_any k r aT nT cT tb p aL aC aR nL cL nC cC nR cR L C Q y n' _ (HT.out.up HD5.out) HI.out (HM.out.up HD5.out) H.out (by omega) (by omega) (by omega)).mono ?_); rintro e w6 ⟨b2, d2, rfl, ho6, hb6⟩; rw [HG.out] at ho6; have HQ6 := Lib.hid (ho6.base HD5.out.size); have HP6 := Lib.hid (HO5.out.up hb6); have HD6 := Lib.hid (bstep HD5.out hb6); have HS6 := Lib.hid (And.intro (cpb hb6 (HS5.out).1) (And.intro (cpb hb6 (HS5.out).2.1) (And.intro (cpb hb6 (HS5.out).2.2.1) (And.intro (cpb hb6 (HS5.out).2.2.2.1) (And.intro (cpb hb6 (HS5.out).2.2.2.2.1) (And.intro (cpb hb6 (HS5.out).2.2.2.2.2.1) (cpb hb6 (HS5.out).2.2.2.2.2.2))))))); clear ho6 hb6)
      | (go_at_call 70; (with_reducible refine (refAfter_any k r aT nT cT tb p aL aC aR nL cL nC cC nR cR L C Q (y - (nL : Int)) nL _ HT.out HI.out HM.out H.out (by omega) (by omega) (by omega)).mono ?_); rintro e w5 ⟨b1, d1, rfl, ho5, hb5⟩; rw [HG.out] at ho5; have HO5 := Lib.hid ho5; have HD5 := Lib.hid hb5; have HS5 := Lib.hid (And.intro (cpb hb5 (HS0.out).1) (And.intro (cpb hb5 (HS0.out).2.1) (And.intro (cpb hb5 (HS0.out).2.2.1) (And.intro (cpb hb5 (HS0.out).2.2.2.1) (And.intro (cpb hb5 (HS0.out).2.2.2.2.1) (And.intro (cpb hb5 (HS0.out).2.2.2.2.2.1) (cpb hb5 (HS0.out).2.2.2.2.2.2))))))); clear ho5 hb5))
  obtain ⟨w8, e8, ⟨r0, r1, r2', r3'⟩, hk8, hs8, hbl8⟩ := set4 HZ7.out (.int .i64 y) (.slice b1 nL d1) (.slice b2 n' d2) (.slice b3 nR d3)
  rw [e8]
  go_wp2
  refine bodyPost_ret (v := rowV y b1 nL d1 b2 n' d2 b3 nR d3) (by simp [results, Tryd.results56, go_sem, r0, r1, r2', r3']) rfl ?_
  have hsz := HSZ.out
  have hsd : Wb.drew.heap.size = W.heap.size + 3 := HSZ.out
  exact ⟨_, _, _, _, _, _, rfl, (HP7.out.heap fun b hb => hk8 b (by omega)).base (by omega), (HQ7.out.heap fun b hb => hk8 b (by omega)).base (by omega), (HO7.out.heap fun b hb => hk8 b (by omega)).base (by omega), hbl8 _ _ (by omega) (bstep (Below.drew HBX.out) HD7.out)⟩
end Go.Proofs.YtkgalgmjdfhhbaaDoor
