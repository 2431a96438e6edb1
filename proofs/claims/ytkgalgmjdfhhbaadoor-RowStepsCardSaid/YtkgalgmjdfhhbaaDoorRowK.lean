/- The contract of edenref07.Check where the symbols decide. -/
import Derived.Test.YtkgalgmjdfhhbaaDoorRowJ
import Derived.Test.YtkgalgmjdfhhbaaDoorLent
import Derived.Test.YtkgalgmjdfhhbaaDoorRowG
namespace Go.Proofs.YtkgalgmjdfhhbaaDoor
open Go.RowKit
set_option linter.unusedVariables false
set_option maxRecDepth 100000

set_option maxHeartbeats 8000000 in
theorem refcheck_last (k p : Int) (aL aC aR : Option Addr) (nL cL nC cC nR cR : Nat) (L C Q : List Int) (W : World) (hM : RowM W aL nL cL L aC nC cC C aR nR cR Q) (k1 : 1 ≤ k) (k4 : k ≤ 4) (p1 : -4096 ≤ p) (p2 : p ≤ 4096) (l1 : 0 < nL) (r1 : 0 < nR) (l2 : nL ≤ 8192) (r2 : nR ≤ 8192) (c2 : nC ≤ 16384) :
    Calls Tryd.prog 27 #[.int .i64 k, rowV p aL nL cL aC nC cC aR nR cR] W fun e w' => (0 ≤ idxI (badB k) (L ++ C ++ Q) → RefErr opRow (idxI (badB k) (L ++ C ++ Q)) 2 W e w') ∧ (¬ 0 ≤ idxI (badB k) (L ++ C ++ Q) → e = .returned (.agg #[.int .i64 0, .slice none 0 0, .slice none 0 0]) ∧ Below W.heap.size W w') := by
  have czL : ((nL : Int) == 0) = false := by rw [beq_eq_false_iff_ne]; omega
  have czR : ((nR : Int) == 0) = false := by rw [beq_eq_false_iff_ne]; omega
  have mL8 := hM.l.n8
  have nnL := hM.l.nn
  have nnC := hM.c.nn
  have nnR := hM.r.nn
  obtain ⟨i, hi⟩ : ∃ i, idxI (badB k) (L ++ C ++ Q) = i := ⟨_, rfl⟩
  rw [hi]
  have HI := Lib.hid hi; clear hi
  obtain ⟨Wb, hWb⟩ : ∃ Wb, (W.alloc (.cells #[.int .i64 p, .slice aL nL cL, .slice aC nC cC, .slice aR nR cR] 26)).alloc (.cells #[.int .i64 0, .slice none 0 0, .slice none 0 0] 47) = Wb := ⟨_, rfl⟩
  have HY : Hid (Wb.cell? ⟨W.heap.size, 0, none⟩ = some (.int .i64 p) ∧ Wb.cell? ⟨W.heap.size, 1, none⟩ = some (.slice aL nL cL) ∧ Wb.cell? ⟨W.heap.size, 2, none⟩ = some (.slice aC nC cC) ∧ Wb.cell? ⟨W.heap.size, 3, none⟩ = some (.slice aR nR cR)) := by rw [← hWb]; exact ⟨cell_al _ (by simp), cell_al _ (by simp), cell_al _ (by simp), cell_al _ (by simp)⟩
  have HS0 : Hid (W.heap.size < Wb.drew.heap.size) := by show W.heap.size < Wb.heap.size; rw [← hWb]; simp; omega
  have HBX : Hid (Below W.heap.size W Wb) := by rw [← hWb]; exact balloc (balloc (bnil W) _) _
  have HM := Lib.hid (hM.up (Below.drew HBX.out)); clear hM
  have y0 : Wb.drew.cell? ⟨W.heap.size, 0, none⟩ = some (.int .i64 p) := HY.out.1
  have y1 : Wb.drew.cell? ⟨W.heap.size, 1, none⟩ = some (.slice aL nL cL) := HY.out.2.1
  have y2 : Wb.drew.cell? ⟨W.heap.size, 2, none⟩ = some (.slice aC nC cC) := HY.out.2.2.1
  have y3 : Wb.drew.cell? ⟨W.heap.size, 3, none⟩ = some (.slice aR nR cR) := HY.out.2.2.2
  have HWB := Lib.hid hWb; clear hWb
  go_enter Tryd.func27, Tryd.ntmps27
  go_wp2_with fail
  rw [HWB.out]
  go_region_held3 (fun w' => w'.cell? ⟨W.heap.size, 0, none⟩ = some (.int .i64 p) ∧ w'.cell? ⟨W.heap.size, 1, none⟩ = some (.slice aL nL cL) ∧ w'.cell? ⟨W.heap.size, 2, none⟩ = some (.slice aC nC cC) ∧ w'.cell? ⟨W.heap.size, 3, none⟩ = some (.slice aR nR cR))
    (first | with_reducible exact ⟨y0, y1, y2, y3⟩ | with_reducible exact ⟨y50, y51, y52, y53⟩ | with_reducible exact ⟨y60, y61, y62, y63⟩ | with_reducible exact ⟨y70, y71, y72, y73⟩ | go_keep)
    (first
      | (go_at_call 20; refine (copy_any aL nL cL L _ HM.out.l.rk mL8 nnL).mono ?_; rintro e w5 ⟨a5, c5, rfl, ho5, hb5⟩; have y50 := (hb5.cell (p := ⟨W.heap.size, 0, none⟩) HS0.out).trans y0; have y51 := (hb5.cell (p := ⟨W.heap.size, 1, none⟩) HS0.out).trans y1; have y52 := (hb5.cell (p := ⟨W.heap.size, 2, none⟩) HS0.out).trans y2; have y53 := (hb5.cell (p := ⟨W.heap.size, 3, none⟩) HS0.out).trans y3; have HO5 := Lib.hid ho5; have HE5 := Lib.hid hb5; have HM5 := Lib.hid (HM.out.up hb5); clear ho5 hb5)
      | ((fail_if_success (have q := HO6)); have q := HO5; refine stx (by rfl) _ _ _ (by rfl) Wb.drew.heap.size et_int _ nL _ q.out (by rfl) aC nC cC _ (by rfl) nnC HM5.out.c.rk.2 (nums_one _ _) (by unfold maxLen; omega) (by omega) HE5.out.size ?_; clear q; intro a6 c6 w6 h6; have hE6 := HE5.out.trans h6.below; have y60 := (hE6.cell (p := ⟨W.heap.size, 0, none⟩) HS0.out).trans y0; have y61 := (hE6.cell (p := ⟨W.heap.size, 1, none⟩) HS0.out).trans y1; have y62 := (hE6.cell (p := ⟨W.heap.size, 2, none⟩) HS0.out).trans y2; have y63 := (hE6.cell (p := ⟨W.heap.size, 3, none⟩) HS0.out).trans y3; have HO6 := Lib.hid h6.own; have HM6 := Lib.hid (HM.out.up hE6); have HE6 := Lib.hid hE6; clear h6 hE6)
      | (have q := HO6; refine stx (by rfl) _ _ _ (by rfl) Wb.drew.heap.size et_int _ (nL + nC) _ q.out (by rfl) aR nR cR _ (by rfl) nnR HM6.out.r.rk.2 (nums_one _ _) (by unfold maxLen; omega) (by omega) HE6.out.size ?_; clear q; intro a7 c7 w7 h7; have hE7 := HE6.out.trans h7.below; have y70 := (hE7.cell (p := ⟨W.heap.size, 0, none⟩) HS0.out).trans y0; have y71 := (hE7.cell (p := ⟨W.heap.size, 1, none⟩) HS0.out).trans y1; have y72 := (hE7.cell (p := ⟨W.heap.size, 2, none⟩) HS0.out).trans y2; have y73 := (hE7.cell (p := ⟨W.heap.size, 3, none⟩) HS0.out).trans y3; have HO7 := Lib.hid h7.own; have HE7 := Lib.hid hE7; clear h7 hE7))
  all_goals
    have ho := HO7.out
    rw [← List.map_append, ← List.map_append] at ho
    have HRK := Lib.hid (RK.of_own ho)
    have hwb7 : Below Wb.heap.size Wb w7 := (Below.drew (bnil Wb)).trans HE7.out
    have hsz7 : W.heap.size + 2 ≤ w7.heap.size := by
      have := hwb7.size
      rw [← HWB.out] at this
      simp at this
      omega
    have HW7 := Lib.hid hwb7
    have HSZ7 := Lib.hid hsz7
    clear ho hwb7 hsz7 y0 y1 y2 y3 y50 y51 y52 y53 y60 y61 y62 y63 y70 y71 y72 y73 HO5 HO6 HO7 HM5 HM6 HE5 HE6
    have HBX1 := Lib.hid (balloc (bnil W) (.cells #[.int .i64 p, .slice aL nL cL, .slice aC nC cC, .slice aR nR cR] 26))
    go_wp2_with fail
    refine (refBad_any k a7 (nL + nC + nR) c7 (L ++ C ++ Q) _ HRK.out (by unfold maxLen; omega)).mono ?_; rintro e w' ⟨rfl, rfl⟩
    rw [HI.out]
    by_cases h0 : 0 ≤ i
    · go_wp2_with fail
      refine (rawNew_fresh _ _ _ _ rfl).mono ?_; rintro e w8 ⟨b1, b2, rfl, lb1, lb2, hw8, hb8⟩
      have hb := HW7.out.trans (hb8.mono HW7.out.size)
      rw [← HWB.out] at hb
      obtain ⟨⟨q0, q1, q2⟩, f0, f1, f2⟩ := res3 (g := W.heap.size + 1) (by simp) hb
      have hlt1 : W.heap.size + 1 < b1 := by have := HSZ7.out; omega
      have hlt2 : W.heap.size + 1 < b2 := by have := HSZ7.out; omega
      go_wp2
      obtain ⟨w9, e9, ⟨r0, r1', r2'⟩, hw9, hb9⟩ := ref_fin (g := W.heap.size + 1) (by simp) hb (by simpa using hlt1) (by simpa using hlt2) hw8
      rw [e9]
      refine bodyPost_ret (v := .agg #[_, .slice (some ⟨b1, 0, none⟩) 1 1, .slice (some ⟨b2, 0, none⟩) 1 1]) (by simp [results, Tryd.results27, go_sem, r0, r1', r2']; rfl) rfl ?_
      exact ⟨⟨_, _, rfl, ⟨by omega, by omega⟩, hw9, HBX1.out.trans (hb9.mono HBX1.out.size)⟩, fun h => absurd h (by omega)⟩
    · have hb := HW7.out
      rw [← HWB.out] at hb
      obtain ⟨⟨q0, q1, q2⟩, f0, f1, f2⟩ := res3 (g := W.heap.size + 1) (by simp) hb
      go_wp2
      obtain ⟨w9, e9, ⟨r0, r1', r2'⟩, hb9, hk9, hs9⟩ := res3_set (g := W.heap.size + 1) (u0 := .int .i64 0) (u1 := .slice none 0 0) (u2 := .slice none 0 0) (by simp) hb
      rw [e9]
      refine bodyPost_ret (v := .agg #[.int .i64 0, .slice none 0 0, .slice none 0 0]) (by simp [results, Tryd.results27, go_sem, r0, r1', r2']) rfl ?_
      first
        | exact ⟨fun h => absurd h (by omega), rfl, HBX1.out.trans (hb9.mono HBX1.out.size)⟩
        | exact ⟨fun h => absurd h (by omega), fun _ => ⟨rfl, HBX1.out.trans (hb9.mono HBX1.out.size)⟩⟩

/-- the document's answer to a row: its fault, or none -/
theorem refcheck_ok (k : Nat) (p : Int) (aL aC aR : Option Addr) (nL cL nC cC nR cR : Nat) (L C Q : List Int) (W : World) (hM : RowM W aL nL cL L aC nC cC C aR nR cR Q) (h : IsRow k p L C Q) :
    Calls Tryd.prog 27 #[.int .i64 (k : Int), rowV p aL nL cL aC nC cC aR nR cR] W fun e w' => e = .returned (.agg #[.int .i64 0, .slice none 0 0, .slice none 0 0]) ∧ Below W.heap.size W w' := by
  have k1 := h.k1
  have k4 := h.k4
  have eL := hM.l.rk.len
  have eC := hM.c.rk.len
  have eR := hM.r.rk.len
  have h1 := h.l1
  have h2 := h.l2
  have h3 := h.r1
  have h4 := h.r2
  have h5 := h.c2
  have hi : idxI (badB (k : Int)) (L ++ C ++ Q) = -1 := findIdx_none fun x hx => by
    rw [List.mem_append, List.mem_append] at hx
    rcases hx with (hx | hx) | hx
    · exact badB_false.2 (h.symL x hx)
    · exact badB_false.2 (h.symC x hx)
    · exact badB_false.2 (h.symR x hx)
  refine (refcheck_last k p aL aC aR nL cL nC cC nR cR L C Q W hM (by omega) (by omega) h.p1 h.p2 (by omega) (by omega) (by omega) (by omega) (by omega)).mono fun e w' hh => ?_
  exact hh.2 (by rw [hi]; omega)
theorem refcheck_err (k p : Int) (aL aC aR : Option Addr) (nL cL nC cC nR cR : Nat) (L C Q : List Int) (W : World) (hM : RowM W aL nL cL L aC nC cC C aR nR cR Q) (x : Int × Int) (he : rowErr k p L C Q = some x) :
    Calls Tryd.prog 27 #[.int .i64 k, rowV p aL nL cL aC nC cC aR nR cR] W (RefErr opRow x.1 x.2 W) := by
  by_cases hx : x.2 = 2
  · have eL := hM.l.rk.len
    have eC := hM.c.rk.len
    have eR := hM.r.rk.len
    have he' := he
    unfold rowErr at he'
    (repeat' split at he') <;> first | (simp only [Option.some.injEq] at he'; subst he'; simp at hx; done) | (cases he'; done) | skip
    rename_i h1 h2 h3 h4 h5 h6 h7 h8
    refine (refcheck_last k p aL aC aR nL cL nC cC nR cR L C Q W hM (by omega) (by omega) (by omega) (by omega) (by omega) (by omega) (by omega) (by omega) (by omega)).mono fun e w' hh => ?_
    simp only [Option.some.injEq] at he'
    subst he'
    exact hh.1 h8
  · exact refcheck_front k p aL aC aR nL cL nC cC nR cR L C Q W hM x he hx
end Go.Proofs.YtkgalgmjdfhhbaaDoor
