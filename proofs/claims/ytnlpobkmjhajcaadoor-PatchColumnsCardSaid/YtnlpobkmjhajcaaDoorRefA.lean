/- The contract of edenref21.Check, for any patch; ends of functions that return an error as plain data. Ends of functions that return a patch, or a list, and an error as plain data. The contract of edenref21.Cut, for any patch. The contract of edenref21.quarter. -/
import Derived.Test.YtnlpobkmjhajcaaDoorTrkP
import Derived.Test.YtnlpobkmjhajcaaDoorPatC
import Derived.Test.YtnlpobkmjhajcaaDoorRawF
import Derived.Test.YtnlpobkmjhajcaaDoorPatN
import Derived.Deep.RegionLaw
namespace Go.Proofs.YtnlpobkmjhajcaaDoor
open Go.RowKit
set_option linter.unusedVariables false
set_option maxRecDepth 100000

/-- an error's end: the result's variable is set -/
theorem er_at {W w8 : World} {B b1 b2 : Nat} {op : ByteArray} {at_ N : Int} {x0 x1 x2 : Value} (hB : W.heap.size ≤ B) (hz : w8.heap[B]? = some (.cells #[x0, x1, x2] 47)) (hb : Below W.heap.size W w8) (l1 : B < b1) (l2 : B < b2)
    (hw : WantIs w8 (.agg #[.int .i64 N, .slice (some ⟨b1, 0, none⟩) 1 1, .slice (some ⟨b2, 0, none⟩) 1 1]) (some (op, at_, N))) :
    ∃ w9, (((w8.setCell ⟨B, 0, none⟩ (.int .i64 N)).setCell ⟨B, 1, none⟩ (.slice (some ⟨b1, 0, none⟩) 1 1)).setCell ⟨B, 2, none⟩ (.slice (some ⟨b2, 0, none⟩) 1 1)) = w9 ∧
      (w9.cell? ⟨B, 0, none⟩ = some (.int .i64 N) ∧ w9.cell? ⟨B, 1, none⟩ = some (.slice (some ⟨b1, 0, none⟩) 1 1) ∧ w9.cell? ⟨B, 2, none⟩ = some (.slice (some ⟨b2, 0, none⟩) 1 1)) ∧
      RefRet W (some ([(op, at_)], N)) (.returned (.agg #[.int .i64 N, .slice (some ⟨b1, 0, none⟩) 1 1, .slice (some ⟨b2, 0, none⟩) 1 1])) w9 := by
  obtain ⟨w9, e9, hc, hk, hs, hbl⟩ := set3p hz (.int .i64 N) (.slice (some ⟨b1, 0, none⟩) 1 1) (.slice (some ⟨b2, 0, none⟩) 1 1)
  have hn : (N != 0) = true := by have := hw.2; simpa using this
  refine ⟨w9, e9, hc, N, _, 1, 1, _, 1, 1, rfl, (wc_want hw).other hk hs (fr_some (show B + 1 ≤ b1 by omega)) (fr_some (show B + 1 ≤ b2 by omega)), fr_some (by omega), fr_some (by omega), hn, (fun h => by cases h), hbl W W.heap.size hB hb⟩
/-- no error: the result's variable stays -/
theorem er_none {W w8 : World} {B : Nat} {x0 x1 x2 : Value} (hB : W.heap.size ≤ B) (hz : w8.heap[B]? = some (.cells #[x0, x1, x2] 47)) (hb : Below W.heap.size W w8) :
    ∃ w9, (((w8.setCell ⟨B, 0, none⟩ (.int .i64 0)).setCell ⟨B, 1, none⟩ (.slice none 0 0)).setCell ⟨B, 2, none⟩ (.slice none 0 0)) = w9 ∧
      (w9.cell? ⟨B, 0, none⟩ = some (.int .i64 0) ∧ w9.cell? ⟨B, 1, none⟩ = some (.slice none 0 0) ∧ w9.cell? ⟨B, 2, none⟩ = some (.slice none 0 0)) ∧
      RefRet W none (.returned (.agg #[.int .i64 0, .slice none 0 0, .slice none 0 0])) w9 := by
  obtain ⟨w9, e9, hc, hk, hs, hbl⟩ := set3p hz (.int .i64 0) (.slice none 0 0) (.slice none 0 0)
  exact ⟨w9, e9, hc, 0, none, 0, 0, none, 0, 0, rfl, wc_none w9, fr_none, fr_none, rfl, fun _ => ⟨rfl, rfl, rfl, rfl, rfl, rfl, rfl⟩, hbl W W.heap.size hB hb⟩

set_option maxHeartbeats 8000000 in
theorem refpcheck_any (w h : Int) (a : Option Addr) (n c : Nat) (l : List Int) (W : World) (hR : RK .i64 W a n l) (hm : n ≤ maxLen) :
    Calls Tryd.prog 28 #[patV w h a n c] W (RefRet W (patchD w h l)) := by
  have hnl := hR.len
  have hmx : n ≤ 9223372036854775807 := hm
  have T0 := Tk.nil W
  have T1 := T0.add (fun wv => Below W.heap.size W wv) (bnil W)
  clear T0
  have T2 := T1.add (fun wv => RK .i64 wv a n l) (hR)
  clear T1
  clear hR
  obtain ⟨Wb, hWb⟩ : ∃ Wb, (W.alloc (.cells #[.int .i64 w, .int .i64 h, .slice a n c] 24)).alloc (.cells #[.int .i64 0, .slice none 0 0, .slice none 0 0] 47) = Wb := ⟨_, rfl⟩
  have hbWb : Below W.heap.size W Wb := by rw [← hWb]; exact balloc (balloc (bnil W) _) _
  have T3 := T2.up hbWb
  clear T2
  have T4 := T3.add (fun wv => wv.cell? ⟨W.heap.size, 0, none⟩ = some (.int .i64 w) ∧ wv.cell? ⟨W.heap.size, 1, none⟩ = some (.int .i64 h) ∧ wv.cell? ⟨W.heap.size, 2, none⟩ = some (.slice a n c)) (by rw [← hWb]; exact ⟨al000 (cnw (by simp) rfl), al000 (cnw (by simp) rfl), al000 (cnw (by simp) rfl)⟩)
  clear T3
  have HWb := Lib.hid hWb
  clear hWb hbWb
  have hz : Wb.heap[W.heap.size + 1]? = some (.cells #[.int .i64 0, .slice none 0 0, .slice none 0 0] 47) := by
    rw [← HWb.out]
    have := heap_alloc_new (W.alloc (.cells #[.int .i64 w, .int .i64 h, .slice a n c] 24)) (.cells #[.int .i64 0, .slice none 0 0, .slice none 0 0] 47)
    simpa using this
  have T5 := T4.add (fun wv => wv.heap[W.heap.size + 1]? = some (.cells #[.int .i64 0, .slice none 0 0, .slice none 0 0] 47)) (hz)
  clear T4
  clear hz
  by_cases c0 : w < 1 ∨ 64 < w
  · skip
    by_cases c00 : w < 1
    · skip
      have hd : patchD w h l = some ([(opPatch, 0)], 7) := by unfold patchD patchErr; rw [if_pos c0]; rfl
      have HD := Lib.hid hd
      clear hd hnl
      go_enter Tryd.func28, Tryd.ntmps28
      have sb0 : W.heap.size + 1 < Wb.heap.size := heap_ltT (T5.out.2)
      have v_p0 : ((W.alloc (.cells #[.int .i64 w, .int .i64 h, .slice a n c] 24)).alloc (.cells #[.int .i64 0, .slice none 0 0, .slice none 0 0] 47)).cell? ⟨W.heap.size, 0, none⟩ = some (.int .i64 w) := by rw [HWb.out]; exact T5.out.1.2.1
      have v_p1 : ((W.alloc (.cells #[.int .i64 w, .int .i64 h, .slice a n c] 24)).alloc (.cells #[.int .i64 0, .slice none 0 0, .slice none 0 0] 47)).cell? ⟨W.heap.size, 1, none⟩ = some (.int .i64 h) := by rw [HWb.out]; exact T5.out.1.2.2.1
      have v_p2 : ((W.alloc (.cells #[.int .i64 w, .int .i64 h, .slice a n c] 24)).alloc (.cells #[.int .i64 0, .slice none 0 0, .slice none 0 0] 47)).cell? ⟨W.heap.size, 2, none⟩ = some (.slice a n c) := by rw [HWb.out]; exact T5.out.1.2.2.2
      go_wp2_with fail
      rw [HWb.out]
      refine (rawNew_fresh _ _ _ _ rfl).mono ?_; rintro e w8 ⟨b1, b2, rfl, lb1, lb2, hw8, hbw8⟩
      clear v_p0 v_p1 v_p2
      have T6 := T5.up hbw8
      clear T5
      obtain ⟨w9, e9, ⟨r0, r1, r2⟩, hret⟩ := er_at (show W.heap.size ≤ W.heap.size + 1 by omega) (T6.out.2) (T6.out.1.1.1.2) (by omega) (by omega) hw8
      obtain ⟨⟨q0, q1, q2⟩, f0, f1, f2⟩ := p_cells (T6.out.2)
      have HRET := Lib.hid hret
      have HE9 := Lib.hid e9
      have HR9 := Lib.hid (And.intro r0 (And.intro r1 r2))
      clear hw8 hret lb1 lb2 sb0 e9 r0 r1 r2
      go_wp2
      rw [HE9.out]
      have r0 := HR9.out.1
      have r1 := HR9.out.2.1
      have r2 := HR9.out.2.2
      refine bodyPost_ret (v := .agg #[.int .i64 7, .slice (some ⟨b1, 0, none⟩) 1 1, .slice (some ⟨b2, 0, none⟩) 1 1]) (by simp [results, Tryd.results28, go_sem, r0, r1, r2]) rfl ?_
      rw [HD.out]
      exact HRET.out
    · skip
      have c01 : 64 < w := by omega
      have c02 : 1 ≤ w := by omega
      have hd : patchD w h l = some ([(opPatch, 0)], 7) := by unfold patchD patchErr; rw [if_pos c0]; rfl
      have HD := Lib.hid hd
      clear hd hnl
      go_enter Tryd.func28, Tryd.ntmps28
      have sb0 : W.heap.size + 1 < Wb.heap.size := heap_ltT (T5.out.2)
      have v_p0 : ((W.alloc (.cells #[.int .i64 w, .int .i64 h, .slice a n c] 24)).alloc (.cells #[.int .i64 0, .slice none 0 0, .slice none 0 0] 47)).cell? ⟨W.heap.size, 0, none⟩ = some (.int .i64 w) := by rw [HWb.out]; exact T5.out.1.2.1
      have v_p1 : ((W.alloc (.cells #[.int .i64 w, .int .i64 h, .slice a n c] 24)).alloc (.cells #[.int .i64 0, .slice none 0 0, .slice none 0 0] 47)).cell? ⟨W.heap.size, 1, none⟩ = some (.int .i64 h) := by rw [HWb.out]; exact T5.out.1.2.2.1
      have v_p2 : ((W.alloc (.cells #[.int .i64 w, .int .i64 h, .slice a n c] 24)).alloc (.cells #[.int .i64 0, .slice none 0 0, .slice none 0 0] 47)).cell? ⟨W.heap.size, 2, none⟩ = some (.slice a n c) := by rw [HWb.out]; exact T5.out.1.2.2.2
      go_wp2_with fail
      rw [HWb.out]
      refine (rawNew_fresh _ _ _ _ rfl).mono ?_; rintro e w8 ⟨b1, b2, rfl, lb1, lb2, hw8, hbw8⟩
      clear v_p0 v_p1 v_p2
      have T6 := T5.up hbw8
      clear T5
      obtain ⟨w9, e9, ⟨r0, r1, r2⟩, hret⟩ := er_at (show W.heap.size ≤ W.heap.size + 1 by omega) (T6.out.2) (T6.out.1.1.1.2) (by omega) (by omega) hw8
      obtain ⟨⟨q0, q1, q2⟩, f0, f1, f2⟩ := p_cells (T6.out.2)
      have HRET := Lib.hid hret
      have HE9 := Lib.hid e9
      have HR9 := Lib.hid (And.intro r0 (And.intro r1 r2))
      clear hw8 hret lb1 lb2 sb0 e9 r0 r1 r2
      go_wp2
      rw [HE9.out]
      have r0 := HR9.out.1
      have r1 := HR9.out.2.1
      have r2 := HR9.out.2.2
      refine bodyPost_ret (v := .agg #[.int .i64 7, .slice (some ⟨b1, 0, none⟩) 1 1, .slice (some ⟨b2, 0, none⟩) 1 1]) (by simp [results, Tryd.results28, go_sem, r0, r1, r2]) rfl ?_
      rw [HD.out]
      exact HRET.out
  have hw1 : 1 ≤ w := by omega
  have hw2 : w ≤ 64 := by omega
  have hw3 : decide (64 < w) = false := decide_eq_false (by omega)
  by_cases c1 : h < 1 ∨ 64 < h
  · skip
    by_cases c10 : h < 1
    · skip
      have hd : patchD w h l = some ([(opPatch, 1)], 7) := by unfold patchD patchErr; rw [if_neg c0, if_pos c1]; rfl
      have HD := Lib.hid hd
      clear hd hnl
      go_enter Tryd.func28, Tryd.ntmps28
      have sb0 : W.heap.size + 1 < Wb.heap.size := heap_ltT (T5.out.2)
      have v_p0 : ((W.alloc (.cells #[.int .i64 w, .int .i64 h, .slice a n c] 24)).alloc (.cells #[.int .i64 0, .slice none 0 0, .slice none 0 0] 47)).cell? ⟨W.heap.size, 0, none⟩ = some (.int .i64 w) := by rw [HWb.out]; exact T5.out.1.2.1
      have v_p1 : ((W.alloc (.cells #[.int .i64 w, .int .i64 h, .slice a n c] 24)).alloc (.cells #[.int .i64 0, .slice none 0 0, .slice none 0 0] 47)).cell? ⟨W.heap.size, 1, none⟩ = some (.int .i64 h) := by rw [HWb.out]; exact T5.out.1.2.2.1
      have v_p2 : ((W.alloc (.cells #[.int .i64 w, .int .i64 h, .slice a n c] 24)).alloc (.cells #[.int .i64 0, .slice none 0 0, .slice none 0 0] 47)).cell? ⟨W.heap.size, 2, none⟩ = some (.slice a n c) := by rw [HWb.out]; exact T5.out.1.2.2.2
      go_wp2_with fail
      rw [HWb.out]
      refine (rawNew_fresh _ _ _ _ rfl).mono ?_; rintro e w8 ⟨b1, b2, rfl, lb1, lb2, hw8, hbw8⟩
      clear v_p0 v_p1 v_p2
      have T6 := T5.up hbw8
      clear T5
      obtain ⟨w9, e9, ⟨r0, r1, r2⟩, hret⟩ := er_at (show W.heap.size ≤ W.heap.size + 1 by omega) (T6.out.2) (T6.out.1.1.1.2) (by omega) (by omega) hw8
      obtain ⟨⟨q0, q1, q2⟩, f0, f1, f2⟩ := p_cells (T6.out.2)
      have HRET := Lib.hid hret
      have HE9 := Lib.hid e9
      have HR9 := Lib.hid (And.intro r0 (And.intro r1 r2))
      clear hw8 hret lb1 lb2 sb0 e9 r0 r1 r2
      go_wp2
      rw [HE9.out]
      have r0 := HR9.out.1
      have r1 := HR9.out.2.1
      have r2 := HR9.out.2.2
      refine bodyPost_ret (v := .agg #[.int .i64 7, .slice (some ⟨b1, 0, none⟩) 1 1, .slice (some ⟨b2, 0, none⟩) 1 1]) (by simp [results, Tryd.results28, go_sem, r0, r1, r2]) rfl ?_
      rw [HD.out]
      exact HRET.out
    · skip
      have c11 : 64 < h := by omega
      have c12 : 1 ≤ h := by omega
      have hd : patchD w h l = some ([(opPatch, 1)], 7) := by unfold patchD patchErr; rw [if_neg c0, if_pos c1]; rfl
      have HD := Lib.hid hd
      clear hd hnl
      go_enter Tryd.func28, Tryd.ntmps28
      have sb0 : W.heap.size + 1 < Wb.heap.size := heap_ltT (T5.out.2)
      have v_p0 : ((W.alloc (.cells #[.int .i64 w, .int .i64 h, .slice a n c] 24)).alloc (.cells #[.int .i64 0, .slice none 0 0, .slice none 0 0] 47)).cell? ⟨W.heap.size, 0, none⟩ = some (.int .i64 w) := by rw [HWb.out]; exact T5.out.1.2.1
      have v_p1 : ((W.alloc (.cells #[.int .i64 w, .int .i64 h, .slice a n c] 24)).alloc (.cells #[.int .i64 0, .slice none 0 0, .slice none 0 0] 47)).cell? ⟨W.heap.size, 1, none⟩ = some (.int .i64 h) := by rw [HWb.out]; exact T5.out.1.2.2.1
      have v_p2 : ((W.alloc (.cells #[.int .i64 w, .int .i64 h, .slice a n c] 24)).alloc (.cells #[.int .i64 0, .slice none 0 0, .slice none 0 0] 47)).cell? ⟨W.heap.size, 2, none⟩ = some (.slice a n c) := by rw [HWb.out]; exact T5.out.1.2.2.2
      go_wp2_with fail
      rw [HWb.out]
      refine (rawNew_fresh _ _ _ _ rfl).mono ?_; rintro e w8 ⟨b1, b2, rfl, lb1, lb2, hw8, hbw8⟩
      clear v_p0 v_p1 v_p2
      have T6 := T5.up hbw8
      clear T5
      obtain ⟨w9, e9, ⟨r0, r1, r2⟩, hret⟩ := er_at (show W.heap.size ≤ W.heap.size + 1 by omega) (T6.out.2) (T6.out.1.1.1.2) (by omega) (by omega) hw8
      obtain ⟨⟨q0, q1, q2⟩, f0, f1, f2⟩ := p_cells (T6.out.2)
      have HRET := Lib.hid hret
      have HE9 := Lib.hid e9
      have HR9 := Lib.hid (And.intro r0 (And.intro r1 r2))
      clear hw8 hret lb1 lb2 sb0 e9 r0 r1 r2
      go_wp2
      rw [HE9.out]
      have r0 := HR9.out.1
      have r1 := HR9.out.2.1
      have r2 := HR9.out.2.2
      refine bodyPost_ret (v := .agg #[.int .i64 7, .slice (some ⟨b1, 0, none⟩) 1 1, .slice (some ⟨b2, 0, none⟩) 1 1]) (by simp [results, Tryd.results28, go_sem, r0, r1, r2]) rfl ?_
      rw [HD.out]
      exact HRET.out
  have hh1 : 1 ≤ h := by omega
  have hh2 : h ≤ 64 := by omega
  have hh3 : decide (64 < h) = false := decide_eq_false (by omega)
  obtain ⟨Q, hQ⟩ : ∃ Q, w * h = Q := ⟨_, rfl⟩
  have hQ0 : 0 ≤ Q := by rw [← hQ]; exact Int.mul_nonneg (by omega) (by omega)
  have hQ1 : Q ≤ 4096 := by
    rw [← hQ]
    have := Int.mul_le_mul hw2 hh2 (by omega) (by omega : (0 : Int) ≤ 64)
    omega
  by_cases c2 : (n : Int) ≠ Q
  · skip
    have cb : ((n : Int) != Q) = true := by simpa using c2
    have hd : patchD w h l = some ([(opPatch, 2)], 7) := by unfold patchD patchErr; rw [if_neg c0, if_neg c1, if_pos (by rw [hQ, ← hnl]; exact c2)]; rfl
    have HD := Lib.hid hd
    clear hd hnl
    go_enter Tryd.func28, Tryd.ntmps28
    have sb0 : W.heap.size + 1 < Wb.heap.size := heap_ltT (T5.out.2)
    have v_p0 : ((W.alloc (.cells #[.int .i64 w, .int .i64 h, .slice a n c] 24)).alloc (.cells #[.int .i64 0, .slice none 0 0, .slice none 0 0] 47)).cell? ⟨W.heap.size, 0, none⟩ = some (.int .i64 w) := by rw [HWb.out]; exact T5.out.1.2.1
    have v_p1 : ((W.alloc (.cells #[.int .i64 w, .int .i64 h, .slice a n c] 24)).alloc (.cells #[.int .i64 0, .slice none 0 0, .slice none 0 0] 47)).cell? ⟨W.heap.size, 1, none⟩ = some (.int .i64 h) := by rw [HWb.out]; exact T5.out.1.2.2.1
    have v_p2 : ((W.alloc (.cells #[.int .i64 w, .int .i64 h, .slice a n c] 24)).alloc (.cells #[.int .i64 0, .slice none 0 0, .slice none 0 0] 47)).cell? ⟨W.heap.size, 2, none⟩ = some (.slice a n c) := by rw [HWb.out]; exact T5.out.1.2.2.2
    go_wp2_with fail
    rw [HWb.out]
    refine (rawNew_fresh _ _ _ _ rfl).mono ?_; rintro e w8 ⟨b1, b2, rfl, lb1, lb2, hw8, hbw8⟩
    clear v_p0 v_p1 v_p2
    have T6 := T5.up hbw8
    clear T5
    obtain ⟨w9, e9, ⟨r0, r1, r2⟩, hret⟩ := er_at (show W.heap.size ≤ W.heap.size + 1 by omega) (T6.out.2) (T6.out.1.1.1.2) (by omega) (by omega) hw8
    obtain ⟨⟨q0, q1, q2⟩, f0, f1, f2⟩ := p_cells (T6.out.2)
    have HRET := Lib.hid hret
    have HE9 := Lib.hid e9
    have HR9 := Lib.hid (And.intro r0 (And.intro r1 r2))
    clear hw8 hret lb1 lb2 sb0 e9 r0 r1 r2
    go_wp2
    rw [HE9.out]
    have r0 := HR9.out.1
    have r1 := HR9.out.2.1
    have r2 := HR9.out.2.2
    refine bodyPost_ret (v := .agg #[.int .i64 7, .slice (some ⟨b1, 0, none⟩) 1 1, .slice (some ⟨b2, 0, none⟩) 1 1]) (by simp [results, Tryd.results28, go_sem, r0, r1, r2]) rfl ?_
    rw [HD.out]
    exact HRET.out
  have cn : (n : Int) = Q := Decidable.byContradiction c2
  have cb : ((n : Int) != Q) = false := by simpa using cn
  have hD : Hid (patchD w h l = if 0 ≤ idxI cellB l then some ([(opPatch, 3 + idxI cellB l)], 7) else none) := by
    show _ = _
    unfold patchD patchErr
    rw [if_neg c0, if_neg c1, if_neg (by rw [hQ, ← hnl]; exact c2)]
    split <;> rfl
  have HNL := Lib.hid hnl
  have hn4 : n ≤ 4096 := by omega
  have HQ := Lib.hid hQ
  have HCN := Lib.hid cn
  clear c0 c1 c2 cn hnl
  go_enter Tryd.func28, Tryd.ntmps28
  have v_p0 : ((W.alloc (.cells #[.int .i64 w, .int .i64 h, .slice a n c] 24)).alloc (.cells #[.int .i64 0, .slice none 0 0, .slice none 0 0] 47)).cell? ⟨W.heap.size, 0, none⟩ = some (.int .i64 w) := by rw [HWb.out]; exact T5.out.1.2.1
  have v_p1 : ((W.alloc (.cells #[.int .i64 w, .int .i64 h, .slice a n c] 24)).alloc (.cells #[.int .i64 0, .slice none 0 0, .slice none 0 0] 47)).cell? ⟨W.heap.size, 1, none⟩ = some (.int .i64 h) := by rw [HWb.out]; exact T5.out.1.2.2.1
  have v_p2 : ((W.alloc (.cells #[.int .i64 w, .int .i64 h, .slice a n c] 24)).alloc (.cells #[.int .i64 0, .slice none 0 0, .slice none 0 0] 47)).cell? ⟨W.heap.size, 2, none⟩ = some (.slice a n c) := by rw [HWb.out]; exact T5.out.1.2.2.2
  go_wp2_with fail
  rw [HWb.out]
  clear v_p0 v_p1 v_p2
  clear hw3 hh3 cb hQ
  go_loop [3] (fun ix => ∃ i : Nat, i ≤ n ∧ ix = .int .i64 i ∧ ∀ x ∈ l.take i, cellB x = false) (fun ix => n - (intOf ix).toNat)
  case atStart => exact ⟨0, by omega, rfl, fun x hx => by simp at hx⟩
  case round =>
    obtain ⟨i, hi, rfl, hall⟩ := hrel
    have HA := Lib.hid hall
    clear hall
    by_cases hin : i < n
    · skip
      obtain ⟨ab, ao, hab0, hab, hcell⟩ := (T5.out.1.1.2).addr (by omega)
      subst hab0
      have z0 := hcell i hin
      have hnext : Hid (cellB (l.getD i 0) = false → ∀ x ∈ l.take (i + 1), cellB x = false) := by
        intro hc x hx
        rw [List.take_succ_eq_append_getElem (by have := HNL.out; omega), List.mem_append] at hx
        rcases hx with hx | hx
        · exact HA.out x hx
        · rw [List.mem_singleton] at hx
          rw [hx]
          have hil : i < l.length := by have := HNL.out; omega
          simpa [hil] using hc
      have hhit : Hid (cellB (l.getD i 0) = true → idxI cellB l = (i : Int)) := fun hc => findIdx_at (by have := HNL.out; omega) HA.out hc
      generalize l.getD i 0 = u at z0 hnext hhit
      have i0 : (0 : Int) ≤ (i : Int) := by omega
      have i1 : (i : Int) < (n : Int) := by omega
      clear hcell
      by_cases hu : u = 0 ∨ u = 1
      · skip
        have HN := Lib.hid (hnext.out (cellB_false.2 hu))
        clear hnext hhit
        rcases hu with rfl | rfl
        · skip
          have v_p2 : Wb.cell? ⟨W.heap.size, 2, none⟩ = some (.slice (some ⟨ab, ao, none⟩) n c) := T5.out.1.2.2.2
          go_wp2
          go_round
          case rel => exact ⟨i + 1, by omega, by go_num, HN.out⟩
          case measure => simp [intOf]; omega
        · skip
          have v_p2 : Wb.cell? ⟨W.heap.size, 2, none⟩ = some (.slice (some ⟨ab, ao, none⟩) n c) := T5.out.1.2.2.2
          go_wp2
          go_round
          case rel => exact ⟨i + 1, by omega, by go_num, HN.out⟩
          case measure => simp [intOf]; omega
      · skip
        have hi2 := hhit.out (cellB_true.2 (by omega))
        have hd := hD.out
        rw [if_pos (by omega), hi2] at hd
        have HD := Lib.hid hd
        have u0 : ¬ u = 0 := by omega
        have u1 : ¬ u = 1 := by omega
        have hu0 : (u != 0) = true := by simpa using u0
        have hu1 : (u != 1) = true := by simpa using u1
        clear hd hi2 hu hhit hnext u0 u1
        have sb0 : W.heap.size + 1 < Wb.heap.size := heap_ltT (T5.out.2)
        have v_p2 : Wb.cell? ⟨W.heap.size, 2, none⟩ = some (.slice (some ⟨ab, ao, none⟩) n c) := T5.out.1.2.2.2
        go_wp2_with fail
        refine (rawNew_fresh _ _ _ _ rfl).mono ?_; rintro e w8 ⟨b1, b2, rfl, lb1, lb2, hw8, hbw8⟩
        clear v_p2
        have T6 := T5.up hbw8
        clear T5
        obtain ⟨w9, e9, ⟨r0, r1, r2⟩, hret⟩ := er_at (show W.heap.size ≤ W.heap.size + 1 by omega) (T6.out.2) (T6.out.1.1.1.2) (by omega) (by omega) hw8
        obtain ⟨⟨q0, q1, q2⟩, f0, f1, f2⟩ := p_cells (T6.out.2)
        have HRET := Lib.hid hret
        have HE9 := Lib.hid e9
        have HR9 := Lib.hid (And.intro r0 (And.intro r1 r2))
        clear hw8 hret lb1 lb2 sb0 e9 r0 r1 r2
        go_wp2
        rw [HE9.out]
        have r0 := HR9.out.1
        have r1 := HR9.out.2.1
        have r2 := HR9.out.2.2
        refine bodyPost_ret (v := .agg #[.int .i64 7, .slice (some ⟨b1, 0, none⟩) 1 1, .slice (some ⟨b2, 0, none⟩) 1 1]) (by simp [results, Tryd.results28, go_sem, r0, r1, r2]) rfl ?_
        rw [HD.out]
        exact HRET.out
    · skip
      obtain rfl : n = i := by omega
      have hno : idxI cellB l = -1 := findIdx_none fun x hx => HA.out x (by rw [List.take_of_length_le (by have := HNL.out; omega)]; exact hx)
      have hd := hD.out
      rw [if_neg (by omega)] at hd
      have HD := Lib.hid hd
      clear hd hno
      obtain ⟨⟨q0, q1, q2⟩, f0, f1, f2⟩ := p_cells (T5.out.2)
      obtain ⟨w9, e9, ⟨r0, r1, r2⟩, hret⟩ := er_none (show W.heap.size ≤ W.heap.size + 1 by omega) (T5.out.2) (T5.out.1.1.1.2)
      have HRET := Lib.hid hret
      have HE9 := Lib.hid e9
      have HR9 := Lib.hid (And.intro r0 (And.intro r1 r2))
      clear hret e9 r0 r1 r2
      have v_p2 : Wb.cell? ⟨W.heap.size, 2, none⟩ = some (.slice a n c) := T5.out.1.2.2.2
      go_wp2
      rw [HE9.out]
      have r0 := HR9.out.1
      have r1 := HR9.out.2.1
      have r2 := HR9.out.2.2
      refine bodyPost_ret (v := .agg #[.int .i64 0, .slice none 0 0, .slice none 0 0]) (by simp [results, Tryd.results28, go_sem, r0, r1, r2]) rfl ?_
      rw [HD.out]
      exact HRET.out
end Go.Proofs.YtnlpobkmjhajcaaDoor
namespace Go.Proofs.YtnlpobkmjhajcaaDoor
open Go.RowKit
set_option linter.unusedVariables false
set_option maxRecDepth 100000

theorem setCell_comm {w : World} {g1 g2 i j : Nat} {u v : Value} (h : g1 ≠ g2) : (w.setCell ⟨g1, i, none⟩ u).setCell ⟨g2, j, none⟩ v = (w.setCell ⟨g2, j, none⟩ v).setCell ⟨g1, i, none⟩ u := by
  simp only [World.setCell]
  congr 1
  apply Array.ext_getElem?
  intro k
  simp only [Array.getElem?_modify]
  by_cases h1 : g1 = k <;> by_cases h2 : g2 = k <;> simp [h1, h2]
  exact absurd (h1.trans h2.symm) h
/-- a patch's variable and an error's are set -/
theorem set6p {w : World} {g1 g2 : Nat} {x0 x1 x2 y0 y1 y2 : Value} {t1 t2 : TypeId} {f1 f2 : Nat × Nat} (hne : g1 ≠ g2) (h1 : w.heap[g1]? = some (.cells #[x0, x1, x2] t1 f1)) (h2 : w.heap[g2]? = some (.cells #[y0, y1, y2] t2 f2)) (u0 u1 u2 v0 v1 v2 : Value) :
    ∃ w9, ((((((w.setCell ⟨g1, 0, none⟩ u0).setCell ⟨g1, 1, none⟩ u1).setCell ⟨g1, 2, none⟩ u2).setCell ⟨g2, 0, none⟩ v0).setCell ⟨g2, 1, none⟩ v1).setCell ⟨g2, 2, none⟩ v2) = w9 ∧
      ((((((w.setCell ⟨g2, 0, none⟩ v0).setCell ⟨g2, 1, none⟩ v1).setCell ⟨g2, 2, none⟩ v2).setCell ⟨g1, 0, none⟩ u0).setCell ⟨g1, 1, none⟩ u1).setCell ⟨g1, 2, none⟩ u2) = w9 ∧
      ((w9.cell? ⟨g1, 0, none⟩ = some u0 ∧ w9.cell? ⟨g1, 1, none⟩ = some u1 ∧ w9.cell? ⟨g1, 2, none⟩ = some u2) ∧ (w9.cell? ⟨g2, 0, none⟩ = some v0 ∧ w9.cell? ⟨g2, 1, none⟩ = some v1 ∧ w9.cell? ⟨g2, 2, none⟩ = some v2)) ∧
      (∀ k, k ≠ g1 → k ≠ g2 → w9.heap[k]? = w.heap[k]?) ∧ w9.heap.size = w.heap.size ∧ ∀ (V : World) (B : Nat), B ≤ g1 → B ≤ g2 → Below B V w → Below B V w9 := by
  obtain ⟨wa, ea, ca, ka, sa, ba⟩ := set3p h1 u0 u1 u2
  have h2a : wa.heap[g2]? = some (.cells #[y0, y1, y2] t2 f2) := (ka g2 (fun e => hne e.symm)).trans h2
  obtain ⟨wb, eb, cb, kb, sb, bb⟩ := set3p h2a v0 v1 v2
  refine ⟨wb, by rw [ea, eb], ?_, ⟨⟨?_, ?_, ?_⟩, cb⟩, fun k h1 h2 => (kb k h2).trans (ka k h1), sb.trans sa, fun V B l1 l2 hb => bb V B l2 (ba V B l1 hb)⟩
  · rw [← eb, ← ea]
    have hne2 : g2 ≠ g1 := fun e => hne e.symm
    simp only [setCell_comm (g1 := g2) (g2 := g1) hne2]
  · rw [World.cell?_of_block (w := wa) (kb g1 hne)]; exact ca.1
  · rw [World.cell?_of_block (w := wa) (kb g1 hne)]; exact ca.2.1
  · rw [World.cell?_of_block (w := wa) (kb g1 hne)]; exact ca.2.2
theorem WC.oth2 {w w6 : World} {g1 g2 : Nat} {N : Int} {a1 a2 : Option Addr} {n1 c1 n2 c2 : Nat} {f : ErrD} (h : WC w (.agg #[.int .i64 N, .slice a1 n1 c1, .slice a2 n2 c2]) f) (hk : ∀ k, k ≠ g1 → k ≠ g2 → w6.heap[k]? = w.heap[k]?) (hs : w6.heap.size = w.heap.size) {B : Nat} (l1 : g1 < B) (l2 : g2 < B) (h1 : Fr B a1) (h2 : Fr B a2) :
    WC w6 (.agg #[.int .i64 N, .slice a1 n1 c1, .slice a2 n2 c2]) f := by
  have rd : ∀ {a : Option Addr} {n sz : Nat} {cs : List Value}, Fr B a → Rd w a n sz cs → Rd w6 a n sz cs := by
    intro a n sz cs hf hr
    refine ⟨hr.1, ?_⟩
    rcases hr.2 with h0 | ⟨b, o, rfl, hlt, hc⟩
    · exact .inl h0
    · have := hf b o rfl
      refine .inr ⟨b, o, rfl, by omega, fun j u hu => ?_⟩
      rw [World.cell?_of_block (hk b (by omega) (by omega))]
      exact hc j u hu
  have key : ∀ {n : Int} {es : List (ByteArray × Int)}, ErrVal w (.agg #[.int .i64 N, .slice a1 n1 c1, .slice a2 n2 c2]) n es → ErrVal w6 (.agg #[.int .i64 N, .slice a1 n1 c1, .slice a2 n2 c2]) n es := by
    rintro n es ⟨ao, aa, co, ca, e, hw⟩
    simp only [Value.agg.injEq, Array.mk.injEq, List.cons.injEq, Value.int.injEq, Value.slice.injEq] at e
    obtain ⟨⟨_, rfl⟩, ⟨rfl, rfl, rfl⟩, ⟨rfl, _, rfl⟩, _⟩ := e
    exact ⟨a1, a2, c1, c2, by simp_all, hw.n1, hw.n2, rd h1 hw.ops, rd h2 hw.ats, hw.len⟩
  cases f with
  | none => exact key h
  | some y => exact ⟨key h.1, h.2⟩
/-- a patch and an error as the document has them -/
def PatRef (W : World) (o : Int × Int × List Int) (x : ErrD) (e : Ending) (w' : World) : Prop := ∃ a n c N b1 m1 d1 b2 m2 d2, e = .returned (.tuple #[patV o.1 o.2.1 a n c, .agg #[.int .i64 N, .slice b1 m1 d1, .slice b2 m2 d2]]) ∧ RK .i64 w' a n o.2.2 ∧ WC w' (.agg #[.int .i64 N, .slice b1 m1 d1, .slice b2 m2 d2]) x ∧ (N != 0) = x.isSome ∧ Below W.heap.size W w'
/-- a list and an error as the document has them -/
def IntsRef (W : World) (o : List Int) (x : ErrD) (e : Ending) (w' : World) : Prop := ∃ a n c N b1 m1 d1 b2 m2 d2, e = .returned (.tuple #[.slice a n c, .agg #[.int .i64 N, .slice b1 m1 d1, .slice b2 m2 d2]]) ∧ RK .i64 w' a n o ∧ WC w' (.agg #[.int .i64 N, .slice b1 m1 d1, .slice b2 m2 d2]) x ∧ (N != 0) = x.isSome ∧ Below W.heap.size W w'
theorem PatRef.drew {W w : World} {o : Int × Int × List Int} {x : ErrD} {e : Ending} (h : PatRef W o x e w) : PatRef W o x e w.drew := by
  obtain ⟨a, n, c, N, b1, m1, d1, b2, m2, d2, rfl, h1, h2, h3, hb⟩ := h
  exact ⟨a, n, c, N, b1, m1, d1, b2, m2, d2, rfl, h1.up (Below.drew (bnil w)), h2.up (Below.drew (bnil w)), h3, Below.drew hb⟩
theorem IntsRef.drew {W w : World} {o : List Int} {x : ErrD} {e : Ending} (h : IntsRef W o x e w) : IntsRef W o x e w.drew := by
  obtain ⟨a, n, c, N, b1, m1, d1, b2, m2, d2, rfl, h1, h2, h3, hb⟩ := h
  exact ⟨a, n, c, N, b1, m1, d1, b2, m2, d2, rfl, h1.up (Below.drew (bnil w)), h2.up (Below.drew (bnil w)), h3, Below.drew hb⟩
/-- a refusal's end, the error told by a call -/
theorem pr_err {W w8 : World} {g1 g2 : Nat} {N : Int} {a1 a2 : Option Addr} {n1 c1 n2 c2 : Nat} {x : ErrD} {x0 x1 x2 y0 y1 y2 : Value} (hne : g1 ≠ g2) (h1 : w8.heap[g1]? = some (.cells #[x0, x1, x2] 24)) (h2 : w8.heap[g2]? = some (.cells #[y0, y1, y2] 47)) (l1 : W.heap.size ≤ g1) (l2 : W.heap.size ≤ g2) (hb : Below W.heap.size W w8)
    {B : Nat} (k1 : g1 < B) (k2 : g2 < B) (f1 : Fr B a1) (f2 : Fr B a2) (hw : WC w8 (.agg #[.int .i64 N, .slice a1 n1 c1, .slice a2 n2 c2]) x) (hn : (N != 0) = x.isSome) :
    ∃ w9, ((((((w8.setCell ⟨g1, 0, none⟩ (.int .i64 0)).setCell ⟨g1, 1, none⟩ (.int .i64 0)).setCell ⟨g1, 2, none⟩ (.slice none 0 0)).setCell ⟨g2, 0, none⟩ (.int .i64 N)).setCell ⟨g2, 1, none⟩ (.slice a1 n1 c1)).setCell ⟨g2, 2, none⟩ (.slice a2 n2 c2)) = w9 ∧
      ((((((w8.setCell ⟨g2, 0, none⟩ (.int .i64 N)).setCell ⟨g2, 1, none⟩ (.slice a1 n1 c1)).setCell ⟨g2, 2, none⟩ (.slice a2 n2 c2)).setCell ⟨g1, 0, none⟩ (.int .i64 0)).setCell ⟨g1, 1, none⟩ (.int .i64 0)).setCell ⟨g1, 2, none⟩ (.slice none 0 0)) = w9 ∧
      ((w9.cell? ⟨g1, 0, none⟩ = some (.int .i64 0) ∧ w9.cell? ⟨g1, 1, none⟩ = some (.int .i64 0) ∧ w9.cell? ⟨g1, 2, none⟩ = some (.slice none 0 0)) ∧ (w9.cell? ⟨g2, 0, none⟩ = some (.int .i64 N) ∧ w9.cell? ⟨g2, 1, none⟩ = some (.slice a1 n1 c1) ∧ w9.cell? ⟨g2, 2, none⟩ = some (.slice a2 n2 c2))) ∧
      PatRef W (0, 0, []) x (.returned (.tuple #[patV 0 0 none 0 0, .agg #[.int .i64 N, .slice a1 n1 c1, .slice a2 n2 c2]])) w9 := by
  obtain ⟨w9, e1, e2, hc, hk, hs, hbl⟩ := set6p hne h1 h2 (.int .i64 0) (.int .i64 0) (.slice none 0 0) (.int .i64 N) (.slice a1 n1 c1) (.slice a2 n2 c2)
  exact ⟨w9, e1, e2, hc, none, 0, 0, N, a1, n1, c1, a2, n2, c2, rfl, RK.nil, hw.oth2 hk hs k1 k2 f1 f2, hn, hbl _ _ l1 l2 hb⟩
/-- the end of a call that is not refused -/
theorem pr_ok {W w8 : World} {g1 g2 : Nat} {H K : Int} {a : Option Addr} {n c : Nat} {l : List Int} {x0 x1 x2 y0 y1 y2 : Value} (hne : g1 ≠ g2) (h1 : w8.heap[g1]? = some (.cells #[x0, x1, x2] 24)) (h2 : w8.heap[g2]? = some (.cells #[y0, y1, y2] 47)) (l1 : W.heap.size ≤ g1) (l2 : W.heap.size ≤ g2) (hb : Below W.heap.size W w8)
    {B : Nat} (k1 : g1 < B) (k2 : g2 < B) (ho : OwI w8 B a n c l) :
    ∃ w9, ((((((w8.setCell ⟨g1, 0, none⟩ (.int .i64 H)).setCell ⟨g1, 1, none⟩ (.int .i64 K)).setCell ⟨g1, 2, none⟩ (.slice a n c)).setCell ⟨g2, 0, none⟩ (.int .i64 0)).setCell ⟨g2, 1, none⟩ (.slice none 0 0)).setCell ⟨g2, 2, none⟩ (.slice none 0 0)) = w9 ∧
      ((((((w8.setCell ⟨g2, 0, none⟩ (.int .i64 0)).setCell ⟨g2, 1, none⟩ (.slice none 0 0)).setCell ⟨g2, 2, none⟩ (.slice none 0 0)).setCell ⟨g1, 0, none⟩ (.int .i64 H)).setCell ⟨g1, 1, none⟩ (.int .i64 K)).setCell ⟨g1, 2, none⟩ (.slice a n c)) = w9 ∧
      ((w9.cell? ⟨g1, 0, none⟩ = some (.int .i64 H) ∧ w9.cell? ⟨g1, 1, none⟩ = some (.int .i64 K) ∧ w9.cell? ⟨g1, 2, none⟩ = some (.slice a n c)) ∧ (w9.cell? ⟨g2, 0, none⟩ = some (.int .i64 0) ∧ w9.cell? ⟨g2, 1, none⟩ = some (.slice none 0 0) ∧ w9.cell? ⟨g2, 2, none⟩ = some (.slice none 0 0))) ∧
      PatRef W (H, K, l) none (.returned (.tuple #[patV H K a n c, .agg #[.int .i64 0, .slice none 0 0, .slice none 0 0]])) w9 := by
  obtain ⟨w9, e1, e2, hc, hk, hs, hbl⟩ := set6p hne h1 h2 (.int .i64 H) (.int .i64 K) (.slice a n c) (.int .i64 0) (.slice none 0 0) (.slice none 0 0)
  refine ⟨w9, e1, e2, hc, a, n, c, 0, none, 0, 0, none, 0, 0, rfl, ?_, wc_none w9, rfl, hbl _ _ l1 l2 hb⟩
  exact OwI.rk ⟨own_of_heap' ho.own fun b hb => by have := (ho.own.lt b hb).1; exact hk b (by omega) (by omega)⟩
theorem take_snoc {l : List Int} {k : Nat} (h : k < l.length) : (l.take k).map (Value.int .i64) ++ (#[Value.int .i64 (l.getD k 0)] : Array Value).toList = (l.take (k + 1)).map (Value.int .i64) := by
  rw [List.take_succ_eq_append_getElem h, List.map_append, show l.getD k 0 = l[k] by simp [h]]
  rfl
theorem set2q {w : World} {g : Nat} {x0 x1 x2 : Value} {t : TypeId} {fr : Nat × Nat} (h : w.heap[g]? = some (.cells #[x0, x1, x2] t fr)) (u : Value) : (w.setCell ⟨g, 2, none⟩ u).heap[g]? = some (.cells #[x0, x1, u] t fr) := by
  simp [World.setCell, Array.getElem?_modify, h]
end Go.Proofs.YtnlpobkmjhajcaaDoor
namespace Go.Proofs.YtnlpobkmjhajcaaDoor
open Go.RowKit
set_option linter.unusedVariables false
set_option maxRecDepth 100000

theorem withinB_t2 {x n m : Int} (h : ¬ withinB x n m = false) : 0 ≤ x ∧ 1 ≤ n ∧ n ≤ m ∧ x ≤ m - n := by
  have h2 : withinB x n m = true := by simpa using h
  exact of_decide_eq_true h2
def cutO (w h : Int) (l : List Int) (x y p q : Int) : Int × Int × List Int := if cutD w h l x y p q = none then (p, q, cutL w.toNat l x.toNat y.toNat p.toNat q.toNat) else (0, 0, [])
theorem refBadE (n : Int) (x y : Value) (W : World) (b : Bool) (h : (n != 0) = b) : Calls Tryd.prog 52 #[.agg #[.int .i64 n, x, y]] W fun e w' => e = .returned (.bool b) ∧ Below W.heap.size W w' := by
  subst h
  go_enter Tryd.func52, Tryd.ntmps52
  go_wp2
  go_ret
  exact ⟨rfl, balloc (bnil W) _⟩
theorem refpcheck_ok (w h : Nat) (a : Option Addr) (n c : Nat) (l : List Int) (W : World) (hR : RK .i64 W a n l) (hm : n ≤ maxLen) (hp : IsPatch w h l) :
    Calls Tryd.prog 28 #[patV w h a n c] W fun e w' => e = .returned (.agg #[.int .i64 0, .slice none 0 0, .slice none 0 0]) ∧ Below W.heap.size W w' := by
  refine (refpcheck_any w h a n c l W hR hm).mono ?_
  rintro e w' ⟨N, a1, n1, c1, a2, n2, c2, rfl, _, _, _, _, hz, hb⟩
  obtain ⟨rfl, rfl, rfl, rfl, rfl, rfl, rfl⟩ := hz (by unfold patchD; rw [patchErr_of hp]; rfl)
  exact ⟨rfl, hb⟩
theorem refpcheck_er (w h : Int) (a : Option Addr) (n c : Nat) (l : List Int) (W : World) (hR : RK .i64 W a n l) (hm : n ≤ maxLen) (hp : patchErr w h l ≠ none) :
    Calls Tryd.prog 28 #[patV w h a n c] W fun e w' => ∃ N a1 n1 c1 a2 n2 c2, e = .returned (.agg #[.int .i64 N, .slice a1 n1 c1, .slice a2 n2 c2]) ∧ WC w' (.agg #[.int .i64 N, .slice a1 n1 c1, .slice a2 n2 c2]) (patchD w h l) ∧ Fr W.heap.size a1 ∧ Fr W.heap.size a2 ∧ (N != 0) = true ∧ Below W.heap.size W w' := by
  refine (refpcheck_any w h a n c l W hR hm).mono ?_
  rintro e w' ⟨N, a1, n1, c1, a2, n2, c2, rfl, hw, f1, f2, hn, _, hb⟩
  refine ⟨N, a1, n1, c1, a2, n2, c2, rfl, hw, f1, f2, ?_, hb⟩
  rw [hn]
  unfold patchD
  cases he : patchErr w h l with
  | none => exact absurd he hp
  | some y => rfl

set_option maxHeartbeats 16000000 in
theorem refcutP_any (w h x y p q : Int) (a : Option Addr) (n c : Nat) (l : List Int) (W : World) (hR : RK .i64 W a n l) (hm : n ≤ maxLen) :
    Calls Tryd.prog 25 #[patV w h a n c, .int .i64 x, .int .i64 y, .int .i64 p, .int .i64 q] W (PatRef W (cutO w h l x y p q) (cutD w h l x y p q)) := by
  have T0 := Tk.nil W
  have T1 := T0.add (fun wv => Below W.heap.size W wv) (bnil W)
  clear T0
  have T2 := T1.add (fun wv => RK .i64 wv a n l) (hR)
  clear T1
  have hmx : n ≤ 9223372036854775807 := hm
  clear hR
  obtain ⟨Wb, hWb⟩ : ∃ Wb, ((W.alloc (.cells #[.int .i64 w, .int .i64 h, .slice a n c] 24)).alloc (.cells #[.int .i64 0, .int .i64 0, .slice none 0 0] 24)).alloc (.cells #[.int .i64 0, .slice none 0 0, .slice none 0 0] 47) = Wb := ⟨_, rfl⟩
  have hbWb : Below W.heap.size W Wb := by rw [← hWb]; exact balloc (balloc (balloc (bnil W) _) _) _
  have T3 := T2.up hbWb
  clear T2
  have T4 := T3.add (fun wv => wv.cell? ⟨W.heap.size, 0, none⟩ = some (.int .i64 w) ∧ wv.cell? ⟨W.heap.size, 1, none⟩ = some (.int .i64 h) ∧ wv.cell? ⟨W.heap.size, 2, none⟩ = some (.slice a n c)) (by rw [← hWb]; exact ⟨al000 (al000 (cnw (by simp) rfl)), al000 (al000 (cnw (by simp) rfl)), al000 (al000 (cnw (by simp) rfl))⟩)
  clear T3
  have HWb := Lib.hid hWb
  clear hWb hbWb
  have hz1 : Wb.heap[W.heap.size + 1]? = some (.cells #[.int .i64 0, .int .i64 0, .slice none 0 0] 24) := by
    rw [← HWb.out, (balloc (bnil _) (.cells #[.int .i64 0, .slice none 0 0, .slice none 0 0] 47)).block _ (by simp)]
    have := heap_alloc_new (W.alloc (.cells #[.int .i64 w, .int .i64 h, .slice a n c] 24)) (.cells #[.int .i64 0, .int .i64 0, .slice none 0 0] 24)
    simpa using this
  have hz2 : Wb.heap[W.heap.size + 1 + 1]? = some (.cells #[.int .i64 0, .slice none 0 0, .slice none 0 0] 47) := by
    rw [← HWb.out]
    have := heap_alloc_new ((W.alloc (.cells #[.int .i64 w, .int .i64 h, .slice a n c] 24)).alloc (.cells #[.int .i64 0, .int .i64 0, .slice none 0 0] 24)) (.cells #[.int .i64 0, .slice none 0 0, .slice none 0 0] 47)
    simpa using this
  have hsz : W.heap.size + 1 + 1 + 1 = Wb.heap.size := by rw [← HWb.out]; simp
  have T5 := T4.add (fun wv => wv.heap[W.heap.size + 1]? = some (.cells #[.int .i64 0, .int .i64 0, .slice none 0 0] 24)) (hz1)
  clear T4
  have T6 := T5.add (fun wv => wv.heap[W.heap.size + 1 + 1]? = some (.cells #[.int .i64 0, .slice none 0 0, .slice none 0 0] 47)) (hz2)
  clear T5
  have HSZ := Lib.hid hsz
  clear hz1 hz2 hsz
  by_cases hpe : patchErr w h l ≠ none
  · skip
    have hd : cutD w h l x y p q = patchD w h l := by
      unfold cutD patchD
      cases he : patchErr w h l with
      | none => exact absurd he hpe
      | some e => rfl
    have hpd : patchD w h l ≠ none := by
      unfold patchD
      cases he : patchErr w h l with
      | none => exact absurd he hpe
      | some e => exact nofun
    have ho : cutO w h l x y p q = (0, 0, []) := by unfold cutO; rw [hd, if_neg hpd]
    have HOD := Lib.hid (And.intro ho hd)
    have HPD := Lib.hid hpd
    have HPE := Lib.hid hpe
    clear hd ho hpd hpe
    go_enter Tryd.func25, Tryd.ntmps25
    have v_p0 : (((W.alloc (.cells #[.int .i64 w, .int .i64 h, .slice a n c] 24)).alloc (.cells #[.int .i64 0, .int .i64 0, .slice none 0 0] 24)).alloc (.cells #[.int .i64 0, .slice none 0 0, .slice none 0 0] 47)).cell? ⟨W.heap.size, 0, none⟩ = some (.int .i64 w) := by rw [HWb.out]; exact T6.out.1.1.2.1
    have v_p1 : (((W.alloc (.cells #[.int .i64 w, .int .i64 h, .slice a n c] 24)).alloc (.cells #[.int .i64 0, .int .i64 0, .slice none 0 0] 24)).alloc (.cells #[.int .i64 0, .slice none 0 0, .slice none 0 0] 47)).cell? ⟨W.heap.size, 1, none⟩ = some (.int .i64 h) := by rw [HWb.out]; exact T6.out.1.1.2.2.1
    have v_p2 : (((W.alloc (.cells #[.int .i64 w, .int .i64 h, .slice a n c] 24)).alloc (.cells #[.int .i64 0, .int .i64 0, .slice none 0 0] 24)).alloc (.cells #[.int .i64 0, .slice none 0 0, .slice none 0 0] 47)).cell? ⟨W.heap.size, 2, none⟩ = some (.slice a n c) := by rw [HWb.out]; exact T6.out.1.1.2.2.2
    go_wp2_with fail
    rw [HWb.out]
    refine (refpcheck_er w h a n c l Wb T6.out.1.1.1.2 hm HPE.out).mono ?_; rintro e w1 ⟨N, a1, n1, c1, a2, n2, c2, rfl, hw, f1, f2, hN, hbw1⟩
    clear v_p0 v_p1 v_p2
    have T7 := T6.up hbw1
    clear T6
    have T8 := T7.add (fun wv => WC wv (.agg #[.int .i64 N, .slice a1 n1 c1, .slice a2 n2 c2]) (patchD w h l)) (hw)
    clear T7
    have HN := Lib.hid hN
    have HF := Lib.hid (And.intro f1 f2)
    clear hw f1 f2 hN
    obtain ⟨we, hwe⟩ : ∃ we, w1.alloc (.cells #[.int .i64 N, .slice a1 n1 c1, .slice a2 n2 c2] 47) = we := ⟨_, rfl⟩
    have hbwe : Below w1.heap.size w1 we := by rw [← hwe]; exact balloc (bnil w1) _
    have T9 := T8.up hbwe
    clear T8
    have T10 := T9.add (fun wv => wv.cell? ⟨w1.heap.size, 0, none⟩ = some (.int .i64 N) ∧ wv.cell? ⟨w1.heap.size, 1, none⟩ = some (.slice a1 n1 c1) ∧ wv.cell? ⟨w1.heap.size, 2, none⟩ = some (.slice a2 n2 c2)) (by rw [← hwe]; exact ⟨cnw (by simp) rfl, cnw (by simp) rfl, cnw (by simp) rfl⟩)
    clear T9
    have Hwe := Lib.hid hwe
    clear hwe hbwe
    have v_e0 : (w1.alloc (.cells #[.int .i64 N, .slice a1 n1 c1, .slice a2 n2 c2] 47)).cell? ⟨w1.heap.size, 0, none⟩ = some (.int .i64 N) := by rw [Hwe.out]; exact T10.out.2.1
    have v_e1 : (w1.alloc (.cells #[.int .i64 N, .slice a1 n1 c1, .slice a2 n2 c2] 47)).cell? ⟨w1.heap.size, 1, none⟩ = some (.slice a1 n1 c1) := by rw [Hwe.out]; exact T10.out.2.2.1
    have v_e2 : (w1.alloc (.cells #[.int .i64 N, .slice a1 n1 c1, .slice a2 n2 c2] 47)).cell? ⟨w1.heap.size, 2, none⟩ = some (.slice a2 n2 c2) := by rw [Hwe.out]; exact T10.out.2.2.2
    go_wp2_with fail
    rw [Hwe.out]
    refine (refBadE _ _ _ we true HN.out).mono ?_; rintro e w2 ⟨rfl, hbw2⟩
    clear v_e0 v_e1 v_e2
    have T11 := T10.up hbw2
    clear T10
    have hNs : (N != 0) = (patchD w h l).isSome := by rw [HN.out]; cases hq : patchD w h l with | none => exact absurd hq HPD.out | some z => rfl
    have v_e0 : w2.cell? ⟨w1.heap.size, 0, none⟩ = some (.int .i64 N) := T11.out.2.1
    have v_e1 : w2.cell? ⟨w1.heap.size, 1, none⟩ = some (.slice a1 n1 c1) := T11.out.2.2.1
    have v_e2 : w2.cell? ⟨w1.heap.size, 2, none⟩ = some (.slice a2 n2 c2) := T11.out.2.2.2
    obtain ⟨⟨q0, q1, q2⟩, f0, f1, f2⟩ := p_cells (T11.out.1.1.1.2)
    obtain ⟨⟨q3, q4, q5⟩, f3, f4, f5⟩ := p_cells (T11.out.1.1.2)
    obtain ⟨w9, e9, e9b, ⟨⟨r0, r1, r2⟩, r3, r4, r5⟩, hret⟩ := pr_err (show W.heap.size + 1 ≠ W.heap.size + 1 + 1 by omega) (T11.out.1.1.1.2) (T11.out.1.1.2) (show W.heap.size ≤ W.heap.size + 1 by omega) (show W.heap.size ≤ W.heap.size + 1 + 1 by omega) (T11.out.1.1.1.1.1.1.2) (B := Wb.heap.size) (by rw [← HSZ.out]; omega) (by rw [← HSZ.out]; omega) HF.out.1 HF.out.2 (T11.out.1.2) hNs
    have HRET := Lib.hid hret
    have HE9 := Lib.hid (And.intro e9 e9b)
    have HR9 := Lib.hid (And.intro r0 (And.intro r1 (And.intro r2 (And.intro r3 (And.intro r4 r5)))))
    clear hret e9 e9b r0 r1 r2 r3 r4 r5
    have sz1 := hbw1.size
    have sz0 := HSZ.out
    have ne1 : ¬ w1.heap.size = W.heap.size + 1 := by omega
    have ne2 : ¬ W.heap.size + 1 = w1.heap.size := by omega
    have ne3 : ¬ w1.heap.size = W.heap.size + 1 + 1 := by omega
    have ne4 : ¬ W.heap.size + 1 + 1 = w1.heap.size := by omega
    clear sz0 sz1
    go_wp2_with fail
    go_region
    all_goals
      go_wp2
      first | rw [HE9.out.1] | rw [HE9.out.2]
      have r0 := HR9.out.1
      have r1 := HR9.out.2.1
      have r2 := HR9.out.2.2.1
      have r3 := HR9.out.2.2.2.1
      have r4 := HR9.out.2.2.2.2.1
      have r5 := HR9.out.2.2.2.2.2
      refine bodyPost_ret (v := .tuple #[patV 0 0 none 0 0, .agg #[.int .i64 N, .slice a1 n1 c1, .slice a2 n2 c2]]) (by simp [results, Tryd.results25, go_sem, r0, r1, r2, r3, r4, r5]) rfl ?_
      rw [HOD.out.1, HOD.out.2]
      exact HRET.out.drew
  have he : patchErr w h l = none := Decidable.byContradiction hpe
  obtain ⟨w, h, rfl, rfl, hp⟩ := patchErr_none he
  have hw1 := hp.w1
  have hw2 := hp.w2
  have hh1 := hp.h1
  have hh2 := hp.h2
  have HPP := Lib.hid hp
  have hdd : cutD (w : Int) (h : Int) l x y p q = if withinB x p (w : Int) = false then some ([(opPatch, 1)], 3) else if withinB y q (h : Int) = false then some ([(opPatch, 2)], 3) else none := by unfold cutD; rw [he]
  have HDD := Lib.hid hdd
  clear hpe he hp hdd
  by_cases h1 : withinB x p (w : Int) = false
  · skip
    have hnot : ¬ (0 ≤ x ∧ 1 ≤ p ∧ p ≤ (w : Int) ∧ x ≤ (w : Int) - p) := of_decide_eq_false h1
    by_cases cc : x < 0
    · skip
      have hd : cutD (w : Int) (h : Int) l x y p q = some ([(opPatch, 1)], 3) := by rw [HDD.out]; rw [if_pos h1]
      have ho : cutO (w : Int) (h : Int) l x y p q = (0, 0, []) := by unfold cutO; rw [hd]; rfl
      have HOD := Lib.hid (And.intro ho hd)
      clear hd ho HDD
      clear hnot h1
      go_enter Tryd.func25, Tryd.ntmps25
      have v_p0 : (((W.alloc (.cells #[.int .i64 w, .int .i64 h, .slice a n c] 24)).alloc (.cells #[.int .i64 0, .int .i64 0, .slice none 0 0] 24)).alloc (.cells #[.int .i64 0, .slice none 0 0, .slice none 0 0] 47)).cell? ⟨W.heap.size, 0, none⟩ = some (.int .i64 w) := by rw [HWb.out]; exact T6.out.1.1.2.1
      have v_p1 : (((W.alloc (.cells #[.int .i64 w, .int .i64 h, .slice a n c] 24)).alloc (.cells #[.int .i64 0, .int .i64 0, .slice none 0 0] 24)).alloc (.cells #[.int .i64 0, .slice none 0 0, .slice none 0 0] 47)).cell? ⟨W.heap.size, 1, none⟩ = some (.int .i64 h) := by rw [HWb.out]; exact T6.out.1.1.2.2.1
      have v_p2 : (((W.alloc (.cells #[.int .i64 w, .int .i64 h, .slice a n c] 24)).alloc (.cells #[.int .i64 0, .int .i64 0, .slice none 0 0] 24)).alloc (.cells #[.int .i64 0, .slice none 0 0, .slice none 0 0] 47)).cell? ⟨W.heap.size, 2, none⟩ = some (.slice a n c) := by rw [HWb.out]; exact T6.out.1.1.2.2.2
      go_wp2_with fail
      rw [HWb.out]
      refine (refpcheck_ok w h a n c l Wb T6.out.1.1.1.2 hm HPP.out).mono ?_; rintro e w1 ⟨rfl, hbw1⟩
      clear v_p0 v_p1 v_p2
      have T7 := T6.up hbw1
      clear T6
      obtain ⟨we, hwe⟩ : ∃ we, w1.alloc (.cells #[.int .i64 0, .slice none 0 0, .slice none 0 0] 47) = we := ⟨_, rfl⟩
      have hbwe : Below w1.heap.size w1 we := by rw [← hwe]; exact balloc (bnil w1) _
      have T8 := T7.up hbwe
      clear T7
      have T9 := T8.add (fun wv => wv.cell? ⟨w1.heap.size, 0, none⟩ = some (.int .i64 0) ∧ wv.cell? ⟨w1.heap.size, 1, none⟩ = some (.slice none 0 0) ∧ wv.cell? ⟨w1.heap.size, 2, none⟩ = some (.slice none 0 0)) (by rw [← hwe]; exact ⟨cnw (by simp) rfl, cnw (by simp) rfl, cnw (by simp) rfl⟩)
      clear T8
      have Hwe := Lib.hid hwe
      clear hwe hbwe
      have v_e0 : (w1.alloc (.cells #[.int .i64 0, .slice none 0 0, .slice none 0 0] 47)).cell? ⟨w1.heap.size, 0, none⟩ = some (.int .i64 0) := by rw [Hwe.out]; exact T9.out.2.1
      have v_e1 : (w1.alloc (.cells #[.int .i64 0, .slice none 0 0, .slice none 0 0] 47)).cell? ⟨w1.heap.size, 1, none⟩ = some (.slice none 0 0) := by rw [Hwe.out]; exact T9.out.2.2.1
      have v_e2 : (w1.alloc (.cells #[.int .i64 0, .slice none 0 0, .slice none 0 0] 47)).cell? ⟨w1.heap.size, 2, none⟩ = some (.slice none 0 0) := by rw [Hwe.out]; exact T9.out.2.2.2
      go_wp2_with fail
      rw [Hwe.out]
      refine (refBadE _ _ _ we false rfl).mono ?_; rintro e w2 ⟨rfl, hbw2⟩
      clear v_e0 v_e1 v_e2
      have T10 := T9.up hbw2
      clear T9
      have sb0 : W.heap.size + 1 + 1 < w2.heap.size := heap_ltT (T10.out.1.2)
      have v_p0 : w2.cell? ⟨W.heap.size, 0, none⟩ = some (.int .i64 w) := T10.out.1.1.1.2.1
      have v_p1 : w2.cell? ⟨W.heap.size, 1, none⟩ = some (.int .i64 h) := T10.out.1.1.1.2.2.1
      have v_p2 : w2.cell? ⟨W.heap.size, 2, none⟩ = some (.slice a n c) := T10.out.1.1.1.2.2.2
      go_wp2_with fail
      refine (rawNew_fresh _ _ _ _ rfl).mono ?_; rintro e w8 ⟨b1, b2, rfl, lb1, lb2, hw8, hbw8⟩
      clear v_p0 v_p1 v_p2
      have T11 := T10.up hbw8
      clear T10
      obtain ⟨⟨q0, q1, q2⟩, f0, f1, f2⟩ := p_cells (T11.out.1.1.2)
      obtain ⟨⟨q3, q4, q5⟩, f3, f4, f5⟩ := p_cells (T11.out.1.2)
      obtain ⟨w9, e9, e9b, ⟨⟨r0, r1, r2⟩, r3, r4, r5⟩, hret⟩ := pr_err (show W.heap.size + 1 ≠ W.heap.size + 1 + 1 by omega) (T11.out.1.1.2) (T11.out.1.2) (show W.heap.size ≤ W.heap.size + 1 by omega) (show W.heap.size ≤ W.heap.size + 1 + 1 by omega) (T11.out.1.1.1.1.1.2) (B := W.heap.size + 1 + 1 + 1) (by omega) (by omega) (fr_some (by omega)) (fr_some (by omega)) (wc_want hw8) rfl
      have HRET := Lib.hid hret
      have HE9 := Lib.hid (And.intro e9 e9b)
      have HR9 := Lib.hid (And.intro r0 (And.intro r1 (And.intro r2 (And.intro r3 (And.intro r4 r5)))))
      clear hret e9 e9b r0 r1 r2 r3 r4 r5
      clear hw8 lb1 lb2 sb0
      go_wp2
      rw [HE9.out.1]
      have r0 := HR9.out.1
      have r1 := HR9.out.2.1
      have r2 := HR9.out.2.2.1
      have r3 := HR9.out.2.2.2.1
      have r4 := HR9.out.2.2.2.2.1
      have r5 := HR9.out.2.2.2.2.2
      refine bodyPost_ret (v := .tuple #[patV 0 0 none 0 0, .agg #[.int .i64 3, .slice (some ⟨b1, 0, none⟩) 1 1, .slice (some ⟨b2, 0, none⟩) 1 1]]) (by simp [results, Tryd.results25, go_sem, r0, r1, r2, r3, r4, r5]) rfl ?_
      rw [HOD.out.1, HOD.out.2]
      exact HRET.out
    have n0 : 0 ≤ x := by omega
    have d0 : decide (x < 0) = false := decide_eq_false cc
    clear cc
    by_cases cc : p < 1
    · skip
      have hd : cutD (w : Int) (h : Int) l x y p q = some ([(opPatch, 1)], 3) := by rw [HDD.out]; rw [if_pos h1]
      have ho : cutO (w : Int) (h : Int) l x y p q = (0, 0, []) := by unfold cutO; rw [hd]; rfl
      have HOD := Lib.hid (And.intro ho hd)
      clear hd ho HDD
      clear hnot h1
      go_enter Tryd.func25, Tryd.ntmps25
      have v_p0 : (((W.alloc (.cells #[.int .i64 w, .int .i64 h, .slice a n c] 24)).alloc (.cells #[.int .i64 0, .int .i64 0, .slice none 0 0] 24)).alloc (.cells #[.int .i64 0, .slice none 0 0, .slice none 0 0] 47)).cell? ⟨W.heap.size, 0, none⟩ = some (.int .i64 w) := by rw [HWb.out]; exact T6.out.1.1.2.1
      have v_p1 : (((W.alloc (.cells #[.int .i64 w, .int .i64 h, .slice a n c] 24)).alloc (.cells #[.int .i64 0, .int .i64 0, .slice none 0 0] 24)).alloc (.cells #[.int .i64 0, .slice none 0 0, .slice none 0 0] 47)).cell? ⟨W.heap.size, 1, none⟩ = some (.int .i64 h) := by rw [HWb.out]; exact T6.out.1.1.2.2.1
      have v_p2 : (((W.alloc (.cells #[.int .i64 w, .int .i64 h, .slice a n c] 24)).alloc (.cells #[.int .i64 0, .int .i64 0, .slice none 0 0] 24)).alloc (.cells #[.int .i64 0, .slice none 0 0, .slice none 0 0] 47)).cell? ⟨W.heap.size, 2, none⟩ = some (.slice a n c) := by rw [HWb.out]; exact T6.out.1.1.2.2.2
      go_wp2_with fail
      rw [HWb.out]
      refine (refpcheck_ok w h a n c l Wb T6.out.1.1.1.2 hm HPP.out).mono ?_; rintro e w1 ⟨rfl, hbw1⟩
      clear v_p0 v_p1 v_p2
      have T7 := T6.up hbw1
      clear T6
      obtain ⟨we, hwe⟩ : ∃ we, w1.alloc (.cells #[.int .i64 0, .slice none 0 0, .slice none 0 0] 47) = we := ⟨_, rfl⟩
      have hbwe : Below w1.heap.size w1 we := by rw [← hwe]; exact balloc (bnil w1) _
      have T8 := T7.up hbwe
      clear T7
      have T9 := T8.add (fun wv => wv.cell? ⟨w1.heap.size, 0, none⟩ = some (.int .i64 0) ∧ wv.cell? ⟨w1.heap.size, 1, none⟩ = some (.slice none 0 0) ∧ wv.cell? ⟨w1.heap.size, 2, none⟩ = some (.slice none 0 0)) (by rw [← hwe]; exact ⟨cnw (by simp) rfl, cnw (by simp) rfl, cnw (by simp) rfl⟩)
      clear T8
      have Hwe := Lib.hid hwe
      clear hwe hbwe
      have v_e0 : (w1.alloc (.cells #[.int .i64 0, .slice none 0 0, .slice none 0 0] 47)).cell? ⟨w1.heap.size, 0, none⟩ = some (.int .i64 0) := by rw [Hwe.out]; exact T9.out.2.1
      have v_e1 : (w1.alloc (.cells #[.int .i64 0, .slice none 0 0, .slice none 0 0] 47)).cell? ⟨w1.heap.size, 1, none⟩ = some (.slice none 0 0) := by rw [Hwe.out]; exact T9.out.2.2.1
      have v_e2 : (w1.alloc (.cells #[.int .i64 0, .slice none 0 0, .slice none 0 0] 47)).cell? ⟨w1.heap.size, 2, none⟩ = some (.slice none 0 0) := by rw [Hwe.out]; exact T9.out.2.2.2
      go_wp2_with fail
      rw [Hwe.out]
      refine (refBadE _ _ _ we false rfl).mono ?_; rintro e w2 ⟨rfl, hbw2⟩
      clear v_e0 v_e1 v_e2
      have T10 := T9.up hbw2
      clear T9
      have sb0 : W.heap.size + 1 + 1 < w2.heap.size := heap_ltT (T10.out.1.2)
      have v_p0 : w2.cell? ⟨W.heap.size, 0, none⟩ = some (.int .i64 w) := T10.out.1.1.1.2.1
      have v_p1 : w2.cell? ⟨W.heap.size, 1, none⟩ = some (.int .i64 h) := T10.out.1.1.1.2.2.1
      have v_p2 : w2.cell? ⟨W.heap.size, 2, none⟩ = some (.slice a n c) := T10.out.1.1.1.2.2.2
      go_wp2_with fail
      refine (rawNew_fresh _ _ _ _ rfl).mono ?_; rintro e w8 ⟨b1, b2, rfl, lb1, lb2, hw8, hbw8⟩
      clear v_p0 v_p1 v_p2
      have T11 := T10.up hbw8
      clear T10
      obtain ⟨⟨q0, q1, q2⟩, f0, f1, f2⟩ := p_cells (T11.out.1.1.2)
      obtain ⟨⟨q3, q4, q5⟩, f3, f4, f5⟩ := p_cells (T11.out.1.2)
      obtain ⟨w9, e9, e9b, ⟨⟨r0, r1, r2⟩, r3, r4, r5⟩, hret⟩ := pr_err (show W.heap.size + 1 ≠ W.heap.size + 1 + 1 by omega) (T11.out.1.1.2) (T11.out.1.2) (show W.heap.size ≤ W.heap.size + 1 by omega) (show W.heap.size ≤ W.heap.size + 1 + 1 by omega) (T11.out.1.1.1.1.1.2) (B := W.heap.size + 1 + 1 + 1) (by omega) (by omega) (fr_some (by omega)) (fr_some (by omega)) (wc_want hw8) rfl
      have HRET := Lib.hid hret
      have HE9 := Lib.hid (And.intro e9 e9b)
      have HR9 := Lib.hid (And.intro r0 (And.intro r1 (And.intro r2 (And.intro r3 (And.intro r4 r5)))))
      clear hret e9 e9b r0 r1 r2 r3 r4 r5
      clear hw8 lb1 lb2 sb0
      go_wp2
      rw [HE9.out.1]
      have r0 := HR9.out.1
      have r1 := HR9.out.2.1
      have r2 := HR9.out.2.2.1
      have r3 := HR9.out.2.2.2.1
      have r4 := HR9.out.2.2.2.2.1
      have r5 := HR9.out.2.2.2.2.2
      refine bodyPost_ret (v := .tuple #[patV 0 0 none 0 0, .agg #[.int .i64 3, .slice (some ⟨b1, 0, none⟩) 1 1, .slice (some ⟨b2, 0, none⟩) 1 1]]) (by simp [results, Tryd.results25, go_sem, r0, r1, r2, r3, r4, r5]) rfl ?_
      rw [HOD.out.1, HOD.out.2]
      exact HRET.out
    have n1 : 1 ≤ p := by omega
    have d1 : decide (p < 1) = false := decide_eq_false cc
    clear cc
    by_cases cc : (w : Int) < x
    · skip
      have hd : cutD (w : Int) (h : Int) l x y p q = some ([(opPatch, 1)], 3) := by rw [HDD.out]; rw [if_pos h1]
      have ho : cutO (w : Int) (h : Int) l x y p q = (0, 0, []) := by unfold cutO; rw [hd]; rfl
      have HOD := Lib.hid (And.intro ho hd)
      clear hd ho HDD
      clear hnot h1
      go_enter Tryd.func25, Tryd.ntmps25
      have v_p0 : (((W.alloc (.cells #[.int .i64 w, .int .i64 h, .slice a n c] 24)).alloc (.cells #[.int .i64 0, .int .i64 0, .slice none 0 0] 24)).alloc (.cells #[.int .i64 0, .slice none 0 0, .slice none 0 0] 47)).cell? ⟨W.heap.size, 0, none⟩ = some (.int .i64 w) := by rw [HWb.out]; exact T6.out.1.1.2.1
      have v_p1 : (((W.alloc (.cells #[.int .i64 w, .int .i64 h, .slice a n c] 24)).alloc (.cells #[.int .i64 0, .int .i64 0, .slice none 0 0] 24)).alloc (.cells #[.int .i64 0, .slice none 0 0, .slice none 0 0] 47)).cell? ⟨W.heap.size, 1, none⟩ = some (.int .i64 h) := by rw [HWb.out]; exact T6.out.1.1.2.2.1
      have v_p2 : (((W.alloc (.cells #[.int .i64 w, .int .i64 h, .slice a n c] 24)).alloc (.cells #[.int .i64 0, .int .i64 0, .slice none 0 0] 24)).alloc (.cells #[.int .i64 0, .slice none 0 0, .slice none 0 0] 47)).cell? ⟨W.heap.size, 2, none⟩ = some (.slice a n c) := by rw [HWb.out]; exact T6.out.1.1.2.2.2
      go_wp2_with fail
      rw [HWb.out]
      refine (refpcheck_ok w h a n c l Wb T6.out.1.1.1.2 hm HPP.out).mono ?_; rintro e w1 ⟨rfl, hbw1⟩
      clear v_p0 v_p1 v_p2
      have T7 := T6.up hbw1
      clear T6
      obtain ⟨we, hwe⟩ : ∃ we, w1.alloc (.cells #[.int .i64 0, .slice none 0 0, .slice none 0 0] 47) = we := ⟨_, rfl⟩
      have hbwe : Below w1.heap.size w1 we := by rw [← hwe]; exact balloc (bnil w1) _
      have T8 := T7.up hbwe
      clear T7
      have T9 := T8.add (fun wv => wv.cell? ⟨w1.heap.size, 0, none⟩ = some (.int .i64 0) ∧ wv.cell? ⟨w1.heap.size, 1, none⟩ = some (.slice none 0 0) ∧ wv.cell? ⟨w1.heap.size, 2, none⟩ = some (.slice none 0 0)) (by rw [← hwe]; exact ⟨cnw (by simp) rfl, cnw (by simp) rfl, cnw (by simp) rfl⟩)
      clear T8
      have Hwe := Lib.hid hwe
      clear hwe hbwe
      have v_e0 : (w1.alloc (.cells #[.int .i64 0, .slice none 0 0, .slice none 0 0] 47)).cell? ⟨w1.heap.size, 0, none⟩ = some (.int .i64 0) := by rw [Hwe.out]; exact T9.out.2.1
      have v_e1 : (w1.alloc (.cells #[.int .i64 0, .slice none 0 0, .slice none 0 0] 47)).cell? ⟨w1.heap.size, 1, none⟩ = some (.slice none 0 0) := by rw [Hwe.out]; exact T9.out.2.2.1
      have v_e2 : (w1.alloc (.cells #[.int .i64 0, .slice none 0 0, .slice none 0 0] 47)).cell? ⟨w1.heap.size, 2, none⟩ = some (.slice none 0 0) := by rw [Hwe.out]; exact T9.out.2.2.2
      go_wp2_with fail
      rw [Hwe.out]
      refine (refBadE _ _ _ we false rfl).mono ?_; rintro e w2 ⟨rfl, hbw2⟩
      clear v_e0 v_e1 v_e2
      have T10 := T9.up hbw2
      clear T9
      have sb0 : W.heap.size + 1 + 1 < w2.heap.size := heap_ltT (T10.out.1.2)
      have v_p0 : w2.cell? ⟨W.heap.size, 0, none⟩ = some (.int .i64 w) := T10.out.1.1.1.2.1
      have v_p1 : w2.cell? ⟨W.heap.size, 1, none⟩ = some (.int .i64 h) := T10.out.1.1.1.2.2.1
      have v_p2 : w2.cell? ⟨W.heap.size, 2, none⟩ = some (.slice a n c) := T10.out.1.1.1.2.2.2
      go_wp2_with fail
      refine (rawNew_fresh _ _ _ _ rfl).mono ?_; rintro e w8 ⟨b1, b2, rfl, lb1, lb2, hw8, hbw8⟩
      clear v_p0 v_p1 v_p2
      have T11 := T10.up hbw8
      clear T10
      obtain ⟨⟨q0, q1, q2⟩, f0, f1, f2⟩ := p_cells (T11.out.1.1.2)
      obtain ⟨⟨q3, q4, q5⟩, f3, f4, f5⟩ := p_cells (T11.out.1.2)
      obtain ⟨w9, e9, e9b, ⟨⟨r0, r1, r2⟩, r3, r4, r5⟩, hret⟩ := pr_err (show W.heap.size + 1 ≠ W.heap.size + 1 + 1 by omega) (T11.out.1.1.2) (T11.out.1.2) (show W.heap.size ≤ W.heap.size + 1 by omega) (show W.heap.size ≤ W.heap.size + 1 + 1 by omega) (T11.out.1.1.1.1.1.2) (B := W.heap.size + 1 + 1 + 1) (by omega) (by omega) (fr_some (by omega)) (fr_some (by omega)) (wc_want hw8) rfl
      have HRET := Lib.hid hret
      have HE9 := Lib.hid (And.intro e9 e9b)
      have HR9 := Lib.hid (And.intro r0 (And.intro r1 (And.intro r2 (And.intro r3 (And.intro r4 r5)))))
      clear hret e9 e9b r0 r1 r2 r3 r4 r5
      clear hw8 lb1 lb2 sb0
      go_wp2
      rw [HE9.out.1]
      have r0 := HR9.out.1
      have r1 := HR9.out.2.1
      have r2 := HR9.out.2.2.1
      have r3 := HR9.out.2.2.2.1
      have r4 := HR9.out.2.2.2.2.1
      have r5 := HR9.out.2.2.2.2.2
      refine bodyPost_ret (v := .tuple #[patV 0 0 none 0 0, .agg #[.int .i64 3, .slice (some ⟨b1, 0, none⟩) 1 1, .slice (some ⟨b2, 0, none⟩) 1 1]]) (by simp [results, Tryd.results25, go_sem, r0, r1, r2, r3, r4, r5]) rfl ?_
      rw [HOD.out.1, HOD.out.2]
      exact HRET.out
    have n2 : x ≤ (w : Int) := by omega
    have d2 : decide ((w : Int) < x) = false := decide_eq_false cc
    clear cc
    have cc : (w : Int) - x < p := by omega
    have cw : IntKind.i64.wrap ((w : Int) - x) = (w : Int) - x := IntWalk.i64_in _ (by omega)
    have hd : cutD (w : Int) (h : Int) l x y p q = some ([(opPatch, 1)], 3) := by rw [HDD.out]; rw [if_pos h1]
    have ho : cutO (w : Int) (h : Int) l x y p q = (0, 0, []) := by unfold cutO; rw [hd]; rfl
    have HOD := Lib.hid (And.intro ho hd)
    clear hd ho HDD
    clear hnot h1
    go_enter Tryd.func25, Tryd.ntmps25
    have v_p0 : (((W.alloc (.cells #[.int .i64 w, .int .i64 h, .slice a n c] 24)).alloc (.cells #[.int .i64 0, .int .i64 0, .slice none 0 0] 24)).alloc (.cells #[.int .i64 0, .slice none 0 0, .slice none 0 0] 47)).cell? ⟨W.heap.size, 0, none⟩ = some (.int .i64 w) := by rw [HWb.out]; exact T6.out.1.1.2.1
    have v_p1 : (((W.alloc (.cells #[.int .i64 w, .int .i64 h, .slice a n c] 24)).alloc (.cells #[.int .i64 0, .int .i64 0, .slice none 0 0] 24)).alloc (.cells #[.int .i64 0, .slice none 0 0, .slice none 0 0] 47)).cell? ⟨W.heap.size, 1, none⟩ = some (.int .i64 h) := by rw [HWb.out]; exact T6.out.1.1.2.2.1
    have v_p2 : (((W.alloc (.cells #[.int .i64 w, .int .i64 h, .slice a n c] 24)).alloc (.cells #[.int .i64 0, .int .i64 0, .slice none 0 0] 24)).alloc (.cells #[.int .i64 0, .slice none 0 0, .slice none 0 0] 47)).cell? ⟨W.heap.size, 2, none⟩ = some (.slice a n c) := by rw [HWb.out]; exact T6.out.1.1.2.2.2
    go_wp2_with fail
    rw [HWb.out]
    refine (refpcheck_ok w h a n c l Wb T6.out.1.1.1.2 hm HPP.out).mono ?_; rintro e w1 ⟨rfl, hbw1⟩
    clear v_p0 v_p1 v_p2
    have T7 := T6.up hbw1
    clear T6
    obtain ⟨we, hwe⟩ : ∃ we, w1.alloc (.cells #[.int .i64 0, .slice none 0 0, .slice none 0 0] 47) = we := ⟨_, rfl⟩
    have hbwe : Below w1.heap.size w1 we := by rw [← hwe]; exact balloc (bnil w1) _
    have T8 := T7.up hbwe
    clear T7
    have T9 := T8.add (fun wv => wv.cell? ⟨w1.heap.size, 0, none⟩ = some (.int .i64 0) ∧ wv.cell? ⟨w1.heap.size, 1, none⟩ = some (.slice none 0 0) ∧ wv.cell? ⟨w1.heap.size, 2, none⟩ = some (.slice none 0 0)) (by rw [← hwe]; exact ⟨cnw (by simp) rfl, cnw (by simp) rfl, cnw (by simp) rfl⟩)
    clear T8
    have Hwe := Lib.hid hwe
    clear hwe hbwe
    have v_e0 : (w1.alloc (.cells #[.int .i64 0, .slice none 0 0, .slice none 0 0] 47)).cell? ⟨w1.heap.size, 0, none⟩ = some (.int .i64 0) := by rw [Hwe.out]; exact T9.out.2.1
    have v_e1 : (w1.alloc (.cells #[.int .i64 0, .slice none 0 0, .slice none 0 0] 47)).cell? ⟨w1.heap.size, 1, none⟩ = some (.slice none 0 0) := by rw [Hwe.out]; exact T9.out.2.2.1
    have v_e2 : (w1.alloc (.cells #[.int .i64 0, .slice none 0 0, .slice none 0 0] 47)).cell? ⟨w1.heap.size, 2, none⟩ = some (.slice none 0 0) := by rw [Hwe.out]; exact T9.out.2.2.2
    go_wp2_with fail
    rw [Hwe.out]
    refine (refBadE _ _ _ we false rfl).mono ?_; rintro e w2 ⟨rfl, hbw2⟩
    clear v_e0 v_e1 v_e2
    have T10 := T9.up hbw2
    clear T9
    have sb0 : W.heap.size + 1 + 1 < w2.heap.size := heap_ltT (T10.out.1.2)
    have v_p0 : w2.cell? ⟨W.heap.size, 0, none⟩ = some (.int .i64 w) := T10.out.1.1.1.2.1
    have v_p1 : w2.cell? ⟨W.heap.size, 1, none⟩ = some (.int .i64 h) := T10.out.1.1.1.2.2.1
    have v_p2 : w2.cell? ⟨W.heap.size, 2, none⟩ = some (.slice a n c) := T10.out.1.1.1.2.2.2
    go_wp2_with fail
    refine (rawNew_fresh _ _ _ _ rfl).mono ?_; rintro e w8 ⟨b1, b2, rfl, lb1, lb2, hw8, hbw8⟩
    clear v_p0 v_p1 v_p2
    have T11 := T10.up hbw8
    clear T10
    obtain ⟨⟨q0, q1, q2⟩, f0, f1, f2⟩ := p_cells (T11.out.1.1.2)
    obtain ⟨⟨q3, q4, q5⟩, f3, f4, f5⟩ := p_cells (T11.out.1.2)
    obtain ⟨w9, e9, e9b, ⟨⟨r0, r1, r2⟩, r3, r4, r5⟩, hret⟩ := pr_err (show W.heap.size + 1 ≠ W.heap.size + 1 + 1 by omega) (T11.out.1.1.2) (T11.out.1.2) (show W.heap.size ≤ W.heap.size + 1 by omega) (show W.heap.size ≤ W.heap.size + 1 + 1 by omega) (T11.out.1.1.1.1.1.2) (B := W.heap.size + 1 + 1 + 1) (by omega) (by omega) (fr_some (by omega)) (fr_some (by omega)) (wc_want hw8) rfl
    have HRET := Lib.hid hret
    have HE9 := Lib.hid (And.intro e9 e9b)
    have HR9 := Lib.hid (And.intro r0 (And.intro r1 (And.intro r2 (And.intro r3 (And.intro r4 r5)))))
    clear hret e9 e9b r0 r1 r2 r3 r4 r5
    clear hw8 lb1 lb2 sb0
    go_wp2
    rw [HE9.out.1]
    have r0 := HR9.out.1
    have r1 := HR9.out.2.1
    have r2 := HR9.out.2.2.1
    have r3 := HR9.out.2.2.2.1
    have r4 := HR9.out.2.2.2.2.1
    have r5 := HR9.out.2.2.2.2.2
    refine bodyPost_ret (v := .tuple #[patV 0 0 none 0 0, .agg #[.int .i64 3, .slice (some ⟨b1, 0, none⟩) 1 1, .slice (some ⟨b2, 0, none⟩) 1 1]]) (by simp [results, Tryd.results25, go_sem, r0, r1, r2, r3, r4, r5]) rfl ?_
    rw [HOD.out.1, HOD.out.2]
    exact HRET.out
  have h1t := withinB_t2 h1
  obtain ⟨x0, p1, pw, xw⟩ := h1t
  obtain ⟨x, rfl⟩ : ∃ x' : Nat, x = (x' : Int) := ⟨x.toNat, by omega⟩
  obtain ⟨p, rfl⟩ : ∃ p' : Nat, p = (p' : Int) := ⟨p.toNat, by omega⟩
  have xa : decide ((x : Int) < 0) = false := decide_eq_false (by omega)
  have pa : decide ((p : Int) < 1) = false := decide_eq_false (by omega)
  have xb : (x : Int) ≤ (w : Int) := by omega
  have pb : (p : Int) ≤ (w : Int) - (x : Int) := by omega
  have xd : decide (w < x) = false := decide_eq_false (by omega)
  have pd : decide ((w : Int) - (x : Int) < (p : Int)) = false := decide_eq_false (by omega)
  have xc : IntKind.i64.wrap ((w : Int) - (x : Int)) = (w : Int) - (x : Int) := IntWalk.i64_in _ (by omega)
  by_cases h2 : withinB y q (h : Int) = false
  · skip
    have hnot : ¬ (0 ≤ y ∧ 1 ≤ q ∧ q ≤ (h : Int) ∧ y ≤ (h : Int) - q) := of_decide_eq_false h2
    by_cases cc : y < 0
    · skip
      have hd : cutD (w : Int) (h : Int) l x y p q = some ([(opPatch, 2)], 3) := by rw [HDD.out]; rw [if_neg h1, if_pos h2]
      have ho : cutO (w : Int) (h : Int) l x y p q = (0, 0, []) := by unfold cutO; rw [hd]; rfl
      have HOD := Lib.hid (And.intro ho hd)
      clear hd ho HDD
      clear hnot h2
      go_enter Tryd.func25, Tryd.ntmps25
      have v_p0 : (((W.alloc (.cells #[.int .i64 w, .int .i64 h, .slice a n c] 24)).alloc (.cells #[.int .i64 0, .int .i64 0, .slice none 0 0] 24)).alloc (.cells #[.int .i64 0, .slice none 0 0, .slice none 0 0] 47)).cell? ⟨W.heap.size, 0, none⟩ = some (.int .i64 w) := by rw [HWb.out]; exact T6.out.1.1.2.1
      have v_p1 : (((W.alloc (.cells #[.int .i64 w, .int .i64 h, .slice a n c] 24)).alloc (.cells #[.int .i64 0, .int .i64 0, .slice none 0 0] 24)).alloc (.cells #[.int .i64 0, .slice none 0 0, .slice none 0 0] 47)).cell? ⟨W.heap.size, 1, none⟩ = some (.int .i64 h) := by rw [HWb.out]; exact T6.out.1.1.2.2.1
      have v_p2 : (((W.alloc (.cells #[.int .i64 w, .int .i64 h, .slice a n c] 24)).alloc (.cells #[.int .i64 0, .int .i64 0, .slice none 0 0] 24)).alloc (.cells #[.int .i64 0, .slice none 0 0, .slice none 0 0] 47)).cell? ⟨W.heap.size, 2, none⟩ = some (.slice a n c) := by rw [HWb.out]; exact T6.out.1.1.2.2.2
      go_wp2_with fail
      rw [HWb.out]
      refine (refpcheck_ok w h a n c l Wb T6.out.1.1.1.2 hm HPP.out).mono ?_; rintro e w1 ⟨rfl, hbw1⟩
      clear v_p0 v_p1 v_p2
      have T7 := T6.up hbw1
      clear T6
      obtain ⟨we, hwe⟩ : ∃ we, w1.alloc (.cells #[.int .i64 0, .slice none 0 0, .slice none 0 0] 47) = we := ⟨_, rfl⟩
      have hbwe : Below w1.heap.size w1 we := by rw [← hwe]; exact balloc (bnil w1) _
      have T8 := T7.up hbwe
      clear T7
      have T9 := T8.add (fun wv => wv.cell? ⟨w1.heap.size, 0, none⟩ = some (.int .i64 0) ∧ wv.cell? ⟨w1.heap.size, 1, none⟩ = some (.slice none 0 0) ∧ wv.cell? ⟨w1.heap.size, 2, none⟩ = some (.slice none 0 0)) (by rw [← hwe]; exact ⟨cnw (by simp) rfl, cnw (by simp) rfl, cnw (by simp) rfl⟩)
      clear T8
      have Hwe := Lib.hid hwe
      clear hwe hbwe
      have v_e0 : (w1.alloc (.cells #[.int .i64 0, .slice none 0 0, .slice none 0 0] 47)).cell? ⟨w1.heap.size, 0, none⟩ = some (.int .i64 0) := by rw [Hwe.out]; exact T9.out.2.1
      have v_e1 : (w1.alloc (.cells #[.int .i64 0, .slice none 0 0, .slice none 0 0] 47)).cell? ⟨w1.heap.size, 1, none⟩ = some (.slice none 0 0) := by rw [Hwe.out]; exact T9.out.2.2.1
      have v_e2 : (w1.alloc (.cells #[.int .i64 0, .slice none 0 0, .slice none 0 0] 47)).cell? ⟨w1.heap.size, 2, none⟩ = some (.slice none 0 0) := by rw [Hwe.out]; exact T9.out.2.2.2
      go_wp2_with fail
      rw [Hwe.out]
      refine (refBadE _ _ _ we false rfl).mono ?_; rintro e w2 ⟨rfl, hbw2⟩
      clear v_e0 v_e1 v_e2
      have T10 := T9.up hbw2
      clear T9
      have sb0 : W.heap.size + 1 + 1 < w2.heap.size := heap_ltT (T10.out.1.2)
      have v_p0 : w2.cell? ⟨W.heap.size, 0, none⟩ = some (.int .i64 w) := T10.out.1.1.1.2.1
      have v_p1 : w2.cell? ⟨W.heap.size, 1, none⟩ = some (.int .i64 h) := T10.out.1.1.1.2.2.1
      have v_p2 : w2.cell? ⟨W.heap.size, 2, none⟩ = some (.slice a n c) := T10.out.1.1.1.2.2.2
      go_wp2_with fail
      refine (rawNew_fresh _ _ _ _ rfl).mono ?_; rintro e w8 ⟨b1, b2, rfl, lb1, lb2, hw8, hbw8⟩
      clear v_p0 v_p1 v_p2
      have T11 := T10.up hbw8
      clear T10
      obtain ⟨⟨q0, q1, q2⟩, f0, f1, f2⟩ := p_cells (T11.out.1.1.2)
      obtain ⟨⟨q3, q4, q5⟩, f3, f4, f5⟩ := p_cells (T11.out.1.2)
      obtain ⟨w9, e9, e9b, ⟨⟨r0, r1, r2⟩, r3, r4, r5⟩, hret⟩ := pr_err (show W.heap.size + 1 ≠ W.heap.size + 1 + 1 by omega) (T11.out.1.1.2) (T11.out.1.2) (show W.heap.size ≤ W.heap.size + 1 by omega) (show W.heap.size ≤ W.heap.size + 1 + 1 by omega) (T11.out.1.1.1.1.1.2) (B := W.heap.size + 1 + 1 + 1) (by omega) (by omega) (fr_some (by omega)) (fr_some (by omega)) (wc_want hw8) rfl
      have HRET := Lib.hid hret
      have HE9 := Lib.hid (And.intro e9 e9b)
      have HR9 := Lib.hid (And.intro r0 (And.intro r1 (And.intro r2 (And.intro r3 (And.intro r4 r5)))))
      clear hret e9 e9b r0 r1 r2 r3 r4 r5
      clear hw8 lb1 lb2 sb0
      go_wp2
      rw [HE9.out.1]
      have r0 := HR9.out.1
      have r1 := HR9.out.2.1
      have r2 := HR9.out.2.2.1
      have r3 := HR9.out.2.2.2.1
      have r4 := HR9.out.2.2.2.2.1
      have r5 := HR9.out.2.2.2.2.2
      refine bodyPost_ret (v := .tuple #[patV 0 0 none 0 0, .agg #[.int .i64 3, .slice (some ⟨b1, 0, none⟩) 1 1, .slice (some ⟨b2, 0, none⟩) 1 1]]) (by simp [results, Tryd.results25, go_sem, r0, r1, r2, r3, r4, r5]) rfl ?_
      rw [HOD.out.1, HOD.out.2]
      exact HRET.out
    have n0 : 0 ≤ y := by omega
    have d0 : decide (y < 0) = false := decide_eq_false cc
    clear cc
    by_cases cc : q < 1
    · skip
      have hd : cutD (w : Int) (h : Int) l x y p q = some ([(opPatch, 2)], 3) := by rw [HDD.out]; rw [if_neg h1, if_pos h2]
      have ho : cutO (w : Int) (h : Int) l x y p q = (0, 0, []) := by unfold cutO; rw [hd]; rfl
      have HOD := Lib.hid (And.intro ho hd)
      clear hd ho HDD
      clear hnot h2
      go_enter Tryd.func25, Tryd.ntmps25
      have v_p0 : (((W.alloc (.cells #[.int .i64 w, .int .i64 h, .slice a n c] 24)).alloc (.cells #[.int .i64 0, .int .i64 0, .slice none 0 0] 24)).alloc (.cells #[.int .i64 0, .slice none 0 0, .slice none 0 0] 47)).cell? ⟨W.heap.size, 0, none⟩ = some (.int .i64 w) := by rw [HWb.out]; exact T6.out.1.1.2.1
      have v_p1 : (((W.alloc (.cells #[.int .i64 w, .int .i64 h, .slice a n c] 24)).alloc (.cells #[.int .i64 0, .int .i64 0, .slice none 0 0] 24)).alloc (.cells #[.int .i64 0, .slice none 0 0, .slice none 0 0] 47)).cell? ⟨W.heap.size, 1, none⟩ = some (.int .i64 h) := by rw [HWb.out]; exact T6.out.1.1.2.2.1
      have v_p2 : (((W.alloc (.cells #[.int .i64 w, .int .i64 h, .slice a n c] 24)).alloc (.cells #[.int .i64 0, .int .i64 0, .slice none 0 0] 24)).alloc (.cells #[.int .i64 0, .slice none 0 0, .slice none 0 0] 47)).cell? ⟨W.heap.size, 2, none⟩ = some (.slice a n c) := by rw [HWb.out]; exact T6.out.1.1.2.2.2
      go_wp2_with fail
      rw [HWb.out]
      refine (refpcheck_ok w h a n c l Wb T6.out.1.1.1.2 hm HPP.out).mono ?_; rintro e w1 ⟨rfl, hbw1⟩
      clear v_p0 v_p1 v_p2
      have T7 := T6.up hbw1
      clear T6
      obtain ⟨we, hwe⟩ : ∃ we, w1.alloc (.cells #[.int .i64 0, .slice none 0 0, .slice none 0 0] 47) = we := ⟨_, rfl⟩
      have hbwe : Below w1.heap.size w1 we := by rw [← hwe]; exact balloc (bnil w1) _
      have T8 := T7.up hbwe
      clear T7
      have T9 := T8.add (fun wv => wv.cell? ⟨w1.heap.size, 0, none⟩ = some (.int .i64 0) ∧ wv.cell? ⟨w1.heap.size, 1, none⟩ = some (.slice none 0 0) ∧ wv.cell? ⟨w1.heap.size, 2, none⟩ = some (.slice none 0 0)) (by rw [← hwe]; exact ⟨cnw (by simp) rfl, cnw (by simp) rfl, cnw (by simp) rfl⟩)
      clear T8
      have Hwe := Lib.hid hwe
      clear hwe hbwe
      have v_e0 : (w1.alloc (.cells #[.int .i64 0, .slice none 0 0, .slice none 0 0] 47)).cell? ⟨w1.heap.size, 0, none⟩ = some (.int .i64 0) := by rw [Hwe.out]; exact T9.out.2.1
      have v_e1 : (w1.alloc (.cells #[.int .i64 0, .slice none 0 0, .slice none 0 0] 47)).cell? ⟨w1.heap.size, 1, none⟩ = some (.slice none 0 0) := by rw [Hwe.out]; exact T9.out.2.2.1
      have v_e2 : (w1.alloc (.cells #[.int .i64 0, .slice none 0 0, .slice none 0 0] 47)).cell? ⟨w1.heap.size, 2, none⟩ = some (.slice none 0 0) := by rw [Hwe.out]; exact T9.out.2.2.2
      go_wp2_with fail
      rw [Hwe.out]
      refine (refBadE _ _ _ we false rfl).mono ?_; rintro e w2 ⟨rfl, hbw2⟩
      clear v_e0 v_e1 v_e2
      have T10 := T9.up hbw2
      clear T9
      have sb0 : W.heap.size + 1 + 1 < w2.heap.size := heap_ltT (T10.out.1.2)
      have v_p0 : w2.cell? ⟨W.heap.size, 0, none⟩ = some (.int .i64 w) := T10.out.1.1.1.2.1
      have v_p1 : w2.cell? ⟨W.heap.size, 1, none⟩ = some (.int .i64 h) := T10.out.1.1.1.2.2.1
      have v_p2 : w2.cell? ⟨W.heap.size, 2, none⟩ = some (.slice a n c) := T10.out.1.1.1.2.2.2
      go_wp2_with fail
      refine (rawNew_fresh _ _ _ _ rfl).mono ?_; rintro e w8 ⟨b1, b2, rfl, lb1, lb2, hw8, hbw8⟩
      clear v_p0 v_p1 v_p2
      have T11 := T10.up hbw8
      clear T10
      obtain ⟨⟨q0, q1, q2⟩, f0, f1, f2⟩ := p_cells (T11.out.1.1.2)
      obtain ⟨⟨q3, q4, q5⟩, f3, f4, f5⟩ := p_cells (T11.out.1.2)
      obtain ⟨w9, e9, e9b, ⟨⟨r0, r1, r2⟩, r3, r4, r5⟩, hret⟩ := pr_err (show W.heap.size + 1 ≠ W.heap.size + 1 + 1 by omega) (T11.out.1.1.2) (T11.out.1.2) (show W.heap.size ≤ W.heap.size + 1 by omega) (show W.heap.size ≤ W.heap.size + 1 + 1 by omega) (T11.out.1.1.1.1.1.2) (B := W.heap.size + 1 + 1 + 1) (by omega) (by omega) (fr_some (by omega)) (fr_some (by omega)) (wc_want hw8) rfl
      have HRET := Lib.hid hret
      have HE9 := Lib.hid (And.intro e9 e9b)
      have HR9 := Lib.hid (And.intro r0 (And.intro r1 (And.intro r2 (And.intro r3 (And.intro r4 r5)))))
      clear hret e9 e9b r0 r1 r2 r3 r4 r5
      clear hw8 lb1 lb2 sb0
      go_wp2
      rw [HE9.out.1]
      have r0 := HR9.out.1
      have r1 := HR9.out.2.1
      have r2 := HR9.out.2.2.1
      have r3 := HR9.out.2.2.2.1
      have r4 := HR9.out.2.2.2.2.1
      have r5 := HR9.out.2.2.2.2.2
      refine bodyPost_ret (v := .tuple #[patV 0 0 none 0 0, .agg #[.int .i64 3, .slice (some ⟨b1, 0, none⟩) 1 1, .slice (some ⟨b2, 0, none⟩) 1 1]]) (by simp [results, Tryd.results25, go_sem, r0, r1, r2, r3, r4, r5]) rfl ?_
      rw [HOD.out.1, HOD.out.2]
      exact HRET.out
    have n1 : 1 ≤ q := by omega
    have d1 : decide (q < 1) = false := decide_eq_false cc
    clear cc
    by_cases cc : (h : Int) < y
    · skip
      have hd : cutD (w : Int) (h : Int) l x y p q = some ([(opPatch, 2)], 3) := by rw [HDD.out]; rw [if_neg h1, if_pos h2]
      have ho : cutO (w : Int) (h : Int) l x y p q = (0, 0, []) := by unfold cutO; rw [hd]; rfl
      have HOD := Lib.hid (And.intro ho hd)
      clear hd ho HDD
      clear hnot h2
      go_enter Tryd.func25, Tryd.ntmps25
      have v_p0 : (((W.alloc (.cells #[.int .i64 w, .int .i64 h, .slice a n c] 24)).alloc (.cells #[.int .i64 0, .int .i64 0, .slice none 0 0] 24)).alloc (.cells #[.int .i64 0, .slice none 0 0, .slice none 0 0] 47)).cell? ⟨W.heap.size, 0, none⟩ = some (.int .i64 w) := by rw [HWb.out]; exact T6.out.1.1.2.1
      have v_p1 : (((W.alloc (.cells #[.int .i64 w, .int .i64 h, .slice a n c] 24)).alloc (.cells #[.int .i64 0, .int .i64 0, .slice none 0 0] 24)).alloc (.cells #[.int .i64 0, .slice none 0 0, .slice none 0 0] 47)).cell? ⟨W.heap.size, 1, none⟩ = some (.int .i64 h) := by rw [HWb.out]; exact T6.out.1.1.2.2.1
      have v_p2 : (((W.alloc (.cells #[.int .i64 w, .int .i64 h, .slice a n c] 24)).alloc (.cells #[.int .i64 0, .int .i64 0, .slice none 0 0] 24)).alloc (.cells #[.int .i64 0, .slice none 0 0, .slice none 0 0] 47)).cell? ⟨W.heap.size, 2, none⟩ = some (.slice a n c) := by rw [HWb.out]; exact T6.out.1.1.2.2.2
      go_wp2_with fail
      rw [HWb.out]
      refine (refpcheck_ok w h a n c l Wb T6.out.1.1.1.2 hm HPP.out).mono ?_; rintro e w1 ⟨rfl, hbw1⟩
      clear v_p0 v_p1 v_p2
      have T7 := T6.up hbw1
      clear T6
      obtain ⟨we, hwe⟩ : ∃ we, w1.alloc (.cells #[.int .i64 0, .slice none 0 0, .slice none 0 0] 47) = we := ⟨_, rfl⟩
      have hbwe : Below w1.heap.size w1 we := by rw [← hwe]; exact balloc (bnil w1) _
      have T8 := T7.up hbwe
      clear T7
      have T9 := T8.add (fun wv => wv.cell? ⟨w1.heap.size, 0, none⟩ = some (.int .i64 0) ∧ wv.cell? ⟨w1.heap.size, 1, none⟩ = some (.slice none 0 0) ∧ wv.cell? ⟨w1.heap.size, 2, none⟩ = some (.slice none 0 0)) (by rw [← hwe]; exact ⟨cnw (by simp) rfl, cnw (by simp) rfl, cnw (by simp) rfl⟩)
      clear T8
      have Hwe := Lib.hid hwe
      clear hwe hbwe
      have v_e0 : (w1.alloc (.cells #[.int .i64 0, .slice none 0 0, .slice none 0 0] 47)).cell? ⟨w1.heap.size, 0, none⟩ = some (.int .i64 0) := by rw [Hwe.out]; exact T9.out.2.1
      have v_e1 : (w1.alloc (.cells #[.int .i64 0, .slice none 0 0, .slice none 0 0] 47)).cell? ⟨w1.heap.size, 1, none⟩ = some (.slice none 0 0) := by rw [Hwe.out]; exact T9.out.2.2.1
      have v_e2 : (w1.alloc (.cells #[.int .i64 0, .slice none 0 0, .slice none 0 0] 47)).cell? ⟨w1.heap.size, 2, none⟩ = some (.slice none 0 0) := by rw [Hwe.out]; exact T9.out.2.2.2
      go_wp2_with fail
      rw [Hwe.out]
      refine (refBadE _ _ _ we false rfl).mono ?_; rintro e w2 ⟨rfl, hbw2⟩
      clear v_e0 v_e1 v_e2
      have T10 := T9.up hbw2
      clear T9
      have sb0 : W.heap.size + 1 + 1 < w2.heap.size := heap_ltT (T10.out.1.2)
      have v_p0 : w2.cell? ⟨W.heap.size, 0, none⟩ = some (.int .i64 w) := T10.out.1.1.1.2.1
      have v_p1 : w2.cell? ⟨W.heap.size, 1, none⟩ = some (.int .i64 h) := T10.out.1.1.1.2.2.1
      have v_p2 : w2.cell? ⟨W.heap.size, 2, none⟩ = some (.slice a n c) := T10.out.1.1.1.2.2.2
      go_wp2_with fail
      refine (rawNew_fresh _ _ _ _ rfl).mono ?_; rintro e w8 ⟨b1, b2, rfl, lb1, lb2, hw8, hbw8⟩
      clear v_p0 v_p1 v_p2
      have T11 := T10.up hbw8
      clear T10
      obtain ⟨⟨q0, q1, q2⟩, f0, f1, f2⟩ := p_cells (T11.out.1.1.2)
      obtain ⟨⟨q3, q4, q5⟩, f3, f4, f5⟩ := p_cells (T11.out.1.2)
      obtain ⟨w9, e9, e9b, ⟨⟨r0, r1, r2⟩, r3, r4, r5⟩, hret⟩ := pr_err (show W.heap.size + 1 ≠ W.heap.size + 1 + 1 by omega) (T11.out.1.1.2) (T11.out.1.2) (show W.heap.size ≤ W.heap.size + 1 by omega) (show W.heap.size ≤ W.heap.size + 1 + 1 by omega) (T11.out.1.1.1.1.1.2) (B := W.heap.size + 1 + 1 + 1) (by omega) (by omega) (fr_some (by omega)) (fr_some (by omega)) (wc_want hw8) rfl
      have HRET := Lib.hid hret
      have HE9 := Lib.hid (And.intro e9 e9b)
      have HR9 := Lib.hid (And.intro r0 (And.intro r1 (And.intro r2 (And.intro r3 (And.intro r4 r5)))))
      clear hret e9 e9b r0 r1 r2 r3 r4 r5
      clear hw8 lb1 lb2 sb0
      go_wp2
      rw [HE9.out.1]
      have r0 := HR9.out.1
      have r1 := HR9.out.2.1
      have r2 := HR9.out.2.2.1
      have r3 := HR9.out.2.2.2.1
      have r4 := HR9.out.2.2.2.2.1
      have r5 := HR9.out.2.2.2.2.2
      refine bodyPost_ret (v := .tuple #[patV 0 0 none 0 0, .agg #[.int .i64 3, .slice (some ⟨b1, 0, none⟩) 1 1, .slice (some ⟨b2, 0, none⟩) 1 1]]) (by simp [results, Tryd.results25, go_sem, r0, r1, r2, r3, r4, r5]) rfl ?_
      rw [HOD.out.1, HOD.out.2]
      exact HRET.out
    have n2 : y ≤ (h : Int) := by omega
    have d2 : decide ((h : Int) < y) = false := decide_eq_false cc
    clear cc
    have cc : (h : Int) - y < q := by omega
    have cw : IntKind.i64.wrap ((h : Int) - y) = (h : Int) - y := IntWalk.i64_in _ (by omega)
    have hd : cutD (w : Int) (h : Int) l x y p q = some ([(opPatch, 2)], 3) := by rw [HDD.out]; rw [if_neg h1, if_pos h2]
    have ho : cutO (w : Int) (h : Int) l x y p q = (0, 0, []) := by unfold cutO; rw [hd]; rfl
    have HOD := Lib.hid (And.intro ho hd)
    clear hd ho HDD
    clear hnot h2
    go_enter Tryd.func25, Tryd.ntmps25
    have v_p0 : (((W.alloc (.cells #[.int .i64 w, .int .i64 h, .slice a n c] 24)).alloc (.cells #[.int .i64 0, .int .i64 0, .slice none 0 0] 24)).alloc (.cells #[.int .i64 0, .slice none 0 0, .slice none 0 0] 47)).cell? ⟨W.heap.size, 0, none⟩ = some (.int .i64 w) := by rw [HWb.out]; exact T6.out.1.1.2.1
    have v_p1 : (((W.alloc (.cells #[.int .i64 w, .int .i64 h, .slice a n c] 24)).alloc (.cells #[.int .i64 0, .int .i64 0, .slice none 0 0] 24)).alloc (.cells #[.int .i64 0, .slice none 0 0, .slice none 0 0] 47)).cell? ⟨W.heap.size, 1, none⟩ = some (.int .i64 h) := by rw [HWb.out]; exact T6.out.1.1.2.2.1
    have v_p2 : (((W.alloc (.cells #[.int .i64 w, .int .i64 h, .slice a n c] 24)).alloc (.cells #[.int .i64 0, .int .i64 0, .slice none 0 0] 24)).alloc (.cells #[.int .i64 0, .slice none 0 0, .slice none 0 0] 47)).cell? ⟨W.heap.size, 2, none⟩ = some (.slice a n c) := by rw [HWb.out]; exact T6.out.1.1.2.2.2
    go_wp2_with fail
    rw [HWb.out]
    refine (refpcheck_ok w h a n c l Wb T6.out.1.1.1.2 hm HPP.out).mono ?_; rintro e w1 ⟨rfl, hbw1⟩
    clear v_p0 v_p1 v_p2
    have T7 := T6.up hbw1
    clear T6
    obtain ⟨we, hwe⟩ : ∃ we, w1.alloc (.cells #[.int .i64 0, .slice none 0 0, .slice none 0 0] 47) = we := ⟨_, rfl⟩
    have hbwe : Below w1.heap.size w1 we := by rw [← hwe]; exact balloc (bnil w1) _
    have T8 := T7.up hbwe
    clear T7
    have T9 := T8.add (fun wv => wv.cell? ⟨w1.heap.size, 0, none⟩ = some (.int .i64 0) ∧ wv.cell? ⟨w1.heap.size, 1, none⟩ = some (.slice none 0 0) ∧ wv.cell? ⟨w1.heap.size, 2, none⟩ = some (.slice none 0 0)) (by rw [← hwe]; exact ⟨cnw (by simp) rfl, cnw (by simp) rfl, cnw (by simp) rfl⟩)
    clear T8
    have Hwe := Lib.hid hwe
    clear hwe hbwe
    have v_e0 : (w1.alloc (.cells #[.int .i64 0, .slice none 0 0, .slice none 0 0] 47)).cell? ⟨w1.heap.size, 0, none⟩ = some (.int .i64 0) := by rw [Hwe.out]; exact T9.out.2.1
    have v_e1 : (w1.alloc (.cells #[.int .i64 0, .slice none 0 0, .slice none 0 0] 47)).cell? ⟨w1.heap.size, 1, none⟩ = some (.slice none 0 0) := by rw [Hwe.out]; exact T9.out.2.2.1
    have v_e2 : (w1.alloc (.cells #[.int .i64 0, .slice none 0 0, .slice none 0 0] 47)).cell? ⟨w1.heap.size, 2, none⟩ = some (.slice none 0 0) := by rw [Hwe.out]; exact T9.out.2.2.2
    go_wp2_with fail
    rw [Hwe.out]
    refine (refBadE _ _ _ we false rfl).mono ?_; rintro e w2 ⟨rfl, hbw2⟩
    clear v_e0 v_e1 v_e2
    have T10 := T9.up hbw2
    clear T9
    have sb0 : W.heap.size + 1 + 1 < w2.heap.size := heap_ltT (T10.out.1.2)
    have v_p0 : w2.cell? ⟨W.heap.size, 0, none⟩ = some (.int .i64 w) := T10.out.1.1.1.2.1
    have v_p1 : w2.cell? ⟨W.heap.size, 1, none⟩ = some (.int .i64 h) := T10.out.1.1.1.2.2.1
    have v_p2 : w2.cell? ⟨W.heap.size, 2, none⟩ = some (.slice a n c) := T10.out.1.1.1.2.2.2
    go_wp2_with fail
    refine (rawNew_fresh _ _ _ _ rfl).mono ?_; rintro e w8 ⟨b1, b2, rfl, lb1, lb2, hw8, hbw8⟩
    clear v_p0 v_p1 v_p2
    have T11 := T10.up hbw8
    clear T10
    obtain ⟨⟨q0, q1, q2⟩, f0, f1, f2⟩ := p_cells (T11.out.1.1.2)
    obtain ⟨⟨q3, q4, q5⟩, f3, f4, f5⟩ := p_cells (T11.out.1.2)
    obtain ⟨w9, e9, e9b, ⟨⟨r0, r1, r2⟩, r3, r4, r5⟩, hret⟩ := pr_err (show W.heap.size + 1 ≠ W.heap.size + 1 + 1 by omega) (T11.out.1.1.2) (T11.out.1.2) (show W.heap.size ≤ W.heap.size + 1 by omega) (show W.heap.size ≤ W.heap.size + 1 + 1 by omega) (T11.out.1.1.1.1.1.2) (B := W.heap.size + 1 + 1 + 1) (by omega) (by omega) (fr_some (by omega)) (fr_some (by omega)) (wc_want hw8) rfl
    have HRET := Lib.hid hret
    have HE9 := Lib.hid (And.intro e9 e9b)
    have HR9 := Lib.hid (And.intro r0 (And.intro r1 (And.intro r2 (And.intro r3 (And.intro r4 r5)))))
    clear hret e9 e9b r0 r1 r2 r3 r4 r5
    clear hw8 lb1 lb2 sb0
    go_wp2
    rw [HE9.out.1]
    have r0 := HR9.out.1
    have r1 := HR9.out.2.1
    have r2 := HR9.out.2.2.1
    have r3 := HR9.out.2.2.2.1
    have r4 := HR9.out.2.2.2.2.1
    have r5 := HR9.out.2.2.2.2.2
    refine bodyPost_ret (v := .tuple #[patV 0 0 none 0 0, .agg #[.int .i64 3, .slice (some ⟨b1, 0, none⟩) 1 1, .slice (some ⟨b2, 0, none⟩) 1 1]]) (by simp [results, Tryd.results25, go_sem, r0, r1, r2, r3, r4, r5]) rfl ?_
    rw [HOD.out.1, HOD.out.2]
    exact HRET.out
  have h2t := withinB_t2 h2
  obtain ⟨y0, q1, qh, yh⟩ := h2t
  obtain ⟨y, rfl⟩ : ∃ y' : Nat, y = (y' : Int) := ⟨y.toNat, by omega⟩
  obtain ⟨q, rfl⟩ : ∃ q' : Nat, q = (q' : Int) := ⟨q.toNat, by omega⟩
  have ya : decide ((y : Int) < 0) = false := decide_eq_false (by omega)
  have qa : decide ((q : Int) < 1) = false := decide_eq_false (by omega)
  have yb : (y : Int) ≤ (h : Int) := by omega
  have qb : (q : Int) ≤ (h : Int) - (y : Int) := by omega
  have yd : decide (h < y) = false := decide_eq_false (by omega)
  have qd : decide ((h : Int) - (y : Int) < (q : Int)) = false := decide_eq_false (by omega)
  have yc : IntKind.i64.wrap ((h : Int) - (y : Int)) = (h : Int) - (y : Int) := IntWalk.i64_in _ (by omega)
  have hxp : x + p ≤ w := by omega
  have hyq : y + q ≤ h := by omega
  have p1n : 1 ≤ p := by omega
  have q1n : 1 ≤ q := by omega
  have hd : cutD (w : Int) (h : Int) l x y p q = none := by rw [HDD.out, if_neg h1, if_neg h2]
  have ho : cutO (w : Int) (h : Int) l x y p q = ((p : Int), (q : Int), cutL w l x y p q) := by unfold cutO; rw [if_pos hd]; simp only [Int.toNat_natCast]
  have HOD := Lib.hid (And.intro ho hd)
  obtain ⟨LL, hLL⟩ : ∃ LL, cutL w l x y p q = LL := ⟨_, rfl⟩
  have HLL := Lib.hid hLL
  have hlen : LL.length = p * q := by rw [← hLL]; exact madeL_len _ _ _
  obtain ⟨K, hK⟩ : ∃ K, p * q = K := ⟨_, rfl⟩
  have hK4 : K ≤ 4096 := by rw [← hK]; exact Nat.mul_le_mul (show p ≤ 64 by omega) (show q ≤ 64 by omega)
  have HK := Lib.hid hK
  have HLEN := Lib.hid hlen
  clear hd ho HDD h1 h2 x0 p1 pw xw y0 q1 qh yh hLL hK hlen
  go_enter Tryd.func25, Tryd.ntmps25
  have v_p0 : (((W.alloc (.cells #[.int .i64 w, .int .i64 h, .slice a n c] 24)).alloc (.cells #[.int .i64 0, .int .i64 0, .slice none 0 0] 24)).alloc (.cells #[.int .i64 0, .slice none 0 0, .slice none 0 0] 47)).cell? ⟨W.heap.size, 0, none⟩ = some (.int .i64 w) := by rw [HWb.out]; exact T6.out.1.1.2.1
  have v_p1 : (((W.alloc (.cells #[.int .i64 w, .int .i64 h, .slice a n c] 24)).alloc (.cells #[.int .i64 0, .int .i64 0, .slice none 0 0] 24)).alloc (.cells #[.int .i64 0, .slice none 0 0, .slice none 0 0] 47)).cell? ⟨W.heap.size, 1, none⟩ = some (.int .i64 h) := by rw [HWb.out]; exact T6.out.1.1.2.2.1
  have v_p2 : (((W.alloc (.cells #[.int .i64 w, .int .i64 h, .slice a n c] 24)).alloc (.cells #[.int .i64 0, .int .i64 0, .slice none 0 0] 24)).alloc (.cells #[.int .i64 0, .slice none 0 0, .slice none 0 0] 47)).cell? ⟨W.heap.size, 2, none⟩ = some (.slice a n c) := by rw [HWb.out]; exact T6.out.1.1.2.2.2
  go_wp2_with fail
  rw [HWb.out]
  refine (refpcheck_ok w h a n c l Wb T6.out.1.1.1.2 hm HPP.out).mono ?_; rintro e w1 ⟨rfl, hbw1⟩
  clear v_p0 v_p1 v_p2
  have T7 := T6.up hbw1
  clear T6
  obtain ⟨we, hwe⟩ : ∃ we, w1.alloc (.cells #[.int .i64 0, .slice none 0 0, .slice none 0 0] 47) = we := ⟨_, rfl⟩
  have hbwe : Below w1.heap.size w1 we := by rw [← hwe]; exact balloc (bnil w1) _
  have T8 := T7.up hbwe
  clear T7
  have T9 := T8.add (fun wv => wv.cell? ⟨w1.heap.size, 0, none⟩ = some (.int .i64 0) ∧ wv.cell? ⟨w1.heap.size, 1, none⟩ = some (.slice none 0 0) ∧ wv.cell? ⟨w1.heap.size, 2, none⟩ = some (.slice none 0 0)) (by rw [← hwe]; exact ⟨cnw (by simp) rfl, cnw (by simp) rfl, cnw (by simp) rfl⟩)
  clear T8
  have Hwe := Lib.hid hwe
  clear hwe hbwe
  have v_e0 : (w1.alloc (.cells #[.int .i64 0, .slice none 0 0, .slice none 0 0] 47)).cell? ⟨w1.heap.size, 0, none⟩ = some (.int .i64 0) := by rw [Hwe.out]; exact T9.out.2.1
  have v_e1 : (w1.alloc (.cells #[.int .i64 0, .slice none 0 0, .slice none 0 0] 47)).cell? ⟨w1.heap.size, 1, none⟩ = some (.slice none 0 0) := by rw [Hwe.out]; exact T9.out.2.2.1
  have v_e2 : (w1.alloc (.cells #[.int .i64 0, .slice none 0 0, .slice none 0 0] 47)).cell? ⟨w1.heap.size, 2, none⟩ = some (.slice none 0 0) := by rw [Hwe.out]; exact T9.out.2.2.2
  go_wp2_with fail
  rw [Hwe.out]
  refine (refBadE _ _ _ we false rfl).mono ?_; rintro e w2 ⟨rfl, hbw2⟩
  clear v_e0 v_e1 v_e2
  have T10 := T9.up hbw2
  clear T9
  have HVL : Hid (W.heap.size + 1 + 1 < w2.heap.size) := heap_ltT (T10.out.1.2)
  have v_p0 : w2.cell? ⟨W.heap.size, 0, none⟩ = some (.int .i64 w) := T10.out.1.1.1.2.1
  have v_p1 : w2.cell? ⟨W.heap.size, 1, none⟩ = some (.int .i64 h) := T10.out.1.1.1.2.2.1
  have v_p2 : w2.cell? ⟨W.heap.size, 2, none⟩ = some (.slice a n c) := T10.out.1.1.1.2.2.2
  go_wp2_with fail
  clear v_p0 v_p1 v_p2
  obtain ⟨wv, hwv⟩ : ∃ wv, w2.alloc (.cells #[.int .i64 p, .int .i64 q, .slice none 0 0] 24) = wv := ⟨_, rfl⟩
  obtain ⟨v, hv⟩ : ∃ v, w2.heap.size = v := ⟨_, rfl⟩
  have hh0 : wv.heap[v]? = some (.cells #[.int .i64 p, .int .i64 q, .slice none 0 0] 24) := by rw [← hwv, ← hv]; exact heap_alloc_new w2 _
  have hb0 : Below v w2 wv := by rw [← hwv, ← hv]; exact balloc (bnil w2) _
  have HH0 := Lib.hid hh0
  have HB0 := Lib.hid hb0
  have HV := Lib.hid hv
  rw [hwv, hv]
  clear hh0 hb0 hwv hv
  have xpw : IntKind.i64.wrap ((x : Int) + (p : Int)) = (x : Int) + (p : Int) := IntWalk.i64_in _ (by omega)
  have yqw : IntKind.i64.wrap ((y : Int) + (q : Int)) = (y : Int) + (q : Int) := IntWalk.i64_in _ (by omega)
  go_loopw [14] (fun jx wr => ∃ (r s : Nat) (aa : Option Addr) (cc : Nat), r ≤ q ∧ s = 0 ∧ jx = .int .i64 ((y + r : Nat) : Int) ∧ wr.heap[v]? = some (.cells #[.int .i64 p, .int .i64 q, .slice aa (r * p + s) cc] 24) ∧ OwI wr (v + 1) aa (r * p + s) cc (LL.take (r * p + s)) ∧ Below v w2 wr) (fun jx _ => y + q - (intOf jx).toNat)
  case atStart => exact ⟨0, 0, none, 0, by omega, by omega, by simp, by simpa using HH0.out, by simpa using OwI.nil _ _, HB0.out⟩
  case round =>
    obtain ⟨r, s0, aa, cc, hr, rfl, rfl, hh, ho, hb⟩ := hrel
    have HH := Lib.hid hh
    have HO := Lib.hid ho
    have HB := Lib.hid hb
    clear hh ho hb
    generalize wr = wo at *
    obtain ⟨j, hj⟩ : ∃ j, y + r = j := ⟨_, rfl⟩
    rw [hj]
    have hji : (y : Int) + (q : Int) ≤ 1000 := by omega
    by_cases hrq : r < q
    · skip
      have j1 : (j : Int) < (y : Int) + (q : Int) := by omega
      go_wp2_with fail
      go_loopw [15] (fun ix wr => ∃ (r1 s : Nat) (aa : Option Addr) (cc : Nat), r1 = r ∧ s ≤ p ∧ ix = .int .i64 ((x + s : Nat) : Int) ∧ wr.heap[v]? = some (.cells #[.int .i64 p, .int .i64 q, .slice aa (r1 * p + s) cc] 24) ∧ OwI wr (v + 1) aa (r1 * p + s) cc (LL.take (r1 * p + s)) ∧ Below v w2 wr) (fun ix _ => x + p - (intOf ix).toNat)
      case atStart => exact ⟨r, 0, aa, cc, rfl, by omega, by simp, HH.out, HO.out, HB.out⟩
      case round =>
        obtain ⟨r1, s, a3, c3, rfl, hs, rfl, hh3, ho3, hb3⟩ := hrel
        have HH3 := Lib.hid hh3
        have HO3 := Lib.hid ho3
        have HB3 := Lib.hid hb3
        obtain ⟨i, hi⟩ : ∃ i, x + s = i := ⟨_, rfl⟩
        rw [hi]
        have hii : (x : Int) + (p : Int) ≤ 1000 := by omega
        by_cases hsp : s < p
        · skip
          have hbw := HB3.out
          rw [← HV.out] at hbw
          clear hb3
          have T11 := T10.up hbw
          clear T10
          obtain ⟨ab, ao, hab0, hab, hcell⟩ := (T11.out.1.1.1.1.2).addr (by have := (T11.out.1.1.1.1.2).len; have := HPP.out.len; have := place_lt (show i < w by omega) (show j < h by omega); omega)
          subst hab0
          obtain ⟨Q, hQ⟩ : ∃ Q, j * w = Q := ⟨_, rfl⟩
          have hQ4 : Q ≤ 4096 := by rw [← hQ]; exact Nat.mul_le_mul (show j ≤ 64 by omega) hw2
          have hQI : (j : Int) * (w : Int) = (Q : Int) := by rw [← hQ, Int.natCast_mul]
          have hQw : IntKind.i64.wrap (Q : Int) = (Q : Int) := IntWalk.i64_in _ (by omega)
          have hQn : Q + i < n := by have h1 := (T11.out.1.1.1.1.2).len; have h2 := HPP.out.len; have h3 := place_lt (show i < w by omega) (show j < h by omega); rw [hQ] at h3; omega
          have z0 := hcell (Q + i) hQn
          obtain ⟨k, hk⟩ : ∃ k, r1 * p + s = k := ⟨_, rfl⟩
          have hkK : k < K := by have h1 := place_lt hsp hrq; rw [hk] at h1; have := HK.out; omega
          have hval : l.getD (Q + i) 0 = LL.getD k 0 := by
            rw [← HLL.out, ← hk, ← hQ, ← hi, ← hj]
            exact (atL_made (w := p) (h := q) (f := fun i j => atL w l (x + i) (y + j)) hsp hrq).symm
          rw [hval] at z0
          rw [hk] at hh3 ho3
          have hsn := take_snoc (l := LL) (k := k) (by have := HLEN.out; have := HK.out; omega)
          have HKE := Lib.hid hk
          generalize LL.getD k 0 = u at z0 hsn
          have hQiw : IntKind.i64.wrap ((Q : Int) + (i : Int)) = (Q : Int) + (i : Int) := IntWalk.i64_in _ (by omega)
          have k0 : (0 : Int) ≤ (Q : Int) + (i : Int) := by omega
          have k1 : (Q : Int) + (i : Int) < (n : Int) := by omega
          have k2 : ((Q : Int) + (i : Int)).toNat = Q + i := by omega
          have i1 : (i : Int) < (x : Int) + (p : Int) := by omega
          obtain ⟨⟨u0, u1, u2⟩, g0, g1, g2⟩ := p_cells hh3
          have hvs : v + 1 ≤ wr.heap.size := heap_ltT hh3
          have HSN := Lib.hid hsn
          have hO3 := Lib.hid ho3
          have HH4 := Lib.hid hh3
          have HI := Lib.hid hi
          clear hcell hval hQ hsn ho3 hh3 hk hi hj u0 u1 g0 g1 HH3 HO3
          have y3 : (wr.alloc (.cells #[.int .i64 u] 3)).cell? ⟨v, 2, none⟩ = some (.slice a3 k c3) := al000 u2
          have v_p2 : wr.cell? ⟨W.heap.size, 2, none⟩ = some (.slice (some ⟨ab, ao, none⟩) n c) := T11.out.1.1.1.2.2.2
          have v_p0 : wr.cell? ⟨W.heap.size, 0, none⟩ = some (.int .i64 w) := T11.out.1.1.1.2.1
          have va2 : (wr.alloc (.cells #[.int .i64 u] 3)).cell? ⟨W.heap.size, 2, none⟩ = some (.slice (some ⟨ab, ao, none⟩) n c) := al000 v_p2
          have va0 : (wr.alloc (.cells #[.int .i64 u] 3)).cell? ⟨W.heap.size, 0, none⟩ = some (.int .i64 w) := al000 v_p0
          go_wp2_with fail
          go_region_law (first
            | (refine step_app_lit (by rfl) _ _ _ (by rfl) (v + 1) et_int _ k _ hO3.out.own (by rfl) 1 _ _ (by rfl) (by simp) (by rfl) (by rfl) (by unfold maxLen; omega) (by omega) hvs ?_; intro a5 c5 w5 ho5 hg5 hb5 hs5; have y5 : w5.cell? ⟨v, 2, none⟩ = some (.slice a3 k c3) := (hb5.cell (p := ⟨v, 2, none⟩) (Nat.lt_succ_self v)).trans u2; have q5 := (hb5.frozen (p := ⟨v, 2, none⟩) (Nat.lt_succ_self v)).trans g2))
          all_goals
            have hh5 := (hb5.block v (Nat.lt_succ_self v)).trans HH4.out
            have HH6 := Lib.hid (set2q hh5 (.slice a5 (k + 1) c5))
            rw [HSN.out] at ho5
            have HO6 : Hid (OwI (w5.setCell ⟨v, 2, none⟩ (.slice a5 (k + 1) c5)) (v + 1) a5 (k + 1) c5 (LL.take (k + 1))) :=
              ⟨own_of_heap' ho5 fun b hb => Below.heap_setCell _ _ _ _ (by have := (ho5.lt b hb).1; show b ≠ v; omega)⟩
            have HB6 := Lib.hid ((HB3.out.trans (hb5.mono (Nat.le_succ v))).setCell (p := ⟨v, 2, none⟩) (Nat.le_refl v) (.slice a5 (k + 1) c5))
            have HK1 : Hid (r1 * p + (s + 1) = k + 1) := by show _ = _; have := HKE.out; omega
            clear hh5 ho5 hg5 hb5 hs5 y5 q5 y3 u2 g2 va2 va0 v_p2 v_p0 hQI hQw hQiw k0 k1 k2 xpw yqw xc yc z0 hbw
            go_wp2
            go_roundw
            case rel => exact ⟨r1, s + 1, a5, c5, rfl, by omega, by rw [← HI.out]; go_num, by rw [HK1.out]; exact HH6.out, by rw [HK1.out]; exact HO6.out, HB6.out⟩
            case measure => simp [intOf]; omega
        · skip
          obtain rfl : p = s := by omega
          have i2 : ¬ (i : Int) < (x : Int) + (p : Int) := by omega
          have HK1 : Hid ((r1 + 1) * p + 0 = r1 * p + p) := by show _ = _; rw [Nat.add_mul]; omega
          clear hh3 ho3 hb3 hi xc yc
          go_wp2
          go_roundw
          case rel => exact ⟨r1 + 1, 0, a3, c3, by omega, rfl, by rw [← hj]; go_num, by rw [HK1.out]; exact HH3.out, by rw [HK1.out]; exact HO3.out, HB3.out⟩
          case measure => simp [intOf]; omega
    · skip
      obtain rfl : q = r := by omega
      have j2 : ¬ (j : Int) < (y : Int) + (q : Int) := by omega
      have hkk : q * p + 0 = K := by have := HK.out; rw [Nat.mul_comm]; omega
      have hh := HH.out
      have ho := HO.out
      rw [hkk, List.take_of_length_le (by have := HLEN.out; have := HK.out; omega)] at ho
      rw [hkk] at hh
      have HO9 := Lib.hid ho
      have HH9 := Lib.hid hh
      obtain ⟨⟨u0, u1, u2⟩, g0, g1, g2⟩ := p_cells hh
      have hbw := HB.out
      rw [← HV.out] at hbw
      clear HO HH hkk hj ho hh
      have T11 := T10.up hbw
      clear T10
      have hvl0 : W.heap.size + 1 + 1 < v := by have h1 := HV.out; have h2 := HVL.out; omega
      have hvl : W.heap.size + 1 + 1 < v + 1 := by have h1 := HV.out; have h2 := HVL.out; omega
      obtain ⟨⟨q0, q1, q2⟩, f0, f1, f2⟩ := p_cells (T11.out.1.1.2)
      obtain ⟨⟨q3, q4, q5⟩, f3, f4, f5⟩ := p_cells (T11.out.1.2)
      obtain ⟨w9, e9, e9b, ⟨⟨r0, r1, r2⟩, r3, r4, r5⟩, hret⟩ := pr_ok (H := (p : Int)) (K := (q : Int)) (show W.heap.size + 1 ≠ W.heap.size + 1 + 1 by omega) (T11.out.1.1.2) (T11.out.1.2) (show W.heap.size ≤ W.heap.size + 1 by omega) (show W.heap.size ≤ W.heap.size + 1 + 1 by omega) (T11.out.1.1.1.1.1.2) (show W.heap.size + 1 < v + 1 by omega) hvl HO9.out
      rw [← HLL.out] at hret
      have HRET := Lib.hid hret
      have HE9 := Lib.hid (And.intro e9 e9b)
      have HR9 := Lib.hid (And.intro r0 (And.intro r1 (And.intro r2 (And.intro r3 (And.intro r4 r5)))))
      have ne1 : ¬ v = W.heap.size + 1 := by omega
      have ne2 : ¬ W.heap.size + 1 = v := by omega
      have ne3 : ¬ v = W.heap.size + 1 + 1 := by omega
      have ne4 : ¬ W.heap.size + 1 + 1 = v := by omega
      clear hret e9 e9b r0 r1 r2 r3 r4 r5 hvl hvl0 hbw
      go_wp2_with fail
      first
        | (go_region; all_goals go_wp2; all_goals (first | rw [HE9.out.1] | rw [HE9.out.2]))
        | rw [HE9.out.1]
      all_goals
        have r0 := HR9.out.1
        have r1 := HR9.out.2.1
        have r2 := HR9.out.2.2.1
        have r3 := HR9.out.2.2.2.1
        have r4 := HR9.out.2.2.2.2.1
        have r5 := HR9.out.2.2.2.2.2
        refine bodyPost_ret (v := .tuple #[patV p q aa K cc, .agg #[.int .i64 0, .slice none 0 0, .slice none 0 0]]) (by simp [results, Tryd.results25, go_sem, r0, r1, r2, r3, r4, r5]) rfl ?_
        rw [HOD.out.1, HOD.out.2]
        first | exact HRET.out | exact HRET.out.drew
end Go.Proofs.YtnlpobkmjhajcaaDoor
namespace Go.Proofs.YtnlpobkmjhajcaaDoor
open Go.RowKit
set_option linter.unusedVariables false
set_option maxRecDepth 100000

theorem quarter_getD {w h : Nat} {l : List Int} {x y : Nat} (hx : x < h) (hy : y < w) : l.getD ((h - 1 - x) * w + y) 0 = (turnL w h l 1).getD (y * h + x) 0 := by
  have h1 : turnL w h l 1 = madeL h w (fun x y => atL w l y (h - 1 - x)) := rfl
  rw [h1, madeL_getD hx hy]
  rfl
theorem turn1_len (w h : Nat) (l : List Int) : (turnL w h l 1).length = h * w := madeL_len _ _ _

set_option maxHeartbeats 16000000 in
theorem refquarter (w h : Nat) (a : Option Addr) (n c : Nat) (l : List Int) (W : World) (hR : RK .i64 W a n l) (hm : n ≤ maxLen) (hp : IsPatch w h l) :
    Calls Tryd.prog 64 #[patV w h a n c] W fun e w' => ∃ a' c', e = .returned (patV h w a' (h * w) c') ∧ OwI w' W.heap.size a' (h * w) c' (turnL w h l 1) ∧ Below W.heap.size W w' := by
  have T0 := Tk.nil W
  have T1 := T0.add (fun wv => Below W.heap.size W wv) (bnil W)
  clear T0
  have T2 := T1.add (fun wv => RK .i64 wv a n l) (hR)
  clear T1
  have hw1 := hp.w1
  have hw2 := hp.w2
  have hh1 := hp.h1
  have hh2 := hp.h2
  have HPP := Lib.hid hp
  have hmx : n ≤ 9223372036854775807 := hm
  clear hR hp
  obtain ⟨Wb, hWb⟩ : ∃ Wb, (W.alloc (.cells #[.int .i64 w, .int .i64 h, .slice a n c] 24)).alloc (.cells #[.int .i64 0, .int .i64 0, .slice none 0 0] 24) = Wb := ⟨_, rfl⟩
  have hbWb : Below W.heap.size W Wb := by rw [← hWb]; exact balloc (balloc (bnil W) _) _
  have T3 := T2.up hbWb
  clear T2
  have T4 := T3.add (fun wv => wv.cell? ⟨W.heap.size, 0, none⟩ = some (.int .i64 w) ∧ wv.cell? ⟨W.heap.size, 1, none⟩ = some (.int .i64 h) ∧ wv.cell? ⟨W.heap.size, 2, none⟩ = some (.slice a n c)) (by rw [← hWb]; exact ⟨al000 (cnw (by simp) rfl), al000 (cnw (by simp) rfl), al000 (cnw (by simp) rfl)⟩)
  clear T3
  have HWb := Lib.hid hWb
  clear hWb hbWb
  have hz1 : Wb.heap[W.heap.size + 1]? = some (.cells #[.int .i64 0, .int .i64 0, .slice none 0 0] 24) := by
    rw [← HWb.out]
    have := heap_alloc_new (W.alloc (.cells #[.int .i64 w, .int .i64 h, .slice a n c] 24)) (.cells #[.int .i64 0, .int .i64 0, .slice none 0 0] 24)
    simpa using this
  have hsz : W.heap.size + 2 = Wb.heap.size := by rw [← HWb.out]; simp
  have T5 := T4.add (fun wv => wv.heap[W.heap.size + 1]? = some (.cells #[.int .i64 0, .int .i64 0, .slice none 0 0] 24)) (hz1)
  clear T4
  have HSZ := Lib.hid hsz
  clear hz1 hsz
  obtain ⟨LL, hLL⟩ : ∃ LL, turnL w h l 1 = LL := ⟨_, rfl⟩
  have HLL := Lib.hid hLL
  have hlen : LL.length = h * w := by rw [← hLL]; exact turn1_len _ _ _
  obtain ⟨K, hK⟩ : ∃ K, h * w = K := ⟨_, rfl⟩
  have hK4 : K ≤ 4096 := by rw [← hK]; exact Nat.mul_le_mul hh2 hw2
  rw [hK, hLL]
  rw [hK] at hlen
  have HK := Lib.hid hK
  have HLEN := Lib.hid hlen
  clear hLL hK hlen
  go_enter Tryd.func64, Tryd.ntmps64
  have v_p0 : ((W.alloc (.cells #[.int .i64 w, .int .i64 h, .slice a n c] 24)).alloc (.cells #[.int .i64 0, .int .i64 0, .slice none 0 0] 24)).cell? ⟨W.heap.size, 0, none⟩ = some (.int .i64 w) := by rw [HWb.out]; exact T5.out.1.2.1
  have v_p1 : ((W.alloc (.cells #[.int .i64 w, .int .i64 h, .slice a n c] 24)).alloc (.cells #[.int .i64 0, .int .i64 0, .slice none 0 0] 24)).cell? ⟨W.heap.size, 1, none⟩ = some (.int .i64 h) := by rw [HWb.out]; exact T5.out.1.2.2.1
  have v_p2 : ((W.alloc (.cells #[.int .i64 w, .int .i64 h, .slice a n c] 24)).alloc (.cells #[.int .i64 0, .int .i64 0, .slice none 0 0] 24)).cell? ⟨W.heap.size, 2, none⟩ = some (.slice a n c) := by rw [HWb.out]; exact T5.out.1.2.2.2
  go_wp2_with fail
  rw [HWb.out]
  clear v_p0 v_p1 v_p2
  obtain ⟨wv, hwv⟩ : ∃ wv, Wb.alloc (.cells #[.int .i64 h, .int .i64 w, .slice none 0 0] 24) = wv := ⟨_, rfl⟩
  obtain ⟨v, hv⟩ : ∃ v, Wb.heap.size = v := ⟨_, rfl⟩
  have hh0 : wv.heap[v]? = some (.cells #[.int .i64 h, .int .i64 w, .slice none 0 0] 24) := by rw [← hwv, ← hv]; exact heap_alloc_new Wb _
  have hb0 : Below v Wb wv := by rw [← hwv, ← hv]; exact balloc (bnil Wb) _
  have HH0 := Lib.hid hh0
  have HB0 := Lib.hid hb0
  have HV := Lib.hid hv
  have hvs : W.heap.size + 1 + 1 = v := by rw [← hv]; exact HSZ.out
  rw [hwv, hvs]
  clear hvs
  clear hh0 hb0 hwv hv
  go_loopw [4] (fun jx wr => ∃ (r s : Nat) (aa : Option Addr) (cc : Nat), r ≤ w ∧ s = 0 ∧ jx = .int .i64 (r : Nat) ∧ wr.heap[v]? = some (.cells #[.int .i64 h, .int .i64 w, .slice aa (r * h + s) cc] 24) ∧ OwI wr (v + 1) aa (r * h + s) cc (LL.take (r * h + s)) ∧ Below v Wb wr) (fun jx _ => w - (intOf jx).toNat)
  case atStart => exact ⟨0, 0, none, 0, by omega, by omega, rfl, by simpa using HH0.out, by simpa using OwI.nil _ _, HB0.out⟩
  case round =>
    obtain ⟨r, s0, aa, cc, hr, rfl, rfl, hh, ho, hb⟩ := hrel
    have HH := Lib.hid hh
    have HO := Lib.hid ho
    have HB := Lib.hid hb
    obtain ⟨⟨b0, b1, b2⟩, _, _, _⟩ := p_cells hh
    clear b0 b2
    clear hh ho hb
    generalize wr = wo at *
    by_cases hrq : r < w
    · skip
      have j1 : (r : Int) < (w : Int) := by omega
      go_wp2_with fail
      clear b1
      go_loopw [5] (fun ix wr => ∃ (r1 s : Nat) (aa : Option Addr) (cc : Nat), r1 = r ∧ s ≤ h ∧ ix = .int .i64 (s : Nat) ∧ wr.heap[v]? = some (.cells #[.int .i64 h, .int .i64 w, .slice aa (r1 * h + s) cc] 24) ∧ OwI wr (v + 1) aa (r1 * h + s) cc (LL.take (r1 * h + s)) ∧ Below v Wb wr) (fun ix _ => h - (intOf ix).toNat)
      case atStart => exact ⟨r, 0, aa, cc, rfl, by omega, rfl, HH.out, HO.out, HB.out⟩
      case round =>
        obtain ⟨r1, s, a3, c3, rfl, hs, rfl, hh3, ho3, hb3⟩ := hrel
        have HH3 := Lib.hid hh3
        have HO3 := Lib.hid ho3
        have HB3 := Lib.hid hb3
        by_cases hsp : s < h
        · skip
          have hbw := HB3.out
          rw [← HV.out] at hbw
          clear hb3
          have T6 := T5.up hbw
          clear T5
          obtain ⟨k, hk⟩ : ∃ k, r1 * h + s = k := ⟨_, rfl⟩
          have hkK : k < K := by have h1 := place_lt hsp hrq; rw [hk] at h1; have := HK.out; omega
          obtain ⟨ab, ao, hab0, hab, hcell⟩ := (T6.out.1.1.2).addr (by have h1 := (T6.out.1.1.2).len; have h2 := HPP.out.len; have h3 := place_lt (show r1 < w by omega) (show h - 1 - s < h by omega); omega)
          subst hab0
          obtain ⟨Q, hQ⟩ : ∃ Q, (h - 1 - s) * w = Q := ⟨_, rfl⟩
          have hQ4 : Q ≤ 4096 := by rw [← hQ]; exact Nat.mul_le_mul (show h - 1 - s ≤ 64 by omega) hw2
          have hsI : (h : Int) - 1 - (s : Int) = ((h - 1 - s : Nat) : Int) := by omega
          have hQI : ((h : Int) - 1 - (s : Int)) * (w : Int) = (Q : Int) := by rw [hsI, ← hQ, Int.natCast_mul]
          have hw1a : IntKind.i64.wrap ((h : Int) - 1) = (h : Int) - 1 := IntWalk.i64_in _ (by omega)
          have hw2a : IntKind.i64.wrap ((h : Int) - 1 - (s : Int)) = (h : Int) - 1 - (s : Int) := IntWalk.i64_in _ (by omega)
          have hQw : IntKind.i64.wrap (Q : Int) = (Q : Int) := IntWalk.i64_in _ (by omega)
          have hQn : Q + r1 < n := by have h1 := (T6.out.1.1.2).len; have h2 := HPP.out.len; have h3 := place_lt (show r1 < w by omega) (show h - 1 - s < h by omega); rw [hQ] at h3; omega
          have z0 := hcell (Q + r1) hQn
          have hval : l.getD (Q + r1) 0 = LL.getD k 0 := by
            rw [← HLL.out, ← hk, ← hQ]
            exact quarter_getD hsp hrq
          rw [hval] at z0
          have hQiw : IntKind.i64.wrap ((Q : Int) + (r1 : Int)) = (Q : Int) + (r1 : Int) := IntWalk.i64_in _ (by omega)
          have k0 : (0 : Int) ≤ (Q : Int) + (r1 : Int) := by omega
          have k1 : (Q : Int) + (r1 : Int) < (n : Int) := by omega
          have k2 : ((Q : Int) + (r1 : Int)).toNat = Q + r1 := by omega
          clear hcell hval hQ hsI
          rw [hk] at hh3 ho3
          have hsn := take_snoc (l := LL) (k := k) (by have := HLEN.out; have := HK.out; omega)
          have HKE := Lib.hid hk
          generalize LL.getD k 0 = u at *
          obtain ⟨⟨u0, u1, u2⟩, g0, g1, g2⟩ := p_cells hh3
          have hvs : v + 1 ≤ wr.heap.size := heap_ltT hh3
          have i1 : (s : Int) < (h : Int) := by omega
          have HSN := Lib.hid hsn
          have hO3 := Lib.hid ho3
          have HH4 := Lib.hid hh3
          clear hsn ho3 hh3 hk u1 g0 g1 HH3 HO3
          have y3 : (wr.alloc (.cells #[.int .i64 u] 3)).cell? ⟨v, 2, none⟩ = some (.slice a3 k c3) := al000 u2
          have v_p0 : wr.cell? ⟨W.heap.size, 0, none⟩ = some (.int .i64 w) := T6.out.1.2.1
          have v_p1 : wr.cell? ⟨W.heap.size, 1, none⟩ = some (.int .i64 h) := T6.out.1.2.2.1
          have v_p2 : wr.cell? ⟨W.heap.size, 2, none⟩ = some (.slice (some ⟨ab, ao, none⟩) n c) := T6.out.1.2.2.2
          have va_p0 : (wr.alloc (.cells #[.int .i64 u] 3)).cell? ⟨W.heap.size, 0, none⟩ = some (.int .i64 w) := al000 v_p0
          have va_p1 : (wr.alloc (.cells #[.int .i64 u] 3)).cell? ⟨W.heap.size, 1, none⟩ = some (.int .i64 h) := al000 v_p1
          have va_p2 : (wr.alloc (.cells #[.int .i64 u] 3)).cell? ⟨W.heap.size, 2, none⟩ = some (.slice (some ⟨ab, ao, none⟩) n c) := al000 v_p2
          go_wp2_with fail
          go_region_law (first
            | (refine step_app_lit (by rfl) _ _ _ (by rfl) (v + 1) et_int _ k _ hO3.out.own (by rfl) 1 _ _ (by rfl) (by simp) (by rfl) (by rfl) (by unfold maxLen; omega) (by omega) hvs ?_; intro a5 c5 w5 ho5 hg5 hb5 hs5; have y5 : w5.cell? ⟨v, 2, none⟩ = some (.slice a3 k c3) := (hb5.cell (p := ⟨v, 2, none⟩) (Nat.lt_succ_self v)).trans u2; have q5 := (hb5.frozen (p := ⟨v, 2, none⟩) (Nat.lt_succ_self v)).trans g2))
          all_goals
            have hh5 := (hb5.block v (Nat.lt_succ_self v)).trans HH4.out
            have HH6 := Lib.hid (set2q hh5 (.slice a5 (k + 1) c5))
            rw [HSN.out] at ho5
            have HO6 : Hid (OwI (w5.setCell ⟨v, 2, none⟩ (.slice a5 (k + 1) c5)) (v + 1) a5 (k + 1) c5 (LL.take (k + 1))) :=
              ⟨own_of_heap' ho5 fun b hb => Below.heap_setCell _ _ _ _ (by have := (ho5.lt b hb).1; show b ≠ v; omega)⟩
            have HB6 := Lib.hid ((HB3.out.trans (hb5.mono (Nat.le_succ v))).setCell (p := ⟨v, 2, none⟩) (Nat.le_refl v) (.slice a5 (k + 1) c5))
            have HK1 : Hid (r1 * h + (s + 1) = k + 1) := by show _ = _; have := HKE.out; omega
            clear hh5 ho5 hg5 hb5 hs5 y5 q5 y3 u2 g2 hbw u0 va_p0 v_p0 va_p1 v_p1 va_p2 v_p2 hQI hw1a hw2a hQw hQiw k0 k1 k2 z0
            go_wp2
            go_roundw
            case rel => exact ⟨r1, s + 1, a5, c5, rfl, by omega, by go_num, by rw [HK1.out]; exact HH6.out, by rw [HK1.out]; exact HO6.out, HB6.out⟩
            case measure => simp [intOf]; omega
        · skip
          obtain rfl : h = s := by omega
          have i2 : ¬ (h : Int) < (h : Int) := by omega
          have HK1 : Hid ((r1 + 1) * h + 0 = r1 * h + h) := by show _ = _; rw [Nat.add_mul]; omega
          obtain ⟨⟨u0, u1, u2⟩, _, _, _⟩ := p_cells hh3
          clear u1 u2
          clear hh3 ho3 hb3
          go_wp2
          go_roundw
          case rel => exact ⟨r1 + 1, 0, a3, c3, by omega, rfl, by go_num, by rw [HK1.out]; exact HH3.out, by rw [HK1.out]; exact HO3.out, HB3.out⟩
          case measure => simp [intOf]; omega
    · skip
      obtain rfl : w = r := by omega
      have j2 : ¬ (w : Int) < (w : Int) := by omega
      have hkk : w * h + 0 = K := by have := HK.out; rw [Nat.mul_comm]; omega
      have hh := HH.out
      have ho := HO.out
      rw [hkk, List.take_of_length_le (by have := HLEN.out; have := HK.out; omega)] at ho
      rw [hkk] at hh
      have HO9 := Lib.hid ho
      have HH9 := Lib.hid hh
      obtain ⟨⟨u0, u1, u2⟩, g0, g1, g2⟩ := p_cells hh
      have hbw := HB.out
      rw [← HV.out] at hbw
      clear HO HH hkk ho hh b1
      have T6 := T5.up hbw
      clear T5
      have hv2 : W.heap.size + 2 = v := by have h1 := HSZ.out; have h2 := HV.out; omega
      obtain ⟨⟨q0, q1, q2⟩, f0, f1, f2⟩ := p_cells (T6.out.2)
      obtain ⟨w9, e9, ⟨r0, r1, r2⟩, hk9, hs9, hb9⟩ := set3p (T6.out.2) (.int .i64 h) (.int .i64 w) (.slice aa K cc)
      have HRET := Lib.hid (And.intro (OwI.mk (own_of_heap' HO9.out.own fun b hb => hk9 b (by have := (HO9.out.own.lt b hb).1; omega))) (hb9 W W.heap.size (by omega) (T6.out.1.1.1.2)))
      have hne : W.heap.size + 1 ≠ v := by omega
      have HE9 := Lib.hid e9
      have HVV := Lib.hid hv2
      clear hbw hk9 hs9 hb9 e9 hv2
      go_wp2_with fail
      rw [HE9.out]
      refine bodyPost_ret (v := patV h w aa K cc) (by simp [results, Tryd.results64, go_sem, r0, r1, r2]) rfl ?_
      exact ⟨aa, cc, rfl, HRET.out.1.base (by have := HVV.out; omega), HRET.out.2⟩
end Go.Proofs.YtnlpobkmjhajcaaDoor
