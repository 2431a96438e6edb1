/- The contract of edenref21.Check, for any patch; ends of functions that return an error as plain data. -/
import Derived.Test.YtocfkmdoalhjmaaDoorTrkP
import Derived.Test.YtocfkmdoalhjmaaDoorPatC
import Derived.Test.YtocfkmdoalhjmaaDoorRawF
namespace Go.Proofs.YtocfkmdoalhjmaaDoor
open Go.RowKit
set_option linter.unusedVariables false
set_option maxRecDepth 100000

/-- an error's end: the result's variable is set -/
theorem er_at {W w8 : World} {B b1 b2 : Nat} {op : ByteArray} {at_ N : Int} {x0 x1 x2 : Value} (hB : W.heap.size ≤ B) (hz : w8.heap[B]? = some (.cells #[x0, x1, x2] 48)) (hb : Below W.heap.size W w8) (l1 : B < b1) (l2 : B < b2)
    (hw : WantIs w8 (.agg #[.int .i64 N, .slice (some ⟨b1, 0, none⟩) 1 1, .slice (some ⟨b2, 0, none⟩) 1 1]) (some (op, at_, N))) :
    ∃ w9, (((w8.setCell ⟨B, 0, none⟩ (.int .i64 N)).setCell ⟨B, 1, none⟩ (.slice (some ⟨b1, 0, none⟩) 1 1)).setCell ⟨B, 2, none⟩ (.slice (some ⟨b2, 0, none⟩) 1 1)) = w9 ∧
      (w9.cell? ⟨B, 0, none⟩ = some (.int .i64 N) ∧ w9.cell? ⟨B, 1, none⟩ = some (.slice (some ⟨b1, 0, none⟩) 1 1) ∧ w9.cell? ⟨B, 2, none⟩ = some (.slice (some ⟨b2, 0, none⟩) 1 1)) ∧
      RefRet W (some ([(op, at_)], N)) (.returned (.agg #[.int .i64 N, .slice (some ⟨b1, 0, none⟩) 1 1, .slice (some ⟨b2, 0, none⟩) 1 1])) w9 := by
  obtain ⟨w9, e9, hc, hk, hs, hbl⟩ := set3p hz (.int .i64 N) (.slice (some ⟨b1, 0, none⟩) 1 1) (.slice (some ⟨b2, 0, none⟩) 1 1)
  have hn : (N != 0) = true := by have := hw.2; simpa using this
  refine ⟨w9, e9, hc, N, _, 1, 1, _, 1, 1, rfl, (wc_want hw).other hk hs (fr_some (show B + 1 ≤ b1 by omega)) (fr_some (show B + 1 ≤ b2 by omega)), fr_some (by omega), fr_some (by omega), hn, (fun h => by cases h), hbl W W.heap.size hB hb⟩
/-- no error: the result's variable stays -/
theorem er_none {W w8 : World} {B : Nat} {x0 x1 x2 : Value} (hB : W.heap.size ≤ B) (hz : w8.heap[B]? = some (.cells #[x0, x1, x2] 48)) (hb : Below W.heap.size W w8) :
    ∃ w9, (((w8.setCell ⟨B, 0, none⟩ (.int .i64 0)).setCell ⟨B, 1, none⟩ (.slice none 0 0)).setCell ⟨B, 2, none⟩ (.slice none 0 0)) = w9 ∧
      (w9.cell? ⟨B, 0, none⟩ = some (.int .i64 0) ∧ w9.cell? ⟨B, 1, none⟩ = some (.slice none 0 0) ∧ w9.cell? ⟨B, 2, none⟩ = some (.slice none 0 0)) ∧
      RefRet W none (.returned (.agg #[.int .i64 0, .slice none 0 0, .slice none 0 0])) w9 := by
  obtain ⟨w9, e9, hc, hk, hs, hbl⟩ := set3p hz (.int .i64 0) (.slice none 0 0) (.slice none 0 0)
  exact ⟨w9, e9, hc, 0, none, 0, 0, none, 0, 0, rfl, wc_none w9, fr_none, fr_none, rfl, fun _ => ⟨rfl, rfl, rfl, rfl, rfl, rfl, rfl⟩, hbl W W.heap.size hB hb⟩

set_option maxHeartbeats 8000000 in
theorem refpcheck_any (w h : Int) (a : Option Addr) (n c : Nat) (l : List Int) (W : World) (hR : RK .i64 W a n l) (hm : n ≤ maxLen) :
    Calls Tryd.prog 45 #[patV w h a n c] W (RefRet W (patchD w h l)) := by
  have hnl := hR.len
  have hmx : n ≤ 9223372036854775807 := hm
  have T0 := Tk.nil W
  have T1 := T0.add (fun wv => Below W.heap.size W wv) (bnil W)
  clear T0
  have T2 := T1.add (fun wv => RK .i64 wv a n l) (hR)
  clear T1
  clear hR
  obtain ⟨Wb, hWb⟩ : ∃ Wb, (W.alloc (.cells #[.int .i64 w, .int .i64 h, .slice a n c] 24)).alloc (.cells #[.int .i64 0, .slice none 0 0, .slice none 0 0] 48) = Wb := ⟨_, rfl⟩
  have hbWb : Below W.heap.size W Wb := by rw [← hWb]; exact balloc (balloc (bnil W) _) _
  have T3 := T2.up hbWb
  clear T2
  have T4 := T3.add (fun wv => wv.cell? ⟨W.heap.size, 0, none⟩ = some (.int .i64 w) ∧ wv.cell? ⟨W.heap.size, 1, none⟩ = some (.int .i64 h) ∧ wv.cell? ⟨W.heap.size, 2, none⟩ = some (.slice a n c)) (by rw [← hWb]; exact ⟨al000 (cnw (by simp) rfl), al000 (cnw (by simp) rfl), al000 (cnw (by simp) rfl)⟩)
  clear T3
  have HWb := Lib.hid hWb
  clear hWb hbWb
  have hz : Wb.heap[W.heap.size + 1]? = some (.cells #[.int .i64 0, .slice none 0 0, .slice none 0 0] 48) := by
    rw [← HWb.out]
    have := heap_alloc_new (W.alloc (.cells #[.int .i64 w, .int .i64 h, .slice a n c] 24)) (.cells #[.int .i64 0, .slice none 0 0, .slice none 0 0] 48)
    simpa using this
  have T5 := T4.add (fun wv => wv.heap[W.heap.size + 1]? = some (.cells #[.int .i64 0, .slice none 0 0, .slice none 0 0] 48)) (hz)
  clear T4
  clear hz
  by_cases c0 : w < 1 ∨ 64 < w
  · skip
    by_cases c00 : w < 1
    · skip
      have hd : patchD w h l = some ([(opPatch, 0)], 7) := by unfold patchD patchErr; rw [if_pos c0]; rfl
      have HD := Lib.hid hd
      clear hd hnl
      go_enter Tryd.func45, Tryd.ntmps45
      have sb0 : W.heap.size + 1 < Wb.heap.size := heap_ltT (T5.out.2)
      have v_p0 : ((W.alloc (.cells #[.int .i64 w, .int .i64 h, .slice a n c] 24)).alloc (.cells #[.int .i64 0, .slice none 0 0, .slice none 0 0] 48)).cell? ⟨W.heap.size, 0, none⟩ = some (.int .i64 w) := by rw [HWb.out]; exact T5.out.1.2.1
      have v_p1 : ((W.alloc (.cells #[.int .i64 w, .int .i64 h, .slice a n c] 24)).alloc (.cells #[.int .i64 0, .slice none 0 0, .slice none 0 0] 48)).cell? ⟨W.heap.size, 1, none⟩ = some (.int .i64 h) := by rw [HWb.out]; exact T5.out.1.2.2.1
      have v_p2 : ((W.alloc (.cells #[.int .i64 w, .int .i64 h, .slice a n c] 24)).alloc (.cells #[.int .i64 0, .slice none 0 0, .slice none 0 0] 48)).cell? ⟨W.heap.size, 2, none⟩ = some (.slice a n c) := by rw [HWb.out]; exact T5.out.1.2.2.2
      go_wp2_with fail
      rw [HWb.out]
      refine (rawNew_fresh _ _ _ _ rfl).mono ?_; rintro e w8 ⟨b1, b2, rfl, lb1, lb2, hw8, hbw8⟩
      clear v_p0 v_p1 v_p2
      have T6 := T5.up hbw8
      clear T5
      obtain ⟨w9, e9, ⟨r0, r1, r2⟩, hret⟩ := er_at (show W.heap.size ≤ W.heap.size + 1 by omega) (T6.out.2) (T6.out.1.1.1.2) (by omega) (by omega) hw8
      obtain ⟨⟨q0, q1, q2⟩, f0, f1, f2⟩ := p_cells (T6.out.2)
      have HRET := Lib.hid hret
      have HE9 := Lib.hid e9
      have HR9 := Lib.hid (And.intro r0 (And.intro r1 r2))
      clear hw8 hret lb1 lb2 sb0 e9 r0 r1 r2
      go_wp2
      rw [HE9.out]
      have r0 := HR9.out.1
      have r1 := HR9.out.2.1
      have r2 := HR9.out.2.2
      refine bodyPost_ret (v := .agg #[.int .i64 7, .slice (some ⟨b1, 0, none⟩) 1 1, .slice (some ⟨b2, 0, none⟩) 1 1]) (by simp [results, Tryd.results45, go_sem, r0, r1, r2]) rfl ?_
      rw [HD.out]
      exact HRET.out
    · skip
      have c01 : 64 < w := by omega
      have c02 : 1 ≤ w := by omega
      have hd : patchD w h l = some ([(opPatch, 0)], 7) := by unfold patchD patchErr; rw [if_pos c0]; rfl
      have HD := Lib.hid hd
      clear hd hnl
      go_enter Tryd.func45, Tryd.ntmps45
      have sb0 : W.heap.size + 1 < Wb.heap.size := heap_ltT (T5.out.2)
      have v_p0 : ((W.alloc (.cells #[.int .i64 w, .int .i64 h, .slice a n c] 24)).alloc (.cells #[.int .i64 0, .slice none 0 0, .slice none 0 0] 48)).cell? ⟨W.heap.size, 0, none⟩ = some (.int .i64 w) := by rw [HWb.out]; exact T5.out.1.2.1
      have v_p1 : ((W.alloc (.cells #[.int .i64 w, .int .i64 h, .slice a n c] 24)).alloc (.cells #[.int .i64 0, .slice none 0 0, .slice none 0 0] 48)).cell? ⟨W.heap.size, 1, none⟩ = some (.int .i64 h) := by rw [HWb.out]; exact T5.out.1.2.2.1
      have v_p2 : ((W.alloc (.cells #[.int .i64 w, .int .i64 h, .slice a n c] 24)).alloc (.cells #[.int .i64 0, .slice none 0 0, .slice none 0 0] 48)).cell? ⟨W.heap.size, 2, none⟩ = some (.slice a n c) := by rw [HWb.out]; exact T5.out.1.2.2.2
      go_wp2_with fail
      rw [HWb.out]
      refine (rawNew_fresh _ _ _ _ rfl).mono ?_; rintro e w8 ⟨b1, b2, rfl, lb1, lb2, hw8, hbw8⟩
      clear v_p0 v_p1 v_p2
      have T6 := T5.up hbw8
      clear T5
      obtain ⟨w9, e9, ⟨r0, r1, r2⟩, hret⟩ := er_at (show W.heap.size ≤ W.heap.size + 1 by omega) (T6.out.2) (T6.out.1.1.1.2) (by omega) (by omega) hw8
      obtain ⟨⟨q0, q1, q2⟩, f0, f1, f2⟩ := p_cells (T6.out.2)
      have HRET := Lib.hid hret
      have HE9 := Lib.hid e9
      have HR9 := Lib.hid (And.intro r0 (And.intro r1 r2))
      clear hw8 hret lb1 lb2 sb0 e9 r0 r1 r2
      go_wp2
      rw [HE9.out]
      have r0 := HR9.out.1
      have r1 := HR9.out.2.1
      have r2 := HR9.out.2.2
      refine bodyPost_ret (v := .agg #[.int .i64 7, .slice (some ⟨b1, 0, none⟩) 1 1, .slice (some ⟨b2, 0, none⟩) 1 1]) (by simp [results, Tryd.results45, go_sem, r0, r1, r2]) rfl ?_
      rw [HD.out]
      exact HRET.out
  have hw1 : 1 ≤ w := by omega
  have hw2 : w ≤ 64 := by omega
  have hw3 : decide (64 < w) = false := decide_eq_false (by omega)
  by_cases c1 : h < 1 ∨ 64 < h
  · skip
    by_cases c10 : h < 1
    · skip
      have hd : patchD w h l = some ([(opPatch, 1)], 7) := by unfold patchD patchErr; rw [if_neg c0, if_pos c1]; rfl
      have HD := Lib.hid hd
      clear hd hnl
      go_enter Tryd.func45, Tryd.ntmps45
      have sb0 : W.heap.size + 1 < Wb.heap.size := heap_ltT (T5.out.2)
      have v_p0 : ((W.alloc (.cells #[.int .i64 w, .int .i64 h, .slice a n c] 24)).alloc (.cells #[.int .i64 0, .slice none 0 0, .slice none 0 0] 48)).cell? ⟨W.heap.size, 0, none⟩ = some (.int .i64 w) := by rw [HWb.out]; exact T5.out.1.2.1
      have v_p1 : ((W.alloc (.cells #[.int .i64 w, .int .i64 h, .slice a n c] 24)).alloc (.cells #[.int .i64 0, .slice none 0 0, .slice none 0 0] 48)).cell? ⟨W.heap.size, 1, none⟩ = some (.int .i64 h) := by rw [HWb.out]; exact T5.out.1.2.2.1
      have v_p2 : ((W.alloc (.cells #[.int .i64 w, .int .i64 h, .slice a n c] 24)).alloc (.cells #[.int .i64 0, .slice none 0 0, .slice none 0 0] 48)).cell? ⟨W.heap.size, 2, none⟩ = some (.slice a n c) := by rw [HWb.out]; exact T5.out.1.2.2.2
      go_wp2_with fail
      rw [HWb.out]
      refine (rawNew_fresh _ _ _ _ rfl).mono ?_; rintro e w8 ⟨b1, b2, rfl, lb1, lb2, hw8, hbw8⟩
      clear v_p0 v_p1 v_p2
      have T6 := T5.up hbw8
      clear T5
      obtain ⟨w9, e9, ⟨r0, r1, r2⟩, hret⟩ := er_at (show W.heap.size ≤ W.heap.size + 1 by omega) (T6.out.2) (T6.out.1.1.1.2) (by omega) (by omega) hw8
      obtain ⟨⟨q0, q1, q2⟩, f0, f1, f2⟩ := p_cells (T6.out.2)
      have HRET := Lib.hid hret
      have HE9 := Lib.hid e9
      have HR9 := Lib.hid (And.intro r0 (And.intro r1 r2))
      clear hw8 hret lb1 lb2 sb0 e9 r0 r1 r2
      go_wp2
      rw [HE9.out]
      have r0 := HR9.out.1
      have r1 := HR9.out.2.1
      have r2 := HR9.out.2.2
      refine bodyPost_ret (v := .agg #[.int .i64 7, .slice (some ⟨b1, 0, none⟩) 1 1, .slice (some ⟨b2, 0, none⟩) 1 1]) (by simp [results, Tryd.results45, go_sem, r0, r1, r2]) rfl ?_
      rw [HD.out]
      exact HRET.out
    · skip
      have c11 : 64 < h := by omega
      have c12 : 1 ≤ h := by omega
      have hd : patchD w h l = some ([(opPatch, 1)], 7) := by unfold patchD patchErr; rw [if_neg c0, if_pos c1]; rfl
      have HD := Lib.hid hd
      clear hd hnl
      go_enter Tryd.func45, Tryd.ntmps45
      have sb0 : W.heap.size + 1 < Wb.heap.size := heap_ltT (T5.out.2)
      have v_p0 : ((W.alloc (.cells #[.int .i64 w, .int .i64 h, .slice a n c] 24)).alloc (.cells #[.int .i64 0, .slice none 0 0, .slice none 0 0] 48)).cell? ⟨W.heap.size, 0, none⟩ = some (.int .i64 w) := by rw [HWb.out]; exact T5.out.1.2.1
      have v_p1 : ((W.alloc (.cells #[.int .i64 w, .int .i64 h, .slice a n c] 24)).alloc (.cells #[.int .i64 0, .slice none 0 0, .slice none 0 0] 48)).cell? ⟨W.heap.size, 1, none⟩ = some (.int .i64 h) := by rw [HWb.out]; exact T5.out.1.2.2.1
      have v_p2 : ((W.alloc (.cells #[.int .i64 w, .int .i64 h, .slice a n c] 24)).alloc (.cells #[.int .i64 0, .slice none 0 0, .slice none 0 0] 48)).cell? ⟨W.heap.size, 2, none⟩ = some (.slice a n c) := by rw [HWb.out]; exact T5.out.1.2.2.2
      go_wp2_with fail
      rw [HWb.out]
      refine (rawNew_fresh _ _ _ _ rfl).mono ?_; rintro e w8 ⟨b1, b2, rfl, lb1, lb2, hw8, hbw8⟩
      clear v_p0 v_p1 v_p2
      have T6 := T5.up hbw8
      clear T5
      obtain ⟨w9, e9, ⟨r0, r1, r2⟩, hret⟩ := er_at (show W.heap.size ≤ W.heap.size + 1 by omega) (T6.out.2) (T6.out.1.1.1.2) (by omega) (by omega) hw8
      obtain ⟨⟨q0, q1, q2⟩, f0, f1, f2⟩ := p_cells (T6.out.2)
      have HRET := Lib.hid hret
      have HE9 := Lib.hid e9
      have HR9 := Lib.hid (And.intro r0 (And.intro r1 r2))
      clear hw8 hret lb1 lb2 sb0 e9 r0 r1 r2
      go_wp2
      rw [HE9.out]
      have r0 := HR9.out.1
      have r1 := HR9.out.2.1
      have r2 := HR9.out.2.2
      refine bodyPost_ret (v := .agg #[.int .i64 7, .slice (some ⟨b1, 0, none⟩) 1 1, .slice (some ⟨b2, 0, none⟩) 1 1]) (by simp [results, Tryd.results45, go_sem, r0, r1, r2]) rfl ?_
      rw [HD.out]
      exact HRET.out
  have hh1 : 1 ≤ h := by omega
  have hh2 : h ≤ 64 := by omega
  have hh3 : decide (64 < h) = false := decide_eq_false (by omega)
  obtain ⟨Q, hQ⟩ : ∃ Q, w * h = Q := ⟨_, rfl⟩
  have hQ0 : 0 ≤ Q := by rw [← hQ]; exact Int.mul_nonneg (by omega) (by omega)
  have hQ1 : Q ≤ 4096 := by
    rw [← hQ]
    have := Int.mul_le_mul hw2 hh2 (by omega) (by omega : (0 : Int) ≤ 64)
    omega
  by_cases c2 : (n : Int) ≠ Q
  · skip
    have cb : ((n : Int) != Q) = true := by simpa using c2
    have hd : patchD w h l = some ([(opPatch, 2)], 7) := by unfold patchD patchErr; rw [if_neg c0, if_neg c1, if_pos (by rw [hQ, ← hnl]; exact c2)]; rfl
    have HD := Lib.hid hd
    clear hd hnl
    go_enter Tryd.func45, Tryd.ntmps45
    have sb0 : W.heap.size + 1 < Wb.heap.size := heap_ltT (T5.out.2)
    have v_p0 : ((W.alloc (.cells #[.int .i64 w, .int .i64 h, .slice a n c] 24)).alloc (.cells #[.int .i64 0, .slice none 0 0, .slice none 0 0] 48)).cell? ⟨W.heap.size, 0, none⟩ = some (.int .i64 w) := by rw [HWb.out]; exact T5.out.1.2.1
    have v_p1 : ((W.alloc (.cells #[.int .i64 w, .int .i64 h, .slice a n c] 24)).alloc (.cells #[.int .i64 0, .slice none 0 0, .slice none 0 0] 48)).cell? ⟨W.heap.size, 1, none⟩ = some (.int .i64 h) := by rw [HWb.out]; exact T5.out.1.2.2.1
    have v_p2 : ((W.alloc (.cells #[.int .i64 w, .int .i64 h, .slice a n c] 24)).alloc (.cells #[.int .i64 0, .slice none 0 0, .slice none 0 0] 48)).cell? ⟨W.heap.size, 2, none⟩ = some (.slice a n c) := by rw [HWb.out]; exact T5.out.1.2.2.2
    go_wp2_with fail
    rw [HWb.out]
    refine (rawNew_fresh _ _ _ _ rfl).mono ?_; rintro e w8 ⟨b1, b2, rfl, lb1, lb2, hw8, hbw8⟩
    clear v_p0 v_p1 v_p2
    have T6 := T5.up hbw8
    clear T5
    obtain ⟨w9, e9, ⟨r0, r1, r2⟩, hret⟩ := er_at (show W.heap.size ≤ W.heap.size + 1 by omega) (T6.out.2) (T6.out.1.1.1.2) (by omega) (by omega) hw8
    obtain ⟨⟨q0, q1, q2⟩, f0, f1, f2⟩ := p_cells (T6.out.2)
    have HRET := Lib.hid hret
    have HE9 := Lib.hid e9
    have HR9 := Lib.hid (And.intro r0 (And.intro r1 r2))
    clear hw8 hret lb1 lb2 sb0 e9 r0 r1 r2
    go_wp2
    rw [HE9.out]
    have r0 := HR9.out.1
    have r1 := HR9.out.2.1
    have r2 := HR9.out.2.2
    refine bodyPost_ret (v := .agg #[.int .i64 7, .slice (some ⟨b1, 0, none⟩) 1 1, .slice (some ⟨b2, 0, none⟩) 1 1]) (by simp [results, Tryd.results45, go_sem, r0, r1, r2]) rfl ?_
    rw [HD.out]
    exact HRET.out
  have cn : (n : Int) = Q := Decidable.byContradiction c2
  have cb : ((n : Int) != Q) = false := by simpa using cn
  have hD : Hid (patchD w h l = if 0 ≤ idxI cellB l then some ([(opPatch, 3 + idxI cellB l)], 7) else none) := by
    show _ = _
    unfold patchD patchErr
    rw [if_neg c0, if_neg c1, if_neg (by rw [hQ, ← hnl]; exact c2)]
    split <;> rfl
  have HNL := Lib.hid hnl
  have hn4 : n ≤ 4096 := by omega
  have HQ := Lib.hid hQ
  have HCN := Lib.hid cn
  clear c0 c1 c2 cn hnl
  go_enter Tryd.func45, Tryd.ntmps45
  have v_p0 : ((W.alloc (.cells #[.int .i64 w, .int .i64 h, .slice a n c] 24)).alloc (.cells #[.int .i64 0, .slice none 0 0, .slice none 0 0] 48)).cell? ⟨W.heap.size, 0, none⟩ = some (.int .i64 w) := by rw [HWb.out]; exact T5.out.1.2.1
  have v_p1 : ((W.alloc (.cells #[.int .i64 w, .int .i64 h, .slice a n c] 24)).alloc (.cells #[.int .i64 0, .slice none 0 0, .slice none 0 0] 48)).cell? ⟨W.heap.size, 1, none⟩ = some (.int .i64 h) := by rw [HWb.out]; exact T5.out.1.2.2.1
  have v_p2 : ((W.alloc (.cells #[.int .i64 w, .int .i64 h, .slice a n c] 24)).alloc (.cells #[.int .i64 0, .slice none 0 0, .slice none 0 0] 48)).cell? ⟨W.heap.size, 2, none⟩ = some (.slice a n c) := by rw [HWb.out]; exact T5.out.1.2.2.2
  go_wp2_with fail
  rw [HWb.out]
  clear v_p0 v_p1 v_p2
  clear hw3 hh3 cb hQ
  go_loop [3] (fun ix => ∃ i : Nat, i ≤ n ∧ ix = .int .i64 i ∧ ∀ x ∈ l.take i, cellB x = false) (fun ix => n - (intOf ix).toNat)
  case atStart => exact ⟨0, by omega, rfl, fun x hx => by simp at hx⟩
  case round =>
    obtain ⟨i, hi, rfl, hall⟩ := hrel
    have HA := Lib.hid hall
    clear hall
    by_cases hin : i < n
    · skip
      obtain ⟨ab, ao, hab0, hab, hcell⟩ := (T5.out.1.1.2).addr (by omega)
      subst hab0
      have z0 := hcell i hin
      have hnext : Hid (cellB (l.getD i 0) = false → ∀ x ∈ l.take (i + 1), cellB x = false) := by
        intro hc x hx
        rw [List.take_succ_eq_append_getElem (by have := HNL.out; omega), List.mem_append] at hx
        rcases hx with hx | hx
        · exact HA.out x hx
        · rw [List.mem_singleton] at hx
          rw [hx]
          have hil : i < l.length := by have := HNL.out; omega
          simpa [hil] using hc
      have hhit : Hid (cellB (l.getD i 0) = true → idxI cellB l = (i : Int)) := fun hc => findIdx_at (by have := HNL.out; omega) HA.out hc
      generalize l.getD i 0 = u at z0 hnext hhit
      have i0 : (0 : Int) ≤ (i : Int) := by omega
      have i1 : (i : Int) < (n : Int) := by omega
      clear hcell
      by_cases hu : u = 0 ∨ u = 1
      · skip
        have HN := Lib.hid (hnext.out (cellB_false.2 hu))
        clear hnext hhit
        rcases hu with rfl | rfl
        · skip
          have v_p2 : Wb.cell? ⟨W.heap.size, 2, none⟩ = some (.slice (some ⟨ab, ao, none⟩) n c) := T5.out.1.2.2.2
          go_wp2
          go_round
          case rel => exact ⟨i + 1, by omega, by go_num, HN.out⟩
          case measure => simp [intOf]; omega
        · skip
          have v_p2 : Wb.cell? ⟨W.heap.size, 2, none⟩ = some (.slice (some ⟨ab, ao, none⟩) n c) := T5.out.1.2.2.2
          go_wp2
          go_round
          case rel => exact ⟨i + 1, by omega, by go_num, HN.out⟩
          case measure => simp [intOf]; omega
      · skip
        have hi2 := hhit.out (cellB_true.2 (by omega))
        have hd := hD.out
        rw [if_pos (by omega), hi2] at hd
        have HD := Lib.hid hd
        have u0 : ¬ u = 0 := by omega
        have u1 : ¬ u = 1 := by omega
        have hu0 : (u != 0) = true := by simpa using u0
        have hu1 : (u != 1) = true := by simpa using u1
        clear hd hi2 hu hhit hnext u0 u1
        have sb0 : W.heap.size + 1 < Wb.heap.size := heap_ltT (T5.out.2)
        have v_p2 : Wb.cell? ⟨W.heap.size, 2, none⟩ = some (.slice (some ⟨ab, ao, none⟩) n c) := T5.out.1.2.2.2
        go_wp2_with fail
        refine (rawNew_fresh _ _ _ _ rfl).mono ?_; rintro e w8 ⟨b1, b2, rfl, lb1, lb2, hw8, hbw8⟩
        clear v_p2
        have T6 := T5.up hbw8
        clear T5
        obtain ⟨w9, e9, ⟨r0, r1, r2⟩, hret⟩ := er_at (show W.heap.size ≤ W.heap.size + 1 by omega) (T6.out.2) (T6.out.1.1.1.2) (by omega) (by omega) hw8
        obtain ⟨⟨q0, q1, q2⟩, f0, f1, f2⟩ := p_cells (T6.out.2)
        have HRET := Lib.hid hret
        have HE9 := Lib.hid e9
        have HR9 := Lib.hid (And.intro r0 (And.intro r1 r2))
        clear hw8 hret lb1 lb2 sb0 e9 r0 r1 r2
        go_wp2
        rw [HE9.out]
        have r0 := HR9.out.1
        have r1 := HR9.out.2.1
        have r2 := HR9.out.2.2
        refine bodyPost_ret (v := .agg #[.int .i64 7, .slice (some ⟨b1, 0, none⟩) 1 1, .slice (some ⟨b2, 0, none⟩) 1 1]) (by simp [results, Tryd.results45, go_sem, r0, r1, r2]) rfl ?_
        rw [HD.out]
        exact HRET.out
    · skip
      obtain rfl : n = i := by omega
      have hno : idxI cellB l = -1 := findIdx_none fun x hx => HA.out x (by rw [List.take_of_length_le (by have := HNL.out; omega)]; exact hx)
      have hd := hD.out
      rw [if_neg (by omega)] at hd
      have HD := Lib.hid hd
      clear hd hno
      obtain ⟨⟨q0, q1, q2⟩, f0, f1, f2⟩ := p_cells (T5.out.2)
      obtain ⟨w9, e9, ⟨r0, r1, r2⟩, hret⟩ := er_none (show W.heap.size ≤ W.heap.size + 1 by omega) (T5.out.2) (T5.out.1.1.1.2)
      have HRET := Lib.hid hret
      have HE9 := Lib.hid e9
      have HR9 := Lib.hid (And.intro r0 (And.intro r1 r2))
      clear hret e9 r0 r1 r2
      have v_p2 : Wb.cell? ⟨W.heap.size, 2, none⟩ = some (.slice a n c) := T5.out.1.2.2.2
      go_wp2
      rw [HE9.out]
      have r0 := HR9.out.1
      have r1 := HR9.out.2.1
      have r2 := HR9.out.2.2
      refine bodyPost_ret (v := .agg #[.int .i64 0, .slice none 0 0, .slice none 0 0]) (by simp [results, Tryd.results45, go_sem, r0, r1, r2]) rfl ?_
      rw [HD.out]
      exact HRET.out
end Go.Proofs.YtocfkmdoalhjmaaDoor
