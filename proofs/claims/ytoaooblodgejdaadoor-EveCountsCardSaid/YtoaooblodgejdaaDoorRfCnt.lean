/- edenref25.Count of any table and patch. -/
import Derived.Test.YtoaooblodgejdaaDoorRfAsk
import Derived.Test.YtoaooblodgejdaaDoorRjW
import Derived.Test.YtoaooblodgejdaaDoorRef02
import Derived.Test.YtoaooblodgejdaaDoorEvP
import Derived.Deep.RegionHeld3
import Derived.Deep.QuietTactic
import Derived.BigQuiet
namespace Go.Proofs.YtoaooblodgejdaaDoor
open Go.RowKit
set_option linter.unusedVariables false
set_option maxRecDepth 100000

/-- a number and an error as the document has it -/
def CRef (W : World) (v : Nat) (y : ErrD) (e : Ending) (w' : World) : Prop := ∃ a0 n0 c0 N b1 m1 d1 b2 m2 d2, e = .returned (.tuple #[.slice a0 n0 c0, .agg #[.int .i64 N, .slice b1 m1 d1, .slice b2 m2 d2]]) ∧ WC w' (.agg #[.int .i64 N, .slice b1 m1 d1, .slice b2 m2 d2]) y ∧ NR w' a0 n0 (limbs v) ∧ Below W.heap.size W w'
set_option maxHeartbeats 16000000 in
theorem refcount_er (w h : Int) (a aT : Option Addr) (n c nT cT : Nat) (l t : List Int) (W : World) (hR : RK .i64 W a n l) (hm : n ≤ maxLen) (hT : RK .i64 W aT nT t) (hmT : nT ≤ maxLen) (d : List (ByteArray × Int) × Int) (hd : evD t w h l = some d) :
    Calls Tryd.prog 31 #[.slice aT nT cT, patV w h a n c] W (CRef W 0 (some d)) := by
  have T0 := Tk.nil W
  have T1 := T0.add (fun wv => Below W.heap.size W wv) (bnil W)
  clear T0
  have T2 := T1.add (fun wv => RK .i64 wv a n l) (hR)
  clear T1
  obtain ⟨Wb, hWb⟩ : ∃ Wb, (W.alloc (.cells #[.int .i64 w, .int .i64 h, .slice a n c] 24)).alloc (.cells #[.int .i64 0, .slice none 0 0, .slice none 0 0] 60) = Wb := ⟨_, rfl⟩
  have hbWb : Below W.heap.size W Wb := by rw [← hWb]; exact balloc (balloc (bnil W) _) _
  have T3 := T2.up hbWb
  clear T2
  have T4 := T3.add (fun wv => wv.cell? ⟨W.heap.size, 0, none⟩ = some (.int .i64 w) ∧ wv.cell? ⟨W.heap.size, 1, none⟩ = some (.int .i64 h) ∧ wv.cell? ⟨W.heap.size, 2, none⟩ = some (.slice a n c)) (by rw [← hWb]; exact ⟨al000 (cnw (by simp) rfl), al000 (cnw (by simp) rfl), al000 (cnw (by simp) rfl)⟩)
  clear T3
  have HWb := Lib.hid hWb
  clear hWb hbWb
  have hz2 : Wb.heap[W.heap.size + 1]? = some (.cells #[.int .i64 0, .slice none 0 0, .slice none 0 0] 60) := by
    rw [← HWb.out]
    have := heap_alloc_new (W.alloc (.cells #[.int .i64 w, .int .i64 h, .slice a n c] 24)) (.cells #[.int .i64 0, .slice none 0 0, .slice none 0 0] 60)
    simpa using this
  have hsz : W.heap.size + 1 + 1 = Wb.heap.size := by rw [← HWb.out]; simp
  have T5 := T4.add (fun wv => wv.heap[W.heap.size + 1]? = some (.cells #[.int .i64 0, .slice none 0 0, .slice none 0 0] 60)) (hz2)
  clear T4
  have HSZ := Lib.hid hsz
  clear hz2 hsz
  have hTb : RK .i64 Wb aT nT t := hT.up (by rw [← HWb.out]; exact balloc (balloc (bnil W) _) _)
  have T6 := T5.add (fun wv => RK .i64 wv aT nT t) (hTb)
  clear T5
  have HED := Lib.hid hd
  clear hR hT hTb hd
  go_enter Tryd.func31, Tryd.ntmps31
  have v_p0 : ((W.alloc (.cells #[.int .i64 w, .int .i64 h, .slice a n c] 24)).alloc (.cells #[.int .i64 0, .slice none 0 0, .slice none 0 0] 60)).cell? ⟨W.heap.size, 0, none⟩ = some (.int .i64 w) := by rw [HWb.out]; exact T6.out.1.1.2.1
  have v_p1 : ((W.alloc (.cells #[.int .i64 w, .int .i64 h, .slice a n c] 24)).alloc (.cells #[.int .i64 0, .slice none 0 0, .slice none 0 0] 60)).cell? ⟨W.heap.size, 1, none⟩ = some (.int .i64 h) := by rw [HWb.out]; exact T6.out.1.1.2.2.1
  have v_p2 : ((W.alloc (.cells #[.int .i64 w, .int .i64 h, .slice a n c] 24)).alloc (.cells #[.int .i64 0, .slice none 0 0, .slice none 0 0] 60)).cell? ⟨W.heap.size, 2, none⟩ = some (.slice a n c) := by rw [HWb.out]; exact T6.out.1.1.2.2.2
  go_wp2_with fail
  rw [HWb.out]
  refine (refasked_any w h a aT n c nT cT l t Wb T6.out.1.1.1.2 hm T6.out.2 hmT).mono ?_; rintro e w1 ⟨N, b1, m1, d1, b2, m2, d2, rfl, hw, hN, f1, f2, hbw1⟩
  clear v_p0 v_p1 v_p2
  have T7 := T6.up hbw1
  clear T6
  rw [HED.out] at hw hN
  have T8 := T7.add (fun wv => WC wv (.agg #[.int .i64 N, .slice b1 m1 d1, .slice b2 m2 d2]) (some d)) (hw)
  clear T7
  have hl0 : W.heap.size + 1 + 1 ≤ Wb.heap.size := by rw [HSZ.out]; exact Nat.le_refl _
  have HLT : Hid (W.heap.size + 1 < w1.heap.size) := heap_ltT (T8.out.1.1.2)
  have HNS := Lib.hid hN
  have HF := Lib.hid (And.intro (f1.base hl0) (f2.base hl0))
  clear hw f1 f2 hN hl0
  obtain ⟨we, hwe⟩ : ∃ we, w1.alloc (.cells #[.int .i64 N, .slice b1 m1 d1, .slice b2 m2 d2] 60) = we := ⟨_, rfl⟩
  have hbwe : Below w1.heap.size w1 we := by rw [← hwe]; exact balloc (bnil w1) _
  have T9 := T8.up hbwe
  clear T8
  have T10 := T9.add (fun wv => wv.cell? ⟨w1.heap.size, 0, none⟩ = some (.int .i64 N) ∧ wv.cell? ⟨w1.heap.size, 1, none⟩ = some (.slice b1 m1 d1) ∧ wv.cell? ⟨w1.heap.size, 2, none⟩ = some (.slice b2 m2 d2)) (by rw [← hwe]; exact ⟨cnw (by simp) rfl, cnw (by simp) rfl, cnw (by simp) rfl⟩)
  clear T9
  have Hwe := Lib.hid hwe
  clear hwe hbwe
  have v_e0 : (w1.alloc (.cells #[.int .i64 N, .slice b1 m1 d1, .slice b2 m2 d2] 60)).cell? ⟨w1.heap.size, 0, none⟩ = some (.int .i64 N) := by rw [Hwe.out]; exact T10.out.2.1
  have v_e1 : (w1.alloc (.cells #[.int .i64 N, .slice b1 m1 d1, .slice b2 m2 d2] 60)).cell? ⟨w1.heap.size, 1, none⟩ = some (.slice b1 m1 d1) := by rw [Hwe.out]; exact T10.out.2.2.1
  have v_e2 : (w1.alloc (.cells #[.int .i64 N, .slice b1 m1 d1, .slice b2 m2 d2] 60)).cell? ⟨w1.heap.size, 2, none⟩ = some (.slice b2 m2 d2) := by rw [Hwe.out]; exact T10.out.2.2.2
  go_wp2_with fail
  rw [Hwe.out]
  refine (refBadE _ _ _ we true HNS.out).mono ?_; rintro e w2 ⟨rfl, hbw2⟩
  clear v_e0 v_e1 v_e2
  have T11 := T10.up hbw2
  clear T10
  have v_e0 : w2.cell? ⟨w1.heap.size, 0, none⟩ = some (.int .i64 N) := T11.out.2.1
  have v_e1 : w2.cell? ⟨w1.heap.size, 1, none⟩ = some (.slice b1 m1 d1) := T11.out.2.2.1
  have v_e2 : w2.cell? ⟨w1.heap.size, 2, none⟩ = some (.slice b2 m2 d2) := T11.out.2.2.2
  obtain ⟨⟨q3, q4, q5⟩, f3, f4, f5⟩ := p_cells (T11.out.1.1.1.2)
  obtain ⟨w9, e9, ⟨r0, r1, r2⟩, hk9, hs9, hw9, hb9⟩ := er_set (show W.heap.size ≤ W.heap.size + 1 by omega) (T11.out.1.1.1.2) (T11.out.1.1.1.1.1.1.2) (HF.out.1) (HF.out.2) (T11.out.1.2)
  have HRET := Lib.hid (And.intro hw9 hb9)
  clear hk9 hs9 hw9 hb9
  have HE9 := Lib.hid e9
  have HR9 := Lib.hid (And.intro r0 (And.intro r1 r2))
  clear e9 r0 r1 r2
  have ne1 : ¬ w1.heap.size = W.heap.size + 1 := by have := HLT.out; omega
  have ne2 : ¬ W.heap.size + 1 = w1.heap.size := by have := HLT.out; omega
  go_wp2_with fail
  go_region
  all_goals
    go_wp2
    rw [HE9.out]
    have r0 := HR9.out.1
    have r1 := HR9.out.2.1
    have r2 := HR9.out.2.2
    refine bodyPost_ret (v := .tuple #[.slice none 0 0, .agg #[.int .i64 N, .slice b1 m1 d1, .slice b2 m2 d2]]) (by simp [results, Tryd.results31, go_sem, r0, r1, r2]) rfl ?_
    exact ⟨_, _, _, _, _, _, _, _, _, _, rfl, HRET.out.1.up (Below.drew (bnil _)), by rw [limbs_zero]; exact ⟨RK.nil, nofun⟩, Below.drew HRET.out.2⟩
set_option maxHeartbeats 16000000 in
theorem refcount_ok (w h : Nat) (a aT : Option Addr) (n c cT : Nat) (l t : List Int) (W : World) (hR : RK .i64 W a n l) (hm : n ≤ maxLen) (hT : RK .i64 W aT 512 t) (ht : IsTab t) (hp : IsPatch w h l) (hw8 : w ≤ 8) (hh4 : h ≤ 4) :
    Calls Tryd.prog 31 #[.slice aT 512 cT, patV w h a n c] W (CRef W (cntN t (colL w h l) h (4 * 2 ^ h) w) none) := by
  have hmT : 512 ≤ maxLen := by unfold maxLen; omega
  have hd : evD t (w : Int) (h : Int) l = none := evD_ok (tabD_of ht) (patchErr_of hp) (by omega) (by omega)
  have hwc := (ways_cnt t (colL w h l) h (4 * 2 ^ h) w).1
  have hlt := cntN_lt (t := t) (cols := colL w h l) (h := h) (m_le hh4).1 hw8
  rw [Nat.mod_eq_of_lt hlt] at hwc
  have c_w := fun W hR hT => ways24_any w h a aT n c cT l t W hR hm hT hp hw8 hh4
  simp only [hwc] at c_w
  obtain ⟨CN, hCN⟩ : ∃ CN, cntN t (colL w h l) h (4 * 2 ^ h) w = CN := ⟨_, rfl⟩
  rw [hCN] at hlt ⊢
  simp only [hCN] at c_w
  have HCW := Lib.hid c_w
  have hlt : CN < 18446744073709551616 := hlt
  have HPP := Lib.hid hp
  clear hwc c_w hCN hp ht
  have T0 := Tk.nil W
  have T1 := T0.add (fun wv => Below W.heap.size W wv) (bnil W)
  clear T0
  have T2 := T1.add (fun wv => RK .i64 wv a n l) (hR)
  clear T1
  obtain ⟨Wb, hWb⟩ : ∃ Wb, (W.alloc (.cells #[.int .i64 w, .int .i64 h, .slice a n c] 24)).alloc (.cells #[.int .i64 0, .slice none 0 0, .slice none 0 0] 60) = Wb := ⟨_, rfl⟩
  have hbWb : Below W.heap.size W Wb := by rw [← hWb]; exact balloc (balloc (bnil W) _) _
  have T3 := T2.up hbWb
  clear T2
  have T4 := T3.add (fun wv => wv.cell? ⟨W.heap.size, 0, none⟩ = some (.int .i64 w) ∧ wv.cell? ⟨W.heap.size, 1, none⟩ = some (.int .i64 h) ∧ wv.cell? ⟨W.heap.size, 2, none⟩ = some (.slice a n c)) (by rw [← hWb]; exact ⟨al000 (cnw (by simp) rfl), al000 (cnw (by simp) rfl), al000 (cnw (by simp) rfl)⟩)
  clear T3
  have HWb := Lib.hid hWb
  clear hWb hbWb
  have hz2 : Wb.heap[W.heap.size + 1]? = some (.cells #[.int .i64 0, .slice none 0 0, .slice none 0 0] 60) := by
    rw [← HWb.out]
    have := heap_alloc_new (W.alloc (.cells #[.int .i64 w, .int .i64 h, .slice a n c] 24)) (.cells #[.int .i64 0, .slice none 0 0, .slice none 0 0] 60)
    simpa using this
  have hsz : W.heap.size + 1 + 1 = Wb.heap.size := by rw [← HWb.out]; simp
  have T5 := T4.add (fun wv => wv.heap[W.heap.size + 1]? = some (.cells #[.int .i64 0, .slice none 0 0, .slice none 0 0] 60)) (hz2)
  clear T4
  have HSZ := Lib.hid hsz
  clear hz2 hsz
  have hTb : RK .i64 Wb aT 512 t := hT.up (by rw [← HWb.out]; exact balloc (balloc (bnil W) _) _)
  have T6 := T5.add (fun wv => RK .i64 wv aT 512 t) (hTb)
  clear T5
  have HED := Lib.hid hd
  clear hR hT hTb hd
  go_enter Tryd.func31, Tryd.ntmps31
  have v_p0 : ((W.alloc (.cells #[.int .i64 w, .int .i64 h, .slice a n c] 24)).alloc (.cells #[.int .i64 0, .slice none 0 0, .slice none 0 0] 60)).cell? ⟨W.heap.size, 0, none⟩ = some (.int .i64 w) := by rw [HWb.out]; exact T6.out.1.1.2.1
  have v_p1 : ((W.alloc (.cells #[.int .i64 w, .int .i64 h, .slice a n c] 24)).alloc (.cells #[.int .i64 0, .slice none 0 0, .slice none 0 0] 60)).cell? ⟨W.heap.size, 1, none⟩ = some (.int .i64 h) := by rw [HWb.out]; exact T6.out.1.1.2.2.1
  have v_p2 : ((W.alloc (.cells #[.int .i64 w, .int .i64 h, .slice a n c] 24)).alloc (.cells #[.int .i64 0, .slice none 0 0, .slice none 0 0] 60)).cell? ⟨W.heap.size, 2, none⟩ = some (.slice a n c) := by rw [HWb.out]; exact T6.out.1.1.2.2.2
  go_wp2_with fail
  rw [HWb.out]
  refine (refasked_any w h a aT n c 512 cT l t Wb T6.out.1.1.1.2 hm T6.out.2 hmT).mono ?_; rintro e w1 ⟨N, b1, m1, d1, b2, m2, d2, rfl, hw, hN, f1, f2, hbw1⟩
  clear v_p0 v_p1 v_p2
  have T7 := T6.up hbw1
  clear T6
  rw [HED.out] at hw hN
  have T8 := T7.add (fun wv => WC wv (.agg #[.int .i64 N, .slice b1 m1 d1, .slice b2 m2 d2]) none) (hw)
  clear T7
  have hl0 : W.heap.size + 1 + 1 ≤ Wb.heap.size := by rw [HSZ.out]; exact Nat.le_refl _
  have HLT : Hid (W.heap.size + 1 < w1.heap.size) := heap_ltT (T8.out.1.1.2)
  have HNS := Lib.hid hN
  have HF := Lib.hid (And.intro (f1.base hl0) (f2.base hl0))
  clear hw f1 f2 hN hl0
  obtain ⟨we, hwe⟩ : ∃ we, w1.alloc (.cells #[.int .i64 N, .slice b1 m1 d1, .slice b2 m2 d2] 60) = we := ⟨_, rfl⟩
  have hbwe : Below w1.heap.size w1 we := by rw [← hwe]; exact balloc (bnil w1) _
  have T9 := T8.up hbwe
  clear T8
  have T10 := T9.add (fun wv => wv.cell? ⟨w1.heap.size, 0, none⟩ = some (.int .i64 N) ∧ wv.cell? ⟨w1.heap.size, 1, none⟩ = some (.slice b1 m1 d1) ∧ wv.cell? ⟨w1.heap.size, 2, none⟩ = some (.slice b2 m2 d2)) (by rw [← hwe]; exact ⟨cnw (by simp) rfl, cnw (by simp) rfl, cnw (by simp) rfl⟩)
  clear T9
  have Hwe := Lib.hid hwe
  clear hwe hbwe
  have v_e0 : (w1.alloc (.cells #[.int .i64 N, .slice b1 m1 d1, .slice b2 m2 d2] 60)).cell? ⟨w1.heap.size, 0, none⟩ = some (.int .i64 N) := by rw [Hwe.out]; exact T10.out.2.1
  have v_e1 : (w1.alloc (.cells #[.int .i64 N, .slice b1 m1 d1, .slice b2 m2 d2] 60)).cell? ⟨w1.heap.size, 1, none⟩ = some (.slice b1 m1 d1) := by rw [Hwe.out]; exact T10.out.2.2.1
  have v_e2 : (w1.alloc (.cells #[.int .i64 N, .slice b1 m1 d1, .slice b2 m2 d2] 60)).cell? ⟨w1.heap.size, 2, none⟩ = some (.slice b2 m2 d2) := by rw [Hwe.out]; exact T10.out.2.2.2
  go_wp2_with fail
  rw [Hwe.out]
  refine (refBadE _ _ _ we false HNS.out).mono ?_; rintro e w2 ⟨rfl, hbw2⟩
  clear v_e0 v_e1 v_e2
  have T11 := T10.up hbw2
  clear T10
  have v_p0 : w2.cell? ⟨W.heap.size, 0, none⟩ = some (.int .i64 w) := T11.out.1.1.1.1.2.1
  have v_p1 : w2.cell? ⟨W.heap.size, 1, none⟩ = some (.int .i64 h) := T11.out.1.1.1.1.2.2.1
  have v_p2 : w2.cell? ⟨W.heap.size, 2, none⟩ = some (.slice a n c) := T11.out.1.1.1.1.2.2.2
  go_wp2_with fail
  refine (HCW.out w2 T11.out.1.1.1.1.1.2 T11.out.1.1.2).mono ?_; rintro e w3 ⟨rfl, hbw3⟩
  clear v_p0 v_p1 v_p2
  have T12 := T11.up hbw3
  clear T11
  have hl3 : W.heap.size + 1 < w3.heap.size := heap_ltT (T12.out.1.1.1.2)
  go_wp2_with fail
  refine (ref02from CN w3 hlt).mono ?_; rintro e w4 ⟨a0, n0, c0, rfl, ho, hbw4⟩
  have T13 := T12.up hbw4
  clear T12
  have ho2 := owns_rd ho
  have hnr : NR w4 a0 n0 (limbs CN) := ⟨⟨by have := ho.1; simpa [ofN] using this.symm, ho2.2⟩, limbs_u32 CN⟩
  have HNR := Lib.hid hnr
  clear hnr ho2
  obtain ⟨⟨q3, q4, q5⟩, f3, f4, f5⟩ := p_cells (T13.out.1.1.1.2)
  obtain ⟨w9, e9, ⟨r0, r1, r2⟩, hk9, hs9, hw9, hb9⟩ := er_set (show W.heap.size ≤ W.heap.size + 1 by omega) (T13.out.1.1.1.2) (T13.out.1.1.1.1.1.1.2) fr_none fr_none (wc_none w4)
  have hn9 : NR w9 a0 n0 (limbs CN) := by
    have ho9 := own_of_heap' (w' := w9) ho (fun b hb => hk9 b (by have := (ho.lt b hb).1; omega))
    exact ⟨⟨HNR.out.1.len, (owns_rd ho9).2⟩, limbs_u32 CN⟩
  have HRET := Lib.hid (And.intro hw9 (And.intro hn9 hb9))
  clear hk9 hs9 hw9 hb9 hn9 ho HNR
  have HE9 := Lib.hid e9
  have HR9 := Lib.hid (And.intro r0 (And.intro r1 r2))
  clear e9 r0 r1 r2
  go_wp2
  rw [HE9.out]
  have r0 := HR9.out.1
  have r1 := HR9.out.2.1
  have r2 := HR9.out.2.2
  refine bodyPost_ret (v := .tuple #[.slice a0 n0 c0, .agg #[.int .i64 0, .slice none 0 0, .slice none 0 0]]) (by simp [results, Tryd.results31, go_sem, r0, r1, r2]) rfl ?_
  exact ⟨_, _, _, _, _, _, _, _, _, _, rfl, HRET.out.1, HRET.out.2.1, HRET.out.2.2⟩
end Go.Proofs.YtoaooblodgejdaaDoor
