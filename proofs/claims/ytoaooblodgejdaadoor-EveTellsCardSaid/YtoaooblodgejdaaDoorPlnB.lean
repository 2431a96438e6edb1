/- edenref22.Step for any table and patch. -/
import Derived.Test.YtoaooblodgejdaaDoorPlnA
import Derived.Test.YtoaooblodgejdaaDoorPlaI
import Derived.Test.YtoaooblodgejdaaDoorPatX
import Derived.Test.YtoaooblodgejdaaDoorErrH
import Derived.Test.YtoaooblodgejdaaDoorPlaX
namespace Go.Proofs.YtoaooblodgejdaaDoor
open Go.RowKit
set_option linter.unusedVariables false
set_option maxRecDepth 100000

theorem stepD_tab {t : List Int} {w h : Int} {l : List Int} {x : List (ByteArray × Int) × Int} (ht : tabD t = some x) : stepD t w h l = some x := by unfold stepD; rw [ht]
theorem stepD_pat {t : List Int} {w h : Int} {l : List Int} {y : Int × Int} (ht : tabD t = none) (hp : patchErr w h l = some y) : stepD t w h l = some ([(opPlane, 1), (opPatch, y.1)], y.2) := by
  unfold stepD patchD
  rw [ht, hp]
  rfl
theorem stepD_arg {t : List Int} {w h : Int} {l : List Int} (ht : tabD t = none) (hp : patchErr w h l = none) (hc : w < 3 ∨ h < 3) : stepD t w h l = some ([(opPlane, 1)], 3) := by
  unfold stepD patchD
  rw [ht, hp]
  exact if_pos hc
theorem stepD_fin {t : List Int} {w h : Int} {l : List Int} (ht : tabD t = none) (hp : patchErr w h l = none) (hc : ¬ (w < 3 ∨ h < 3)) : stepD t w h l = none := by
  unfold stepD patchD
  rw [ht, hp]
  exact if_neg hc
set_option maxHeartbeats 16000000 in
theorem refstep22_any (w h : Int) (a aT : Option Addr) (n c nT cT : Nat) (l t : List Int) (W : World) (hR : SlI W a n c l) (hT : RK .i64 W aT nT t) (hmT : nT ≤ maxLen) :
    Calls Tryd.prog 42 #[.slice aT nT cT, patV w h a n c] W (PatRef W (stepO t w h l) (stepD t w h l)) := by
  have hm : n ≤ maxLen := hR.nm
  have T0 := Tk.nil W
  have T1 := T0.add (fun wv => Below W.heap.size W wv) (bnil W)
  clear T0
  have T2 := T1.add (fun wv => SlI wv a n c l) (hR)
  clear T1
  obtain ⟨Wb, hWb⟩ : ∃ Wb, ((W.alloc (.cells #[.int .i64 w, .int .i64 h, .slice a n c] 24)).alloc (.cells #[.int .i64 0, .int .i64 0, .slice none 0 0] 24)).alloc (.cells #[.int .i64 0, .slice none 0 0, .slice none 0 0] 60) = Wb := ⟨_, rfl⟩
  have hbWb : Below W.heap.size W Wb := by rw [← hWb]; exact balloc (balloc (balloc (bnil W) _) _) _
  have T3 := T2.up hbWb
  clear T2
  have T4 := T3.add (fun wv => wv.cell? ⟨W.heap.size, 0, none⟩ = some (.int .i64 w) ∧ wv.cell? ⟨W.heap.size, 1, none⟩ = some (.int .i64 h) ∧ wv.cell? ⟨W.heap.size, 2, none⟩ = some (.slice a n c)) (by rw [← hWb]; exact ⟨al000 (al000 (cnw (by simp) rfl)), al000 (al000 (cnw (by simp) rfl)), al000 (al000 (cnw (by simp) rfl))⟩)
  clear T3
  have HWb := Lib.hid hWb
  clear hWb hbWb
  have hz1 : Wb.heap[W.heap.size + 1]? = some (.cells #[.int .i64 0, .int .i64 0, .slice none 0 0] 24) := by
    rw [← HWb.out, (balloc (bnil _) (.cells #[.int .i64 0, .slice none 0 0, .slice none 0 0] 60)).block _ (by simp)]
    have := heap_alloc_new (W.alloc (.cells #[.int .i64 w, .int .i64 h, .slice a n c] 24)) (.cells #[.int .i64 0, .int .i64 0, .slice none 0 0] 24)
    simpa using this
  have hz2 : Wb.heap[W.heap.size + 1 + 1]? = some (.cells #[.int .i64 0, .slice none 0 0, .slice none 0 0] 60) := by
    rw [← HWb.out]
    have := heap_alloc_new ((W.alloc (.cells #[.int .i64 w, .int .i64 h, .slice a n c] 24)).alloc (.cells #[.int .i64 0, .int .i64 0, .slice none 0 0] 24)) (.cells #[.int .i64 0, .slice none 0 0, .slice none 0 0] 60)
    simpa using this
  have hsz : W.heap.size + 1 + 1 + 1 = Wb.heap.size := by rw [← HWb.out]; simp
  have T5 := T4.add (fun wv => wv.heap[W.heap.size + 1]? = some (.cells #[.int .i64 0, .int .i64 0, .slice none 0 0] 24)) (hz1)
  clear T4
  have T6 := T5.add (fun wv => wv.heap[W.heap.size + 1 + 1]? = some (.cells #[.int .i64 0, .slice none 0 0, .slice none 0 0] 60)) (hz2)
  clear T5
  have HSZ := Lib.hid hsz
  clear hz1 hz2 hsz
  have hTb : RK .i64 Wb aT nT t := hT.up (by rw [← HWb.out]; exact balloc (balloc (balloc (bnil W) _) _) _)
  have T7 := T6.add (fun wv => RK .i64 wv aT nT t) (hTb)
  clear T6
  clear hR hT hTb
  cases ht : tabD t with
  | some x =>
    have hsd := stepD_tab (w := w) (h := h) (l := l) ht
    have HOD := Lib.hid (And.intro (stepO_er hsd) hsd)
    have HT := Lib.hid ht
    clear hsd ht
    go_enter Tryd.func42, Tryd.ntmps42
    go_wp2_with fail
    rw [HWb.out]
    refine (refplcheck_any aT nT cT t Wb T7.out.2 hmT).mono ?_; rintro e w1 ⟨N, a1, n1, c1, a2, n2, c2, rfl, hw, f1, f2, hN, _, hbw1⟩
    have T8 := T7.up hbw1
    clear T7
    rw [HT.out] at hw hN
    have T9 := T8.add (fun wv => WC wv (.agg #[.int .i64 N, .slice a1 n1 c1, .slice a2 n2 c2]) (some x)) (hw)
    clear T8
    have HNS := Lib.hid hN
    have HF := Lib.hid (And.intro f1 f2)
    clear hw f1 f2 hN
    obtain ⟨we, hwe⟩ : ∃ we, w1.alloc (.cells #[.int .i64 N, .slice a1 n1 c1, .slice a2 n2 c2] 60) = we := ⟨_, rfl⟩
    have hbwe : Below w1.heap.size w1 we := by rw [← hwe]; exact balloc (bnil w1) _
    have T10 := T9.up hbwe
    clear T9
    have T11 := T10.add (fun wv => wv.cell? ⟨w1.heap.size, 0, none⟩ = some (.int .i64 N) ∧ wv.cell? ⟨w1.heap.size, 1, none⟩ = some (.slice a1 n1 c1) ∧ wv.cell? ⟨w1.heap.size, 2, none⟩ = some (.slice a2 n2 c2)) (by rw [← hwe]; exact ⟨cnw (by simp) rfl, cnw (by simp) rfl, cnw (by simp) rfl⟩)
    clear T10
    have Hwe := Lib.hid hwe
    clear hwe hbwe
    have v_e0 : (w1.alloc (.cells #[.int .i64 N, .slice a1 n1 c1, .slice a2 n2 c2] 60)).cell? ⟨w1.heap.size, 0, none⟩ = some (.int .i64 N) := by rw [Hwe.out]; exact T11.out.2.1
    have v_e1 : (w1.alloc (.cells #[.int .i64 N, .slice a1 n1 c1, .slice a2 n2 c2] 60)).cell? ⟨w1.heap.size, 1, none⟩ = some (.slice a1 n1 c1) := by rw [Hwe.out]; exact T11.out.2.2.1
    have v_e2 : (w1.alloc (.cells #[.int .i64 N, .slice a1 n1 c1, .slice a2 n2 c2] 60)).cell? ⟨w1.heap.size, 2, none⟩ = some (.slice a2 n2 c2) := by rw [Hwe.out]; exact T11.out.2.2.2
    go_wp2_with fail
    rw [Hwe.out]
    refine (refBadE _ _ _ we true HNS.out).mono ?_; rintro e w2 ⟨rfl, hbw2⟩
    clear v_e0 v_e1 v_e2
    have T12 := T11.up hbw2
    clear T11
    have v_e0 : w2.cell? ⟨w1.heap.size, 0, none⟩ = some (.int .i64 N) := T12.out.2.1
    have v_e1 : w2.cell? ⟨w1.heap.size, 1, none⟩ = some (.slice a1 n1 c1) := T12.out.2.2.1
    have v_e2 : w2.cell? ⟨w1.heap.size, 2, none⟩ = some (.slice a2 n2 c2) := T12.out.2.2.2
    go_wp2_with fail
    refine (refBadE _ _ _ w2 true HNS.out).mono ?_; rintro e w3 ⟨rfl, hbw3⟩
    clear v_e0 v_e1 v_e2
    have T13 := T12.up hbw3
    clear T12
    have v_e0 : w3.cell? ⟨w1.heap.size, 0, none⟩ = some (.int .i64 N) := T13.out.2.1
    have v_e1 : w3.cell? ⟨w1.heap.size, 1, none⟩ = some (.slice a1 n1 c1) := T13.out.2.2.1
    have v_e2 : w3.cell? ⟨w1.heap.size, 2, none⟩ = some (.slice a2 n2 c2) := T13.out.2.2.2
    obtain ⟨⟨q0, q1, q2⟩, f0, f1, f2⟩ := p_cells (T13.out.1.1.1.1.2)
    obtain ⟨⟨q3, q4, q5⟩, f3, f4, f5⟩ := p_cells (T13.out.1.1.1.2)
    obtain ⟨w9, e9, e9b, ⟨⟨r0, r1, r2⟩, r3, r4, r5⟩, hret⟩ := pr_err (show W.heap.size + 1 ≠ W.heap.size + 1 + 1 by omega) (T13.out.1.1.1.1.2) (T13.out.1.1.1.2) (show W.heap.size ≤ W.heap.size + 1 by omega) (show W.heap.size ≤ W.heap.size + 1 + 1 by omega) (T13.out.1.1.1.1.1.1.1.2) (B := Wb.heap.size) (by rw [← HSZ.out]; omega) (by rw [← HSZ.out]; omega) HF.out.1 HF.out.2 (T13.out.1.2) HNS.out
    have HRET := Lib.hid hret
    have HE9 := Lib.hid (And.intro e9 e9b)
    have HR9 := Lib.hid (And.intro r0 (And.intro r1 (And.intro r2 (And.intro r3 (And.intro r4 r5)))))
    clear hret e9 e9b r0 r1 r2 r3 r4 r5
    have sz1 := hbw1.size
    have sz0 := HSZ.out
    have ne1 : ¬ w1.heap.size = W.heap.size + 1 := by omega
    have ne2 : ¬ W.heap.size + 1 = w1.heap.size := by omega
    have ne3 : ¬ w1.heap.size = W.heap.size + 1 + 1 := by omega
    have ne4 : ¬ W.heap.size + 1 + 1 = w1.heap.size := by omega
    clear sz0 sz1
    go_wp2_with fail
    go_region
    all_goals
      go_wp2
      first | rw [HE9.out.1] | rw [HE9.out.2]
      have r0 := HR9.out.1
      have r1 := HR9.out.2.1
      have r2 := HR9.out.2.2.1
      have r3 := HR9.out.2.2.2.1
      have r4 := HR9.out.2.2.2.2.1
      have r5 := HR9.out.2.2.2.2.2
      refine bodyPost_ret (v := .tuple #[patV 0 0 none 0 0, .agg #[.int .i64 N, .slice a1 n1 c1, .slice a2 n2 c2]]) (by simp [results, Tryd.results42, go_sem, r0, r1, r2, r3, r4, r5]) rfl ?_
      rw [HOD.out.1, HOD.out.2]
      exact HRET.out.drew
  | none =>
    have HT := Lib.hid ht
    cases hpe : patchErr w h l with
    | some y =>
      have hsd := stepD_pat ht hpe
      have HOD := Lib.hid (And.intro (stepO_er hsd) hsd)
      have hq : patchD w h l = some ([(opPatch, y.1)], y.2) := by unfold patchD; rw [hpe]; rfl
      have HQ := Lib.hid hq
      clear hsd hq ht hpe
      go_enter Tryd.func42, Tryd.ntmps42
      go_wp2_with fail
      rw [HWb.out]
      refine (refplcheck_ok aT nT cT t Wb T7.out.2 hmT HT.out).mono ?_; rintro e w1 ⟨rfl, hbw1⟩
      have T8 := T7.up hbw1
      clear T7
      have TK1 := T8
      have T9 := T8.add (fun wv => Below w1.heap.size w1 wv) (bnil w1)
      clear T8
      obtain ⟨we, hwe⟩ : ∃ we, w1.alloc (.cells #[.int .i64 0, .slice none 0 0, .slice none 0 0] 60) = we := ⟨_, rfl⟩
      have hbwe : Below w1.heap.size w1 we := by rw [← hwe]; exact balloc (bnil w1) _
      have T10 := T9.up hbwe
      clear T9
      have T11 := T10.add (fun wv => wv.cell? ⟨w1.heap.size, 0, none⟩ = some (.int .i64 0) ∧ wv.cell? ⟨w1.heap.size, 1, none⟩ = some (.slice none 0 0) ∧ wv.cell? ⟨w1.heap.size, 2, none⟩ = some (.slice none 0 0)) (by rw [← hwe]; exact ⟨cnw (by simp) rfl, cnw (by simp) rfl, cnw (by simp) rfl⟩)
      clear T10
      have Hwe := Lib.hid hwe
      clear hwe hbwe
      have hze : we.heap[w1.heap.size]? = some (.cells #[.int .i64 0, .slice none 0 0, .slice none 0 0] 60) := by rw [← Hwe.out]; exact heap_alloc_new w1 _
      have T12 := T11.add (fun wv => wv.heap[w1.heap.size]? = some (.cells #[.int .i64 0, .slice none 0 0, .slice none 0 0] 60)) (hze)
      clear T11
      clear hze
      have v_e0 : (w1.alloc (.cells #[.int .i64 0, .slice none 0 0, .slice none 0 0] 60)).cell? ⟨w1.heap.size, 0, none⟩ = some (.int .i64 0) := by rw [Hwe.out]; exact T12.out.1.2.1
      have v_e1 : (w1.alloc (.cells #[.int .i64 0, .slice none 0 0, .slice none 0 0] 60)).cell? ⟨w1.heap.size, 1, none⟩ = some (.slice none 0 0) := by rw [Hwe.out]; exact T12.out.1.2.2.1
      have v_e2 : (w1.alloc (.cells #[.int .i64 0, .slice none 0 0, .slice none 0 0] 60)).cell? ⟨w1.heap.size, 2, none⟩ = some (.slice none 0 0) := by rw [Hwe.out]; exact T12.out.1.2.2.2
      go_wp2_with fail
      rw [Hwe.out]
      refine (refBadE _ _ _ we false rfl).mono ?_; rintro e w2 ⟨rfl, hbw2⟩
      clear v_e0 v_e1 v_e2
      have T13 := T12.up hbw2
      clear T12
      have v_p0 : w2.cell? ⟨W.heap.size, 0, none⟩ = some (.int .i64 w) := T13.out.1.1.1.1.1.1.2.1
      have v_p1 : w2.cell? ⟨W.heap.size, 1, none⟩ = some (.int .i64 h) := T13.out.1.1.1.1.1.1.2.2.1
      have v_p2 : w2.cell? ⟨W.heap.size, 2, none⟩ = some (.slice a n c) := T13.out.1.1.1.1.1.1.2.2.2
      go_wp2_with fail
      refine (refpcheck_any w h a n c l w2 (T13.out.1.1.1.1.1.1.1.2).rk hm).mono ?_; rintro e w3 ⟨N0, a1, n1, c1, a2, n2, c2, rfl, hw, _, _, _, _, hbw3⟩
      clear v_p0 v_p1 v_p2
      have T14 := T13.up hbw3
      clear T13
      rw [HQ.out] at hw
      obtain rfl := wc_numP hw
      have HW3 := Lib.hid hw
      clear hw
      go_wp2_with fail
      refine (refUnder_some _ _ _ _ a1 a2 n1 c1 n2 c2 w3 HW3.out (by simp) (by simp)).mono ?_; rintro e w4 ⟨N, b1, m1, d1, b2, m2, d2, rfl, hw, f1, f2, hN, _, hbw4⟩
      have T15 := T14.up hbw4
      clear T14
      obtain ⟨⟨q0, q1, q2⟩, dd0, dd1, dd2⟩ := p_cells (T15.out.2)
      obtain ⟨w5, e5, ⟨r0, r1, r2⟩, hk5, hs5, hb5⟩ := set3p (T15.out.2) (.int .i64 N) (.slice b1 m1 d1) (.slice b2 m2 d2)
      have hb15 : Below w1.heap.size w1 w5 := hb5 w1 w1.heap.size (Nat.le_refl _) (T15.out.1.1.2)
      have HE5 := Lib.hid e5
      have sz4 := hbw1.size
      have sz5 := Hwe.out
      have hl3 : w1.heap.size + 1 ≤ w3.heap.size := by
        have h1 : we.heap.size = w1.heap.size + 1 := by rw [← Hwe.out]; simp
        have h2 := hbw2.size
        have h3 := hbw3.size
        omega
      have hw5 := hw.other hk5 hs5 (f1.base hl3) (f2.base hl3)
      have HF : Hid (Fr Wb.heap.size b1 ∧ Fr Wb.heap.size b2) := ⟨f1.base (by omega), f2.base (by omega)⟩
      have HNS := Lib.hid hN
      clear sz4 sz5 hl3 hw f1 f2 hN hk5 hs5 hb5 e5
      have T900 := TK1.up hb15
      clear T15 TK1
      have T901 := T900.add (fun wv => wv.cell? ⟨w1.heap.size, 0, none⟩ = some (.int .i64 N) ∧ wv.cell? ⟨w1.heap.size, 1, none⟩ = some (.slice b1 m1 d1) ∧ wv.cell? ⟨w1.heap.size, 2, none⟩ = some (.slice b2 m2 d2)) (⟨r0, r1, r2⟩)
      clear T900
      have T902 := T901.add (fun wv => WC wv (.agg #[.int .i64 N, .slice b1 m1 d1, .slice b2 m2 d2]) (some ([(opPlane, 1), (opPatch, y.1)], y.2))) (hw5)
      clear T901
      clear r0 r1 r2 hw5 hb15
      go_wp2_with fail
      rw [HE5.out]
      clear q0 q1 q2 dd0 dd1 dd2
      have v_e0 : w5.cell? ⟨w1.heap.size, 0, none⟩ = some (.int .i64 N) := T902.out.1.2.1
      have v_e1 : w5.cell? ⟨w1.heap.size, 1, none⟩ = some (.slice b1 m1 d1) := T902.out.1.2.2.1
      have v_e2 : w5.cell? ⟨w1.heap.size, 2, none⟩ = some (.slice b2 m2 d2) := T902.out.1.2.2.2
      go_wp2_with fail
      refine (refBadE _ _ _ w5 true HNS.out).mono ?_; rintro e w6 ⟨rfl, hbw6⟩
      clear v_e0 v_e1 v_e2
      have T903 := T902.up hbw6
      clear T902
      have v_e0 : w6.cell? ⟨w1.heap.size, 0, none⟩ = some (.int .i64 N) := T903.out.1.2.1
      have v_e1 : w6.cell? ⟨w1.heap.size, 1, none⟩ = some (.slice b1 m1 d1) := T903.out.1.2.2.1
      have v_e2 : w6.cell? ⟨w1.heap.size, 2, none⟩ = some (.slice b2 m2 d2) := T903.out.1.2.2.2
      obtain ⟨⟨q0, q1, q2⟩, f0, f1, f2⟩ := p_cells (T903.out.1.1.1.1.2)
      obtain ⟨⟨q3, q4, q5⟩, f3, f4, f5⟩ := p_cells (T903.out.1.1.1.2)
      obtain ⟨w9, e9, e9b, ⟨⟨r0, r1, r2⟩, r3, r4, r5⟩, hret⟩ := pr_err (show W.heap.size + 1 ≠ W.heap.size + 1 + 1 by omega) (T903.out.1.1.1.1.2) (T903.out.1.1.1.2) (show W.heap.size ≤ W.heap.size + 1 by omega) (show W.heap.size ≤ W.heap.size + 1 + 1 by omega) (T903.out.1.1.1.1.1.1.1.2) (B := Wb.heap.size) (by rw [← HSZ.out]; omega) (by rw [← HSZ.out]; omega) HF.out.1 HF.out.2 (T903.out.2) HNS.out
      have HRET := Lib.hid hret
      have HE9 := Lib.hid (And.intro e9 e9b)
      have HR9 := Lib.hid (And.intro r0 (And.intro r1 (And.intro r2 (And.intro r3 (And.intro r4 r5)))))
      clear hret e9 e9b r0 r1 r2 r3 r4 r5
      have sz1 := hbw1.size
      have sz0 := HSZ.out
      have ne1 : ¬ w1.heap.size = W.heap.size + 1 := by omega
      have ne2 : ¬ W.heap.size + 1 = w1.heap.size := by omega
      have ne3 : ¬ w1.heap.size = W.heap.size + 1 + 1 := by omega
      have ne4 : ¬ W.heap.size + 1 + 1 = w1.heap.size := by omega
      clear sz0 sz1
      go_wp2_with fail
      go_region
      all_goals
        go_wp2
        first | rw [HE9.out.1] | rw [HE9.out.2]
        have r0 := HR9.out.1
        have r1 := HR9.out.2.1
        have r2 := HR9.out.2.2.1
        have r3 := HR9.out.2.2.2.1
        have r4 := HR9.out.2.2.2.2.1
        have r5 := HR9.out.2.2.2.2.2
        refine bodyPost_ret (v := .tuple #[patV 0 0 none 0 0, .agg #[.int .i64 N, .slice b1 m1 d1, .slice b2 m2 d2]]) (by simp [results, Tryd.results42, go_sem, r0, r1, r2, r3, r4, r5]) rfl ?_
        rw [HOD.out.1, HOD.out.2]
        exact HRET.out.drew
    | none =>
      obtain ⟨w, h, rfl, rfl, hp⟩ := patchErr_none hpe
      have HPP := Lib.hid hp
      by_cases hc : (w : Int) < 3 ∨ (h : Int) < 3
      · skip
        have hsd := stepD_arg ht hpe hc
        have HOD := Lib.hid (And.intro (stepO_er hsd) hsd)
        by_cases hc1 : w < 3
        · skip
          have hcI : (w : Int) < 3 := by omega
          clear hsd ht hpe hp hc hc1
          go_enter Tryd.func42, Tryd.ntmps42
          go_wp2_with fail
          rw [HWb.out]
          refine (refplcheck_ok aT nT cT t Wb T7.out.2 hmT HT.out).mono ?_; rintro e w1 ⟨rfl, hbw1⟩
          have T8 := T7.up hbw1
          clear T7
          have TK1 := T8
          have T9 := T8.add (fun wv => Below w1.heap.size w1 wv) (bnil w1)
          clear T8
          obtain ⟨we, hwe⟩ : ∃ we, w1.alloc (.cells #[.int .i64 0, .slice none 0 0, .slice none 0 0] 60) = we := ⟨_, rfl⟩
          have hbwe : Below w1.heap.size w1 we := by rw [← hwe]; exact balloc (bnil w1) _
          have T10 := T9.up hbwe
          clear T9
          have T11 := T10.add (fun wv => wv.cell? ⟨w1.heap.size, 0, none⟩ = some (.int .i64 0) ∧ wv.cell? ⟨w1.heap.size, 1, none⟩ = some (.slice none 0 0) ∧ wv.cell? ⟨w1.heap.size, 2, none⟩ = some (.slice none 0 0)) (by rw [← hwe]; exact ⟨cnw (by simp) rfl, cnw (by simp) rfl, cnw (by simp) rfl⟩)
          clear T10
          have Hwe := Lib.hid hwe
          clear hwe hbwe
          have hze : we.heap[w1.heap.size]? = some (.cells #[.int .i64 0, .slice none 0 0, .slice none 0 0] 60) := by rw [← Hwe.out]; exact heap_alloc_new w1 _
          have T12 := T11.add (fun wv => wv.heap[w1.heap.size]? = some (.cells #[.int .i64 0, .slice none 0 0, .slice none 0 0] 60)) (hze)
          clear T11
          clear hze
          have v_e0 : (w1.alloc (.cells #[.int .i64 0, .slice none 0 0, .slice none 0 0] 60)).cell? ⟨w1.heap.size, 0, none⟩ = some (.int .i64 0) := by rw [Hwe.out]; exact T12.out.1.2.1
          have v_e1 : (w1.alloc (.cells #[.int .i64 0, .slice none 0 0, .slice none 0 0] 60)).cell? ⟨w1.heap.size, 1, none⟩ = some (.slice none 0 0) := by rw [Hwe.out]; exact T12.out.1.2.2.1
          have v_e2 : (w1.alloc (.cells #[.int .i64 0, .slice none 0 0, .slice none 0 0] 60)).cell? ⟨w1.heap.size, 2, none⟩ = some (.slice none 0 0) := by rw [Hwe.out]; exact T12.out.1.2.2.2
          go_wp2_with fail
          rw [Hwe.out]
          refine (refBadE _ _ _ we false rfl).mono ?_; rintro e w2 ⟨rfl, hbw2⟩
          clear v_e0 v_e1 v_e2
          have T13 := T12.up hbw2
          clear T12
          have v_p0 : w2.cell? ⟨W.heap.size, 0, none⟩ = some (.int .i64 w) := T13.out.1.1.1.1.1.1.2.1
          have v_p1 : w2.cell? ⟨W.heap.size, 1, none⟩ = some (.int .i64 h) := T13.out.1.1.1.1.1.1.2.2.1
          have v_p2 : w2.cell? ⟨W.heap.size, 2, none⟩ = some (.slice a n c) := T13.out.1.1.1.1.1.1.2.2.2
          go_wp2_with fail
          refine (refpcheck_ok w h a n c l w2 (T13.out.1.1.1.1.1.1.1.2).rk hm HPP.out).mono ?_; rintro e w3 ⟨rfl, hbw3⟩
          clear v_p0 v_p1 v_p2
          have T14 := T13.up hbw3
          clear T13
          go_wp2_with fail
          refine (refUnder_z _ _ w3).mono ?_; rintro e w4 ⟨rfl, hbw4⟩
          have T15 := T14.up hbw4
          clear T14
          obtain ⟨⟨q0, q1, q2⟩, dd0, dd1, dd2⟩ := p_cells (T15.out.2)
          obtain ⟨w5, e5, ⟨r0, r1, r2⟩, hk5, hs5, hb5⟩ := set3p (T15.out.2) (.int .i64 0) (.slice none 0 0) (.slice none 0 0)
          have hb15 : Below w1.heap.size w1 w5 := hb5 w1 w1.heap.size (Nat.le_refl _) (T15.out.1.1.2)
          have HE5 := Lib.hid e5
          clear hk5 hs5 hb5 e5
          have T900 := TK1.up hb15
          clear T15 TK1
          have T901 := T900.add (fun wv => wv.cell? ⟨w1.heap.size, 0, none⟩ = some (.int .i64 0) ∧ wv.cell? ⟨w1.heap.size, 1, none⟩ = some (.slice none 0 0) ∧ wv.cell? ⟨w1.heap.size, 2, none⟩ = some (.slice none 0 0)) (⟨r0, r1, r2⟩)
          clear T900
          clear r0 r1 r2 hb15
          go_wp2_with fail
          rw [HE5.out]
          clear q0 q1 q2 dd0 dd1 dd2
          have v_e0 : w5.cell? ⟨w1.heap.size, 0, none⟩ = some (.int .i64 0) := T901.out.2.1
          have v_e1 : w5.cell? ⟨w1.heap.size, 1, none⟩ = some (.slice none 0 0) := T901.out.2.2.1
          have v_e2 : w5.cell? ⟨w1.heap.size, 2, none⟩ = some (.slice none 0 0) := T901.out.2.2.2
          go_wp2_with fail
          refine (refBadE _ _ _ w5 false rfl).mono ?_; rintro e w6 ⟨rfl, hbw6⟩
          clear v_e0 v_e1 v_e2
          have T902 := T901.up hbw6
          clear T901
          have v_p0 : w6.cell? ⟨W.heap.size, 0, none⟩ = some (.int .i64 w) := T902.out.1.1.1.1.2.1
          have v_p1 : w6.cell? ⟨W.heap.size, 1, none⟩ = some (.int .i64 h) := T902.out.1.1.1.1.2.2.1
          go_wp2_with fail
          refine (rawNew_fresh _ _ _ w6 rfl).mono ?_; rintro e w7 ⟨b1, b2, rfl, lb1, lb2, hw8, hbw7⟩
          clear v_p0 v_p1
          have hl6 := (T902.out.1.1.1.1.1.1.2).size
          have hl7 : Wb.heap.size ≤ w6.heap.size := by have := heap_ltT (T902.out.1.1.2); have := HSZ.out; omega
          have T903 := T902.up hbw7
          clear T902
          obtain ⟨⟨q0, q1, q2⟩, f0, f1, f2⟩ := p_cells (T903.out.1.1.1.2)
          obtain ⟨⟨q3, q4, q5⟩, f3, f4, f5⟩ := p_cells (T903.out.1.1.2)
          obtain ⟨w9, e9, e9b, ⟨⟨r0, r1, r2⟩, r3, r4, r5⟩, hret⟩ := pr_err (show W.heap.size + 1 ≠ W.heap.size + 1 + 1 by omega) (T903.out.1.1.1.2) (T903.out.1.1.2) (show W.heap.size ≤ W.heap.size + 1 by omega) (show W.heap.size ≤ W.heap.size + 1 + 1 by omega) (T903.out.1.1.1.1.1.1.2) (B := Wb.heap.size) (by rw [← HSZ.out]; omega) (by rw [← HSZ.out]; omega) (fr_some (by omega)) (fr_some (by omega)) (wc_want hw8) rfl
          clear hl6 hl7 lb1 lb2 hw8
          have HRET := Lib.hid hret
          have HE9 := Lib.hid (And.intro e9 e9b)
          have HR9 := Lib.hid (And.intro r0 (And.intro r1 (And.intro r2 (And.intro r3 (And.intro r4 r5)))))
          clear hret e9 e9b r0 r1 r2 r3 r4 r5
          go_wp2
          rw [HE9.out.1]
          have r0 := HR9.out.1
          have r1 := HR9.out.2.1
          have r2 := HR9.out.2.2.1
          have r3 := HR9.out.2.2.2.1
          have r4 := HR9.out.2.2.2.2.1
          have r5 := HR9.out.2.2.2.2.2
          refine bodyPost_ret (v := .tuple #[patV 0 0 none 0 0, .agg #[.int .i64 3, .slice (some ⟨b1, 0, none⟩) 1 1, .slice (some ⟨b2, 0, none⟩) 1 1]]) (by simp [results, Tryd.results42, go_sem, r0, r1, r2, r3, r4, r5]) rfl ?_
          rw [HOD.out.1, HOD.out.2]
          exact HRET.out
        · skip
          have hcI : ¬ (w : Int) < 3 := by omega
          have hcJ : (h : Int) < 3 := by omega
          clear hsd ht hpe hp hc hc1
          go_enter Tryd.func42, Tryd.ntmps42
          go_wp2_with fail
          rw [HWb.out]
          refine (refplcheck_ok aT nT cT t Wb T7.out.2 hmT HT.out).mono ?_; rintro e w1 ⟨rfl, hbw1⟩
          have T8 := T7.up hbw1
          clear T7
          have TK1 := T8
          have T9 := T8.add (fun wv => Below w1.heap.size w1 wv) (bnil w1)
          clear T8
          obtain ⟨we, hwe⟩ : ∃ we, w1.alloc (.cells #[.int .i64 0, .slice none 0 0, .slice none 0 0] 60) = we := ⟨_, rfl⟩
          have hbwe : Below w1.heap.size w1 we := by rw [← hwe]; exact balloc (bnil w1) _
          have T10 := T9.up hbwe
          clear T9
          have T11 := T10.add (fun wv => wv.cell? ⟨w1.heap.size, 0, none⟩ = some (.int .i64 0) ∧ wv.cell? ⟨w1.heap.size, 1, none⟩ = some (.slice none 0 0) ∧ wv.cell? ⟨w1.heap.size, 2, none⟩ = some (.slice none 0 0)) (by rw [← hwe]; exact ⟨cnw (by simp) rfl, cnw (by simp) rfl, cnw (by simp) rfl⟩)
          clear T10
          have Hwe := Lib.hid hwe
          clear hwe hbwe
          have hze : we.heap[w1.heap.size]? = some (.cells #[.int .i64 0, .slice none 0 0, .slice none 0 0] 60) := by rw [← Hwe.out]; exact heap_alloc_new w1 _
          have T12 := T11.add (fun wv => wv.heap[w1.heap.size]? = some (.cells #[.int .i64 0, .slice none 0 0, .slice none 0 0] 60)) (hze)
          clear T11
          clear hze
          have v_e0 : (w1.alloc (.cells #[.int .i64 0, .slice none 0 0, .slice none 0 0] 60)).cell? ⟨w1.heap.size, 0, none⟩ = some (.int .i64 0) := by rw [Hwe.out]; exact T12.out.1.2.1
          have v_e1 : (w1.alloc (.cells #[.int .i64 0, .slice none 0 0, .slice none 0 0] 60)).cell? ⟨w1.heap.size, 1, none⟩ = some (.slice none 0 0) := by rw [Hwe.out]; exact T12.out.1.2.2.1
          have v_e2 : (w1.alloc (.cells #[.int .i64 0, .slice none 0 0, .slice none 0 0] 60)).cell? ⟨w1.heap.size, 2, none⟩ = some (.slice none 0 0) := by rw [Hwe.out]; exact T12.out.1.2.2.2
          go_wp2_with fail
          rw [Hwe.out]
          refine (refBadE _ _ _ we false rfl).mono ?_; rintro e w2 ⟨rfl, hbw2⟩
          clear v_e0 v_e1 v_e2
          have T13 := T12.up hbw2
          clear T12
          have v_p0 : w2.cell? ⟨W.heap.size, 0, none⟩ = some (.int .i64 w) := T13.out.1.1.1.1.1.1.2.1
          have v_p1 : w2.cell? ⟨W.heap.size, 1, none⟩ = some (.int .i64 h) := T13.out.1.1.1.1.1.1.2.2.1
          have v_p2 : w2.cell? ⟨W.heap.size, 2, none⟩ = some (.slice a n c) := T13.out.1.1.1.1.1.1.2.2.2
          go_wp2_with fail
          refine (refpcheck_ok w h a n c l w2 (T13.out.1.1.1.1.1.1.1.2).rk hm HPP.out).mono ?_; rintro e w3 ⟨rfl, hbw3⟩
          clear v_p0 v_p1 v_p2
          have T14 := T13.up hbw3
          clear T13
          go_wp2_with fail
          refine (refUnder_z _ _ w3).mono ?_; rintro e w4 ⟨rfl, hbw4⟩
          have T15 := T14.up hbw4
          clear T14
          obtain ⟨⟨q0, q1, q2⟩, dd0, dd1, dd2⟩ := p_cells (T15.out.2)
          obtain ⟨w5, e5, ⟨r0, r1, r2⟩, hk5, hs5, hb5⟩ := set3p (T15.out.2) (.int .i64 0) (.slice none 0 0) (.slice none 0 0)
          have hb15 : Below w1.heap.size w1 w5 := hb5 w1 w1.heap.size (Nat.le_refl _) (T15.out.1.1.2)
          have HE5 := Lib.hid e5
          clear hk5 hs5 hb5 e5
          have T900 := TK1.up hb15
          clear T15 TK1
          have T901 := T900.add (fun wv => wv.cell? ⟨w1.heap.size, 0, none⟩ = some (.int .i64 0) ∧ wv.cell? ⟨w1.heap.size, 1, none⟩ = some (.slice none 0 0) ∧ wv.cell? ⟨w1.heap.size, 2, none⟩ = some (.slice none 0 0)) (⟨r0, r1, r2⟩)
          clear T900
          clear r0 r1 r2 hb15
          go_wp2_with fail
          rw [HE5.out]
          clear q0 q1 q2 dd0 dd1 dd2
          have v_e0 : w5.cell? ⟨w1.heap.size, 0, none⟩ = some (.int .i64 0) := T901.out.2.1
          have v_e1 : w5.cell? ⟨w1.heap.size, 1, none⟩ = some (.slice none 0 0) := T901.out.2.2.1
          have v_e2 : w5.cell? ⟨w1.heap.size, 2, none⟩ = some (.slice none 0 0) := T901.out.2.2.2
          go_wp2_with fail
          refine (refBadE _ _ _ w5 false rfl).mono ?_; rintro e w6 ⟨rfl, hbw6⟩
          clear v_e0 v_e1 v_e2
          have T902 := T901.up hbw6
          clear T901
          have v_p0 : w6.cell? ⟨W.heap.size, 0, none⟩ = some (.int .i64 w) := T902.out.1.1.1.1.2.1
          have v_p1 : w6.cell? ⟨W.heap.size, 1, none⟩ = some (.int .i64 h) := T902.out.1.1.1.1.2.2.1
          go_wp2_with fail
          refine (rawNew_fresh _ _ _ w6 rfl).mono ?_; rintro e w7 ⟨b1, b2, rfl, lb1, lb2, hw8, hbw7⟩
          clear v_p0 v_p1
          have hl6 := (T902.out.1.1.1.1.1.1.2).size
          have hl7 : Wb.heap.size ≤ w6.heap.size := by have := heap_ltT (T902.out.1.1.2); have := HSZ.out; omega
          have T903 := T902.up hbw7
          clear T902
          obtain ⟨⟨q0, q1, q2⟩, f0, f1, f2⟩ := p_cells (T903.out.1.1.1.2)
          obtain ⟨⟨q3, q4, q5⟩, f3, f4, f5⟩ := p_cells (T903.out.1.1.2)
          obtain ⟨w9, e9, e9b, ⟨⟨r0, r1, r2⟩, r3, r4, r5⟩, hret⟩ := pr_err (show W.heap.size + 1 ≠ W.heap.size + 1 + 1 by omega) (T903.out.1.1.1.2) (T903.out.1.1.2) (show W.heap.size ≤ W.heap.size + 1 by omega) (show W.heap.size ≤ W.heap.size + 1 + 1 by omega) (T903.out.1.1.1.1.1.1.2) (B := Wb.heap.size) (by rw [← HSZ.out]; omega) (by rw [← HSZ.out]; omega) (fr_some (by omega)) (fr_some (by omega)) (wc_want hw8) rfl
          clear hl6 hl7 lb1 lb2 hw8
          have HRET := Lib.hid hret
          have HE9 := Lib.hid (And.intro e9 e9b)
          have HR9 := Lib.hid (And.intro r0 (And.intro r1 (And.intro r2 (And.intro r3 (And.intro r4 r5)))))
          clear hret e9 e9b r0 r1 r2 r3 r4 r5
          go_wp2
          rw [HE9.out.1]
          have r0 := HR9.out.1
          have r1 := HR9.out.2.1
          have r2 := HR9.out.2.2.1
          have r3 := HR9.out.2.2.2.1
          have r4 := HR9.out.2.2.2.2.1
          have r5 := HR9.out.2.2.2.2.2
          refine bodyPost_ret (v := .tuple #[patV 0 0 none 0 0, .agg #[.int .i64 3, .slice (some ⟨b1, 0, none⟩) 1 1, .slice (some ⟨b2, 0, none⟩) 1 1]]) (by simp [results, Tryd.results42, go_sem, r0, r1, r2, r3, r4, r5]) rfl ?_
          rw [HOD.out.1, HOD.out.2]
          exact HRET.out
      have hsd := stepD_fin ht hpe hc
      have hIT := tabD_none ht
      have hw3 : 3 ≤ w := by omega
      have hh3 : 3 ≤ h := by omega
      have HOD := Lib.hid (And.intro (stepO_ok hsd hw3 hh3) hsd)
      obtain ⟨WN, hWN⟩ : ∃ WN, w - 2 = WN := ⟨_, rfl⟩
      obtain ⟨HN, hHN⟩ : ∃ HN, h - 2 = HN := ⟨_, rfl⟩
      obtain ⟨LL, hLL⟩ : ∃ LL, stepL t w h l = LL := ⟨_, rfl⟩
      have HIT := Lib.hid hIT
      have hcI : ¬ (w : Int) < 3 := by omega
      have hcJ : ¬ (h : Int) < 3 := by omega
      have hcIb : decide ((w : Int) < 3) = false := decide_eq_false hcI
      have hcJb : decide ((h : Int) < 3) = false := decide_eq_false hcJ
      have HEQ := Lib.hid (And.intro hWN (And.intro hHN hLL))
      clear hsd hIT ht hpe hp hc hWN hHN hLL
      obtain rfl : nT = 512 := (T7.out.2).len.trans HIT.out.len
      go_enter Tryd.func42, Tryd.ntmps42
      go_wp2_with fail
      rw [HWb.out]
      refine (refplcheck_ok aT 512 cT t Wb T7.out.2 hmT HT.out).mono ?_; rintro e w1 ⟨rfl, hbw1⟩
      have T8 := T7.up hbw1
      clear T7
      have TK1 := T8
      have T9 := T8.add (fun wv => Below w1.heap.size w1 wv) (bnil w1)
      clear T8
      obtain ⟨we, hwe⟩ : ∃ we, w1.alloc (.cells #[.int .i64 0, .slice none 0 0, .slice none 0 0] 60) = we := ⟨_, rfl⟩
      have hbwe : Below w1.heap.size w1 we := by rw [← hwe]; exact balloc (bnil w1) _
      have T10 := T9.up hbwe
      clear T9
      have T11 := T10.add (fun wv => wv.cell? ⟨w1.heap.size, 0, none⟩ = some (.int .i64 0) ∧ wv.cell? ⟨w1.heap.size, 1, none⟩ = some (.slice none 0 0) ∧ wv.cell? ⟨w1.heap.size, 2, none⟩ = some (.slice none 0 0)) (by rw [← hwe]; exact ⟨cnw (by simp) rfl, cnw (by simp) rfl, cnw (by simp) rfl⟩)
      clear T10
      have Hwe := Lib.hid hwe
      clear hwe hbwe
      have hze : we.heap[w1.heap.size]? = some (.cells #[.int .i64 0, .slice none 0 0, .slice none 0 0] 60) := by rw [← Hwe.out]; exact heap_alloc_new w1 _
      have T12 := T11.add (fun wv => wv.heap[w1.heap.size]? = some (.cells #[.int .i64 0, .slice none 0 0, .slice none 0 0] 60)) (hze)
      clear T11
      clear hze
      have v_e0 : (w1.alloc (.cells #[.int .i64 0, .slice none 0 0, .slice none 0 0] 60)).cell? ⟨w1.heap.size, 0, none⟩ = some (.int .i64 0) := by rw [Hwe.out]; exact T12.out.1.2.1
      have v_e1 : (w1.alloc (.cells #[.int .i64 0, .slice none 0 0, .slice none 0 0] 60)).cell? ⟨w1.heap.size, 1, none⟩ = some (.slice none 0 0) := by rw [Hwe.out]; exact T12.out.1.2.2.1
      have v_e2 : (w1.alloc (.cells #[.int .i64 0, .slice none 0 0, .slice none 0 0] 60)).cell? ⟨w1.heap.size, 2, none⟩ = some (.slice none 0 0) := by rw [Hwe.out]; exact T12.out.1.2.2.2
      go_wp2_with fail
      rw [Hwe.out]
      refine (refBadE _ _ _ we false rfl).mono ?_; rintro e w2 ⟨rfl, hbw2⟩
      clear v_e0 v_e1 v_e2
      have T13 := T12.up hbw2
      clear T12
      have v_p0 : w2.cell? ⟨W.heap.size, 0, none⟩ = some (.int .i64 w) := T13.out.1.1.1.1.1.1.2.1
      have v_p1 : w2.cell? ⟨W.heap.size, 1, none⟩ = some (.int .i64 h) := T13.out.1.1.1.1.1.1.2.2.1
      have v_p2 : w2.cell? ⟨W.heap.size, 2, none⟩ = some (.slice a n c) := T13.out.1.1.1.1.1.1.2.2.2
      go_wp2_with fail
      refine (refpcheck_ok w h a n c l w2 (T13.out.1.1.1.1.1.1.1.2).rk hm HPP.out).mono ?_; rintro e w3 ⟨rfl, hbw3⟩
      clear v_p0 v_p1 v_p2
      have T14 := T13.up hbw3
      clear T13
      go_wp2_with fail
      refine (refUnder_z _ _ w3).mono ?_; rintro e w4 ⟨rfl, hbw4⟩
      have T15 := T14.up hbw4
      clear T14
      obtain ⟨⟨q0, q1, q2⟩, dd0, dd1, dd2⟩ := p_cells (T15.out.2)
      obtain ⟨w5, e5, ⟨r0, r1, r2⟩, hk5, hs5, hb5⟩ := set3p (T15.out.2) (.int .i64 0) (.slice none 0 0) (.slice none 0 0)
      have hb15 : Below w1.heap.size w1 w5 := hb5 w1 w1.heap.size (Nat.le_refl _) (T15.out.1.1.2)
      have HE5 := Lib.hid e5
      clear hk5 hs5 hb5 e5
      have T900 := TK1.up hb15
      clear T15 TK1
      have T901 := T900.add (fun wv => wv.cell? ⟨w1.heap.size, 0, none⟩ = some (.int .i64 0) ∧ wv.cell? ⟨w1.heap.size, 1, none⟩ = some (.slice none 0 0) ∧ wv.cell? ⟨w1.heap.size, 2, none⟩ = some (.slice none 0 0)) (⟨r0, r1, r2⟩)
      clear T900
      clear r0 r1 r2 hb15
      go_wp2_with fail
      rw [HE5.out]
      clear q0 q1 q2 dd0 dd1 dd2
      have v_e0 : w5.cell? ⟨w1.heap.size, 0, none⟩ = some (.int .i64 0) := T901.out.2.1
      have v_e1 : w5.cell? ⟨w1.heap.size, 1, none⟩ = some (.slice none 0 0) := T901.out.2.2.1
      have v_e2 : w5.cell? ⟨w1.heap.size, 2, none⟩ = some (.slice none 0 0) := T901.out.2.2.2
      go_wp2_with fail
      refine (refBadE _ _ _ w5 false rfl).mono ?_; rintro e w6 ⟨rfl, hbw6⟩
      clear v_e0 v_e1 v_e2
      have T902 := T901.up hbw6
      clear T901
      have v_p0 : w6.cell? ⟨W.heap.size, 0, none⟩ = some (.int .i64 w) := T902.out.1.1.1.1.2.1
      have v_p1 : w6.cell? ⟨W.heap.size, 1, none⟩ = some (.int .i64 h) := T902.out.1.1.1.1.2.2.1
      have v_p2 : w6.cell? ⟨W.heap.size, 2, none⟩ = some (.slice a n c) := T902.out.1.1.1.1.2.2.2
      go_wp2_with fail
      refine (refimage w h WN HN a aT n c cT l t LL w6 T902.out.1.1.1.1.1.2 T902.out.1.2 HIT.out HPP.out hw3 hh3 HEQ.out.1 HEQ.out.2.1 HEQ.out.2.2).mono ?_; rintro e w7 ⟨a7, n7, c7, rfl, ho7, hbw7⟩
      clear v_p0 v_p1 v_p2
      have hl7 : Wb.heap.size ≤ w6.heap.size := by have := heap_ltT (T902.out.1.1.2); have := HSZ.out; omega
      have T903 := T902.up hbw7
      clear T902
      obtain ⟨⟨q0, q1, q2⟩, f0, f1, f2⟩ := p_cells (T903.out.1.1.1.2)
      obtain ⟨⟨q3, q4, q5⟩, f3, f4, f5⟩ := p_cells (T903.out.1.1.2)
      obtain ⟨w9, e9, e9b, ⟨⟨r0, r1, r2⟩, r3, r4, r5⟩, hret⟩ := pr_ok (H := WN) (K := HN) (show W.heap.size + 1 ≠ W.heap.size + 1 + 1 by omega) (T903.out.1.1.1.2) (T903.out.1.1.2) (show W.heap.size ≤ W.heap.size + 1 by omega) (show W.heap.size ≤ W.heap.size + 1 + 1 by omega) (T903.out.1.1.1.1.1.1.2) (B := Wb.heap.size) (by rw [← HSZ.out]; omega) (by rw [← HSZ.out]; omega) (ho7.base hl7)
      clear hl7 ho7
      have HRET := Lib.hid hret
      have HE9 := Lib.hid (And.intro e9 e9b)
      have HR9 := Lib.hid (And.intro r0 (And.intro r1 (And.intro r2 (And.intro r3 (And.intro r4 r5)))))
      clear hret e9 e9b r0 r1 r2 r3 r4 r5
      go_wp2
      rw [HE9.out.1]
      have r0 := HR9.out.1
      have r1 := HR9.out.2.1
      have r2 := HR9.out.2.2.1
      have r3 := HR9.out.2.2.2.1
      have r4 := HR9.out.2.2.2.2.1
      have r5 := HR9.out.2.2.2.2.2
      refine bodyPost_ret (v := .tuple #[patV WN HN a7 n7 c7, .agg #[.int .i64 0, .slice none 0 0, .slice none 0 0]]) (by simp [results, Tryd.results42, go_sem, r0, r1, r2, r3, r4, r5]) rfl ?_
      rw [HOD.out.1, HOD.out.2]
      rw [HEQ.out.1, HEQ.out.2.1, HEQ.out.2.2]
      exact HRET.out
end Go.Proofs.YtoaooblodgejdaaDoor
