/- edenref25.Asked of any table and patch. -/
import Derived.Test.YtoaooblodgejdaaDoorEvG
import Derived.Test.YtoaooblodgejdaaDoorRjJ
import Derived.Test.YtoaooblodgejdaaDoorRefPJ
namespace Go.Proofs.YtoaooblodgejdaaDoor
open Go.RowKit
set_option linter.unusedVariables false
set_option maxRecDepth 100000

theorem evD_tab {t : List Int} {w h : Int} {l : List Int} {x : List (ByteArray × Int) × Int} (ht : tabD t = some x) : evD t w h l = some ((opEve, 0) :: x.1, x.2) := by unfold evD; rw [ht]
theorem evD_pat {t : List Int} {w h : Int} {l : List Int} {y : Int × Int} (ht : tabD t = none) (hp : patchErr w h l = some y) : evD t w h l = some ([(opEve, 1), (opPatch, y.1)], y.2) := by unfold evD; rw [ht, hp]
theorem evD_w {t : List Int} {w h : Int} {l : List Int} (ht : tabD t = none) (hp : patchErr w h l = none) (hw : 8 < w) : evD t w h l = some ([(opEve, 1)], 4) := by unfold evD; rw [ht, hp]; exact if_pos hw
theorem evD_h {t : List Int} {w h : Int} {l : List Int} (ht : tabD t = none) (hp : patchErr w h l = none) (hw : ¬ 8 < w) (hh : 4 < h) : evD t w h l = some ([(opEve, 2)], 4) := by unfold evD; rw [ht, hp]; exact (if_neg hw).trans (if_pos hh)
theorem evD_ok {t : List Int} {w h : Int} {l : List Int} (ht : tabD t = none) (hp : patchErr w h l = none) (hw : ¬ 8 < w) (hh : ¬ 4 < h) : evD t w h l = none := by unfold evD; rw [ht, hp]; exact (if_neg hw).trans (if_neg hh)
/-- an error as the document has it, alone -/
def ARef (W : World) (y : ErrD) (e : Ending) (w' : World) : Prop := ∃ N b1 m1 d1 b2 m2 d2, e = .returned (.agg #[.int .i64 N, .slice b1 m1 d1, .slice b2 m2 d2]) ∧ WC w' (.agg #[.int .i64 N, .slice b1 m1 d1, .slice b2 m2 d2]) y ∧ (N != 0) = y.isSome ∧ Fr W.heap.size b1 ∧ Fr W.heap.size b2 ∧ Below W.heap.size W w'
set_option maxHeartbeats 16000000 in
theorem refasked_any (w h : Int) (a aT : Option Addr) (n c nT cT : Nat) (l t : List Int) (W : World) (hR : RK .i64 W a n l) (hm : n ≤ maxLen) (hT : RK .i64 W aT nT t) (hmT : nT ≤ maxLen) :
    Calls Tryd.prog 35 #[.slice aT nT cT, patV w h a n c] W (ARef W (evD t w h l)) := by
  have T0 := Tk.nil W
  have T1 := T0.add (fun wv => Below W.heap.size W wv) (bnil W)
  clear T0
  have T2 := T1.add (fun wv => RK .i64 wv a n l) (hR)
  clear T1
  obtain ⟨Wb, hWb⟩ : ∃ Wb, (W.alloc (.cells #[.int .i64 w, .int .i64 h, .slice a n c] 24)).alloc (.cells #[.int .i64 0, .slice none 0 0, .slice none 0 0] 60) = Wb := ⟨_, rfl⟩
  have hbWb : Below W.heap.size W Wb := by rw [← hWb]; exact balloc (balloc (bnil W) _) _
  have T3 := T2.up hbWb
  clear T2
  have T4 := T3.add (fun wv => wv.cell? ⟨W.heap.size, 0, none⟩ = some (.int .i64 w) ∧ wv.cell? ⟨W.heap.size, 1, none⟩ = some (.int .i64 h) ∧ wv.cell? ⟨W.heap.size, 2, none⟩ = some (.slice a n c)) (by rw [← hWb]; exact ⟨al000 (cnw (by simp) rfl), al000 (cnw (by simp) rfl), al000 (cnw (by simp) rfl)⟩)
  clear T3
  have HWb := Lib.hid hWb
  clear hWb hbWb
  have hz2 : Wb.heap[W.heap.size + 1]? = some (.cells #[.int .i64 0, .slice none 0 0, .slice none 0 0] 60) := by
    rw [← HWb.out]
    have := heap_alloc_new (W.alloc (.cells #[.int .i64 w, .int .i64 h, .slice a n c] 24)) (.cells #[.int .i64 0, .slice none 0 0, .slice none 0 0] 60)
    simpa using this
  have hsz : W.heap.size + 1 + 1 = Wb.heap.size := by rw [← HWb.out]; simp
  have T5 := T4.add (fun wv => wv.heap[W.heap.size + 1]? = some (.cells #[.int .i64 0, .slice none 0 0, .slice none 0 0] 60)) (hz2)
  clear T4
  have HSZ := Lib.hid hsz
  clear hz2 hsz
  have hTb : RK .i64 Wb aT nT t := hT.up (by rw [← HWb.out]; exact balloc (balloc (bnil W) _) _)
  have T6 := T5.add (fun wv => RK .i64 wv aT nT t) (hTb)
  clear T5
  clear hR hT hTb
  cases htd : tabD t with
  | some x =>
    have hxl := tabD_len htd
    have HOD := Lib.hid (evD_tab (w := w) (h := h) (l := l) htd)
    obtain ⟨es0, n0⟩ := x
    have HTD := Lib.hid htd
    clear htd
    go_enter Tryd.func35, Tryd.ntmps35
    go_wp2_with fail
    rw [HWb.out]
    refine (refplcheck_any aT nT cT t Wb T6.out.2 hmT).mono ?_; rintro e w0 ⟨N0, a1, n1, c1, a2, n2, c2, rfl, hw, _, _, _, _, hbw0⟩
    have T7 := T6.up hbw0
    clear T6
    rw [HTD.out] at hw
    obtain rfl := wc_numP hw
    have hxl : es0.length = 1 := hxl
    have HWQ := Lib.hid hw
    clear hw
    go_wp2_with fail
    refine (refUnder_some _ _ _ _ a1 a2 n1 c1 n2 c2 w0 HWQ.out (by omega) (by omega)).mono ?_; rintro e w1 ⟨N, b1, m1, d1, b2, m2, d2, rfl, hw, f1, f2, hN, _, hbw1⟩
    have T8 := T7.up hbw1
    clear T7
    have T9 := T8.add (fun wv => WC wv (.agg #[.int .i64 N, .slice b1 m1 d1, .slice b2 m2 d2]) (some ((opEve, 0) :: es0, N0))) (hw)
    clear T8
    have hl0 : W.heap.size + 1 + 1 ≤ w0.heap.size := by have h1 := HSZ.out; have h2 := hbw0.size; omega
    have HLT : Hid (W.heap.size + 1 < w1.heap.size) := heap_ltT (T9.out.1.1.2)
    have HNS := Lib.hid hN
    have HF := Lib.hid (And.intro (f1.base hl0) (f2.base hl0))
    clear hw f1 f2 hN
    obtain ⟨we, hwe⟩ : ∃ we, w1.alloc (.cells #[.int .i64 N, .slice b1 m1 d1, .slice b2 m2 d2] 60) = we := ⟨_, rfl⟩
    have hbwe : Below w1.heap.size w1 we := by rw [← hwe]; exact balloc (bnil w1) _
    have T10 := T9.up hbwe
    clear T9
    have T11 := T10.add (fun wv => wv.cell? ⟨w1.heap.size, 0, none⟩ = some (.int .i64 N) ∧ wv.cell? ⟨w1.heap.size, 1, none⟩ = some (.slice b1 m1 d1) ∧ wv.cell? ⟨w1.heap.size, 2, none⟩ = some (.slice b2 m2 d2)) (by rw [← hwe]; exact ⟨cnw (by simp) rfl, cnw (by simp) rfl, cnw (by simp) rfl⟩)
    clear T10
    have Hwe := Lib.hid hwe
    clear hwe hbwe
    have v_e0 : (w1.alloc (.cells #[.int .i64 N, .slice b1 m1 d1, .slice b2 m2 d2] 60)).cell? ⟨w1.heap.size, 0, none⟩ = some (.int .i64 N) := by rw [Hwe.out]; exact T11.out.2.1
    have v_e1 : (w1.alloc (.cells #[.int .i64 N, .slice b1 m1 d1, .slice b2 m2 d2] 60)).cell? ⟨w1.heap.size, 1, none⟩ = some (.slice b1 m1 d1) := by rw [Hwe.out]; exact T11.out.2.2.1
    have v_e2 : (w1.alloc (.cells #[.int .i64 N, .slice b1 m1 d1, .slice b2 m2 d2] 60)).cell? ⟨w1.heap.size, 2, none⟩ = some (.slice b2 m2 d2) := by rw [Hwe.out]; exact T11.out.2.2.2
    go_wp2_with fail
    rw [Hwe.out]
    refine (refBadE _ _ _ we true HNS.out).mono ?_; rintro e w2 ⟨rfl, hbw2⟩
    clear v_e0 v_e1 v_e2
    have T12 := T11.up hbw2
    clear T11
    have v_e0 : w2.cell? ⟨w1.heap.size, 0, none⟩ = some (.int .i64 N) := T12.out.2.1
    have v_e1 : w2.cell? ⟨w1.heap.size, 1, none⟩ = some (.slice b1 m1 d1) := T12.out.2.2.1
    have v_e2 : w2.cell? ⟨w1.heap.size, 2, none⟩ = some (.slice b2 m2 d2) := T12.out.2.2.2
    go_wp2_with fail
    refine (refBadE _ _ _ w2 true HNS.out).mono ?_; rintro e w3 ⟨rfl, hbw3⟩
    clear v_e0 v_e1 v_e2
    have T13 := T12.up hbw3
    clear T12
    have v_e0 : w3.cell? ⟨w1.heap.size, 0, none⟩ = some (.int .i64 N) := T13.out.2.1
    have v_e1 : w3.cell? ⟨w1.heap.size, 1, none⟩ = some (.slice b1 m1 d1) := T13.out.2.2.1
    have v_e2 : w3.cell? ⟨w1.heap.size, 2, none⟩ = some (.slice b2 m2 d2) := T13.out.2.2.2
    obtain ⟨⟨q3, q4, q5⟩, f3, f4, f5⟩ := p_cells (T13.out.1.1.1.2)
    obtain ⟨w9, e9, ⟨r0, r1, r2⟩, hk9, hs9, hw9, hb9⟩ := er_set (show W.heap.size ≤ W.heap.size + 1 by omega) (T13.out.1.1.1.2) (T13.out.1.1.1.1.1.1.2) (HF.out.1) (HF.out.2) (T13.out.1.2)
    have HRET := Lib.hid (And.intro hw9 hb9)
    clear hk9 hs9 hw9 hb9
    have HE9 := Lib.hid e9
    have HR9 := Lib.hid (And.intro r0 (And.intro r1 r2))
    clear e9 r0 r1 r2
    have ne1 : ¬ w1.heap.size = W.heap.size + 1 := by have := HLT.out; omega
    have ne2 : ¬ W.heap.size + 1 = w1.heap.size := by have := HLT.out; omega
    go_wp2
    rw [HE9.out]
    have r0 := HR9.out.1
    have r1 := HR9.out.2.1
    have r2 := HR9.out.2.2
    refine bodyPost_ret (v := .agg #[.int .i64 N, .slice b1 m1 d1, .slice b2 m2 d2]) (by simp [results, Tryd.results35, go_sem, r0, r1, r2]) rfl ?_
    rw [HOD.out]
    exact ⟨_, _, _, _, _, _, _, rfl, HRET.out.1, HNS.out, (HF.out.1).base (by omega), (HF.out.2).base (by omega), HRET.out.2⟩
  | none =>
    have HTD := Lib.hid htd
    cases hpe : patchErr w h l with
    | some y =>
      have HOD := Lib.hid (evD_pat htd hpe)
      have hq : patchD w h l = some ([(opPatch, y.1)], y.2) := by unfold patchD; rw [hpe]; rfl
      have HQ := Lib.hid hq
      clear hq htd hpe
      go_enter Tryd.func35, Tryd.ntmps35
      go_wp2_with fail
      rw [HWb.out]
      refine (refplcheck_ok aT nT cT t Wb T6.out.2 hmT HTD.out).mono ?_; rintro e w0 ⟨rfl, hbw0⟩
      have T7 := T6.up hbw0
      clear T6
      go_wp2_with fail
      refine (refUnder_z _ _ w0).mono ?_; rintro e w1 ⟨rfl, hbw1⟩
      have T8 := T7.up hbw1
      clear T7
      have HLT : Hid (W.heap.size + 1 < w1.heap.size) := heap_ltT (T8.out.1.2)
      have TK1 := T8
      have T9 := T8.add (fun wv => Below w1.heap.size w1 wv) (bnil w1)
      clear T8
      obtain ⟨we, hwe⟩ : ∃ we, w1.alloc (.cells #[.int .i64 0, .slice none 0 0, .slice none 0 0] 60) = we := ⟨_, rfl⟩
      have hbwe : Below w1.heap.size w1 we := by rw [← hwe]; exact balloc (bnil w1) _
      have T10 := T9.up hbwe
      clear T9
      have T11 := T10.add (fun wv => wv.cell? ⟨w1.heap.size, 0, none⟩ = some (.int .i64 0) ∧ wv.cell? ⟨w1.heap.size, 1, none⟩ = some (.slice none 0 0) ∧ wv.cell? ⟨w1.heap.size, 2, none⟩ = some (.slice none 0 0)) (by rw [← hwe]; exact ⟨cnw (by simp) rfl, cnw (by simp) rfl, cnw (by simp) rfl⟩)
      clear T10
      have Hwe := Lib.hid hwe
      clear hwe hbwe
      have hze : we.heap[w1.heap.size]? = some (.cells #[.int .i64 0, .slice none 0 0, .slice none 0 0] 60) := by rw [← Hwe.out]; exact heap_alloc_new w1 _
      have T12 := T11.add (fun wv => wv.heap[w1.heap.size]? = some (.cells #[.int .i64 0, .slice none 0 0, .slice none 0 0] 60)) (hze)
      clear T11
      clear hze
      have v_e0 : (w1.alloc (.cells #[.int .i64 0, .slice none 0 0, .slice none 0 0] 60)).cell? ⟨w1.heap.size, 0, none⟩ = some (.int .i64 0) := by rw [Hwe.out]; exact T12.out.1.2.1
      have v_e1 : (w1.alloc (.cells #[.int .i64 0, .slice none 0 0, .slice none 0 0] 60)).cell? ⟨w1.heap.size, 1, none⟩ = some (.slice none 0 0) := by rw [Hwe.out]; exact T12.out.1.2.2.1
      have v_e2 : (w1.alloc (.cells #[.int .i64 0, .slice none 0 0, .slice none 0 0] 60)).cell? ⟨w1.heap.size, 2, none⟩ = some (.slice none 0 0) := by rw [Hwe.out]; exact T12.out.1.2.2.2
      go_wp2_with fail
      rw [Hwe.out]
      refine (refBadE _ _ _ we false rfl).mono ?_; rintro e w2 ⟨rfl, hbw2⟩
      clear v_e0 v_e1 v_e2
      have T13 := T12.up hbw2
      clear T12
      have v_p0 : w2.cell? ⟨W.heap.size, 0, none⟩ = some (.int .i64 w) := T13.out.1.1.1.1.1.2.1
      have v_p1 : w2.cell? ⟨W.heap.size, 1, none⟩ = some (.int .i64 h) := T13.out.1.1.1.1.1.2.2.1
      have v_p2 : w2.cell? ⟨W.heap.size, 2, none⟩ = some (.slice a n c) := T13.out.1.1.1.1.1.2.2.2
      go_wp2_with fail
      refine (refpcheck_any w h a n c l w2 T13.out.1.1.1.1.1.1.2 hm).mono ?_; rintro e w3 ⟨N0, a1, n1, c1, a2, n2, c2, rfl, hw, _, _, _, _, hbw3⟩
      clear v_p0 v_p1 v_p2
      have T14 := T13.up hbw3
      clear T13
      rw [HQ.out] at hw
      obtain rfl := wc_numP hw
      have HW3 := Lib.hid hw
      clear hw
      have hl3 : w1.heap.size + 1 ≤ w3.heap.size := heap_ltT (T14.out.2)
      go_wp2_with fail
      refine (refUnder_some _ _ _ _ a1 a2 n1 c1 n2 c2 w3 HW3.out (by simp) (by simp)).mono ?_; rintro e w4 ⟨N, b1, m1, d1, b2, m2, d2, rfl, hw, f1, f2, hN, _, hbw4⟩
      have T15 := T14.up hbw4
      clear T14
      obtain ⟨⟨q0, q1, q2⟩, dd0, dd1, dd2⟩ := p_cells (T15.out.2)
      obtain ⟨w5, e5, ⟨r0, r1, r2⟩, hk5, hs5, hb5⟩ := set3p (T15.out.2) (.int .i64 N) (.slice b1 m1 d1) (.slice b2 m2 d2)
      have hE5 : w5.heap[w1.heap.size]? = some (.cells #[.int .i64 N, .slice b1 m1 d1, .slice b2 m2 d2] 60) := by rw [← e5]; exact set3h (T15.out.2) _ _ _
      have hb15 : Below w1.heap.size w1 w5 := hb5 w1 w1.heap.size (Nat.le_refl _) (T15.out.1.1.2)
      have hE1 : w1.heap.size < w4.heap.size := heap_ltT (T15.out.2)
      have HE5 := Lib.hid e5
      have hw5 := hw.other hk5 hs5 (f1.base hl3) (f2.base hl3)
      have HF : Hid (Fr (W.heap.size + 1 + 1) b1 ∧ Fr (W.heap.size + 1 + 1) b2) := ⟨f1.base (by have := HLT.out; omega), f2.base (by have := HLT.out; omega)⟩
      have HNS := Lib.hid hN
      clear hl3 hw f1 f2 hN
      have T915 := TK1.up hb15
      clear T15
      have T916 := T915.add (fun wv => wv.cell? ⟨w1.heap.size, 0, none⟩ = some (.int .i64 N) ∧ wv.cell? ⟨w1.heap.size, 1, none⟩ = some (.slice b1 m1 d1) ∧ wv.cell? ⟨w1.heap.size, 2, none⟩ = some (.slice b2 m2 d2)) (⟨r0, r1, r2⟩)
      clear T915
      have T917 := T916.add (fun wv => wv.heap[w1.heap.size]? = some (.cells #[.int .i64 N, .slice b1 m1 d1, .slice b2 m2 d2] 60)) (hE5)
      clear T916
      have T918 := T917.add (fun wv => Below w1.heap.size w1 wv) (hb15)
      clear T917
      clear r0 r1 r2 hb15 hE5 hE1 hk5 hs5 hb5 e5
      have T919 := T918.add (fun wv => WC wv (.agg #[.int .i64 N, .slice b1 m1 d1, .slice b2 m2 d2]) (some ([(opEve, 1), (opPatch, y.1)], y.2))) (hw5)
      clear T918
      clear hw5 TK1
      go_wp2_with fail
      rw [HE5.out]
      clear q0 q1 q2 dd0 dd1 dd2 HE5
      have v_e0 : w5.cell? ⟨w1.heap.size, 0, none⟩ = some (.int .i64 N) := T919.out.1.1.1.2.1
      have v_e1 : w5.cell? ⟨w1.heap.size, 1, none⟩ = some (.slice b1 m1 d1) := T919.out.1.1.1.2.2.1
      have v_e2 : w5.cell? ⟨w1.heap.size, 2, none⟩ = some (.slice b2 m2 d2) := T919.out.1.1.1.2.2.2
      go_wp2_with fail
      refine (refBadE _ _ _ w5 true HNS.out).mono ?_; rintro e w6 ⟨rfl, hbw6⟩
      clear v_e0 v_e1 v_e2
      have T920 := T919.up hbw6
      clear T919
      have v_e0 : w6.cell? ⟨w1.heap.size, 0, none⟩ = some (.int .i64 N) := T920.out.1.1.1.2.1
      have v_e1 : w6.cell? ⟨w1.heap.size, 1, none⟩ = some (.slice b1 m1 d1) := T920.out.1.1.1.2.2.1
      have v_e2 : w6.cell? ⟨w1.heap.size, 2, none⟩ = some (.slice b2 m2 d2) := T920.out.1.1.1.2.2.2
      obtain ⟨⟨q3, q4, q5⟩, f3, f4, f5⟩ := p_cells (T920.out.1.1.1.1.1.2)
      obtain ⟨w9, e9, ⟨r0, r1, r2⟩, hk9, hs9, hw9, hb9⟩ := er_set (show W.heap.size ≤ W.heap.size + 1 by omega) (T920.out.1.1.1.1.1.2) (T920.out.1.1.1.1.1.1.1.1.2) (HF.out.1) (HF.out.2) (T920.out.2)
      have HRET := Lib.hid (And.intro hw9 hb9)
      clear hk9 hs9 hw9 hb9
      have HE9 := Lib.hid e9
      have HR9 := Lib.hid (And.intro r0 (And.intro r1 r2))
      clear e9 r0 r1 r2
      have ne1 : ¬ w1.heap.size = W.heap.size + 1 := by have := HLT.out; omega
      have ne2 : ¬ W.heap.size + 1 = w1.heap.size := by have := HLT.out; omega
      go_wp2
      rw [HE9.out]
      have r0 := HR9.out.1
      have r1 := HR9.out.2.1
      have r2 := HR9.out.2.2
      refine bodyPost_ret (v := .agg #[.int .i64 N, .slice b1 m1 d1, .slice b2 m2 d2]) (by simp [results, Tryd.results35, go_sem, r0, r1, r2]) rfl ?_
      rw [HOD.out]
      exact ⟨_, _, _, _, _, _, _, rfl, HRET.out.1, HNS.out, (HF.out.1).base (by omega), (HF.out.2).base (by omega), HRET.out.2⟩
    | none =>
      obtain ⟨w, h, rfl, rfl, hp⟩ := patchErr_none hpe
      have HPP := Lib.hid hp
      clear hp
      by_cases hw8 : 8 < (w : Int)
      · skip
        have HOD := Lib.hid (evD_w htd hpe hw8)
        clear htd hpe
        go_enter Tryd.func35, Tryd.ntmps35
        go_wp2_with fail
        rw [HWb.out]
        refine (refplcheck_ok aT nT cT t Wb T6.out.2 hmT HTD.out).mono ?_; rintro e w0 ⟨rfl, hbw0⟩
        have T7 := T6.up hbw0
        clear T6
        go_wp2_with fail
        refine (refUnder_z _ _ w0).mono ?_; rintro e w1 ⟨rfl, hbw1⟩
        have T8 := T7.up hbw1
        clear T7
        have HLT : Hid (W.heap.size + 1 < w1.heap.size) := heap_ltT (T8.out.1.2)
        have TK1 := T8
        have T9 := T8.add (fun wv => Below w1.heap.size w1 wv) (bnil w1)
        clear T8
        obtain ⟨we, hwe⟩ : ∃ we, w1.alloc (.cells #[.int .i64 0, .slice none 0 0, .slice none 0 0] 60) = we := ⟨_, rfl⟩
        have hbwe : Below w1.heap.size w1 we := by rw [← hwe]; exact balloc (bnil w1) _
        have T10 := T9.up hbwe
        clear T9
        have T11 := T10.add (fun wv => wv.cell? ⟨w1.heap.size, 0, none⟩ = some (.int .i64 0) ∧ wv.cell? ⟨w1.heap.size, 1, none⟩ = some (.slice none 0 0) ∧ wv.cell? ⟨w1.heap.size, 2, none⟩ = some (.slice none 0 0)) (by rw [← hwe]; exact ⟨cnw (by simp) rfl, cnw (by simp) rfl, cnw (by simp) rfl⟩)
        clear T10
        have Hwe := Lib.hid hwe
        clear hwe hbwe
        have hze : we.heap[w1.heap.size]? = some (.cells #[.int .i64 0, .slice none 0 0, .slice none 0 0] 60) := by rw [← Hwe.out]; exact heap_alloc_new w1 _
        have T12 := T11.add (fun wv => wv.heap[w1.heap.size]? = some (.cells #[.int .i64 0, .slice none 0 0, .slice none 0 0] 60)) (hze)
        clear T11
        clear hze
        have v_e0 : (w1.alloc (.cells #[.int .i64 0, .slice none 0 0, .slice none 0 0] 60)).cell? ⟨w1.heap.size, 0, none⟩ = some (.int .i64 0) := by rw [Hwe.out]; exact T12.out.1.2.1
        have v_e1 : (w1.alloc (.cells #[.int .i64 0, .slice none 0 0, .slice none 0 0] 60)).cell? ⟨w1.heap.size, 1, none⟩ = some (.slice none 0 0) := by rw [Hwe.out]; exact T12.out.1.2.2.1
        have v_e2 : (w1.alloc (.cells #[.int .i64 0, .slice none 0 0, .slice none 0 0] 60)).cell? ⟨w1.heap.size, 2, none⟩ = some (.slice none 0 0) := by rw [Hwe.out]; exact T12.out.1.2.2.2
        go_wp2_with fail
        rw [Hwe.out]
        refine (refBadE _ _ _ we false rfl).mono ?_; rintro e w2 ⟨rfl, hbw2⟩
        clear v_e0 v_e1 v_e2
        have T13 := T12.up hbw2
        clear T12
        have v_p0 : w2.cell? ⟨W.heap.size, 0, none⟩ = some (.int .i64 w) := T13.out.1.1.1.1.1.2.1
        have v_p1 : w2.cell? ⟨W.heap.size, 1, none⟩ = some (.int .i64 h) := T13.out.1.1.1.1.1.2.2.1
        have v_p2 : w2.cell? ⟨W.heap.size, 2, none⟩ = some (.slice a n c) := T13.out.1.1.1.1.1.2.2.2
        go_wp2_with fail
        refine (refpcheck_ok w h a n c l w2 T13.out.1.1.1.1.1.1.2 hm HPP.out).mono ?_; rintro e w3 ⟨rfl, hbw3⟩
        clear v_p0 v_p1 v_p2
        have T14 := T13.up hbw3
        clear T13
        go_wp2_with fail
        refine (refUnder_z _ _ w3).mono ?_; rintro e w4 ⟨rfl, hbw4⟩
        have T15 := T14.up hbw4
        clear T14
        obtain ⟨⟨q0, q1, q2⟩, dd0, dd1, dd2⟩ := p_cells (T15.out.2)
        obtain ⟨w5, e5, ⟨r0, r1, r2⟩, hk5, hs5, hb5⟩ := set3p (T15.out.2) (.int .i64 0) (.slice none 0 0) (.slice none 0 0)
        have hE5 : w5.heap[w1.heap.size]? = some (.cells #[.int .i64 0, .slice none 0 0, .slice none 0 0] 60) := by rw [← e5]; exact set3h (T15.out.2) _ _ _
        have hb15 : Below w1.heap.size w1 w5 := hb5 w1 w1.heap.size (Nat.le_refl _) (T15.out.1.1.2)
        have hE1 : w1.heap.size < w4.heap.size := heap_ltT (T15.out.2)
        have HE5 := Lib.hid e5
        have T915 := TK1.up hb15
        clear T15
        have T916 := T915.add (fun wv => wv.cell? ⟨w1.heap.size, 0, none⟩ = some (.int .i64 0) ∧ wv.cell? ⟨w1.heap.size, 1, none⟩ = some (.slice none 0 0) ∧ wv.cell? ⟨w1.heap.size, 2, none⟩ = some (.slice none 0 0)) (⟨r0, r1, r2⟩)
        clear T915
        have T917 := T916.add (fun wv => wv.heap[w1.heap.size]? = some (.cells #[.int .i64 0, .slice none 0 0, .slice none 0 0] 60)) (hE5)
        clear T916
        have T918 := T917.add (fun wv => Below w1.heap.size w1 wv) (hb15)
        clear T917
        clear r0 r1 r2 hb15 hE5 hE1 hk5 hs5 hb5 e5
        clear TK1
        go_wp2_with fail
        rw [HE5.out]
        clear q0 q1 q2 dd0 dd1 dd2 HE5
        have v_e0 : w5.cell? ⟨w1.heap.size, 0, none⟩ = some (.int .i64 0) := T918.out.1.1.2.1
        have v_e1 : w5.cell? ⟨w1.heap.size, 1, none⟩ = some (.slice none 0 0) := T918.out.1.1.2.2.1
        have v_e2 : w5.cell? ⟨w1.heap.size, 2, none⟩ = some (.slice none 0 0) := T918.out.1.1.2.2.2
        go_wp2_with fail
        refine (refBadE _ _ _ w5 false rfl).mono ?_; rintro e w6 ⟨rfl, hbw6⟩
        clear v_e0 v_e1 v_e2
        have T919 := T918.up hbw6
        clear T918
        have v_p0 : w6.cell? ⟨W.heap.size, 0, none⟩ = some (.int .i64 w) := T919.out.1.1.1.1.1.2.1
        have v_p1 : w6.cell? ⟨W.heap.size, 1, none⟩ = some (.int .i64 h) := T919.out.1.1.1.1.1.2.2.1
        have v_p2 : w6.cell? ⟨W.heap.size, 2, none⟩ = some (.slice a n c) := T919.out.1.1.1.1.1.2.2.2
        have hl6 : W.heap.size + 1 + 1 ≤ w6.heap.size := heap_ltT (T919.out.1.1.1.1.2)
        go_wp2_with fail
        refine (rawNew_fresh _ _ _ w6 rfl).mono ?_; rintro e w7 ⟨b1, b2, rfl, lb1, lb2, hw8, hbw7⟩
        clear v_p0 v_p1 v_p2
        have T920 := T919.up hbw7
        clear T919
        obtain ⟨⟨q3, q4, q5⟩, f3, f4, f5⟩ := p_cells (T920.out.1.1.1.1.2)
        obtain ⟨w9, e9, ⟨r0, r1, r2⟩, hk9, hs9, hw9, hb9⟩ := er_set (show W.heap.size ≤ W.heap.size + 1 by omega) (T920.out.1.1.1.1.2) (T920.out.1.1.1.1.1.1.1.2) (fr_some (by omega)) (fr_some (by omega)) (wc_want hw8)
        have HRET := Lib.hid (And.intro hw9 hb9)
        clear hk9 hs9 hw9 hb9 hw8
        have HE9 := Lib.hid e9
        have HR9 := Lib.hid (And.intro r0 (And.intro r1 r2))
        clear e9 r0 r1 r2
        go_wp2
        rw [HE9.out]
        have r0 := HR9.out.1
        have r1 := HR9.out.2.1
        have r2 := HR9.out.2.2
        refine bodyPost_ret (v := .agg #[.int .i64 4, .slice (some ⟨b1, 0, none⟩) 1 1, .slice (some ⟨b2, 0, none⟩) 1 1]) (by simp [results, Tryd.results35, go_sem, r0, r1, r2]) rfl ?_
        rw [HOD.out]
        exact ⟨_, _, _, _, _, _, _, rfl, HRET.out.1, rfl, fr_some (by omega), fr_some (by omega), HRET.out.2⟩
      by_cases hh4 : 4 < (h : Int)
      · skip
        have HOD := Lib.hid (evD_h htd hpe hw8 hh4)
        clear htd hpe
        go_enter Tryd.func35, Tryd.ntmps35
        go_wp2_with fail
        rw [HWb.out]
        refine (refplcheck_ok aT nT cT t Wb T6.out.2 hmT HTD.out).mono ?_; rintro e w0 ⟨rfl, hbw0⟩
        have T7 := T6.up hbw0
        clear T6
        go_wp2_with fail
        refine (refUnder_z _ _ w0).mono ?_; rintro e w1 ⟨rfl, hbw1⟩
        have T8 := T7.up hbw1
        clear T7
        have HLT : Hid (W.heap.size + 1 < w1.heap.size) := heap_ltT (T8.out.1.2)
        have TK1 := T8
        have T9 := T8.add (fun wv => Below w1.heap.size w1 wv) (bnil w1)
        clear T8
        obtain ⟨we, hwe⟩ : ∃ we, w1.alloc (.cells #[.int .i64 0, .slice none 0 0, .slice none 0 0] 60) = we := ⟨_, rfl⟩
        have hbwe : Below w1.heap.size w1 we := by rw [← hwe]; exact balloc (bnil w1) _
        have T10 := T9.up hbwe
        clear T9
        have T11 := T10.add (fun wv => wv.cell? ⟨w1.heap.size, 0, none⟩ = some (.int .i64 0) ∧ wv.cell? ⟨w1.heap.size, 1, none⟩ = some (.slice none 0 0) ∧ wv.cell? ⟨w1.heap.size, 2, none⟩ = some (.slice none 0 0)) (by rw [← hwe]; exact ⟨cnw (by simp) rfl, cnw (by simp) rfl, cnw (by simp) rfl⟩)
        clear T10
        have Hwe := Lib.hid hwe
        clear hwe hbwe
        have hze : we.heap[w1.heap.size]? = some (.cells #[.int .i64 0, .slice none 0 0, .slice none 0 0] 60) := by rw [← Hwe.out]; exact heap_alloc_new w1 _
        have T12 := T11.add (fun wv => wv.heap[w1.heap.size]? = some (.cells #[.int .i64 0, .slice none 0 0, .slice none 0 0] 60)) (hze)
        clear T11
        clear hze
        have v_e0 : (w1.alloc (.cells #[.int .i64 0, .slice none 0 0, .slice none 0 0] 60)).cell? ⟨w1.heap.size, 0, none⟩ = some (.int .i64 0) := by rw [Hwe.out]; exact T12.out.1.2.1
        have v_e1 : (w1.alloc (.cells #[.int .i64 0, .slice none 0 0, .slice none 0 0] 60)).cell? ⟨w1.heap.size, 1, none⟩ = some (.slice none 0 0) := by rw [Hwe.out]; exact T12.out.1.2.2.1
        have v_e2 : (w1.alloc (.cells #[.int .i64 0, .slice none 0 0, .slice none 0 0] 60)).cell? ⟨w1.heap.size, 2, none⟩ = some (.slice none 0 0) := by rw [Hwe.out]; exact T12.out.1.2.2.2
        go_wp2_with fail
        rw [Hwe.out]
        refine (refBadE _ _ _ we false rfl).mono ?_; rintro e w2 ⟨rfl, hbw2⟩
        clear v_e0 v_e1 v_e2
        have T13 := T12.up hbw2
        clear T12
        have v_p0 : w2.cell? ⟨W.heap.size, 0, none⟩ = some (.int .i64 w) := T13.out.1.1.1.1.1.2.1
        have v_p1 : w2.cell? ⟨W.heap.size, 1, none⟩ = some (.int .i64 h) := T13.out.1.1.1.1.1.2.2.1
        have v_p2 : w2.cell? ⟨W.heap.size, 2, none⟩ = some (.slice a n c) := T13.out.1.1.1.1.1.2.2.2
        go_wp2_with fail
        refine (refpcheck_ok w h a n c l w2 T13.out.1.1.1.1.1.1.2 hm HPP.out).mono ?_; rintro e w3 ⟨rfl, hbw3⟩
        clear v_p0 v_p1 v_p2
        have T14 := T13.up hbw3
        clear T13
        go_wp2_with fail
        refine (refUnder_z _ _ w3).mono ?_; rintro e w4 ⟨rfl, hbw4⟩
        have T15 := T14.up hbw4
        clear T14
        obtain ⟨⟨q0, q1, q2⟩, dd0, dd1, dd2⟩ := p_cells (T15.out.2)
        obtain ⟨w5, e5, ⟨r0, r1, r2⟩, hk5, hs5, hb5⟩ := set3p (T15.out.2) (.int .i64 0) (.slice none 0 0) (.slice none 0 0)
        have hE5 : w5.heap[w1.heap.size]? = some (.cells #[.int .i64 0, .slice none 0 0, .slice none 0 0] 60) := by rw [← e5]; exact set3h (T15.out.2) _ _ _
        have hb15 : Below w1.heap.size w1 w5 := hb5 w1 w1.heap.size (Nat.le_refl _) (T15.out.1.1.2)
        have hE1 : w1.heap.size < w4.heap.size := heap_ltT (T15.out.2)
        have HE5 := Lib.hid e5
        have T915 := TK1.up hb15
        clear T15
        have T916 := T915.add (fun wv => wv.cell? ⟨w1.heap.size, 0, none⟩ = some (.int .i64 0) ∧ wv.cell? ⟨w1.heap.size, 1, none⟩ = some (.slice none 0 0) ∧ wv.cell? ⟨w1.heap.size, 2, none⟩ = some (.slice none 0 0)) (⟨r0, r1, r2⟩)
        clear T915
        have T917 := T916.add (fun wv => wv.heap[w1.heap.size]? = some (.cells #[.int .i64 0, .slice none 0 0, .slice none 0 0] 60)) (hE5)
        clear T916
        have T918 := T917.add (fun wv => Below w1.heap.size w1 wv) (hb15)
        clear T917
        clear r0 r1 r2 hb15 hE5 hE1 hk5 hs5 hb5 e5
        clear TK1
        go_wp2_with fail
        rw [HE5.out]
        clear q0 q1 q2 dd0 dd1 dd2 HE5
        have v_e0 : w5.cell? ⟨w1.heap.size, 0, none⟩ = some (.int .i64 0) := T918.out.1.1.2.1
        have v_e1 : w5.cell? ⟨w1.heap.size, 1, none⟩ = some (.slice none 0 0) := T918.out.1.1.2.2.1
        have v_e2 : w5.cell? ⟨w1.heap.size, 2, none⟩ = some (.slice none 0 0) := T918.out.1.1.2.2.2
        go_wp2_with fail
        refine (refBadE _ _ _ w5 false rfl).mono ?_; rintro e w6 ⟨rfl, hbw6⟩
        clear v_e0 v_e1 v_e2
        have T919 := T918.up hbw6
        clear T918
        have v_p0 : w6.cell? ⟨W.heap.size, 0, none⟩ = some (.int .i64 w) := T919.out.1.1.1.1.1.2.1
        have v_p1 : w6.cell? ⟨W.heap.size, 1, none⟩ = some (.int .i64 h) := T919.out.1.1.1.1.1.2.2.1
        have v_p2 : w6.cell? ⟨W.heap.size, 2, none⟩ = some (.slice a n c) := T919.out.1.1.1.1.1.2.2.2
        have hl6 : W.heap.size + 1 + 1 ≤ w6.heap.size := heap_ltT (T919.out.1.1.1.1.2)
        go_wp2_with fail
        refine (rawNew_fresh _ _ _ w6 rfl).mono ?_; rintro e w7 ⟨b1, b2, rfl, lb1, lb2, hw8, hbw7⟩
        clear v_p0 v_p1 v_p2
        have T920 := T919.up hbw7
        clear T919
        obtain ⟨⟨q3, q4, q5⟩, f3, f4, f5⟩ := p_cells (T920.out.1.1.1.1.2)
        obtain ⟨w9, e9, ⟨r0, r1, r2⟩, hk9, hs9, hw9, hb9⟩ := er_set (show W.heap.size ≤ W.heap.size + 1 by omega) (T920.out.1.1.1.1.2) (T920.out.1.1.1.1.1.1.1.2) (fr_some (by omega)) (fr_some (by omega)) (wc_want hw8)
        have HRET := Lib.hid (And.intro hw9 hb9)
        clear hk9 hs9 hw9 hb9 hw8
        have HE9 := Lib.hid e9
        have HR9 := Lib.hid (And.intro r0 (And.intro r1 r2))
        clear e9 r0 r1 r2
        go_wp2
        rw [HE9.out]
        have r0 := HR9.out.1
        have r1 := HR9.out.2.1
        have r2 := HR9.out.2.2
        refine bodyPost_ret (v := .agg #[.int .i64 4, .slice (some ⟨b1, 0, none⟩) 1 1, .slice (some ⟨b2, 0, none⟩) 1 1]) (by simp [results, Tryd.results35, go_sem, r0, r1, r2]) rfl ?_
        rw [HOD.out]
        exact ⟨_, _, _, _, _, _, _, rfl, HRET.out.1, rfl, fr_some (by omega), fr_some (by omega), HRET.out.2⟩
      have HOD := Lib.hid (evD_ok htd hpe hw8 hh4)
      clear htd hpe
      go_enter Tryd.func35, Tryd.ntmps35
      go_wp2_with fail
      rw [HWb.out]
      refine (refplcheck_ok aT nT cT t Wb T6.out.2 hmT HTD.out).mono ?_; rintro e w0 ⟨rfl, hbw0⟩
      have T7 := T6.up hbw0
      clear T6
      go_wp2_with fail
      refine (refUnder_z _ _ w0).mono ?_; rintro e w1 ⟨rfl, hbw1⟩
      have T8 := T7.up hbw1
      clear T7
      have HLT : Hid (W.heap.size + 1 < w1.heap.size) := heap_ltT (T8.out.1.2)
      have TK1 := T8
      have T9 := T8.add (fun wv => Below w1.heap.size w1 wv) (bnil w1)
      clear T8
      obtain ⟨we, hwe⟩ : ∃ we, w1.alloc (.cells #[.int .i64 0, .slice none 0 0, .slice none 0 0] 60) = we := ⟨_, rfl⟩
      have hbwe : Below w1.heap.size w1 we := by rw [← hwe]; exact balloc (bnil w1) _
      have T10 := T9.up hbwe
      clear T9
      have T11 := T10.add (fun wv => wv.cell? ⟨w1.heap.size, 0, none⟩ = some (.int .i64 0) ∧ wv.cell? ⟨w1.heap.size, 1, none⟩ = some (.slice none 0 0) ∧ wv.cell? ⟨w1.heap.size, 2, none⟩ = some (.slice none 0 0)) (by rw [← hwe]; exact ⟨cnw (by simp) rfl, cnw (by simp) rfl, cnw (by simp) rfl⟩)
      clear T10
      have Hwe := Lib.hid hwe
      clear hwe hbwe
      have hze : we.heap[w1.heap.size]? = some (.cells #[.int .i64 0, .slice none 0 0, .slice none 0 0] 60) := by rw [← Hwe.out]; exact heap_alloc_new w1 _
      have T12 := T11.add (fun wv => wv.heap[w1.heap.size]? = some (.cells #[.int .i64 0, .slice none 0 0, .slice none 0 0] 60)) (hze)
      clear T11
      clear hze
      have v_e0 : (w1.alloc (.cells #[.int .i64 0, .slice none 0 0, .slice none 0 0] 60)).cell? ⟨w1.heap.size, 0, none⟩ = some (.int .i64 0) := by rw [Hwe.out]; exact T12.out.1.2.1
      have v_e1 : (w1.alloc (.cells #[.int .i64 0, .slice none 0 0, .slice none 0 0] 60)).cell? ⟨w1.heap.size, 1, none⟩ = some (.slice none 0 0) := by rw [Hwe.out]; exact T12.out.1.2.2.1
      have v_e2 : (w1.alloc (.cells #[.int .i64 0, .slice none 0 0, .slice none 0 0] 60)).cell? ⟨w1.heap.size, 2, none⟩ = some (.slice none 0 0) := by rw [Hwe.out]; exact T12.out.1.2.2.2
      go_wp2_with fail
      rw [Hwe.out]
      refine (refBadE _ _ _ we false rfl).mono ?_; rintro e w2 ⟨rfl, hbw2⟩
      clear v_e0 v_e1 v_e2
      have T13 := T12.up hbw2
      clear T12
      have v_p0 : w2.cell? ⟨W.heap.size, 0, none⟩ = some (.int .i64 w) := T13.out.1.1.1.1.1.2.1
      have v_p1 : w2.cell? ⟨W.heap.size, 1, none⟩ = some (.int .i64 h) := T13.out.1.1.1.1.1.2.2.1
      have v_p2 : w2.cell? ⟨W.heap.size, 2, none⟩ = some (.slice a n c) := T13.out.1.1.1.1.1.2.2.2
      go_wp2_with fail
      refine (refpcheck_ok w h a n c l w2 T13.out.1.1.1.1.1.1.2 hm HPP.out).mono ?_; rintro e w3 ⟨rfl, hbw3⟩
      clear v_p0 v_p1 v_p2
      have T14 := T13.up hbw3
      clear T13
      go_wp2_with fail
      refine (refUnder_z _ _ w3).mono ?_; rintro e w4 ⟨rfl, hbw4⟩
      have T15 := T14.up hbw4
      clear T14
      obtain ⟨⟨q0, q1, q2⟩, dd0, dd1, dd2⟩ := p_cells (T15.out.2)
      obtain ⟨w5, e5, ⟨r0, r1, r2⟩, hk5, hs5, hb5⟩ := set3p (T15.out.2) (.int .i64 0) (.slice none 0 0) (.slice none 0 0)
      have hE5 : w5.heap[w1.heap.size]? = some (.cells #[.int .i64 0, .slice none 0 0, .slice none 0 0] 60) := by rw [← e5]; exact set3h (T15.out.2) _ _ _
      have hb15 : Below w1.heap.size w1 w5 := hb5 w1 w1.heap.size (Nat.le_refl _) (T15.out.1.1.2)
      have hE1 : w1.heap.size < w4.heap.size := heap_ltT (T15.out.2)
      have HE5 := Lib.hid e5
      have T915 := TK1.up hb15
      clear T15
      have T916 := T915.add (fun wv => wv.cell? ⟨w1.heap.size, 0, none⟩ = some (.int .i64 0) ∧ wv.cell? ⟨w1.heap.size, 1, none⟩ = some (.slice none 0 0) ∧ wv.cell? ⟨w1.heap.size, 2, none⟩ = some (.slice none 0 0)) (⟨r0, r1, r2⟩)
      clear T915
      have T917 := T916.add (fun wv => wv.heap[w1.heap.size]? = some (.cells #[.int .i64 0, .slice none 0 0, .slice none 0 0] 60)) (hE5)
      clear T916
      have T918 := T917.add (fun wv => Below w1.heap.size w1 wv) (hb15)
      clear T917
      clear r0 r1 r2 hb15 hE5 hE1 hk5 hs5 hb5 e5
      clear TK1
      go_wp2_with fail
      rw [HE5.out]
      clear q0 q1 q2 dd0 dd1 dd2 HE5
      have v_e0 : w5.cell? ⟨w1.heap.size, 0, none⟩ = some (.int .i64 0) := T918.out.1.1.2.1
      have v_e1 : w5.cell? ⟨w1.heap.size, 1, none⟩ = some (.slice none 0 0) := T918.out.1.1.2.2.1
      have v_e2 : w5.cell? ⟨w1.heap.size, 2, none⟩ = some (.slice none 0 0) := T918.out.1.1.2.2.2
      go_wp2_with fail
      refine (refBadE _ _ _ w5 false rfl).mono ?_; rintro e w6 ⟨rfl, hbw6⟩
      clear v_e0 v_e1 v_e2
      have T919 := T918.up hbw6
      clear T918
      have v_p0 : w6.cell? ⟨W.heap.size, 0, none⟩ = some (.int .i64 w) := T919.out.1.1.1.1.1.2.1
      have v_p1 : w6.cell? ⟨W.heap.size, 1, none⟩ = some (.int .i64 h) := T919.out.1.1.1.1.1.2.2.1
      have v_p2 : w6.cell? ⟨W.heap.size, 2, none⟩ = some (.slice a n c) := T919.out.1.1.1.1.1.2.2.2
      obtain ⟨⟨q3, q4, q5⟩, f3, f4, f5⟩ := p_cells (T919.out.1.1.1.1.2)
      obtain ⟨w9, e9, ⟨r0, r1, r2⟩, hk9, hs9, hw9, hb9⟩ := er_set (show W.heap.size ≤ W.heap.size + 1 by omega) (T919.out.1.1.1.1.2) (T919.out.1.1.1.1.1.1.1.2) fr_none fr_none (wc_none w6)
      have HRET := Lib.hid (And.intro hw9 hb9)
      clear hk9 hs9 hw9 hb9
      have HE9 := Lib.hid e9
      have HR9 := Lib.hid (And.intro r0 (And.intro r1 r2))
      clear e9 r0 r1 r2
      go_wp2
      rw [HE9.out]
      have r0 := HR9.out.1
      have r1 := HR9.out.2.1
      have r2 := HR9.out.2.2
      refine bodyPost_ret (v := .agg #[.int .i64 0, .slice none 0 0, .slice none 0 0]) (by simp [results, Tryd.results35, go_sem, r0, r1, r2]) rfl ?_
      rw [HOD.out]
      exact ⟨_, _, _, _, _, _, _, rfl, HRET.out.1, rfl, fr_none, fr_none, HRET.out.2⟩
end Go.Proofs.YtoaooblodgejdaaDoor
