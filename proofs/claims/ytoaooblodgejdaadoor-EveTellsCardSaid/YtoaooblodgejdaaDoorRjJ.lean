/- edenref24.Judge for any table, patch and bytes. -/
import Derived.Test.YtoaooblodgejdaaDoorJdgX
import Derived.Test.YtoaooblodgejdaaDoorEvP
import Derived.Test.YtoaooblodgejdaaDoorRfDec
import Derived.Test.YtoaooblodgejdaaDoorSym24
import Derived.Test.YtoaooblodgejdaaDoorMst
import Derived.Test.YtoaooblodgejdaaDoorPlaX
import Derived.Test.YtoaooblodgejdaaDoorRefPJ
import Derived.Deep.QuietTactic
import Derived.BigQuiet
namespace Go.Proofs.YtoaooblodgejdaaDoor
open Go.RowKit
set_option linter.unusedVariables false
set_option maxRecDepth 100000

/-- looks, and an error as the document has it -/
def JRef (W : World) (y : Nat × ErrD) (e : Ending) (w' : World) : Prop := ∃ N b1 m1 d1 b2 m2 d2, e = .returned (.tuple #[.int .i64 (y.1 : Nat), .agg #[.int .i64 N, .slice b1 m1 d1, .slice b2 m2 d2]]) ∧ WC w' (.agg #[.int .i64 N, .slice b1 m1 d1, .slice b2 m2 d2]) y.2 ∧ (N != 0) = y.2.isSome ∧ Below W.heap.size W w'
theorem own_gle {w : World} {g n : Nat} {e : TypeId} {cs : List Value} (h : w.ownsRow g e 1 (.slice (some ⟨g, 0, none⟩) n n) n cs) : g ≤ w.heap.size := Nat.le_of_lt (h.lt g rfl).2
theorem set3h {w : World} {g : Nat} {x0 x1 x2 : Value} {t : TypeId} {fr : Nat × Nat} (h : w.heap[g]? = some (.cells #[x0, x1, x2] t fr)) (u0 u1 u2 : Value) : (((w.setCell ⟨g, 0, none⟩ u0).setCell ⟨g, 1, none⟩ u1).setCell ⟨g, 2, none⟩ u2).heap[g]? = some (.cells #[u0, u1, u2] t fr) := by
  simp [World.setCell, Array.getElem?_modify, h]
theorem errVal_zero {w : World} {N : Int} {x y : Value} (h : WantIs w (.agg #[.int .i64 N, x, y]) none) : N = 0 := by
  obtain ⟨ao, aa, co, ca, e, _⟩ := h
  simp only [Value.agg.injEq, Array.mk.injEq, List.cons.injEq, Value.int.injEq] at e
  exact e.1.2
theorem tabD_len {t : List Int} {x : List (ByteArray × Int) × Int} (h : tabD t = some x) : x.1.length = 1 := by
  unfold tabD at h
  split at h
  · cases h; rfl
  · split at h
    · cases h; rfl
    · cases h
theorem gvD_tab {t : List Int} {w h : Int} {l : List Int} {x : List (ByteArray × Int) × Int} (ht : tabD t = some x) : gvD t w h l = some ((opJudge, 0) :: x.1, x.2) := by unfold gvD; rw [ht]
theorem gvD_pat {t : List Int} {w h : Int} {l : List Int} {y : Int × Int} (ht : tabD t = none) (hp : patchErr w h l = some y) : gvD t w h l = some ([(opJudge, 1), (opPatch, y.1)], y.2) := by unfold gvD; rw [ht, hp]
theorem gvD_w {t : List Int} {w h : Int} {l : List Int} (ht : tabD t = none) (hp : patchErr w h l = none) (hw : 8 < w) : gvD t w h l = some ([(opJudge, 1)], 4) := by unfold gvD; rw [ht, hp]; exact if_pos hw
theorem gvD_h {t : List Int} {w h : Int} {l : List Int} (ht : tabD t = none) (hp : patchErr w h l = none) (hw : ¬ 8 < w) (hh : 4 < h) : gvD t w h l = some ([(opJudge, 2)], 4) := by unfold gvD; rw [ht, hp]; exact (if_neg hw).trans (if_pos hh)
theorem gvD_ok {t : List Int} {w h : Int} {l : List Int} (ht : tabD t = none) (hp : patchErr w h l = none) (hw : ¬ 8 < w) (hh : ¬ 4 < h) : gvD t w h l = none := by unfold gvD; rw [ht, hp]; exact (if_neg hw).trans (if_neg hh)
set_option maxHeartbeats 16000000 in
theorem refjudge_any (w h : Int) (a aT aB : Option Addr) (n c nT cT cB : Nat) (l t bs : List Int) (W : World) (hR : RK .i64 W a n l) (hm : n ≤ maxLen) (hT : RK .i64 W aT nT t) (hmT : nT ≤ maxLen) (hBs : RK .u8 W aB bs.length bs) (hBr : ∀ x ∈ bs, 0 ≤ x ∧ x ≤ 255) (hBl : bs.length ≤ maxLen) :
    Calls Tryd.prog 43 #[.slice aT nT cT, patV w h a n c, .slice aB bs.length cB] W (JRef W (judgeF t w h l bs)) := by
  have T0 := Tk.nil W
  have T1 := T0.add (fun wv => Below W.heap.size W wv) (bnil W)
  clear T0
  have T2 := T1.add (fun wv => RK .i64 wv a n l) (hR)
  clear T1
  obtain ⟨Wb, hWb⟩ : ∃ Wb, (W.alloc (.cells #[.int .i64 w, .int .i64 h, .slice a n c] 24)).alloc (.cells #[.int .i64 0, .slice none 0 0, .slice none 0 0] 60) = Wb := ⟨_, rfl⟩
  have hbWb : Below W.heap.size W Wb := by rw [← hWb]; exact balloc (balloc (bnil W) _) _
  have T3 := T2.up hbWb
  clear T2
  have T4 := T3.add (fun wv => wv.cell? ⟨W.heap.size, 0, none⟩ = some (.int .i64 w) ∧ wv.cell? ⟨W.heap.size, 1, none⟩ = some (.int .i64 h) ∧ wv.cell? ⟨W.heap.size, 2, none⟩ = some (.slice a n c)) (by rw [← hWb]; exact ⟨al000 (cnw (by simp) rfl), al000 (cnw (by simp) rfl), al000 (cnw (by simp) rfl)⟩)
  clear T3
  have HWb := Lib.hid hWb
  clear hWb hbWb
  have hz2 : Wb.heap[W.heap.size + 1]? = some (.cells #[.int .i64 0, .slice none 0 0, .slice none 0 0] 60) := by
    rw [← HWb.out]
    have := heap_alloc_new (W.alloc (.cells #[.int .i64 w, .int .i64 h, .slice a n c] 24)) (.cells #[.int .i64 0, .slice none 0 0, .slice none 0 0] 60)
    simpa using this
  have hsz : W.heap.size + 1 + 1 = Wb.heap.size := by rw [← HWb.out]; simp
  have T5 := T4.add (fun wv => wv.heap[W.heap.size + 1]? = some (.cells #[.int .i64 0, .slice none 0 0, .slice none 0 0] 60)) (hz2)
  clear T4
  have HSZ := Lib.hid hsz
  clear hz2 hsz
  have hTb : RK .i64 Wb aT nT t := hT.up (by rw [← HWb.out]; exact balloc (balloc (bnil W) _) _)
  have hBb : RK .u8 Wb aB bs.length bs := hBs.up (by rw [← HWb.out]; exact balloc (balloc (bnil W) _) _)
  have T6 := T5.add (fun wv => RK .i64 wv aT nT t) (hTb)
  clear T5
  have T7 := T6.add (fun wv => RK .u8 wv aB bs.length bs) (hBb)
  clear T6
  have HBR := Lib.hid hBr
  clear hR hT hBs hTb hBb hBr
  cases htd : tabD t with
  | some x =>
    have hxl := tabD_len htd
    have HOD := Lib.hid (judgeF_gv (bs := bs) (gvD_tab (w := w) (h := h) (l := l) htd))
    obtain ⟨es0, n0⟩ := x
    have HTD := Lib.hid htd
    clear htd
    go_enter Tryd.func43, Tryd.ntmps43
    go_wp2_with fail
    rw [HWb.out]
    refine (refplcheck_any aT nT cT t Wb T7.out.1.2 hmT).mono ?_; rintro e w0 ⟨N0, a1, n1, c1, a2, n2, c2, rfl, hw, _, _, _, _, hbw0⟩
    have T8 := T7.up hbw0
    clear T7
    rw [HTD.out] at hw
    obtain rfl := wc_numP hw
    have hxl : es0.length = 1 := hxl
    have HWQ := Lib.hid hw
    clear hw
    go_wp2_with fail
    refine (refUnder_some _ _ _ _ a1 a2 n1 c1 n2 c2 w0 HWQ.out (by omega) (by omega)).mono ?_; rintro e w1 ⟨N, b1, m1, d1, b2, m2, d2, rfl, hw, f1, f2, hN, _, hbw1⟩
    have T9 := T8.up hbw1
    clear T8
    have T10 := T9.add (fun wv => WC wv (.agg #[.int .i64 N, .slice b1 m1 d1, .slice b2 m2 d2]) (some ((opJudge, 0) :: es0, N0))) (hw)
    clear T9
    have hl0 : W.heap.size + 1 + 1 ≤ w0.heap.size := by have h1 := HSZ.out; have h2 := hbw0.size; omega
    have HLT : Hid (W.heap.size + 1 < w1.heap.size) := heap_ltT (T10.out.1.1.1.2)
    have HNS := Lib.hid hN
    have HF := Lib.hid (And.intro (f1.base hl0) (f2.base hl0))
    clear hw f1 f2 hN
    obtain ⟨we, hwe⟩ : ∃ we, w1.alloc (.cells #[.int .i64 N, .slice b1 m1 d1, .slice b2 m2 d2] 60) = we := ⟨_, rfl⟩
    have hbwe : Below w1.heap.size w1 we := by rw [← hwe]; exact balloc (bnil w1) _
    have T11 := T10.up hbwe
    clear T10
    have T12 := T11.add (fun wv => wv.cell? ⟨w1.heap.size, 0, none⟩ = some (.int .i64 N) ∧ wv.cell? ⟨w1.heap.size, 1, none⟩ = some (.slice b1 m1 d1) ∧ wv.cell? ⟨w1.heap.size, 2, none⟩ = some (.slice b2 m2 d2)) (by rw [← hwe]; exact ⟨cnw (by simp) rfl, cnw (by simp) rfl, cnw (by simp) rfl⟩)
    clear T11
    have Hwe := Lib.hid hwe
    clear hwe hbwe
    have v_e0 : (w1.alloc (.cells #[.int .i64 N, .slice b1 m1 d1, .slice b2 m2 d2] 60)).cell? ⟨w1.heap.size, 0, none⟩ = some (.int .i64 N) := by rw [Hwe.out]; exact T12.out.2.1
    have v_e1 : (w1.alloc (.cells #[.int .i64 N, .slice b1 m1 d1, .slice b2 m2 d2] 60)).cell? ⟨w1.heap.size, 1, none⟩ = some (.slice b1 m1 d1) := by rw [Hwe.out]; exact T12.out.2.2.1
    have v_e2 : (w1.alloc (.cells #[.int .i64 N, .slice b1 m1 d1, .slice b2 m2 d2] 60)).cell? ⟨w1.heap.size, 2, none⟩ = some (.slice b2 m2 d2) := by rw [Hwe.out]; exact T12.out.2.2.2
    go_wp2_with fail
    rw [Hwe.out]
    refine (refBadE _ _ _ we true HNS.out).mono ?_; rintro e w2 ⟨rfl, hbw2⟩
    clear v_e0 v_e1 v_e2
    have T13 := T12.up hbw2
    clear T12
    have v_e0 : w2.cell? ⟨w1.heap.size, 0, none⟩ = some (.int .i64 N) := T13.out.2.1
    have v_e1 : w2.cell? ⟨w1.heap.size, 1, none⟩ = some (.slice b1 m1 d1) := T13.out.2.2.1
    have v_e2 : w2.cell? ⟨w1.heap.size, 2, none⟩ = some (.slice b2 m2 d2) := T13.out.2.2.2
    go_wp2_with fail
    refine (refBadE _ _ _ w2 true HNS.out).mono ?_; rintro e w3 ⟨rfl, hbw3⟩
    clear v_e0 v_e1 v_e2
    have T14 := T13.up hbw3
    clear T13
    have v_e0 : w3.cell? ⟨w1.heap.size, 0, none⟩ = some (.int .i64 N) := T14.out.2.1
    have v_e1 : w3.cell? ⟨w1.heap.size, 1, none⟩ = some (.slice b1 m1 d1) := T14.out.2.2.1
    have v_e2 : w3.cell? ⟨w1.heap.size, 2, none⟩ = some (.slice b2 m2 d2) := T14.out.2.2.2
    obtain ⟨⟨q3, q4, q5⟩, f3, f4, f5⟩ := p_cells (T14.out.1.1.1.1.2)
    obtain ⟨w9, e9, ⟨r0, r1, r2⟩, hk9, hs9, hw9, hb9⟩ := er_set (show W.heap.size ≤ W.heap.size + 1 by omega) (T14.out.1.1.1.1.2) (T14.out.1.1.1.1.1.1.1.2) (HF.out.1) (HF.out.2) (T14.out.1.2)
    have HRET := Lib.hid (And.intro hw9 hb9)
    clear hk9 hs9 hw9 hb9
    have HE9 := Lib.hid e9
    have HR9 := Lib.hid (And.intro r0 (And.intro r1 r2))
    clear e9 r0 r1 r2
    have ne1 : ¬ w1.heap.size = W.heap.size + 1 := by have := HLT.out; omega
    have ne2 : ¬ W.heap.size + 1 = w1.heap.size := by have := HLT.out; omega
    go_wp2_with fail
    go_region
    all_goals
      go_wp2
      rw [HE9.out]
      have r0 := HR9.out.1
      have r1 := HR9.out.2.1
      have r2 := HR9.out.2.2
      refine bodyPost_ret (v := .tuple #[.int .i64 0, .agg #[.int .i64 N, .slice b1 m1 d1, .slice b2 m2 d2]]) (by simp [results, Tryd.results43, go_sem, r0, r1, r2]) rfl ?_
      rw [HOD.out]
      exact ⟨_, _, _, _, _, _, _, rfl, HRET.out.1.up (Below.drew (bnil _)), HNS.out, Below.drew HRET.out.2⟩
  | none =>
    have HTD := Lib.hid htd
    cases hpe : patchErr w h l with
    | some y =>
      have HOD := Lib.hid (judgeF_gv (bs := bs) (gvD_pat htd hpe))
      have hq : patchD w h l = some ([(opPatch, y.1)], y.2) := by unfold patchD; rw [hpe]; rfl
      have HQ := Lib.hid hq
      clear hq htd hpe
      go_enter Tryd.func43, Tryd.ntmps43
      go_wp2_with fail
      rw [HWb.out]
      refine (refplcheck_ok aT nT cT t Wb T7.out.1.2 hmT HTD.out).mono ?_; rintro e w0 ⟨rfl, hbw0⟩
      have T8 := T7.up hbw0
      clear T7
      go_wp2_with fail
      refine (refUnder_z _ _ w0).mono ?_; rintro e w1 ⟨rfl, hbw1⟩
      have T9 := T8.up hbw1
      clear T8
      have HLT : Hid (W.heap.size + 1 < w1.heap.size) := heap_ltT (T9.out.1.1.2)
      have TK1 := T9
      have T10 := T9.add (fun wv => Below w1.heap.size w1 wv) (bnil w1)
      clear T9
      obtain ⟨we, hwe⟩ : ∃ we, w1.alloc (.cells #[.int .i64 0, .slice none 0 0, .slice none 0 0] 60) = we := ⟨_, rfl⟩
      have hbwe : Below w1.heap.size w1 we := by rw [← hwe]; exact balloc (bnil w1) _
      have T11 := T10.up hbwe
      clear T10
      have T12 := T11.add (fun wv => wv.cell? ⟨w1.heap.size, 0, none⟩ = some (.int .i64 0) ∧ wv.cell? ⟨w1.heap.size, 1, none⟩ = some (.slice none 0 0) ∧ wv.cell? ⟨w1.heap.size, 2, none⟩ = some (.slice none 0 0)) (by rw [← hwe]; exact ⟨cnw (by simp) rfl, cnw (by simp) rfl, cnw (by simp) rfl⟩)
      clear T11
      have Hwe := Lib.hid hwe
      clear hwe hbwe
      have hze : we.heap[w1.heap.size]? = some (.cells #[.int .i64 0, .slice none 0 0, .slice none 0 0] 60) := by rw [← Hwe.out]; exact heap_alloc_new w1 _
      have T13 := T12.add (fun wv => wv.heap[w1.heap.size]? = some (.cells #[.int .i64 0, .slice none 0 0, .slice none 0 0] 60)) (hze)
      clear T12
      clear hze
      have v_e0 : (w1.alloc (.cells #[.int .i64 0, .slice none 0 0, .slice none 0 0] 60)).cell? ⟨w1.heap.size, 0, none⟩ = some (.int .i64 0) := by rw [Hwe.out]; exact T13.out.1.2.1
      have v_e1 : (w1.alloc (.cells #[.int .i64 0, .slice none 0 0, .slice none 0 0] 60)).cell? ⟨w1.heap.size, 1, none⟩ = some (.slice none 0 0) := by rw [Hwe.out]; exact T13.out.1.2.2.1
      have v_e2 : (w1.alloc (.cells #[.int .i64 0, .slice none 0 0, .slice none 0 0] 60)).cell? ⟨w1.heap.size, 2, none⟩ = some (.slice none 0 0) := by rw [Hwe.out]; exact T13.out.1.2.2.2
      go_wp2_with fail
      rw [Hwe.out]
      refine (refBadE _ _ _ we false rfl).mono ?_; rintro e w2 ⟨rfl, hbw2⟩
      clear v_e0 v_e1 v_e2
      have T14 := T13.up hbw2
      clear T13
      have v_p0 : w2.cell? ⟨W.heap.size, 0, none⟩ = some (.int .i64 w) := T14.out.1.1.1.1.1.1.2.1
      have v_p1 : w2.cell? ⟨W.heap.size, 1, none⟩ = some (.int .i64 h) := T14.out.1.1.1.1.1.1.2.2.1
      have v_p2 : w2.cell? ⟨W.heap.size, 2, none⟩ = some (.slice a n c) := T14.out.1.1.1.1.1.1.2.2.2
      go_wp2_with fail
      refine (refpcheck_any w h a n c l w2 T14.out.1.1.1.1.1.1.1.2 hm).mono ?_; rintro e w3 ⟨N0, a1, n1, c1, a2, n2, c2, rfl, hw, _, _, _, _, hbw3⟩
      clear v_p0 v_p1 v_p2
      have T15 := T14.up hbw3
      clear T14
      rw [HQ.out] at hw
      obtain rfl := wc_numP hw
      have HW3 := Lib.hid hw
      clear hw
      have hl3 : w1.heap.size + 1 ≤ w3.heap.size := heap_ltT (T15.out.2)
      go_wp2_with fail
      refine (refUnder_some _ _ _ _ a1 a2 n1 c1 n2 c2 w3 HW3.out (by simp) (by simp)).mono ?_; rintro e w4 ⟨N, b1, m1, d1, b2, m2, d2, rfl, hw, f1, f2, hN, _, hbw4⟩
      have T16 := T15.up hbw4
      clear T15
      obtain ⟨⟨q0, q1, q2⟩, dd0, dd1, dd2⟩ := p_cells (T16.out.2)
      obtain ⟨w5, e5, ⟨r0, r1, r2⟩, hk5, hs5, hb5⟩ := set3p (T16.out.2) (.int .i64 N) (.slice b1 m1 d1) (.slice b2 m2 d2)
      have hE5 : w5.heap[w1.heap.size]? = some (.cells #[.int .i64 N, .slice b1 m1 d1, .slice b2 m2 d2] 60) := by rw [← e5]; exact set3h (T16.out.2) _ _ _
      have hb15 : Below w1.heap.size w1 w5 := hb5 w1 w1.heap.size (Nat.le_refl _) (T16.out.1.1.2)
      have hE1 : w1.heap.size < w4.heap.size := heap_ltT (T16.out.2)
      have HE5 := Lib.hid e5
      have hw5 := hw.other hk5 hs5 (f1.base hl3) (f2.base hl3)
      have HF : Hid (Fr (W.heap.size + 1 + 1) b1 ∧ Fr (W.heap.size + 1 + 1) b2) := ⟨f1.base (by have := HLT.out; omega), f2.base (by have := HLT.out; omega)⟩
      have HNS := Lib.hid hN
      clear hl3 hw f1 f2 hN
      have T916 := TK1.up hb15
      clear T16
      have T917 := T916.add (fun wv => wv.cell? ⟨w1.heap.size, 0, none⟩ = some (.int .i64 N) ∧ wv.cell? ⟨w1.heap.size, 1, none⟩ = some (.slice b1 m1 d1) ∧ wv.cell? ⟨w1.heap.size, 2, none⟩ = some (.slice b2 m2 d2)) (⟨r0, r1, r2⟩)
      clear T916
      have T918 := T917.add (fun wv => wv.heap[w1.heap.size]? = some (.cells #[.int .i64 N, .slice b1 m1 d1, .slice b2 m2 d2] 60)) (hE5)
      clear T917
      have T919 := T918.add (fun wv => Below w1.heap.size w1 wv) (hb15)
      clear T918
      clear r0 r1 r2 hb15 hE5 hE1 hk5 hs5 hb5 e5
      have T920 := T919.add (fun wv => WC wv (.agg #[.int .i64 N, .slice b1 m1 d1, .slice b2 m2 d2]) (some ([(opJudge, 1), (opPatch, y.1)], y.2))) (hw5)
      clear T919
      clear hw5 TK1
      go_wp2_with fail
      rw [HE5.out]
      clear q0 q1 q2 dd0 dd1 dd2 HE5
      have v_e0 : w5.cell? ⟨w1.heap.size, 0, none⟩ = some (.int .i64 N) := T920.out.1.1.1.2.1
      have v_e1 : w5.cell? ⟨w1.heap.size, 1, none⟩ = some (.slice b1 m1 d1) := T920.out.1.1.1.2.2.1
      have v_e2 : w5.cell? ⟨w1.heap.size, 2, none⟩ = some (.slice b2 m2 d2) := T920.out.1.1.1.2.2.2
      go_wp2_with fail
      refine (refBadE _ _ _ w5 true HNS.out).mono ?_; rintro e w6 ⟨rfl, hbw6⟩
      clear v_e0 v_e1 v_e2
      have T921 := T920.up hbw6
      clear T920
      have v_e0 : w6.cell? ⟨w1.heap.size, 0, none⟩ = some (.int .i64 N) := T921.out.1.1.1.2.1
      have v_e1 : w6.cell? ⟨w1.heap.size, 1, none⟩ = some (.slice b1 m1 d1) := T921.out.1.1.1.2.2.1
      have v_e2 : w6.cell? ⟨w1.heap.size, 2, none⟩ = some (.slice b2 m2 d2) := T921.out.1.1.1.2.2.2
      obtain ⟨⟨q3, q4, q5⟩, f3, f4, f5⟩ := p_cells (T921.out.1.1.1.1.1.1.2)
      obtain ⟨w9, e9, ⟨r0, r1, r2⟩, hk9, hs9, hw9, hb9⟩ := er_set (show W.heap.size ≤ W.heap.size + 1 by omega) (T921.out.1.1.1.1.1.1.2) (T921.out.1.1.1.1.1.1.1.1.1.2) (HF.out.1) (HF.out.2) (T921.out.2)
      have HRET := Lib.hid (And.intro hw9 hb9)
      clear hk9 hs9 hw9 hb9
      have HE9 := Lib.hid e9
      have HR9 := Lib.hid (And.intro r0 (And.intro r1 r2))
      clear e9 r0 r1 r2
      have ne1 : ¬ w1.heap.size = W.heap.size + 1 := by have := HLT.out; omega
      have ne2 : ¬ W.heap.size + 1 = w1.heap.size := by have := HLT.out; omega
      go_wp2_with fail
      go_region
      all_goals
        go_wp2
        rw [HE9.out]
        have r0 := HR9.out.1
        have r1 := HR9.out.2.1
        have r2 := HR9.out.2.2
        refine bodyPost_ret (v := .tuple #[.int .i64 0, .agg #[.int .i64 N, .slice b1 m1 d1, .slice b2 m2 d2]]) (by simp [results, Tryd.results43, go_sem, r0, r1, r2]) rfl ?_
        rw [HOD.out]
        exact ⟨_, _, _, _, _, _, _, rfl, HRET.out.1.up (Below.drew (bnil _)), HNS.out, Below.drew HRET.out.2⟩
    | none =>
      obtain ⟨w, h, rfl, rfl, hp⟩ := patchErr_none hpe
      have HPP := Lib.hid hp
      clear hp
      by_cases hw8 : 8 < (w : Int)
      · skip
        have HOD := Lib.hid (judgeF_gv (bs := bs) (gvD_w htd hpe hw8))
        clear htd hpe
        go_enter Tryd.func43, Tryd.ntmps43
        go_wp2_with fail
        rw [HWb.out]
        refine (refplcheck_ok aT nT cT t Wb T7.out.1.2 hmT HTD.out).mono ?_; rintro e w0 ⟨rfl, hbw0⟩
        have T8 := T7.up hbw0
        clear T7
        go_wp2_with fail
        refine (refUnder_z _ _ w0).mono ?_; rintro e w1 ⟨rfl, hbw1⟩
        have T9 := T8.up hbw1
        clear T8
        have HLT : Hid (W.heap.size + 1 < w1.heap.size) := heap_ltT (T9.out.1.1.2)
        have TK1 := T9
        have T10 := T9.add (fun wv => Below w1.heap.size w1 wv) (bnil w1)
        clear T9
        obtain ⟨we, hwe⟩ : ∃ we, w1.alloc (.cells #[.int .i64 0, .slice none 0 0, .slice none 0 0] 60) = we := ⟨_, rfl⟩
        have hbwe : Below w1.heap.size w1 we := by rw [← hwe]; exact balloc (bnil w1) _
        have T11 := T10.up hbwe
        clear T10
        have T12 := T11.add (fun wv => wv.cell? ⟨w1.heap.size, 0, none⟩ = some (.int .i64 0) ∧ wv.cell? ⟨w1.heap.size, 1, none⟩ = some (.slice none 0 0) ∧ wv.cell? ⟨w1.heap.size, 2, none⟩ = some (.slice none 0 0)) (by rw [← hwe]; exact ⟨cnw (by simp) rfl, cnw (by simp) rfl, cnw (by simp) rfl⟩)
        clear T11
        have Hwe := Lib.hid hwe
        clear hwe hbwe
        have hze : we.heap[w1.heap.size]? = some (.cells #[.int .i64 0, .slice none 0 0, .slice none 0 0] 60) := by rw [← Hwe.out]; exact heap_alloc_new w1 _
        have T13 := T12.add (fun wv => wv.heap[w1.heap.size]? = some (.cells #[.int .i64 0, .slice none 0 0, .slice none 0 0] 60)) (hze)
        clear T12
        clear hze
        have v_e0 : (w1.alloc (.cells #[.int .i64 0, .slice none 0 0, .slice none 0 0] 60)).cell? ⟨w1.heap.size, 0, none⟩ = some (.int .i64 0) := by rw [Hwe.out]; exact T13.out.1.2.1
        have v_e1 : (w1.alloc (.cells #[.int .i64 0, .slice none 0 0, .slice none 0 0] 60)).cell? ⟨w1.heap.size, 1, none⟩ = some (.slice none 0 0) := by rw [Hwe.out]; exact T13.out.1.2.2.1
        have v_e2 : (w1.alloc (.cells #[.int .i64 0, .slice none 0 0, .slice none 0 0] 60)).cell? ⟨w1.heap.size, 2, none⟩ = some (.slice none 0 0) := by rw [Hwe.out]; exact T13.out.1.2.2.2
        go_wp2_with fail
        rw [Hwe.out]
        refine (refBadE _ _ _ we false rfl).mono ?_; rintro e w2 ⟨rfl, hbw2⟩
        clear v_e0 v_e1 v_e2
        have T14 := T13.up hbw2
        clear T13
        have v_p0 : w2.cell? ⟨W.heap.size, 0, none⟩ = some (.int .i64 w) := T14.out.1.1.1.1.1.1.2.1
        have v_p1 : w2.cell? ⟨W.heap.size, 1, none⟩ = some (.int .i64 h) := T14.out.1.1.1.1.1.1.2.2.1
        have v_p2 : w2.cell? ⟨W.heap.size, 2, none⟩ = some (.slice a n c) := T14.out.1.1.1.1.1.1.2.2.2
        go_wp2_with fail
        refine (refpcheck_ok w h a n c l w2 T14.out.1.1.1.1.1.1.1.2 hm HPP.out).mono ?_; rintro e w3 ⟨rfl, hbw3⟩
        clear v_p0 v_p1 v_p2
        have T15 := T14.up hbw3
        clear T14
        go_wp2_with fail
        refine (refUnder_z _ _ w3).mono ?_; rintro e w4 ⟨rfl, hbw4⟩
        have T16 := T15.up hbw4
        clear T15
        obtain ⟨⟨q0, q1, q2⟩, dd0, dd1, dd2⟩ := p_cells (T16.out.2)
        obtain ⟨w5, e5, ⟨r0, r1, r2⟩, hk5, hs5, hb5⟩ := set3p (T16.out.2) (.int .i64 0) (.slice none 0 0) (.slice none 0 0)
        have hE5 : w5.heap[w1.heap.size]? = some (.cells #[.int .i64 0, .slice none 0 0, .slice none 0 0] 60) := by rw [← e5]; exact set3h (T16.out.2) _ _ _
        have hb15 : Below w1.heap.size w1 w5 := hb5 w1 w1.heap.size (Nat.le_refl _) (T16.out.1.1.2)
        have hE1 : w1.heap.size < w4.heap.size := heap_ltT (T16.out.2)
        have HE5 := Lib.hid e5
        have T916 := TK1.up hb15
        clear T16
        have T917 := T916.add (fun wv => wv.cell? ⟨w1.heap.size, 0, none⟩ = some (.int .i64 0) ∧ wv.cell? ⟨w1.heap.size, 1, none⟩ = some (.slice none 0 0) ∧ wv.cell? ⟨w1.heap.size, 2, none⟩ = some (.slice none 0 0)) (⟨r0, r1, r2⟩)
        clear T916
        have T918 := T917.add (fun wv => wv.heap[w1.heap.size]? = some (.cells #[.int .i64 0, .slice none 0 0, .slice none 0 0] 60)) (hE5)
        clear T917
        have T919 := T918.add (fun wv => Below w1.heap.size w1 wv) (hb15)
        clear T918
        clear r0 r1 r2 hb15 hE5 hE1 hk5 hs5 hb5 e5
        clear TK1
        go_wp2_with fail
        rw [HE5.out]
        clear q0 q1 q2 dd0 dd1 dd2 HE5
        have v_e0 : w5.cell? ⟨w1.heap.size, 0, none⟩ = some (.int .i64 0) := T919.out.1.1.2.1
        have v_e1 : w5.cell? ⟨w1.heap.size, 1, none⟩ = some (.slice none 0 0) := T919.out.1.1.2.2.1
        have v_e2 : w5.cell? ⟨w1.heap.size, 2, none⟩ = some (.slice none 0 0) := T919.out.1.1.2.2.2
        go_wp2_with fail
        refine (refBadE _ _ _ w5 false rfl).mono ?_; rintro e w6 ⟨rfl, hbw6⟩
        clear v_e0 v_e1 v_e2
        have T920 := T919.up hbw6
        clear T919
        have v_p0 : w6.cell? ⟨W.heap.size, 0, none⟩ = some (.int .i64 w) := T920.out.1.1.1.1.1.1.2.1
        have v_p1 : w6.cell? ⟨W.heap.size, 1, none⟩ = some (.int .i64 h) := T920.out.1.1.1.1.1.1.2.2.1
        have v_p2 : w6.cell? ⟨W.heap.size, 2, none⟩ = some (.slice a n c) := T920.out.1.1.1.1.1.1.2.2.2
        have hl6 : W.heap.size + 1 + 1 ≤ w6.heap.size := heap_ltT (T920.out.1.1.1.1.1.2)
        go_wp2_with fail
        refine (rawNew_fresh _ _ _ w6 rfl).mono ?_; rintro e w7 ⟨b1, b2, rfl, lb1, lb2, hw8, hbw7⟩
        clear v_p0 v_p1 v_p2
        have T921 := T920.up hbw7
        clear T920
        obtain ⟨⟨q3, q4, q5⟩, f3, f4, f5⟩ := p_cells (T921.out.1.1.1.1.1.2)
        obtain ⟨w9, e9, ⟨r0, r1, r2⟩, hk9, hs9, hw9, hb9⟩ := er_set (show W.heap.size ≤ W.heap.size + 1 by omega) (T921.out.1.1.1.1.1.2) (T921.out.1.1.1.1.1.1.1.1.2) (fr_some (by omega)) (fr_some (by omega)) (wc_want hw8)
        have HRET := Lib.hid (And.intro hw9 hb9)
        clear hk9 hs9 hw9 hb9 lb1 lb2 hw8
        have HE9 := Lib.hid e9
        have HR9 := Lib.hid (And.intro r0 (And.intro r1 r2))
        clear e9 r0 r1 r2
        go_wp2
        rw [HE9.out]
        have r0 := HR9.out.1
        have r1 := HR9.out.2.1
        have r2 := HR9.out.2.2
        refine bodyPost_ret (v := .tuple #[.int .i64 0, .agg #[.int .i64 4, .slice (some ⟨b1, 0, none⟩) 1 1, .slice (some ⟨b2, 0, none⟩) 1 1]]) (by simp [results, Tryd.results43, go_sem, r0, r1, r2]) rfl ?_
        rw [HOD.out]
        exact ⟨_, _, _, _, _, _, _, rfl, HRET.out.1, rfl, HRET.out.2⟩
      by_cases hh4 : 4 < (h : Int)
      · skip
        have HOD := Lib.hid (judgeF_gv (bs := bs) (gvD_h htd hpe hw8 hh4))
        clear htd hpe
        go_enter Tryd.func43, Tryd.ntmps43
        go_wp2_with fail
        rw [HWb.out]
        refine (refplcheck_ok aT nT cT t Wb T7.out.1.2 hmT HTD.out).mono ?_; rintro e w0 ⟨rfl, hbw0⟩
        have T8 := T7.up hbw0
        clear T7
        go_wp2_with fail
        refine (refUnder_z _ _ w0).mono ?_; rintro e w1 ⟨rfl, hbw1⟩
        have T9 := T8.up hbw1
        clear T8
        have HLT : Hid (W.heap.size + 1 < w1.heap.size) := heap_ltT (T9.out.1.1.2)
        have TK1 := T9
        have T10 := T9.add (fun wv => Below w1.heap.size w1 wv) (bnil w1)
        clear T9
        obtain ⟨we, hwe⟩ : ∃ we, w1.alloc (.cells #[.int .i64 0, .slice none 0 0, .slice none 0 0] 60) = we := ⟨_, rfl⟩
        have hbwe : Below w1.heap.size w1 we := by rw [← hwe]; exact balloc (bnil w1) _
        have T11 := T10.up hbwe
        clear T10
        have T12 := T11.add (fun wv => wv.cell? ⟨w1.heap.size, 0, none⟩ = some (.int .i64 0) ∧ wv.cell? ⟨w1.heap.size, 1, none⟩ = some (.slice none 0 0) ∧ wv.cell? ⟨w1.heap.size, 2, none⟩ = some (.slice none 0 0)) (by rw [← hwe]; exact ⟨cnw (by simp) rfl, cnw (by simp) rfl, cnw (by simp) rfl⟩)
        clear T11
        have Hwe := Lib.hid hwe
        clear hwe hbwe
        have hze : we.heap[w1.heap.size]? = some (.cells #[.int .i64 0, .slice none 0 0, .slice none 0 0] 60) := by rw [← Hwe.out]; exact heap_alloc_new w1 _
        have T13 := T12.add (fun wv => wv.heap[w1.heap.size]? = some (.cells #[.int .i64 0, .slice none 0 0, .slice none 0 0] 60)) (hze)
        clear T12
        clear hze
        have v_e0 : (w1.alloc (.cells #[.int .i64 0, .slice none 0 0, .slice none 0 0] 60)).cell? ⟨w1.heap.size, 0, none⟩ = some (.int .i64 0) := by rw [Hwe.out]; exact T13.out.1.2.1
        have v_e1 : (w1.alloc (.cells #[.int .i64 0, .slice none 0 0, .slice none 0 0] 60)).cell? ⟨w1.heap.size, 1, none⟩ = some (.slice none 0 0) := by rw [Hwe.out]; exact T13.out.1.2.2.1
        have v_e2 : (w1.alloc (.cells #[.int .i64 0, .slice none 0 0, .slice none 0 0] 60)).cell? ⟨w1.heap.size, 2, none⟩ = some (.slice none 0 0) := by rw [Hwe.out]; exact T13.out.1.2.2.2
        go_wp2_with fail
        rw [Hwe.out]
        refine (refBadE _ _ _ we false rfl).mono ?_; rintro e w2 ⟨rfl, hbw2⟩
        clear v_e0 v_e1 v_e2
        have T14 := T13.up hbw2
        clear T13
        have v_p0 : w2.cell? ⟨W.heap.size, 0, none⟩ = some (.int .i64 w) := T14.out.1.1.1.1.1.1.2.1
        have v_p1 : w2.cell? ⟨W.heap.size, 1, none⟩ = some (.int .i64 h) := T14.out.1.1.1.1.1.1.2.2.1
        have v_p2 : w2.cell? ⟨W.heap.size, 2, none⟩ = some (.slice a n c) := T14.out.1.1.1.1.1.1.2.2.2
        go_wp2_with fail
        refine (refpcheck_ok w h a n c l w2 T14.out.1.1.1.1.1.1.1.2 hm HPP.out).mono ?_; rintro e w3 ⟨rfl, hbw3⟩
        clear v_p0 v_p1 v_p2
        have T15 := T14.up hbw3
        clear T14
        go_wp2_with fail
        refine (refUnder_z _ _ w3).mono ?_; rintro e w4 ⟨rfl, hbw4⟩
        have T16 := T15.up hbw4
        clear T15
        obtain ⟨⟨q0, q1, q2⟩, dd0, dd1, dd2⟩ := p_cells (T16.out.2)
        obtain ⟨w5, e5, ⟨r0, r1, r2⟩, hk5, hs5, hb5⟩ := set3p (T16.out.2) (.int .i64 0) (.slice none 0 0) (.slice none 0 0)
        have hE5 : w5.heap[w1.heap.size]? = some (.cells #[.int .i64 0, .slice none 0 0, .slice none 0 0] 60) := by rw [← e5]; exact set3h (T16.out.2) _ _ _
        have hb15 : Below w1.heap.size w1 w5 := hb5 w1 w1.heap.size (Nat.le_refl _) (T16.out.1.1.2)
        have hE1 : w1.heap.size < w4.heap.size := heap_ltT (T16.out.2)
        have HE5 := Lib.hid e5
        have T916 := TK1.up hb15
        clear T16
        have T917 := T916.add (fun wv => wv.cell? ⟨w1.heap.size, 0, none⟩ = some (.int .i64 0) ∧ wv.cell? ⟨w1.heap.size, 1, none⟩ = some (.slice none 0 0) ∧ wv.cell? ⟨w1.heap.size, 2, none⟩ = some (.slice none 0 0)) (⟨r0, r1, r2⟩)
        clear T916
        have T918 := T917.add (fun wv => wv.heap[w1.heap.size]? = some (.cells #[.int .i64 0, .slice none 0 0, .slice none 0 0] 60)) (hE5)
        clear T917
        have T919 := T918.add (fun wv => Below w1.heap.size w1 wv) (hb15)
        clear T918
        clear r0 r1 r2 hb15 hE5 hE1 hk5 hs5 hb5 e5
        clear TK1
        go_wp2_with fail
        rw [HE5.out]
        clear q0 q1 q2 dd0 dd1 dd2 HE5
        have v_e0 : w5.cell? ⟨w1.heap.size, 0, none⟩ = some (.int .i64 0) := T919.out.1.1.2.1
        have v_e1 : w5.cell? ⟨w1.heap.size, 1, none⟩ = some (.slice none 0 0) := T919.out.1.1.2.2.1
        have v_e2 : w5.cell? ⟨w1.heap.size, 2, none⟩ = some (.slice none 0 0) := T919.out.1.1.2.2.2
        go_wp2_with fail
        refine (refBadE _ _ _ w5 false rfl).mono ?_; rintro e w6 ⟨rfl, hbw6⟩
        clear v_e0 v_e1 v_e2
        have T920 := T919.up hbw6
        clear T919
        have v_p0 : w6.cell? ⟨W.heap.size, 0, none⟩ = some (.int .i64 w) := T920.out.1.1.1.1.1.1.2.1
        have v_p1 : w6.cell? ⟨W.heap.size, 1, none⟩ = some (.int .i64 h) := T920.out.1.1.1.1.1.1.2.2.1
        have v_p2 : w6.cell? ⟨W.heap.size, 2, none⟩ = some (.slice a n c) := T920.out.1.1.1.1.1.1.2.2.2
        have hl6 : W.heap.size + 1 + 1 ≤ w6.heap.size := heap_ltT (T920.out.1.1.1.1.1.2)
        go_wp2_with fail
        refine (rawNew_fresh _ _ _ w6 rfl).mono ?_; rintro e w7 ⟨b1, b2, rfl, lb1, lb2, hw8, hbw7⟩
        clear v_p0 v_p1 v_p2
        have T921 := T920.up hbw7
        clear T920
        obtain ⟨⟨q3, q4, q5⟩, f3, f4, f5⟩ := p_cells (T921.out.1.1.1.1.1.2)
        obtain ⟨w9, e9, ⟨r0, r1, r2⟩, hk9, hs9, hw9, hb9⟩ := er_set (show W.heap.size ≤ W.heap.size + 1 by omega) (T921.out.1.1.1.1.1.2) (T921.out.1.1.1.1.1.1.1.1.2) (fr_some (by omega)) (fr_some (by omega)) (wc_want hw8)
        have HRET := Lib.hid (And.intro hw9 hb9)
        clear hk9 hs9 hw9 hb9 lb1 lb2 hw8
        have HE9 := Lib.hid e9
        have HR9 := Lib.hid (And.intro r0 (And.intro r1 r2))
        clear e9 r0 r1 r2
        go_wp2
        rw [HE9.out]
        have r0 := HR9.out.1
        have r1 := HR9.out.2.1
        have r2 := HR9.out.2.2
        refine bodyPost_ret (v := .tuple #[.int .i64 0, .agg #[.int .i64 4, .slice (some ⟨b1, 0, none⟩) 1 1, .slice (some ⟨b2, 0, none⟩) 1 1]]) (by simp [results, Tryd.results43, go_sem, r0, r1, r2]) rfl ?_
        rw [HOD.out]
        exact ⟨_, _, _, _, _, _, _, rfl, HRET.out.1, rfl, HRET.out.2⟩
      have HGV := Lib.hid (gvD_ok htd hpe hw8 hh4)
      clear htd hpe
      have HIT := Lib.hid (tabD_none HTD.out)
      obtain rfl : nT = 512 := (T7.out.1.2).len.trans HIT.out.len
      cases hdf : decF bs with
      | error y =>
        have HDF := Lib.hid hdf
        obtain ⟨at0, n0⟩ := y
        have HOD := Lib.hid (judgeF_er HGV.out hdf)
        clear hdf
        go_enter Tryd.func43, Tryd.ntmps43
        go_wp2_with fail
        rw [HWb.out]
        refine (refplcheck_ok aT 512 cT t Wb T7.out.1.2 hmT HTD.out).mono ?_; rintro e w0 ⟨rfl, hbw0⟩
        have T8 := T7.up hbw0
        clear T7
        go_wp2_with fail
        refine (refUnder_z _ _ w0).mono ?_; rintro e w1 ⟨rfl, hbw1⟩
        have T9 := T8.up hbw1
        clear T8
        have HLT : Hid (W.heap.size + 1 < w1.heap.size) := heap_ltT (T9.out.1.1.2)
        have TK1 := T9
        have T10 := T9.add (fun wv => Below w1.heap.size w1 wv) (bnil w1)
        clear T9
        obtain ⟨we, hwe⟩ : ∃ we, w1.alloc (.cells #[.int .i64 0, .slice none 0 0, .slice none 0 0] 60) = we := ⟨_, rfl⟩
        have hbwe : Below w1.heap.size w1 we := by rw [← hwe]; exact balloc (bnil w1) _
        have T11 := T10.up hbwe
        clear T10
        have T12 := T11.add (fun wv => wv.cell? ⟨w1.heap.size, 0, none⟩ = some (.int .i64 0) ∧ wv.cell? ⟨w1.heap.size, 1, none⟩ = some (.slice none 0 0) ∧ wv.cell? ⟨w1.heap.size, 2, none⟩ = some (.slice none 0 0)) (by rw [← hwe]; exact ⟨cnw (by simp) rfl, cnw (by simp) rfl, cnw (by simp) rfl⟩)
        clear T11
        have Hwe := Lib.hid hwe
        clear hwe hbwe
        have hze : we.heap[w1.heap.size]? = some (.cells #[.int .i64 0, .slice none 0 0, .slice none 0 0] 60) := by rw [← Hwe.out]; exact heap_alloc_new w1 _
        have T13 := T12.add (fun wv => wv.heap[w1.heap.size]? = some (.cells #[.int .i64 0, .slice none 0 0, .slice none 0 0] 60)) (hze)
        clear T12
        clear hze
        have v_e0 : (w1.alloc (.cells #[.int .i64 0, .slice none 0 0, .slice none 0 0] 60)).cell? ⟨w1.heap.size, 0, none⟩ = some (.int .i64 0) := by rw [Hwe.out]; exact T13.out.1.2.1
        have v_e1 : (w1.alloc (.cells #[.int .i64 0, .slice none 0 0, .slice none 0 0] 60)).cell? ⟨w1.heap.size, 1, none⟩ = some (.slice none 0 0) := by rw [Hwe.out]; exact T13.out.1.2.2.1
        have v_e2 : (w1.alloc (.cells #[.int .i64 0, .slice none 0 0, .slice none 0 0] 60)).cell? ⟨w1.heap.size, 2, none⟩ = some (.slice none 0 0) := by rw [Hwe.out]; exact T13.out.1.2.2.2
        go_wp2_with fail
        rw [Hwe.out]
        refine (refBadE _ _ _ we false rfl).mono ?_; rintro e w2 ⟨rfl, hbw2⟩
        clear v_e0 v_e1 v_e2
        have T14 := T13.up hbw2
        clear T13
        have v_p0 : w2.cell? ⟨W.heap.size, 0, none⟩ = some (.int .i64 w) := T14.out.1.1.1.1.1.1.2.1
        have v_p1 : w2.cell? ⟨W.heap.size, 1, none⟩ = some (.int .i64 h) := T14.out.1.1.1.1.1.1.2.2.1
        have v_p2 : w2.cell? ⟨W.heap.size, 2, none⟩ = some (.slice a n c) := T14.out.1.1.1.1.1.1.2.2.2
        go_wp2_with fail
        refine (refpcheck_ok w h a n c l w2 T14.out.1.1.1.1.1.1.1.2 hm HPP.out).mono ?_; rintro e w3 ⟨rfl, hbw3⟩
        clear v_p0 v_p1 v_p2
        have T15 := T14.up hbw3
        clear T14
        go_wp2_with fail
        refine (refUnder_z _ _ w3).mono ?_; rintro e w4 ⟨rfl, hbw4⟩
        have T16 := T15.up hbw4
        clear T15
        obtain ⟨⟨q0, q1, q2⟩, dd0, dd1, dd2⟩ := p_cells (T16.out.2)
        obtain ⟨w5, e5, ⟨r0, r1, r2⟩, hk5, hs5, hb5⟩ := set3p (T16.out.2) (.int .i64 0) (.slice none 0 0) (.slice none 0 0)
        have hE5 : w5.heap[w1.heap.size]? = some (.cells #[.int .i64 0, .slice none 0 0, .slice none 0 0] 60) := by rw [← e5]; exact set3h (T16.out.2) _ _ _
        have hb15 : Below w1.heap.size w1 w5 := hb5 w1 w1.heap.size (Nat.le_refl _) (T16.out.1.1.2)
        have hE1 : w1.heap.size < w4.heap.size := heap_ltT (T16.out.2)
        have HE5 := Lib.hid e5
        have T916 := TK1.up hb15
        clear T16
        have T917 := T916.add (fun wv => wv.cell? ⟨w1.heap.size, 0, none⟩ = some (.int .i64 0) ∧ wv.cell? ⟨w1.heap.size, 1, none⟩ = some (.slice none 0 0) ∧ wv.cell? ⟨w1.heap.size, 2, none⟩ = some (.slice none 0 0)) (⟨r0, r1, r2⟩)
        clear T916
        have T918 := T917.add (fun wv => wv.heap[w1.heap.size]? = some (.cells #[.int .i64 0, .slice none 0 0, .slice none 0 0] 60)) (hE5)
        clear T917
        have T919 := T918.add (fun wv => Below w1.heap.size w1 wv) (hb15)
        clear T918
        clear r0 r1 r2 hb15 hE5 hE1 hk5 hs5 hb5 e5
        go_wp2_with fail
        rw [HE5.out]
        clear q0 q1 q2 dd0 dd1 dd2 HE5
        have v_e0 : w5.cell? ⟨w1.heap.size, 0, none⟩ = some (.int .i64 0) := T919.out.1.1.2.1
        have v_e1 : w5.cell? ⟨w1.heap.size, 1, none⟩ = some (.slice none 0 0) := T919.out.1.1.2.2.1
        have v_e2 : w5.cell? ⟨w1.heap.size, 2, none⟩ = some (.slice none 0 0) := T919.out.1.1.2.2.2
        go_wp2_with fail
        refine (refBadE _ _ _ w5 false rfl).mono ?_; rintro e w6 ⟨rfl, hbw6⟩
        clear v_e0 v_e1 v_e2
        have T920 := T919.up hbw6
        clear T919
        have hl6 : w1.heap.size + 1 ≤ w6.heap.size := heap_ltT (T920.out.1.2)
        have v_p0 : w6.cell? ⟨W.heap.size, 0, none⟩ = some (.int .i64 w) := T920.out.1.1.1.1.1.1.2.1
        have v_p1 : w6.cell? ⟨W.heap.size, 1, none⟩ = some (.int .i64 h) := T920.out.1.1.1.1.1.1.2.2.1
        have v_p2 : w6.cell? ⟨W.heap.size, 2, none⟩ = some (.slice a n c) := T920.out.1.1.1.1.1.1.2.2.2
        go_wp2_with fail
        refine (rfDecode_any aB cB bs w6 (T920.out.1.1.1.2).2 HBR.out hBl).mono ?_; rintro e w7 ⟨hbw7, x1, y1, a3, n3, c3, N3, ao, no, co, aa, na, ca, rfl, fr3, fro, fra, hdp⟩
        clear v_p0 v_p1 v_p2
        have T921 := T920.up hbw7
        clear T920
        rw [HDF.out] at hdp
        obtain ⟨rfl, rfl, rfl, rfl, rfl, hwi⟩ := hdp
        have hwc := wc_want hwi
        obtain rfl := wc_numP hwc
        have hns : (N3 != 0) = true := by have := hwc.2; rw [bne, this]; rfl
        have HNS := Lib.hid hns
        clear hwi hns
        obtain ⟨⟨q0, q1, q2⟩, dd0, dd1, dd2⟩ := p_cells (T921.out.1.2)
        obtain ⟨w8, e5, ⟨r0, r1, r2⟩, hk5, hs5, hb5⟩ := set3p (T921.out.1.2) (.int .i64 N3) (.slice ao no co) (.slice aa na ca)
        have hE5 : w8.heap[w1.heap.size]? = some (.cells #[.int .i64 N3, .slice ao no co, .slice aa na ca] 60) := by rw [← e5]; exact set3h (T921.out.1.2) _ _ _
        have hb15 : Below w1.heap.size w1 w8 := hb5 w1 w1.heap.size (Nat.le_refl _) (T921.out.2)
        have hE1 : w1.heap.size < w7.heap.size := heap_ltT (T921.out.1.2)
        have HE5 := Lib.hid e5
        have hw8' := hwc.other hk5 hs5 (fro.base hl6) (fra.base hl6)
        clear hwc fro fra fr3
        have T1821 := TK1.up hb15
        clear T921
        have T1822 := T1821.add (fun wv => wv.cell? ⟨w1.heap.size, 0, none⟩ = some (.int .i64 N3) ∧ wv.cell? ⟨w1.heap.size, 1, none⟩ = some (.slice ao no co) ∧ wv.cell? ⟨w1.heap.size, 2, none⟩ = some (.slice aa na ca)) (⟨r0, r1, r2⟩)
        clear T1821
        have T1823 := T1822.add (fun wv => wv.heap[w1.heap.size]? = some (.cells #[.int .i64 N3, .slice ao no co, .slice aa na ca] 60)) (hE5)
        clear T1822
        have T1824 := T1823.add (fun wv => Below w1.heap.size w1 wv) (hb15)
        clear T1823
        clear r0 r1 r2 hb15 hE5 hE1 hk5 hs5 hb5 e5
        have T1825 := T1824.add (fun wv => WC wv (.agg #[.int .i64 N3, .slice ao no co, .slice aa na ca]) (some ([(opCert, at0)], N3))) (hw8')
        clear T1824
        clear hw8' TK1
        go_wp2_with fail
        rw [HE5.out]
        clear q0 q1 q2 dd0 dd1 dd2 HE5
        have v_e0 : w8.cell? ⟨w1.heap.size, 0, none⟩ = some (.int .i64 N3) := T1825.out.1.1.1.2.1
        have v_e1 : w8.cell? ⟨w1.heap.size, 1, none⟩ = some (.slice ao no co) := T1825.out.1.1.1.2.2.1
        have v_e2 : w8.cell? ⟨w1.heap.size, 2, none⟩ = some (.slice aa na ca) := T1825.out.1.1.1.2.2.2
        go_wp2_with fail
        refine (refBadE _ _ _ w8 true HNS.out).mono ?_; rintro e wa ⟨rfl, hbwa⟩
        clear v_e0 v_e1 v_e2
        have T1826 := T1825.up hbwa
        clear T1825
        have hl9 : W.heap.size + 1 + 1 ≤ wa.heap.size := heap_ltT (T1826.out.1.1.1.1.1.1.2)
        have v_e0 : wa.cell? ⟨w1.heap.size, 0, none⟩ = some (.int .i64 N3) := T1826.out.1.1.1.2.1
        have v_e1 : wa.cell? ⟨w1.heap.size, 1, none⟩ = some (.slice ao no co) := T1826.out.1.1.1.2.2.1
        have v_e2 : wa.cell? ⟨w1.heap.size, 2, none⟩ = some (.slice aa na ca) := T1826.out.1.1.1.2.2.2
        go_wp2_with fail
        refine (refUnder_some _ _ _ _ ao aa no co na ca wa T1826.out.2 (by simp) (by simp)).mono ?_; rintro e wb ⟨N, b1, m1, d1, b2, m2, d2, rfl, hw, f1, f2, hN, _, hbwb⟩
        clear v_e0 v_e1 v_e2
        have T1827 := T1826.up hbwb
        clear T1826
        obtain ⟨⟨q3, q4, q5⟩, f3, f4, f5⟩ := p_cells (T1827.out.1.1.1.1.1.1.2)
        obtain ⟨w9, e9, ⟨r0, r1, r2⟩, hk9, hs9, hw9, hb9⟩ := er_set (show W.heap.size ≤ W.heap.size + 1 by omega) (T1827.out.1.1.1.1.1.1.2) (T1827.out.1.1.1.1.1.1.1.1.1.2) (f1.base hl9) (f2.base hl9) hw
        have HRET := Lib.hid (And.intro hw9 hb9)
        have HNN := Lib.hid hN
        clear hk9 hs9 hw9 hb9 hN hw f1 f2
        have HE9 := Lib.hid e9
        have HR9 := Lib.hid (And.intro r0 (And.intro r1 r2))
        clear e9 r0 r1 r2
        go_wp2
        rw [HE9.out]
        have r0 := HR9.out.1
        have r1 := HR9.out.2.1
        have r2 := HR9.out.2.2
        refine bodyPost_ret (v := .tuple #[.int .i64 0, .agg #[.int .i64 N, .slice b1 m1 d1, .slice b2 m2 d2]]) (by simp [results, Tryd.results43, go_sem, r0, r1, r2]) rfl ?_
        rw [HOD.out]
        exact ⟨_, _, _, _, _, _, _, rfl, HRET.out.1, HNN.out, HRET.out.2⟩
      | ok z =>
        obtain ⟨cw, ch, L⟩ := z
        obtain ⟨w', h', rfl, rfl, hw1', hw8', hh1', hh4', hfit, hLl, hLm⟩ := dec_ok hdf
        have HFIT := Lib.hid hfit
        have HDF := Lib.hid hdf
        have hLlen : L.length ≤ 43690 := by omega
        clear hdf hfit hLm
        by_cases hww : w' = w
        · skip
          subst hww
          by_cases hhh : h' = h
          · skip
            subst hhh
            obtain ⟨JR, hJR⟩ : ∃ JR, judgeRun t (colL w' h' l) h' (4 * 2 ^ h') L 0 [] 0 0 = JR := ⟨_, rfl⟩
            have HOD := Lib.hid (judgeF_run HGV.out HDF.out hJR)
            have HJR := Lib.hid hJR
            clear hJR
            go_enter Tryd.func43, Tryd.ntmps43
            go_wp2_with fail
            rw [HWb.out]
            refine (refplcheck_ok aT 512 cT t Wb T7.out.1.2 hmT HTD.out).mono ?_; rintro e w0 ⟨rfl, hbw0⟩
            have T8 := T7.up hbw0
            clear T7
            go_wp2_with fail
            refine (refUnder_z _ _ w0).mono ?_; rintro e w1 ⟨rfl, hbw1⟩
            have T9 := T8.up hbw1
            clear T8
            have HLT : Hid (W.heap.size + 1 < w1.heap.size) := heap_ltT (T9.out.1.1.2)
            have TK1 := T9
            have T10 := T9.add (fun wv => Below w1.heap.size w1 wv) (bnil w1)
            clear T9
            obtain ⟨we, hwe⟩ : ∃ we, w1.alloc (.cells #[.int .i64 0, .slice none 0 0, .slice none 0 0] 60) = we := ⟨_, rfl⟩
            have hbwe : Below w1.heap.size w1 we := by rw [← hwe]; exact balloc (bnil w1) _
            have T11 := T10.up hbwe
            clear T10
            have T12 := T11.add (fun wv => wv.cell? ⟨w1.heap.size, 0, none⟩ = some (.int .i64 0) ∧ wv.cell? ⟨w1.heap.size, 1, none⟩ = some (.slice none 0 0) ∧ wv.cell? ⟨w1.heap.size, 2, none⟩ = some (.slice none 0 0)) (by rw [← hwe]; exact ⟨cnw (by simp) rfl, cnw (by simp) rfl, cnw (by simp) rfl⟩)
            clear T11
            have Hwe := Lib.hid hwe
            clear hwe hbwe
            have hze : we.heap[w1.heap.size]? = some (.cells #[.int .i64 0, .slice none 0 0, .slice none 0 0] 60) := by rw [← Hwe.out]; exact heap_alloc_new w1 _
            have T13 := T12.add (fun wv => wv.heap[w1.heap.size]? = some (.cells #[.int .i64 0, .slice none 0 0, .slice none 0 0] 60)) (hze)
            clear T12
            clear hze
            have v_e0 : (w1.alloc (.cells #[.int .i64 0, .slice none 0 0, .slice none 0 0] 60)).cell? ⟨w1.heap.size, 0, none⟩ = some (.int .i64 0) := by rw [Hwe.out]; exact T13.out.1.2.1
            have v_e1 : (w1.alloc (.cells #[.int .i64 0, .slice none 0 0, .slice none 0 0] 60)).cell? ⟨w1.heap.size, 1, none⟩ = some (.slice none 0 0) := by rw [Hwe.out]; exact T13.out.1.2.2.1
            have v_e2 : (w1.alloc (.cells #[.int .i64 0, .slice none 0 0, .slice none 0 0] 60)).cell? ⟨w1.heap.size, 2, none⟩ = some (.slice none 0 0) := by rw [Hwe.out]; exact T13.out.1.2.2.2
            go_wp2_with fail
            rw [Hwe.out]
            refine (refBadE _ _ _ we false rfl).mono ?_; rintro e w2 ⟨rfl, hbw2⟩
            clear v_e0 v_e1 v_e2
            have T14 := T13.up hbw2
            clear T13
            have v_p0 : w2.cell? ⟨W.heap.size, 0, none⟩ = some (.int .i64 w') := T14.out.1.1.1.1.1.1.2.1
            have v_p1 : w2.cell? ⟨W.heap.size, 1, none⟩ = some (.int .i64 h') := T14.out.1.1.1.1.1.1.2.2.1
            have v_p2 : w2.cell? ⟨W.heap.size, 2, none⟩ = some (.slice a n c) := T14.out.1.1.1.1.1.1.2.2.2
            go_wp2_with fail
            refine (refpcheck_ok w' h' a n c l w2 T14.out.1.1.1.1.1.1.1.2 hm HPP.out).mono ?_; rintro e w3 ⟨rfl, hbw3⟩
            clear v_p0 v_p1 v_p2
            have T15 := T14.up hbw3
            clear T14
            go_wp2_with fail
            refine (refUnder_z _ _ w3).mono ?_; rintro e w4 ⟨rfl, hbw4⟩
            have T16 := T15.up hbw4
            clear T15
            obtain ⟨⟨q0, q1, q2⟩, dd0, dd1, dd2⟩ := p_cells (T16.out.2)
            obtain ⟨w5, e5, ⟨r0, r1, r2⟩, hk5, hs5, hb5⟩ := set3p (T16.out.2) (.int .i64 0) (.slice none 0 0) (.slice none 0 0)
            have hE5 : w5.heap[w1.heap.size]? = some (.cells #[.int .i64 0, .slice none 0 0, .slice none 0 0] 60) := by rw [← e5]; exact set3h (T16.out.2) _ _ _
            have hb15 : Below w1.heap.size w1 w5 := hb5 w1 w1.heap.size (Nat.le_refl _) (T16.out.1.1.2)
            have hE1 : w1.heap.size < w4.heap.size := heap_ltT (T16.out.2)
            have HE5 := Lib.hid e5
            have T916 := TK1.up hb15
            clear T16
            have T917 := T916.add (fun wv => wv.cell? ⟨w1.heap.size, 0, none⟩ = some (.int .i64 0) ∧ wv.cell? ⟨w1.heap.size, 1, none⟩ = some (.slice none 0 0) ∧ wv.cell? ⟨w1.heap.size, 2, none⟩ = some (.slice none 0 0)) (⟨r0, r1, r2⟩)
            clear T916
            have T918 := T917.add (fun wv => wv.heap[w1.heap.size]? = some (.cells #[.int .i64 0, .slice none 0 0, .slice none 0 0] 60)) (hE5)
            clear T917
            have T919 := T918.add (fun wv => Below w1.heap.size w1 wv) (hb15)
            clear T918
            clear r0 r1 r2 hb15 hE5 hE1 hk5 hs5 hb5 e5
            go_wp2_with fail
            rw [HE5.out]
            clear q0 q1 q2 dd0 dd1 dd2 HE5
            have v_e0 : w5.cell? ⟨w1.heap.size, 0, none⟩ = some (.int .i64 0) := T919.out.1.1.2.1
            have v_e1 : w5.cell? ⟨w1.heap.size, 1, none⟩ = some (.slice none 0 0) := T919.out.1.1.2.2.1
            have v_e2 : w5.cell? ⟨w1.heap.size, 2, none⟩ = some (.slice none 0 0) := T919.out.1.1.2.2.2
            go_wp2_with fail
            refine (refBadE _ _ _ w5 false rfl).mono ?_; rintro e w6 ⟨rfl, hbw6⟩
            clear v_e0 v_e1 v_e2
            have T920 := T919.up hbw6
            clear T919
            have hl6 : w1.heap.size + 1 ≤ w6.heap.size := heap_ltT (T920.out.1.2)
            have v_p0 : w6.cell? ⟨W.heap.size, 0, none⟩ = some (.int .i64 w') := T920.out.1.1.1.1.1.1.2.1
            have v_p1 : w6.cell? ⟨W.heap.size, 1, none⟩ = some (.int .i64 h') := T920.out.1.1.1.1.1.1.2.2.1
            have v_p2 : w6.cell? ⟨W.heap.size, 2, none⟩ = some (.slice a n c) := T920.out.1.1.1.1.1.1.2.2.2
            go_wp2_with fail
            refine (rfDecode_any aB cB bs w6 (T920.out.1.1.1.2).2 HBR.out hBl).mono ?_; rintro e w7 ⟨hbw7, x1, y1, a3, n3, c3, N3, ao, no, co, aa, na, ca, rfl, fr3, fro, fra, hdp⟩
            clear v_p0 v_p1 v_p2
            have T921 := T920.up hbw7
            clear T920
            rw [HDF.out] at hdp
            obtain ⟨rfl, rfl, rfl, hrd3, hwi⟩ := hdp
            have hwz : N3 = 0 := errVal_zero hwi
            subst hwz
            clear hwi
            obtain ⟨⟨q0, q1, q2⟩, dd0, dd1, dd2⟩ := p_cells (T921.out.1.2)
            obtain ⟨w8, e5, ⟨r0, r1, r2⟩, hk5, hs5, hb5⟩ := set3p (T921.out.1.2) (.int .i64 0) (.slice ao no co) (.slice aa na ca)
            have hE5 : w8.heap[w1.heap.size]? = some (.cells #[.int .i64 0, .slice ao no co, .slice aa na ca] 60) := by rw [← e5]; exact set3h (T921.out.1.2) _ _ _
            have hb15 : Below w1.heap.size w1 w8 := hb5 w1 w1.heap.size (Nat.le_refl _) (T921.out.2)
            have hE1 : w1.heap.size < w7.heap.size := heap_ltT (T921.out.1.2)
            have HE5 := Lib.hid e5
            have hrd8 := hrd3.oth hk5 hs5 (fun b o e => by have := fr3 b o e; omega)
            clear hrd3 fro fra fr3
            have T1821 := TK1.up hb15
            clear T921
            have T1822 := T1821.add (fun wv => wv.cell? ⟨w1.heap.size, 0, none⟩ = some (.int .i64 0) ∧ wv.cell? ⟨w1.heap.size, 1, none⟩ = some (.slice ao no co) ∧ wv.cell? ⟨w1.heap.size, 2, none⟩ = some (.slice aa na ca)) (⟨r0, r1, r2⟩)
            clear T1821
            have T1823 := T1822.add (fun wv => wv.heap[w1.heap.size]? = some (.cells #[.int .i64 0, .slice ao no co, .slice aa na ca] 60)) (hE5)
            clear T1822
            have T1824 := T1823.add (fun wv => Below w1.heap.size w1 wv) (hb15)
            clear T1823
            clear r0 r1 r2 hb15 hE5 hE1 hk5 hs5 hb5 e5
            have T1825 := T1824.add (fun wv => Rd wv a3 L.length 3 (entsC L)) (hrd8)
            clear T1824
            clear hrd8 TK1
            go_wp2_with fail
            rw [HE5.out]
            clear q0 q1 q2 dd0 dd1 dd2 HE5
            have v_e0 : w8.cell? ⟨w1.heap.size, 0, none⟩ = some (.int .i64 0) := T1825.out.1.1.1.2.1
            have v_e1 : w8.cell? ⟨w1.heap.size, 1, none⟩ = some (.slice ao no co) := T1825.out.1.1.1.2.2.1
            have v_e2 : w8.cell? ⟨w1.heap.size, 2, none⟩ = some (.slice aa na ca) := T1825.out.1.1.1.2.2.2
            go_wp2_with fail
            refine (refBadE _ _ _ w8 false rfl).mono ?_; rintro e wa ⟨rfl, hbwa⟩
            clear v_e0 v_e1 v_e2
            have T1826 := T1825.up hbwa
            clear T1825
            have hcd : colD (w' : Int) (h' : Int) l = none := by unfold colD; rw [patchErr_of HPP.out]; exact if_neg (by omega)
            have hco : colO (w' : Int) (h' : Int) l = colL w' h' l := by unfold colO; rw [hcd]; rfl
            have HCO := Lib.hid (And.intro hco hcd)
            clear hcd hco
            have v_p0 : wa.cell? ⟨W.heap.size, 0, none⟩ = some (.int .i64 w') := T1826.out.1.1.1.1.1.1.1.2.1
            have v_p1 : wa.cell? ⟨W.heap.size, 1, none⟩ = some (.int .i64 h') := T1826.out.1.1.1.1.1.1.1.2.2.1
            have v_p2 : wa.cell? ⟨W.heap.size, 2, none⟩ = some (.slice a n c) := T1826.out.1.1.1.1.1.1.1.2.2.2
            go_wp2_with fail
            refine (refcol_any w' h' a n c l wa T1826.out.1.1.1.1.1.1.1.1.2 hm).mono ?_; rintro e wc ⟨ac, nc, cc, N5, p1, p2, p3, p4, p5, p6, rfl, hcol, _, _, hbwc⟩
            clear v_p0 v_p1 v_p2
            have T1827 := T1826.up hbwc
            clear T1826
            rw [HCO.out.1] at hcol
            obtain rfl : w' = nc := by rw [hcol.len, colL_len]
            have T1828 := T1827.add (fun wv => RK .i64 wv ac w' (colL w' h' l)) (hcol)
            clear T1827
            clear hcol
            obtain ⟨wd, hwd⟩ : ∃ wd, wc.alloc (.cells #[.int .i64 N5, .slice p1 p2 p3, .slice p4 p5 p6] 60) = wd := ⟨_, rfl⟩
            have hbwd : Below wc.heap.size wc wd := by rw [← hwd]; exact balloc (bnil wc) _
            have T1829 := T1828.up hbwd
            clear T1828
            have Hwd := Lib.hid hwd
            clear hwd hbwd
            obtain ⟨M, hM⟩ : ∃ M, 4 * 2 ^ h' = M := ⟨_, rfl⟩
            have hMO := fun W => most24_any h' hh4' W
            simp only [hM] at hMO
            have HMO := Lib.hid hMO
            have hM64 : M ≤ 64 := by
              rw [← hM]
              have := Nat.pow_le_pow_right (n := 2) (by omega) hh4'
              have h2 : (2 : Nat) ^ 4 = 16 := by decide
              omega
            have hM1 : 1 ≤ M := by
              rw [← hM]
              have := Nat.one_le_two_pow (n := h')
              omega
            obtain ⟨CL, hCL⟩ : ∃ CL, colL w' h' l = CL := ⟨_, rfl⟩
            have hJ0 := HJR.out
            rw [hM, hCL] at hJ0
            have HJ0 := Lib.hid hJ0
            have HMC := Lib.hid (And.intro hM hCL)
            obtain ⟨P1, hP1⟩ : ∃ P1, w' * M = P1 := ⟨_, rfl⟩
            have hP1b : P1 ≤ 512 := by rw [← hP1]; exact Nat.mul_le_mul hw8' hM64
            obtain ⟨NN, hNN⟩ : ∃ NN, P1 * M = NN := ⟨_, rfl⟩
            have hNNb : NN ≤ 32768 := by rw [← hNN]; exact Nat.mul_le_mul hP1b hM64
            have hMMN : M * M ≤ NN := by
              rw [← hNN, ← hP1]
              exact Nat.mul_le_mul_right _ (Nat.le_mul_of_pos_left _ (by omega))
            have HNN : Hid (w' * M * M = NN) := by show _ = _; rw [hP1, hNN]
            have hP1I : (w' : Int) * (M : Int) = (P1 : Int) := by rw [← hP1]; exact (Int.natCast_mul _ _).symm
            have hNNI : (P1 : Int) * (M : Int) = (NN : Int) := by rw [← hNN]; exact (Int.natCast_mul _ _).symm
            have hP1w : IntKind.i64.wrap (P1 : Int) = (P1 : Int) := IntWalk.i64_in _ (by omega)
            have hNNw : IntKind.i64.wrap (NN : Int) = (NN : Int) := IntWalk.i64_in _ (by omega)
            have et_bl : ET Tryd.prog 98 4 (.bool false) 1 1 := ⟨Tryd.underlying98, info_parts (by kernel_rfl), rfl, by decide⟩
            have HETB := Lib.hid et_bl
            clear hM hCL hJ0 HJR hMO et_bl
            go_wp2_with fail
            rw [Hwd.out]
            refine (HMO.out wd).mono ?_; rintro e w4 ⟨rfl, hw4⟩
            rw [hw4]
            clear hw4
            clear hP1 hNN
            go_wp2_with (first
              | (at_make; refine mk_full rfl _ _ _ rfl wd.heap.size HETB.out .i64 .i64 _ _ NN rfl rfl rfl rfl (by omega) (by unfold maxLen; omega) (Nat.le_refl _) ?_; intro w5 hown5 hb5 hsz5; rw [made_bools] at hown5; have HOB := Lib.hid hown5; have HBB := Lib.hid hb5; clear hown5 hb5 hsz5))
            obtain ⟨g, hg⟩ : ∃ g, wd.heap.size = g := ⟨_, rfl⟩
            have HO0 : Hid (w5.ownsRow g 4 1 (.slice (some ⟨g, 0, none⟩) NN NN) NN (bools NN (ahB M []))) := by show World.ownsRow _ _ _ _ _ _ _; rw [← hg]; exact HOB.out
            have HB0 : Hid (Below g wd w5) := by rw [← hg]; exact HBB.out
            have HG := Lib.hid hg
            have HZG : Hid (W.heap.size + 1 < g) := by show _ < _; rw [← hg]; exact heap_ltT (T1829.out.1.1.1.1.1.1.1.2)
            simp only [hg]
            clear hg HOB HBB
            go_loopw [16, 17] (fun nx ix wr => ∃ i nn : Nat, i ≤ L.length ∧ nn ≤ 256 * i ∧ ix = .int .i64 (i : Nat) ∧ nx = .int .i64 (nn : Nat) ∧ judgeRun t CL h' M (L.drop i) i (L.take i) (cnt0 M (L.take i) (M * M)) nn = JR ∧ wr.ownsRow g 4 1 (.slice (some ⟨g, 0, none⟩) NN NN) NN (bools NN (ahB M (L.take i))) ∧ Below g wd wr) (fun _ ix _ => L.length - (intOf ix).toNat)
            case atStart => exact ⟨0, 0, by omega, by omega, rfl, rfl, by rw [List.take_zero, List.drop_zero, cnt0_nil]; exact HJ0.out, HO0.out, HB0.out⟩
            case round =>
              obtain ⟨i, nn, hi, hnn, rfl, rfl, hrun, ho, hb⟩ := hrel
              have HO := Lib.hid ho
              have HBJ := Lib.hid hb
              clear ho hb HO0 HB0 HJ0
              generalize wr = wo at *
              have hb0 : Below wd.heap.size wd wo := by rw [HG.out]; exact HBJ.out
              have T1830 := T1829.up hb0
              clear T1829
              clear hb0
              by_cases hiL : i < L.length
              · skip
                have hdr : L.drop i = L[i] :: L.drop (i + 1) := List.drop_eq_getElem_cons hiL
                have htk : L.take (i + 1) = L.take i ++ [L[i]] := List.take_succ_eq_append_getElem hiL
                have hft := HFIT.out L[i] (List.getElem_mem hiL)
                obtain ⟨be, oe, rfl, hbe, hce⟩ : ∃ b o, a3 = some ⟨b, o, none⟩ ∧ b < wo.heap.size ∧ ∀ j u, (entsC L)[j]? = some u → wo.cell? ⟨b, o + j, none⟩ = some u := (T1830.out.1.2).2.resolve_left (by omega)
                obtain ⟨y0, y1, y2⟩ := ent_cells (bnil wo) hbe hce i hiL
                rw [hdr] at hrun
                unfold judgeRun at hrun
                rw [← htk] at hrun
                have hstep := cnt0_step (acc := L.take i) hft
                rw [HMC.out.1] at hstep hft
                rw [← hstep, ← htk] at hrun
                obtain ⟨ec, hec⟩ : ∃ ec : Nat, L[i].1 = (ec : Int) := ⟨L[i].1.toNat, by have := hft.a0; omega⟩
                obtain ⟨ea, hea⟩ : ∃ ea : Nat, L[i].2.1 = (ea : Int) := ⟨L[i].2.1.toNat, by have := hft.b0; omega⟩
                obtain ⟨eb, heb⟩ : ∃ eb : Nat, L[i].2.2 = (eb : Int) := ⟨L[i].2.2.toNat, by have := hft.c0; omega⟩
                have hcw : ec < w' := by have := hft.a1; omega
                have heaM : ea < M := by have := hft.b1; omega
                have hebM : eb < M := by have := hft.c1; omega
                have hpl := posE_lt hft
                rw [HNN.out] at hpl
                rw [hec] at y0
                rw [hea] at y1
                rw [heb] at y2
                have hLi : L[i] = ((ec : Int), (ea : Int), (eb : Int)) := by rw [← hec, ← hea, ← heb]
                rw [hLi] at hrun htk hpl
                have hpe0 : posE M ((ec : Int), (ea : Int), (eb : Int)) = (ec * M + ea) * M + eb := rfl
                rw [hpe0] at hpl
                simp only [Int.toNat_natCast] at hrun
                have hcl := colL_bd HPP.out hh4' hcw
                rw [HMC.out.2] at hcl
                obtain ⟨want, hwant⟩ : ∃ want, (CL.getD ec 0).toNat = want := ⟨_, rfl⟩
                rw [hwant] at hcl hrun
                have hw1024 := hcl.2
                obtain ⟨gc, oc, hgc0, _, hcc⟩ := (T1830.out.2).addr (by omega)
                subst hgc0
                have hcW := hcc ec hcw
                rw [HMC.out.2, hcl.1] at hcW
                have HTK := Lib.hid htk
                have HCW := Lib.hid hcW
                have HFA : Hid (∀ y ∈ L.take i, Fit3 w' M y) := fun y hy => by have h := HFIT.out y (List.mem_of_mem_take hy); rwa [HMC.out.1] at h
                obtain ⟨HK, hHK⟩ : ∃ HK, holdsF t h' want ec ea eb (L.take i) M 0 0 = HK := ⟨_, rfl⟩
                rw [hHK] at hrun
                have HHK := Lib.hid hHK
                have HRUN0 := Lib.hid hrun
                have i0 : (0 : Int) ≤ (i : Int) := by omega
                have i1 : (i : Int) < (L.length : Int) := by omega
                obtain ⟨ab, ao, hab0, _, _⟩ := (T1830.out.1.1.1.1.1.1.2).addr (by omega)
                subst hab0
                have hCH := fun (w : World) (h1 : RK .i64 w (some ⟨ab, ao, none⟩) 512 t) (c : Nat) (hc : c < M) => looks24_any ab ao cT t h' ea eb c want w h1 hh4' (by omega) (by omega) (by omega) hw1024
                have HCH := Lib.hid hCH
                have HOW : Hid (wo.heap.size = wo.heap.size) := rfl
                clear hCH hHK hcc hcl hwant hLi hec hea heb hft hce hdr htk hcW hrun hstep hpe0 HOW
                obtain ⟨wx, hwx⟩ : ∃ wx, wo.alloc (.cells #[.int .i64 (ec : Nat), .int .i64 (ea : Nat), .int .i64 (eb : Nat)] 90) = wx := ⟨_, rfl⟩
                have hbwx : Below wo.heap.size wo wx := by rw [← hwx]; exact balloc (bnil wo) _
                have T1831 := T1830.up hbwx
                clear T1830
                have T1832 := T1831.add (fun wv => wv.cell? ⟨wo.heap.size, 0, none⟩ = some (.int .i64 (ec : Nat)) ∧ wv.cell? ⟨wo.heap.size, 1, none⟩ = some (.int .i64 (ea : Nat)) ∧ wv.cell? ⟨wo.heap.size, 2, none⟩ = some (.int .i64 (eb : Nat))) (by rw [← hwx]; exact ⟨cnw (by simp) rfl, cnw (by simp) rfl, cnw (by simp) rfl⟩)
                clear T1831
                have Hwx := Lib.hid hwx
                clear hwx hbwx
                have HCX : Hid (wx.cell? ⟨gc, oc + ec, none⟩ = some (.int .i64 (want : Nat))) := by rw [← Hwx.out]; exact al000 HCW.out
                have HBX : Hid (Below wo.heap.size wo wx) := by rw [← Hwx.out]; exact balloc (bnil wo) _
                have HOX : Hid (wx.ownsRow g 4 1 (.slice (some ⟨g, 0, none⟩) NN NN) NN (bools NN (ahB M (L.take i)))) := owns_up HO.out HBX.out
                go_wp2_with fail
                rw [Hwx.out]
                go_loopw [16, 19] (fun nx cx wr => ∃ c q m : Nat, c ≤ M ∧ q ≤ 4 * c ∧ cx = .int .i64 (c : Nat) ∧ nx = .int .i64 ((nn + q : Nat) : Int) ∧ holdsF t h' want ec ea eb (L.take i) (M - c) c q = HK ∧ wr = wx.drewN m) (fun _ cx _ => M - (intOf cx).toNat)
                case atStart => exact ⟨0, 0, 0, by omega, by omega, rfl, rfl, HHK.out, rfl⟩
                case round =>
                  obtain ⟨c2, q, m, hc2, hq, rfl, rfl, hhf, hwm⟩ := hrel
                  have HWM := Lib.hid hwm
                  have hbm : Below wx.heap.size wx wr := by rw [hwm]; exact bdrewN (bnil wx) m
                  have HCR : Hid (wr.cell? ⟨gc, oc + ec, none⟩ = some (.int .i64 (want : Nat))) := by rw [hwm]; exact HCX.out
                  have HOR : Hid (wr.ownsRow g 4 1 (.slice (some ⟨g, 0, none⟩) NN NN) NN (bools NN (ahB M (L.take i)))) := owns_up HOX.out hbm
                  have T1833 := T1832.up hbm
                  clear T1832
                  clear hwm hbm
                  by_cases hcM : c2 < M
                  · skip
                    obtain ⟨mm, hmm⟩ : ∃ mm, M - c2 = mm + 1 := ⟨M - c2 - 1, by omega⟩
                    have hm2 : M - (c2 + 1) = mm := by omega
                    rw [hmm] at hhf
                    unfold holdsF at hhf
                    rw [← hm2] at hhf
                    obtain ⟨lk, mk, hlk⟩ : ∃ lk mk, looksF t ea eb c2 want h' 0 = (lk, mk) := ⟨_, _, rfl⟩
                    have hlb := (looksF_le t ea eb c2 want h' 0).2
                    rw [hlk] at hhf hlb
                    simp only at hhf hlb
                    have hlk4 : lk ≤ 4 := by omega
                    have hRTq := T1833.out.1.1.1.1.1.1.1.2
                    have HCQ : Hid (∀ qq, Calls Tryd.prog 85 #[.slice (some ⟨ab, ao, none⟩) 512 cT, .int .i64 (h' : Nat), .int .i64 (ea : Nat), .int .i64 (eb : Nat), .int .i64 (c2 : Nat), .int .i64 (want : Nat)] (wr.drewN qq) fun e w' => e = .returned (.tuple #[.int .i64 (lk : Nat), .bool mk]) ∧ ∃ n, w' = (wr.drewN qq).drewN n) := fun qq => by
                      have h := HCH.out (wr.drewN qq) (hRTq.up (bdrewN (bnil wr) qq)) c2 hcM
                      rw [hlk] at h
                      exact h
                    have hcr := HCR.out
                    have c0 : (0 : Int) ≤ (ec : Int) := by omega
                    have c1 : (ec : Int) < (w' : Int) := by omega
                    have cM : (c2 : Int) < (M : Int) := by omega
                    obtain ⟨nq1, hnq1⟩ : ∃ nq1, nn + q = nq1 := ⟨_, rfl⟩
                    rw [hnq1]
                    have hnq1b : nq1 ≤ 256 * i + 256 := by omega
                    obtain ⟨nq2, hnq2⟩ : ∃ nq2, nq1 + lk = nq2 := ⟨_, rfl⟩
                    have nI : (nq1 : Int) + (lk : Int) = (nq2 : Int) := by omega
                    have nW : IntKind.i64.wrap (nq2 : Int) = (nq2 : Int) := IntWalk.i64_in _ (by omega)
                    have cW : IntKind.i64.wrap ((c2 : Int) + 1) = (c2 : Int) + 1 := IntWalk.i64_in _ (by omega)
                    have HNQ := Lib.hid (And.intro hnq1 hnq2)
                    obtain ⟨K1, hK1⟩ : ∃ K1, ec + 1 = K1 := ⟨_, rfl⟩
                    have kI : (ec : Int) + 1 = (K1 : Int) := by omega
                    have kW : IntKind.i64.wrap (K1 : Int) = (K1 : Int) := IntWalk.i64_in _ (by omega)
                    have HK1 := Lib.hid hK1
                    have hld := looked (acc := L.take i) (col := ec) HFA.out hebM hcM (by omega)
                    rw [hK1] at hld hhf
                    have HLD := Lib.hid hld
                    clear hlk hmm hm2 hnq1 hnq2 hK1 hld hRTq hlb
                    have v_x0 : wr.cell? ⟨wo.heap.size, 0, none⟩ = some (.int .i64 (ec : Nat)) := T1833.out.2.1
                    have v_x1 : wr.cell? ⟨wo.heap.size, 1, none⟩ = some (.int .i64 (ea : Nat)) := T1833.out.2.2.1
                    have v_x2 : wr.cell? ⟨wo.heap.size, 2, none⟩ = some (.int .i64 (eb : Nat)) := T1833.out.2.2.2
                    cases mk with
                    | false =>
                      rw [if_neg (by rintro ⟨h, _⟩; cases h)] at hhf
                      have HHF := Lib.hid hhf
                      clear hhf
                      go_wp2_with fail
                      go_quiet ((go_at_call 85; exact Calls.quiet_of (HCQ.out _)))
                      go_wp2
                      go_roundw
                      case rel => exact ⟨c2 + 1, q + lk, m + nq, by omega, by omega, by go_num, by have h1 := HNQ.out; go_num, HHF.out, by rw [HWM.out]; exact World.drewN_drewN _ _ _⟩
                      case measure => simp [intOf]; omega
                    | true =>
                      have HHF := Lib.hid hhf
                      clear hhf
                      go_wp2_with fail
                      go_quiet ((go_at_call 85; exact Calls.quiet_of (HCQ.out _)))
                      have hbq : Below wr.heap.size wr (wr.drewN nq) := bdrewN (bnil wr) nq
                      clear v_x0 v_x1 v_x2
                      have T1834 := T1833.up hbq
                      clear T1833
                      by_cases hcol : w' ≤ K1
                      · skip
                        have gI : (w' : Int) ≤ (K1 : Int) := by omega
                        have hnm := HLD.out.1 hcol
                        have hhf := HHF.out
                        rw [if_pos ⟨by trivial, hnm⟩] at hhf
                        have hjr := HRUN0.out
                        rw [← hhf] at hjr
                        have HJR2 : Hid ((nn + (q + lk), some (4 + i)) = JR) := hjr
                        clear hhf hjr hnm
                        have iw : IntKind.i64.wrap (4 + (i : Int)) = 4 + (i : Int) := IntWalk.i64_in _ (by omega)
                        have v_x0 : (wr.drewN nq).cell? ⟨wo.heap.size, 0, none⟩ = some (.int .i64 (ec : Nat)) := T1834.out.2.1
                        have v_x1 : (wr.drewN nq).cell? ⟨wo.heap.size, 1, none⟩ = some (.int .i64 (ea : Nat)) := T1834.out.2.2.1
                        have v_x2 : (wr.drewN nq).cell? ⟨wo.heap.size, 2, none⟩ = some (.int .i64 (eb : Nat)) := T1834.out.2.2.2
                        have hl6 : W.heap.size + 1 + 1 ≤ (wr.drewN nq).heap.size := heap_ltT (T1834.out.1.1.1.1.1.1.1.1.2)
                        go_wp2_with fail
                        refine (rawNew_fresh _ _ _ (wr.drewN nq) rfl).mono ?_; rintro e wz ⟨b1, b2, rfl, lb1, lb2, hw8, hbwz⟩
                        clear v_x0 v_x1 v_x2
                        have T1835 := T1834.up hbwz
                        clear T1834
                        have hn5 : nn + (q + lk) = nq2 := by have := HNQ.out; omega
                        have HOD9 : Hid (judgeF t (w' : Int) (h' : Int) l bs = (nq2, some ([(opJudge, 4 + (i : Int))], 8))) := by
                          show _ = _
                          rw [HOD.out, ← HJR2.out, hn5]
                          rfl
                        clear hn5
                        obtain ⟨⟨q3, q4, q5⟩, f3, f4, f5⟩ := p_cells (T1835.out.1.1.1.1.1.1.1.1.2)
                        obtain ⟨w9, e9, ⟨r0, r1, r2⟩, hk9, hs9, hw9, hb9⟩ := er_set (show W.heap.size ≤ W.heap.size + 1 by omega) (T1835.out.1.1.1.1.1.1.1.1.2) (T1835.out.1.1.1.1.1.1.1.1.1.1.1.2) (fr_some (by omega)) (fr_some (by omega)) (wc_want hw8)
                        have HRET := Lib.hid (And.intro hw9 hb9)
                        clear hk9 hs9 hw9 hb9 lb1 lb2 hw8
                        have HE9 := Lib.hid e9
                        have HR9 := Lib.hid (And.intro r0 (And.intro r1 r2))
                        clear e9 r0 r1 r2
                        go_wp2
                        rw [HE9.out]
                        have r0 := HR9.out.1
                        have r1 := HR9.out.2.1
                        have r2 := HR9.out.2.2
                        refine bodyPost_ret (v := .tuple #[.int .i64 (nq2 : Nat), .agg #[.int .i64 8, .slice (some ⟨b1, 0, none⟩) 1 1, .slice (some ⟨b2, 0, none⟩) 1 1]]) (by simp [results, Tryd.results43, go_sem, r0, r1, r2]) rfl ?_
                        rw [HOD9.out]
                        exact ⟨_, _, _, _, _, _, _, rfl, HRET.out.1, rfl, HRET.out.2⟩
                      have hcol2 : K1 < w' := by omega
                      have hah := HLD.out.2 hcol2
                      obtain ⟨P2, hP2⟩ : ∃ P2, K1 * M = P2 := ⟨_, rfl⟩
                      have hP2b : P2 ≤ 512 := by rw [← hP2]; exact Nat.le_trans (Nat.mul_le_mul (show _ ≤ 8 by omega) hM64) (by omega)
                      obtain ⟨Q2, hQ2⟩ : ∃ Q2, P2 + eb = Q2 := ⟨_, rfl⟩
                      obtain ⟨R2, hR2⟩ : ∃ R2, Q2 * M = R2 := ⟨_, rfl⟩
                      have hR2b : R2 ≤ 576 * 64 := by rw [← hR2]; exact Nat.le_trans (Nat.mul_le_mul (show _ ≤ 576 by omega) hM64) (by omega)
                      obtain ⟨S2, hS2⟩ : ∃ S2, R2 + c2 = S2 := ⟨_, rfl⟩
                      have hS2N : S2 < NN := by
                        have hf : Fit3 w' M (((K1 : Nat) : Int), (eb : Int), (c2 : Int)) := ⟨Int.natCast_nonneg _, Int.ofNat_lt.2 hcol2, Int.natCast_nonneg _, Int.ofNat_lt.2 hebM, Int.natCast_nonneg _, Int.ofNat_lt.2 hcM⟩
                        have h := posE_lt hf
                        rw [HNN.out] at h
                        have h2 : posE M (((K1 : Nat) : Int), (eb : Int), (c2 : Int)) = S2 := by rw [← hS2, ← hR2, ← hQ2, ← hP2]; rfl
                        rw [h2] at h
                        exact h
                      rw [hP2, hQ2, hR2, hS2] at hah
                      have p2I : (K1 : Int) * (M : Int) = (P2 : Int) := by rw [← hP2]; exact (Int.natCast_mul _ _).symm
                      have q2I : (P2 : Int) + (eb : Int) = (Q2 : Int) := by omega
                      have r2I : (Q2 : Int) * (M : Int) = (R2 : Int) := by rw [← hR2]; exact (Int.natCast_mul _ _).symm
                      have s2I : (R2 : Int) + (c2 : Int) = (S2 : Int) := by omega
                      have p2W : IntKind.i64.wrap (P2 : Int) = (P2 : Int) := IntWalk.i64_in _ (by omega)
                      have q2W : IntKind.i64.wrap (Q2 : Int) = (Q2 : Int) := IntWalk.i64_in _ (by omega)
                      have r2W : IntKind.i64.wrap (R2 : Int) = (R2 : Int) := IntWalk.i64_in _ (by omega)
                      have s2W : IntKind.i64.wrap (S2 : Int) = (S2 : Int) := IntWalk.i64_in _ (by omega)
                      have s20 : (0 : Int) ≤ (S2 : Int) := by omega
                      have s21 : (S2 : Int) < (NN : Int) := by omega
                      have gI : ¬ (w' : Int) ≤ (K1 : Int) := by omega
                      have hcs := (owns_up HOR.out hbq).cellAt S2 (by omega)
                      rw [bools_at _ hS2N, hah] at hcs
                      clear hP2 hQ2 hR2 hS2 hah hP2b hR2b
                      by_cases hmem : (((K1 : Nat) : Int), (eb : Int), (c2 : Int)) ∈ L.take i
                      · skip
                        rw [decide_eq_true hmem] at hcs
                        have hhf := HHF.out
                        rw [if_neg (fun h => h.2 hmem)] at hhf
                        have HHF2 := Lib.hid hhf
                        clear hhf hmem
                        have v_x0 : (wr.drewN nq).cell? ⟨wo.heap.size, 0, none⟩ = some (.int .i64 (ec : Nat)) := T1834.out.2.1
                        have v_x1 : (wr.drewN nq).cell? ⟨wo.heap.size, 1, none⟩ = some (.int .i64 (ea : Nat)) := T1834.out.2.2.1
                        have v_x2 : (wr.drewN nq).cell? ⟨wo.heap.size, 2, none⟩ = some (.int .i64 (eb : Nat)) := T1834.out.2.2.2
                        go_wp2
                        go_roundw
                        case rel => exact ⟨c2 + 1, q + lk, m + nq, by omega, by omega, by go_num, by have h1 := HNQ.out; go_num, HHF2.out, by rw [HWM.out]; exact World.drewN_drewN _ _ _⟩
                        case measure => simp [intOf]; omega
                      · skip
                        rw [decide_eq_false hmem] at hcs
                        have hnm := hmem
                        have hhf := HHF.out
                        rw [if_pos ⟨by trivial, hnm⟩] at hhf
                        have hjr := HRUN0.out
                        rw [← hhf] at hjr
                        have HJR2 : Hid ((nn + (q + lk), some (4 + i)) = JR) := hjr
                        clear hhf hjr hnm
                        have iw : IntKind.i64.wrap (4 + (i : Int)) = 4 + (i : Int) := IntWalk.i64_in _ (by omega)
                        have v_x0 : (wr.drewN nq).cell? ⟨wo.heap.size, 0, none⟩ = some (.int .i64 (ec : Nat)) := T1834.out.2.1
                        have v_x1 : (wr.drewN nq).cell? ⟨wo.heap.size, 1, none⟩ = some (.int .i64 (ea : Nat)) := T1834.out.2.2.1
                        have v_x2 : (wr.drewN nq).cell? ⟨wo.heap.size, 2, none⟩ = some (.int .i64 (eb : Nat)) := T1834.out.2.2.2
                        have hl6 : W.heap.size + 1 + 1 ≤ (wr.drewN nq).heap.size := heap_ltT (T1834.out.1.1.1.1.1.1.1.1.2)
                        go_wp2_with fail
                        refine (rawNew_fresh _ _ _ (wr.drewN nq) rfl).mono ?_; rintro e wz ⟨b1, b2, rfl, lb1, lb2, hw8, hbwz⟩
                        clear v_x0 v_x1 v_x2
                        have T1835 := T1834.up hbwz
                        clear T1834
                        have hn5 : nn + (q + lk) = nq2 := by have := HNQ.out; omega
                        have HOD9 : Hid (judgeF t (w' : Int) (h' : Int) l bs = (nq2, some ([(opJudge, 4 + (i : Int))], 8))) := by
                          show _ = _
                          rw [HOD.out, ← HJR2.out, hn5]
                          rfl
                        clear hn5
                        obtain ⟨⟨q3, q4, q5⟩, f3, f4, f5⟩ := p_cells (T1835.out.1.1.1.1.1.1.1.1.2)
                        obtain ⟨w9, e9, ⟨r0, r1, r2⟩, hk9, hs9, hw9, hb9⟩ := er_set (show W.heap.size ≤ W.heap.size + 1 by omega) (T1835.out.1.1.1.1.1.1.1.1.2) (T1835.out.1.1.1.1.1.1.1.1.1.1.1.2) (fr_some (by omega)) (fr_some (by omega)) (wc_want hw8)
                        have HRET := Lib.hid (And.intro hw9 hb9)
                        clear hk9 hs9 hw9 hb9 lb1 lb2 hw8
                        have HE9 := Lib.hid e9
                        have HR9 := Lib.hid (And.intro r0 (And.intro r1 r2))
                        clear e9 r0 r1 r2
                        go_wp2
                        rw [HE9.out]
                        have r0 := HR9.out.1
                        have r1 := HR9.out.2.1
                        have r2 := HR9.out.2.2
                        refine bodyPost_ret (v := .tuple #[.int .i64 (nq2 : Nat), .agg #[.int .i64 8, .slice (some ⟨b1, 0, none⟩) 1 1, .slice (some ⟨b2, 0, none⟩) 1 1]]) (by simp [results, Tryd.results43, go_sem, r0, r1, r2]) rfl ?_
                        rw [HOD9.out]
                        exact ⟨_, _, _, _, _, _, _, rfl, HRET.out.1, rfl, HRET.out.2⟩
                  · skip
                    obtain rfl : c2 = M := by omega
                    rw [Nat.sub_self] at hhf
                    unfold holdsF at hhf
                    have hjr := HRUN0.out
                    rw [← hhf] at hjr
                    simp only [if_true] at hjr
                    have HJR2 := Lib.hid hjr
                    clear hhf hjr
                    obtain ⟨P2, hP2⟩ : ∃ P2, ec * c2 = P2 := ⟨_, rfl⟩
                    have hP2b : P2 ≤ 512 := by rw [← hP2]; exact Nat.le_trans (Nat.mul_le_mul (show _ ≤ 8 by omega) hM64) (by omega)
                    obtain ⟨Q2, hQ2⟩ : ∃ Q2, P2 + ea = Q2 := ⟨_, rfl⟩
                    obtain ⟨R2, hR2⟩ : ∃ R2, Q2 * c2 = R2 := ⟨_, rfl⟩
                    have hR2b : R2 ≤ 576 * 64 := by rw [← hR2]; exact Nat.le_trans (Nat.mul_le_mul (show _ ≤ 576 by omega) hM64) (by omega)
                    obtain ⟨S2, hS2⟩ : ∃ S2, R2 + eb = S2 := ⟨_, rfl⟩
                    rw [hP2, hQ2, hR2, hS2] at hpl
                    have hpe2 : posE c2 ((ec : Int), (ea : Int), (eb : Int)) = S2 := by rw [← hS2, ← hR2, ← hQ2, ← hP2]; rfl
                    have p2I : (ec : Int) * (c2 : Int) = (P2 : Int) := by rw [← hP2]; exact (Int.natCast_mul _ _).symm
                    have q2I : (P2 : Int) + (ea : Int) = (Q2 : Int) := by omega
                    have r2I : (Q2 : Int) * (c2 : Int) = (R2 : Int) := by rw [← hR2]; exact (Int.natCast_mul _ _).symm
                    have s2I : (R2 : Int) + (eb : Int) = (S2 : Int) := by omega
                    have p2W : IntKind.i64.wrap (P2 : Int) = (P2 : Int) := IntWalk.i64_in _ (by omega)
                    have q2W : IntKind.i64.wrap (Q2 : Int) = (Q2 : Int) := IntWalk.i64_in _ (by omega)
                    have r2W : IntKind.i64.wrap (R2 : Int) = (R2 : Int) := IntWalk.i64_in _ (by omega)
                    have s2W : IntKind.i64.wrap (S2 : Int) = (S2 : Int) := IntWalk.i64_in _ (by omega)
                    have s20 : (0 : Int) ≤ (S2 : Int) := by omega
                    have s21 : (S2 : Int) < (NN : Int) := by omega
                    have iW : IntKind.i64.wrap ((i : Int) + 1) = (i : Int) + 1 := IntWalk.i64_in _ (by omega)
                    have hcs := HOR.out.cellAt S2 (by omega)
                    rw [bools_at _ hpl] at hcs
                    have hfz := HOR.out.frozenAt S2
                    have hO9 := own_set HOR.out S2 (.bool true)
                    rw [bools_set _ (ahB c2 (L.take (i + 1))) (fun j _ => by rw [HTK.out, ahB_snoc, hpe2])] at hO9
                    have hbO : Below g wd wr := HBJ.out.trans ((HBX.out.trans ((by rw [HWM.out]; exact bdrewN (bnil wx) m : Below wx.heap.size wx wr).mono HBX.out.size)).mono (own_gle HO.out))
                    have HO9 := Lib.hid hO9
                    have HB9 := Lib.hid (hbO.setCell (p := ⟨g, S2, none⟩) (Nat.le_refl g) (.bool true))
                    have cM : ¬ (c2 : Int) < (c2 : Int) := by omega
                    clear hP2 hQ2 hR2 hS2 hpe2 hP2b hR2b hO9 hbO
                    have v_x0 : wr.cell? ⟨wo.heap.size, 0, none⟩ = some (.int .i64 (ec : Nat)) := T1833.out.2.1
                    have v_x1 : wr.cell? ⟨wo.heap.size, 1, none⟩ = some (.int .i64 (ea : Nat)) := T1833.out.2.2.1
                    have v_x2 : wr.cell? ⟨wo.heap.size, 2, none⟩ = some (.int .i64 (eb : Nat)) := T1833.out.2.2.2
                    go_wp2
                    go_roundw
                    case rel => exact ⟨i + 1, nn + q, by omega, by omega, by go_num, rfl, HJR2.out, HO9.out, HB9.out⟩
                    case measure => simp [intOf]; omega
              obtain rfl : i = L.length := by omega
              rw [List.drop_length, List.take_length] at hrun
              have hho := HO.out
              rw [List.take_length] at hho
              have HOL := Lib.hid hho
              have HFA : Hid (∀ y ∈ L, Fit3 w' M y) := fun y hy => by have h := HFIT.out y hy; rwa [HMC.out.1] at h
              have HRN := Lib.hid hrun
              have hMMI : (M : Int) * (M : Int) = ((M * M : Nat) : Int) := (Int.natCast_mul _ _).symm
              have hM2 : M * M ≤ 4096 := Nat.mul_le_mul hM64 hM64
              obtain ⟨MM, hMM⟩ : ∃ MM, M * M = MM := ⟨_, rfl⟩
              rw [hMM] at hMMI hM2 hMMN
              have hMMw : IntKind.i64.wrap (MM : Int) = (MM : Int) := IntWalk.i64_in _ (by omega)
              have HMM := Lib.hid hMM
              have i1 : ¬ (L.length : Int) < (L.length : Int) := by omega
              clear hrun hho hMM HO
              go_wp2_with fail
              go_loopw [22] (fun kx wr => ∃ kk : Nat, kk ≤ MM ∧ kx = .int .i64 (kk : Nat) ∧ (∀ j, j < kk → ahB M L j = true) ∧ wr = wo) (fun kx _ => MM - (intOf kx).toNat)
              case atStart => exact ⟨0, by omega, rfl, fun j hj => by omega, rfl⟩
              case round =>
                obtain ⟨kk, hkk, rfl, hall, hwr⟩ := hrel
                rw [hwr]
                have HALL := Lib.hid hall
                clear hwr hall
                by_cases hkM : kk < MM
                · skip
                  have hcs := HOL.out.cellAt kk (by omega)
                  rw [bools_at _ (show kk < NN by omega)] at hcs
                  have k0 : (0 : Int) ≤ (kk : Int) := by omega
                  have k1 : (kk : Int) < (NN : Int) := by omega
                  have k2 : (kk : Int) < (MM : Int) := by omega
                  have kw : IntKind.i64.wrap ((kk : Int) + 1) = (kk : Int) + 1 := IntWalk.i64_in _ (by omega)
                  cases hav : ahB M L kk with
                  | true =>
                    rw [hav] at hcs
                    have HAV := Lib.hid hav
                    clear hav
                    go_wp2
                    go_roundw
                    case rel => exact ⟨kk + 1, by omega, by go_num, fun j hj => by rcases Nat.lt_or_ge j kk with h | h; exact HALL.out j h; (obtain rfl : j = kk := by omega); exact HAV.out, by first | rfl | trivial⟩
                    case measure => simp [intOf]; omega
                  | false =>
                    rw [hav] at hcs
                    have hje := (run_end (t := t) (cols := CL) (h := h') (i := L.length) (n := nn) HFA.out (by omega) rfl).2 kk (by rw [HMM.out]; exact hkM) hav
                    rw [HRN.out] at hje
                    have HJR2 := Lib.hid hje
                    clear hje hav
                    have iw : IntKind.i64.wrap (4 + (L.length : Int)) = 4 + (L.length : Int) := IntWalk.i64_in _ (by omega)
                    have hl6 : W.heap.size + 1 + 1 ≤ wo.heap.size := heap_ltT (T1830.out.1.1.1.1.1.1.1.2)
                    go_wp2_with fail
                    refine (rawNew_fresh _ _ _ wo rfl).mono ?_; rintro e wz ⟨b1, b2, rfl, lb1, lb2, hw8, hbwz⟩
                    have T1831 := T1830.up hbwz
                    clear T1830
                    have HOD9 : Hid (judgeF t (w' : Int) (h' : Int) l bs = (nn, some ([(opJudge, 4 + (L.length : Int))], 8))) := by
                      show _ = _
                      rw [HOD.out, HJR2.out]
                      rfl
                    obtain ⟨⟨q3, q4, q5⟩, f3, f4, f5⟩ := p_cells (T1831.out.1.1.1.1.1.1.1.2)
                    obtain ⟨w9, e9, ⟨r0, r1, r2⟩, hk9, hs9, hw9, hb9⟩ := er_set (show W.heap.size ≤ W.heap.size + 1 by omega) (T1831.out.1.1.1.1.1.1.1.2) (T1831.out.1.1.1.1.1.1.1.1.1.1.2) (fr_some (by omega)) (fr_some (by omega)) (wc_want hw8)
                    have HRET := Lib.hid (And.intro hw9 hb9)
                    clear hk9 hs9 hw9 hb9
                    have HE9 := Lib.hid e9
                    have HR9 := Lib.hid (And.intro r0 (And.intro r1 r2))
                    clear e9 r0 r1 r2
                    go_wp2
                    rw [HE9.out]
                    have r0 := HR9.out.1
                    have r1 := HR9.out.2.1
                    have r2 := HR9.out.2.2
                    refine bodyPost_ret (v := .tuple #[.int .i64 (nn : Nat), .agg #[.int .i64 8, .slice (some ⟨b1, 0, none⟩) 1 1, .slice (some ⟨b2, 0, none⟩) 1 1]]) (by simp [results, Tryd.results43, go_sem, r0, r1, r2]) rfl ?_
                    rw [HOD9.out]
                    exact ⟨_, _, _, _, _, _, _, rfl, HRET.out.1, rfl, HRET.out.2⟩
                · skip
                  obtain rfl : kk = MM := by omega
                  have hje := (run_end (t := t) (cols := CL) (h := h') (i := L.length) (n := nn) HFA.out (by omega) rfl).1 (fun j hj => HALL.out j (by rw [← HMM.out]; exact hj))
                  rw [HRN.out] at hje
                  have HOD9 : Hid (judgeF t (w' : Int) (h' : Int) l bs = (nn, none)) := by
                    show _ = _
                    rw [HOD.out, hje]
                    rfl
                  have k2 : ¬ (kk : Int) < (kk : Int) := by omega
                  clear hje
                  obtain ⟨⟨q3, q4, q5⟩, f3, f4, f5⟩ := p_cells (T1830.out.1.1.1.1.1.1.1.2)
                  obtain ⟨w9, e9, ⟨r0, r1, r2⟩, hk9, hs9, hw9, hb9⟩ := er_set (show W.heap.size ≤ W.heap.size + 1 by omega) (T1830.out.1.1.1.1.1.1.1.2) (T1830.out.1.1.1.1.1.1.1.1.1.1.2) fr_none fr_none (wc_none wo)
                  have HRET := Lib.hid (And.intro hw9 hb9)
                  clear hk9 hs9 hw9 hb9
                  have HE9 := Lib.hid e9
                  have HR9 := Lib.hid (And.intro r0 (And.intro r1 r2))
                  clear e9 r0 r1 r2
                  go_wp2
                  rw [HE9.out]
                  have r0 := HR9.out.1
                  have r1 := HR9.out.2.1
                  have r2 := HR9.out.2.2
                  refine bodyPost_ret (v := .tuple #[.int .i64 (nn : Nat), .agg #[.int .i64 0, .slice none 0 0, .slice none 0 0]]) (by simp [results, Tryd.results43, go_sem, r0, r1, r2]) rfl ?_
                  rw [HOD9.out]
                  exact ⟨_, _, _, _, _, _, _, rfl, HRET.out.1, rfl, HRET.out.2⟩
          · skip
            have HOD := Lib.hid (judgeF_sz HGV.out HDF.out (Or.inr (by omega)))
            have hbI : ((h' : Int) != (h : Int)) = true := by rw [bne_iff_ne]; omega
            have hbJ : ¬ (h' : Int) = (h : Int) := by omega
            go_enter Tryd.func43, Tryd.ntmps43
            go_wp2_with fail
            rw [HWb.out]
            refine (refplcheck_ok aT 512 cT t Wb T7.out.1.2 hmT HTD.out).mono ?_; rintro e w0 ⟨rfl, hbw0⟩
            have T8 := T7.up hbw0
            clear T7
            go_wp2_with fail
            refine (refUnder_z _ _ w0).mono ?_; rintro e w1 ⟨rfl, hbw1⟩
            have T9 := T8.up hbw1
            clear T8
            have HLT : Hid (W.heap.size + 1 < w1.heap.size) := heap_ltT (T9.out.1.1.2)
            have TK1 := T9
            have T10 := T9.add (fun wv => Below w1.heap.size w1 wv) (bnil w1)
            clear T9
            obtain ⟨we, hwe⟩ : ∃ we, w1.alloc (.cells #[.int .i64 0, .slice none 0 0, .slice none 0 0] 60) = we := ⟨_, rfl⟩
            have hbwe : Below w1.heap.size w1 we := by rw [← hwe]; exact balloc (bnil w1) _
            have T11 := T10.up hbwe
            clear T10
            have T12 := T11.add (fun wv => wv.cell? ⟨w1.heap.size, 0, none⟩ = some (.int .i64 0) ∧ wv.cell? ⟨w1.heap.size, 1, none⟩ = some (.slice none 0 0) ∧ wv.cell? ⟨w1.heap.size, 2, none⟩ = some (.slice none 0 0)) (by rw [← hwe]; exact ⟨cnw (by simp) rfl, cnw (by simp) rfl, cnw (by simp) rfl⟩)
            clear T11
            have Hwe := Lib.hid hwe
            clear hwe hbwe
            have hze : we.heap[w1.heap.size]? = some (.cells #[.int .i64 0, .slice none 0 0, .slice none 0 0] 60) := by rw [← Hwe.out]; exact heap_alloc_new w1 _
            have T13 := T12.add (fun wv => wv.heap[w1.heap.size]? = some (.cells #[.int .i64 0, .slice none 0 0, .slice none 0 0] 60)) (hze)
            clear T12
            clear hze
            have v_e0 : (w1.alloc (.cells #[.int .i64 0, .slice none 0 0, .slice none 0 0] 60)).cell? ⟨w1.heap.size, 0, none⟩ = some (.int .i64 0) := by rw [Hwe.out]; exact T13.out.1.2.1
            have v_e1 : (w1.alloc (.cells #[.int .i64 0, .slice none 0 0, .slice none 0 0] 60)).cell? ⟨w1.heap.size, 1, none⟩ = some (.slice none 0 0) := by rw [Hwe.out]; exact T13.out.1.2.2.1
            have v_e2 : (w1.alloc (.cells #[.int .i64 0, .slice none 0 0, .slice none 0 0] 60)).cell? ⟨w1.heap.size, 2, none⟩ = some (.slice none 0 0) := by rw [Hwe.out]; exact T13.out.1.2.2.2
            go_wp2_with fail
            rw [Hwe.out]
            refine (refBadE _ _ _ we false rfl).mono ?_; rintro e w2 ⟨rfl, hbw2⟩
            clear v_e0 v_e1 v_e2
            have T14 := T13.up hbw2
            clear T13
            have v_p0 : w2.cell? ⟨W.heap.size, 0, none⟩ = some (.int .i64 w') := T14.out.1.1.1.1.1.1.2.1
            have v_p1 : w2.cell? ⟨W.heap.size, 1, none⟩ = some (.int .i64 h) := T14.out.1.1.1.1.1.1.2.2.1
            have v_p2 : w2.cell? ⟨W.heap.size, 2, none⟩ = some (.slice a n c) := T14.out.1.1.1.1.1.1.2.2.2
            go_wp2_with fail
            refine (refpcheck_ok w' h a n c l w2 T14.out.1.1.1.1.1.1.1.2 hm HPP.out).mono ?_; rintro e w3 ⟨rfl, hbw3⟩
            clear v_p0 v_p1 v_p2
            have T15 := T14.up hbw3
            clear T14
            go_wp2_with fail
            refine (refUnder_z _ _ w3).mono ?_; rintro e w4 ⟨rfl, hbw4⟩
            have T16 := T15.up hbw4
            clear T15
            obtain ⟨⟨q0, q1, q2⟩, dd0, dd1, dd2⟩ := p_cells (T16.out.2)
            obtain ⟨w5, e5, ⟨r0, r1, r2⟩, hk5, hs5, hb5⟩ := set3p (T16.out.2) (.int .i64 0) (.slice none 0 0) (.slice none 0 0)
            have hE5 : w5.heap[w1.heap.size]? = some (.cells #[.int .i64 0, .slice none 0 0, .slice none 0 0] 60) := by rw [← e5]; exact set3h (T16.out.2) _ _ _
            have hb15 : Below w1.heap.size w1 w5 := hb5 w1 w1.heap.size (Nat.le_refl _) (T16.out.1.1.2)
            have hE1 : w1.heap.size < w4.heap.size := heap_ltT (T16.out.2)
            have HE5 := Lib.hid e5
            have T916 := TK1.up hb15
            clear T16
            have T917 := T916.add (fun wv => wv.cell? ⟨w1.heap.size, 0, none⟩ = some (.int .i64 0) ∧ wv.cell? ⟨w1.heap.size, 1, none⟩ = some (.slice none 0 0) ∧ wv.cell? ⟨w1.heap.size, 2, none⟩ = some (.slice none 0 0)) (⟨r0, r1, r2⟩)
            clear T916
            have T918 := T917.add (fun wv => wv.heap[w1.heap.size]? = some (.cells #[.int .i64 0, .slice none 0 0, .slice none 0 0] 60)) (hE5)
            clear T917
            have T919 := T918.add (fun wv => Below w1.heap.size w1 wv) (hb15)
            clear T918
            clear r0 r1 r2 hb15 hE5 hE1 hk5 hs5 hb5 e5
            go_wp2_with fail
            rw [HE5.out]
            clear q0 q1 q2 dd0 dd1 dd2 HE5
            have v_e0 : w5.cell? ⟨w1.heap.size, 0, none⟩ = some (.int .i64 0) := T919.out.1.1.2.1
            have v_e1 : w5.cell? ⟨w1.heap.size, 1, none⟩ = some (.slice none 0 0) := T919.out.1.1.2.2.1
            have v_e2 : w5.cell? ⟨w1.heap.size, 2, none⟩ = some (.slice none 0 0) := T919.out.1.1.2.2.2
            go_wp2_with fail
            refine (refBadE _ _ _ w5 false rfl).mono ?_; rintro e w6 ⟨rfl, hbw6⟩
            clear v_e0 v_e1 v_e2
            have T920 := T919.up hbw6
            clear T919
            have hl6 : w1.heap.size + 1 ≤ w6.heap.size := heap_ltT (T920.out.1.2)
            have v_p0 : w6.cell? ⟨W.heap.size, 0, none⟩ = some (.int .i64 w') := T920.out.1.1.1.1.1.1.2.1
            have v_p1 : w6.cell? ⟨W.heap.size, 1, none⟩ = some (.int .i64 h) := T920.out.1.1.1.1.1.1.2.2.1
            have v_p2 : w6.cell? ⟨W.heap.size, 2, none⟩ = some (.slice a n c) := T920.out.1.1.1.1.1.1.2.2.2
            go_wp2_with fail
            refine (rfDecode_any aB cB bs w6 (T920.out.1.1.1.2).2 HBR.out hBl).mono ?_; rintro e w7 ⟨hbw7, x1, y1, a3, n3, c3, N3, ao, no, co, aa, na, ca, rfl, fr3, fro, fra, hdp⟩
            clear v_p0 v_p1 v_p2
            have T921 := T920.up hbw7
            clear T920
            rw [HDF.out] at hdp
            obtain ⟨rfl, rfl, rfl, hrd3, hwi⟩ := hdp
            have hwz : N3 = 0 := errVal_zero hwi
            subst hwz
            clear hwi
            obtain ⟨⟨q0, q1, q2⟩, dd0, dd1, dd2⟩ := p_cells (T921.out.1.2)
            obtain ⟨w8, e5, ⟨r0, r1, r2⟩, hk5, hs5, hb5⟩ := set3p (T921.out.1.2) (.int .i64 0) (.slice ao no co) (.slice aa na ca)
            have hE5 : w8.heap[w1.heap.size]? = some (.cells #[.int .i64 0, .slice ao no co, .slice aa na ca] 60) := by rw [← e5]; exact set3h (T921.out.1.2) _ _ _
            have hb15 : Below w1.heap.size w1 w8 := hb5 w1 w1.heap.size (Nat.le_refl _) (T921.out.2)
            have hE1 : w1.heap.size < w7.heap.size := heap_ltT (T921.out.1.2)
            have HE5 := Lib.hid e5
            have hrd8 := hrd3.oth hk5 hs5 (fun b o e => by have := fr3 b o e; omega)
            clear hrd3 fro fra fr3
            have T1821 := TK1.up hb15
            clear T921
            have T1822 := T1821.add (fun wv => wv.cell? ⟨w1.heap.size, 0, none⟩ = some (.int .i64 0) ∧ wv.cell? ⟨w1.heap.size, 1, none⟩ = some (.slice ao no co) ∧ wv.cell? ⟨w1.heap.size, 2, none⟩ = some (.slice aa na ca)) (⟨r0, r1, r2⟩)
            clear T1821
            have T1823 := T1822.add (fun wv => wv.heap[w1.heap.size]? = some (.cells #[.int .i64 0, .slice ao no co, .slice aa na ca] 60)) (hE5)
            clear T1822
            have T1824 := T1823.add (fun wv => Below w1.heap.size w1 wv) (hb15)
            clear T1823
            clear r0 r1 r2 hb15 hE5 hE1 hk5 hs5 hb5 e5
            have T1825 := T1824.add (fun wv => Rd wv a3 L.length 3 (entsC L)) (hrd8)
            clear T1824
            clear hrd8 TK1
            go_wp2_with fail
            rw [HE5.out]
            clear q0 q1 q2 dd0 dd1 dd2 HE5
            have v_e0 : w8.cell? ⟨w1.heap.size, 0, none⟩ = some (.int .i64 0) := T1825.out.1.1.1.2.1
            have v_e1 : w8.cell? ⟨w1.heap.size, 1, none⟩ = some (.slice ao no co) := T1825.out.1.1.1.2.2.1
            have v_e2 : w8.cell? ⟨w1.heap.size, 2, none⟩ = some (.slice aa na ca) := T1825.out.1.1.1.2.2.2
            go_wp2_with fail
            refine (refBadE _ _ _ w8 false rfl).mono ?_; rintro e wa ⟨rfl, hbwa⟩
            clear v_e0 v_e1 v_e2
            have T1826 := T1825.up hbwa
            clear T1825
            have v_p0 : wa.cell? ⟨W.heap.size, 0, none⟩ = some (.int .i64 w') := T1826.out.1.1.1.1.1.1.1.2.1
            have v_p1 : wa.cell? ⟨W.heap.size, 1, none⟩ = some (.int .i64 h) := T1826.out.1.1.1.1.1.1.1.2.2.1
            have v_p2 : wa.cell? ⟨W.heap.size, 2, none⟩ = some (.slice a n c) := T1826.out.1.1.1.1.1.1.1.2.2.2
            have hl6 : W.heap.size + 1 + 1 ≤ wa.heap.size := heap_ltT (T1826.out.1.1.1.1.1.1.2)
            go_wp2_with fail
            refine (rawNew_fresh _ _ _ wa rfl).mono ?_; rintro e wc ⟨b1, b2, rfl, lb1, lb2, hw8, hbwc⟩
            clear v_p0 v_p1 v_p2
            have T1827 := T1826.up hbwc
            clear T1826
            obtain ⟨⟨q3, q4, q5⟩, f3, f4, f5⟩ := p_cells (T1827.out.1.1.1.1.1.1.2)
            obtain ⟨w9, e9, ⟨r0, r1, r2⟩, hk9, hs9, hw9, hb9⟩ := er_set (show W.heap.size ≤ W.heap.size + 1 by omega) (T1827.out.1.1.1.1.1.1.2) (T1827.out.1.1.1.1.1.1.1.1.1.2) (fr_some (by omega)) (fr_some (by omega)) (wc_want hw8)
            have HRET := Lib.hid (And.intro hw9 hb9)
            clear hk9 hs9 hw9 hb9 lb1 lb2 hw8
            have HE9 := Lib.hid e9
            have HR9 := Lib.hid (And.intro r0 (And.intro r1 r2))
            clear e9 r0 r1 r2
            go_wp2
            rw [HE9.out]
            have r0 := HR9.out.1
            have r1 := HR9.out.2.1
            have r2 := HR9.out.2.2
            refine bodyPost_ret (v := .tuple #[.int .i64 0, .agg #[.int .i64 8, .slice (some ⟨b1, 0, none⟩) 1 1, .slice (some ⟨b2, 0, none⟩) 1 1]]) (by simp [results, Tryd.results43, go_sem, r0, r1, r2]) rfl ?_
            rw [HOD.out]
            exact ⟨_, _, _, _, _, _, _, rfl, HRET.out.1, rfl, HRET.out.2⟩
        · skip
          have HOD := Lib.hid (judgeF_sz HGV.out HDF.out (Or.inl (by omega)))
          have hbI : ((w' : Int) != (w : Int)) = true := by rw [bne_iff_ne]; omega
          have hbJ : ¬ (w' : Int) = (w : Int) := by omega
          go_enter Tryd.func43, Tryd.ntmps43
          go_wp2_with fail
          rw [HWb.out]
          refine (refplcheck_ok aT 512 cT t Wb T7.out.1.2 hmT HTD.out).mono ?_; rintro e w0 ⟨rfl, hbw0⟩
          have T8 := T7.up hbw0
          clear T7
          go_wp2_with fail
          refine (refUnder_z _ _ w0).mono ?_; rintro e w1 ⟨rfl, hbw1⟩
          have T9 := T8.up hbw1
          clear T8
          have HLT : Hid (W.heap.size + 1 < w1.heap.size) := heap_ltT (T9.out.1.1.2)
          have TK1 := T9
          have T10 := T9.add (fun wv => Below w1.heap.size w1 wv) (bnil w1)
          clear T9
          obtain ⟨we, hwe⟩ : ∃ we, w1.alloc (.cells #[.int .i64 0, .slice none 0 0, .slice none 0 0] 60) = we := ⟨_, rfl⟩
          have hbwe : Below w1.heap.size w1 we := by rw [← hwe]; exact balloc (bnil w1) _
          have T11 := T10.up hbwe
          clear T10
          have T12 := T11.add (fun wv => wv.cell? ⟨w1.heap.size, 0, none⟩ = some (.int .i64 0) ∧ wv.cell? ⟨w1.heap.size, 1, none⟩ = some (.slice none 0 0) ∧ wv.cell? ⟨w1.heap.size, 2, none⟩ = some (.slice none 0 0)) (by rw [← hwe]; exact ⟨cnw (by simp) rfl, cnw (by simp) rfl, cnw (by simp) rfl⟩)
          clear T11
          have Hwe := Lib.hid hwe
          clear hwe hbwe
          have hze : we.heap[w1.heap.size]? = some (.cells #[.int .i64 0, .slice none 0 0, .slice none 0 0] 60) := by rw [← Hwe.out]; exact heap_alloc_new w1 _
          have T13 := T12.add (fun wv => wv.heap[w1.heap.size]? = some (.cells #[.int .i64 0, .slice none 0 0, .slice none 0 0] 60)) (hze)
          clear T12
          clear hze
          have v_e0 : (w1.alloc (.cells #[.int .i64 0, .slice none 0 0, .slice none 0 0] 60)).cell? ⟨w1.heap.size, 0, none⟩ = some (.int .i64 0) := by rw [Hwe.out]; exact T13.out.1.2.1
          have v_e1 : (w1.alloc (.cells #[.int .i64 0, .slice none 0 0, .slice none 0 0] 60)).cell? ⟨w1.heap.size, 1, none⟩ = some (.slice none 0 0) := by rw [Hwe.out]; exact T13.out.1.2.2.1
          have v_e2 : (w1.alloc (.cells #[.int .i64 0, .slice none 0 0, .slice none 0 0] 60)).cell? ⟨w1.heap.size, 2, none⟩ = some (.slice none 0 0) := by rw [Hwe.out]; exact T13.out.1.2.2.2
          go_wp2_with fail
          rw [Hwe.out]
          refine (refBadE _ _ _ we false rfl).mono ?_; rintro e w2 ⟨rfl, hbw2⟩
          clear v_e0 v_e1 v_e2
          have T14 := T13.up hbw2
          clear T13
          have v_p0 : w2.cell? ⟨W.heap.size, 0, none⟩ = some (.int .i64 w) := T14.out.1.1.1.1.1.1.2.1
          have v_p1 : w2.cell? ⟨W.heap.size, 1, none⟩ = some (.int .i64 h) := T14.out.1.1.1.1.1.1.2.2.1
          have v_p2 : w2.cell? ⟨W.heap.size, 2, none⟩ = some (.slice a n c) := T14.out.1.1.1.1.1.1.2.2.2
          go_wp2_with fail
          refine (refpcheck_ok w h a n c l w2 T14.out.1.1.1.1.1.1.1.2 hm HPP.out).mono ?_; rintro e w3 ⟨rfl, hbw3⟩
          clear v_p0 v_p1 v_p2
          have T15 := T14.up hbw3
          clear T14
          go_wp2_with fail
          refine (refUnder_z _ _ w3).mono ?_; rintro e w4 ⟨rfl, hbw4⟩
          have T16 := T15.up hbw4
          clear T15
          obtain ⟨⟨q0, q1, q2⟩, dd0, dd1, dd2⟩ := p_cells (T16.out.2)
          obtain ⟨w5, e5, ⟨r0, r1, r2⟩, hk5, hs5, hb5⟩ := set3p (T16.out.2) (.int .i64 0) (.slice none 0 0) (.slice none 0 0)
          have hE5 : w5.heap[w1.heap.size]? = some (.cells #[.int .i64 0, .slice none 0 0, .slice none 0 0] 60) := by rw [← e5]; exact set3h (T16.out.2) _ _ _
          have hb15 : Below w1.heap.size w1 w5 := hb5 w1 w1.heap.size (Nat.le_refl _) (T16.out.1.1.2)
          have hE1 : w1.heap.size < w4.heap.size := heap_ltT (T16.out.2)
          have HE5 := Lib.hid e5
          have T916 := TK1.up hb15
          clear T16
          have T917 := T916.add (fun wv => wv.cell? ⟨w1.heap.size, 0, none⟩ = some (.int .i64 0) ∧ wv.cell? ⟨w1.heap.size, 1, none⟩ = some (.slice none 0 0) ∧ wv.cell? ⟨w1.heap.size, 2, none⟩ = some (.slice none 0 0)) (⟨r0, r1, r2⟩)
          clear T916
          have T918 := T917.add (fun wv => wv.heap[w1.heap.size]? = some (.cells #[.int .i64 0, .slice none 0 0, .slice none 0 0] 60)) (hE5)
          clear T917
          have T919 := T918.add (fun wv => Below w1.heap.size w1 wv) (hb15)
          clear T918
          clear r0 r1 r2 hb15 hE5 hE1 hk5 hs5 hb5 e5
          go_wp2_with fail
          rw [HE5.out]
          clear q0 q1 q2 dd0 dd1 dd2 HE5
          have v_e0 : w5.cell? ⟨w1.heap.size, 0, none⟩ = some (.int .i64 0) := T919.out.1.1.2.1
          have v_e1 : w5.cell? ⟨w1.heap.size, 1, none⟩ = some (.slice none 0 0) := T919.out.1.1.2.2.1
          have v_e2 : w5.cell? ⟨w1.heap.size, 2, none⟩ = some (.slice none 0 0) := T919.out.1.1.2.2.2
          go_wp2_with fail
          refine (refBadE _ _ _ w5 false rfl).mono ?_; rintro e w6 ⟨rfl, hbw6⟩
          clear v_e0 v_e1 v_e2
          have T920 := T919.up hbw6
          clear T919
          have hl6 : w1.heap.size + 1 ≤ w6.heap.size := heap_ltT (T920.out.1.2)
          have v_p0 : w6.cell? ⟨W.heap.size, 0, none⟩ = some (.int .i64 w) := T920.out.1.1.1.1.1.1.2.1
          have v_p1 : w6.cell? ⟨W.heap.size, 1, none⟩ = some (.int .i64 h) := T920.out.1.1.1.1.1.1.2.2.1
          have v_p2 : w6.cell? ⟨W.heap.size, 2, none⟩ = some (.slice a n c) := T920.out.1.1.1.1.1.1.2.2.2
          go_wp2_with fail
          refine (rfDecode_any aB cB bs w6 (T920.out.1.1.1.2).2 HBR.out hBl).mono ?_; rintro e w7 ⟨hbw7, x1, y1, a3, n3, c3, N3, ao, no, co, aa, na, ca, rfl, fr3, fro, fra, hdp⟩
          clear v_p0 v_p1 v_p2
          have T921 := T920.up hbw7
          clear T920
          rw [HDF.out] at hdp
          obtain ⟨rfl, rfl, rfl, hrd3, hwi⟩ := hdp
          have hwz : N3 = 0 := errVal_zero hwi
          subst hwz
          clear hwi
          obtain ⟨⟨q0, q1, q2⟩, dd0, dd1, dd2⟩ := p_cells (T921.out.1.2)
          obtain ⟨w8, e5, ⟨r0, r1, r2⟩, hk5, hs5, hb5⟩ := set3p (T921.out.1.2) (.int .i64 0) (.slice ao no co) (.slice aa na ca)
          have hE5 : w8.heap[w1.heap.size]? = some (.cells #[.int .i64 0, .slice ao no co, .slice aa na ca] 60) := by rw [← e5]; exact set3h (T921.out.1.2) _ _ _
          have hb15 : Below w1.heap.size w1 w8 := hb5 w1 w1.heap.size (Nat.le_refl _) (T921.out.2)
          have hE1 : w1.heap.size < w7.heap.size := heap_ltT (T921.out.1.2)
          have HE5 := Lib.hid e5
          have hrd8 := hrd3.oth hk5 hs5 (fun b o e => by have := fr3 b o e; omega)
          clear hrd3 fro fra fr3
          have T1821 := TK1.up hb15
          clear T921
          have T1822 := T1821.add (fun wv => wv.cell? ⟨w1.heap.size, 0, none⟩ = some (.int .i64 0) ∧ wv.cell? ⟨w1.heap.size, 1, none⟩ = some (.slice ao no co) ∧ wv.cell? ⟨w1.heap.size, 2, none⟩ = some (.slice aa na ca)) (⟨r0, r1, r2⟩)
          clear T1821
          have T1823 := T1822.add (fun wv => wv.heap[w1.heap.size]? = some (.cells #[.int .i64 0, .slice ao no co, .slice aa na ca] 60)) (hE5)
          clear T1822
          have T1824 := T1823.add (fun wv => Below w1.heap.size w1 wv) (hb15)
          clear T1823
          clear r0 r1 r2 hb15 hE5 hE1 hk5 hs5 hb5 e5
          have T1825 := T1824.add (fun wv => Rd wv a3 L.length 3 (entsC L)) (hrd8)
          clear T1824
          clear hrd8 TK1
          go_wp2_with fail
          rw [HE5.out]
          clear q0 q1 q2 dd0 dd1 dd2 HE5
          have v_e0 : w8.cell? ⟨w1.heap.size, 0, none⟩ = some (.int .i64 0) := T1825.out.1.1.1.2.1
          have v_e1 : w8.cell? ⟨w1.heap.size, 1, none⟩ = some (.slice ao no co) := T1825.out.1.1.1.2.2.1
          have v_e2 : w8.cell? ⟨w1.heap.size, 2, none⟩ = some (.slice aa na ca) := T1825.out.1.1.1.2.2.2
          go_wp2_with fail
          refine (refBadE _ _ _ w8 false rfl).mono ?_; rintro e wa ⟨rfl, hbwa⟩
          clear v_e0 v_e1 v_e2
          have T1826 := T1825.up hbwa
          clear T1825
          have v_p0 : wa.cell? ⟨W.heap.size, 0, none⟩ = some (.int .i64 w) := T1826.out.1.1.1.1.1.1.1.2.1
          have v_p1 : wa.cell? ⟨W.heap.size, 1, none⟩ = some (.int .i64 h) := T1826.out.1.1.1.1.1.1.1.2.2.1
          have v_p2 : wa.cell? ⟨W.heap.size, 2, none⟩ = some (.slice a n c) := T1826.out.1.1.1.1.1.1.1.2.2.2
          have hl6 : W.heap.size + 1 + 1 ≤ wa.heap.size := heap_ltT (T1826.out.1.1.1.1.1.1.2)
          go_wp2_with fail
          refine (rawNew_fresh _ _ _ wa rfl).mono ?_; rintro e wc ⟨b1, b2, rfl, lb1, lb2, hw8, hbwc⟩
          clear v_p0 v_p1 v_p2
          have T1827 := T1826.up hbwc
          clear T1826
          obtain ⟨⟨q3, q4, q5⟩, f3, f4, f5⟩ := p_cells (T1827.out.1.1.1.1.1.1.2)
          obtain ⟨w9, e9, ⟨r0, r1, r2⟩, hk9, hs9, hw9, hb9⟩ := er_set (show W.heap.size ≤ W.heap.size + 1 by omega) (T1827.out.1.1.1.1.1.1.2) (T1827.out.1.1.1.1.1.1.1.1.1.2) (fr_some (by omega)) (fr_some (by omega)) (wc_want hw8)
          have HRET := Lib.hid (And.intro hw9 hb9)
          clear hk9 hs9 hw9 hb9 lb1 lb2 hw8
          have HE9 := Lib.hid e9
          have HR9 := Lib.hid (And.intro r0 (And.intro r1 r2))
          clear e9 r0 r1 r2
          go_wp2
          rw [HE9.out]
          have r0 := HR9.out.1
          have r1 := HR9.out.2.1
          have r2 := HR9.out.2.2
          refine bodyPost_ret (v := .tuple #[.int .i64 0, .agg #[.int .i64 8, .slice (some ⟨b1, 0, none⟩) 1 1, .slice (some ⟨b2, 0, none⟩) 1 1]]) (by simp [results, Tryd.results43, go_sem, r0, r1, r2]) rfl ?_
          rw [HOD.out]
          exact ⟨_, _, _, _, _, _, _, rfl, HRET.out.1, rfl, HRET.out.2⟩
end Go.Proofs.YtoaooblodgejdaaDoor
