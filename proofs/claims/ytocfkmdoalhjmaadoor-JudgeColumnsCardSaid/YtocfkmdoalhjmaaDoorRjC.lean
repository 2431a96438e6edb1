/- edenref24.Made; edenref24.Column for all arguments. -/
import Derived.Test.YtocfkmdoalhjmaaDoorColJ
import Derived.Test.YtocfkmdoalhjmaaDoorRjJ
import Derived.Test.YtocfkmdoalhjmaaDoorSym24
import Derived.Test.YtocfkmdoalhjmaaDoorMst
import Derived.Deep.QuietTactic
import Derived.BigQuiet
namespace Go.Proofs.YtocfkmdoalhjmaaDoor
open Go.RowKit
set_option linter.unusedVariables false
set_option maxRecDepth 100000

set_option maxHeartbeats 8000000 in
theorem made24_any (ab ao cT : Nat) (t : List Int) (h a b c : Nat) (W : World) (hT : RK .i64 W (some ⟨ab, ao, none⟩) 512 t) (ht : IsTab t) (hh : h ≤ 4) (ha : a < 1024) (hb : b < 1024) (hc : c < 1024) :
    Calls Tryd.prog 94 #[.slice (some ⟨ab, ao, none⟩) 512 cT, .int .i64 (h : Nat), .int .i64 (a : Nat), .int .i64 (b : Nat), .int .i64 (c : Nat)] W fun e w' => e = .returned (.int .i64 ((madeV t a b c h : Nat) : Int)) ∧ ∃ n, w' = W.drewN n := by
  have HT := Lib.hid hT
  have HIT := Lib.hid ht
  clear hT ht
  go_enter Tryd.func94, Tryd.ntmps94
  go_wp2_with fail
  go_loopw [11, 12] (fun ox ix wr => ∃ y m : Nat, y ≤ h ∧ ix = .int .i64 (y : Nat) ∧ ox = .int .i64 ((madeV t a b c y : Nat) : Int) ∧ wr = W.drewN m) (fun _ ix _ => h - (intOf ix).toNat)
  case atStart => exact ⟨0, 0, by omega, rfl, rfl, rfl⟩
  case round =>
    obtain ⟨y, m, hy, rfl, rfl, hwm⟩ := hrel
    have HWM := Lib.hid hwm
    have HTW : Hid (RK .i64 wr (some ⟨ab, ao, none⟩) 512 t) := by show RK _ _ _ _ _; rw [hwm]; exact HT.out.dr m
    clear hwm
    by_cases hyh : y < h
    · obtain ⟨s, hs, hs1⟩ := symF_bit HIT.out a b c y
      have hml := madeV_lt HIT.out a b c y
      have hm1 : madeV t a b c (y + 1) = madeV t a b c y + s * 2 ^ y := by
        show _ + (symF t a b c y).toNat * 2 ^ y = _
        rw [hs, Int.toNat_natCast]
      have hp16 : 2 ^ y ≤ 16 := by
        have := Nat.pow_le_pow_right (n := 2) (by omega) (show y ≤ 4 by omega)
        have h2 : (2 : Nat) ^ 4 = 16 := by decide
        omega
      obtain ⟨ov, hov⟩ : ∃ ov, madeV t a b c y = ov := ⟨_, rfl⟩
      rw [hov] at hml hm1 ⊢
      obtain ⟨sv, hsv⟩ : ∃ sv, s * 2 ^ y = sv := ⟨_, rfl⟩
      have hsvb : sv ≤ 16 := by rw [← hsv]; exact Nat.le_trans (Nat.mul_le_mul hs1 hp16) (by omega)
      have hsvI : (s : Int) * 2 ^ y = (sv : Int) := by rw [← hsv, Int.natCast_mul, Int.natCast_pow]; rfl
      have hsvw : IntKind.i64.wrap (sv : Int) = (sv : Int) := IntWalk.i64_in _ (by omega)
      rw [hsv] at hm1
      obtain ⟨tv, htv⟩ : ∃ tv, ov + sv = tv := ⟨_, rfl⟩
      have htI : (ov : Int) + (sv : Int) = (tv : Int) := by omega
      have htw : IntKind.i64.wrap (tv : Int) = (tv : Int) := IntWalk.i64_in _ (by omega)
      rw [htv] at hm1
      have HM1 := Lib.hid hm1
      have y0 : (0 : Int) ≤ (y : Int) := by omega
      have y64 : (y : Int) ≤ 64 := by omega
      have y1 : (y : Int) < (h : Int) := by omega
      have yw : IntKind.i64.wrap ((y : Int) + 1) = (y : Int) + 1 := IntWalk.i64_in _ (by omega)
      have hCj := sym24_any ab ao cT t y a b c wr HTW.out (by omega) ha hb hc
      rw [hs] at hCj
      have HCJ := Lib.hid hCj
      clear hov hsv hm1 hCj hs htv
      go_wp2_with fail
      refine HCJ.out.mono ?_; rintro e w6 ⟨rfl, q, rfl⟩
      go_wp2
      go_roundw
      case rel => exact ⟨y + 1, m + q, by omega, by go_num, by rw [HM1.out], by rw [HWM.out]; exact World.drewN_drewN _ _ _⟩
      case measure => simp [intOf]; omega
    · obtain rfl : y = h := by omega
      have y1 : ¬ (y : Int) < (y : Int) := by omega
      go_wp2
      go_ret
      exact ⟨rfl, _, HWM.out⟩
theorem jcD_tab {t : List Int} {h a b c : Int} {x : List (ByteArray × Int) × Int} (ht : tabD t = some x) : jcD t h a b c = some ((opJudge, 0) :: x.1, x.2) := by unfold jcD; rw [ht]
theorem jcD_h {t : List Int} {h a b c : Int} (ht : tabD t = none) (hh : h < 1 ∨ 4 < h) : jcD t h a b c = some ([(opJudge, 1)], 3) := by unfold jcD; rw [ht]; exact if_pos hh
theorem jcD_at {t : List Int} {h a b c : Int} (ht : tabD t = none) (hh : ¬ (h < 1 ∨ 4 < h)) {i : Nat} (hi : idxI (jcB h) [a, b, c] = (i : Int)) : jcD t h a b c = some ([(opJudge, 2 + (i : Int))], 3) := by unfold jcD; rw [ht]; exact (if_neg hh).trans (by rw [hi, if_pos (by omega)])
theorem jcD_fin {t : List Int} {h a b c : Int} (ht : tabD t = none) (hh : ¬ (h < 1 ∨ 4 < h)) (hi : ¬ 0 ≤ idxI (jcB h) [a, b, c]) : jcD t h a b c = none := by unfold jcD; rw [ht]; exact (if_neg hh).trans (if_neg hi)
theorem idx_no {p : Int → Bool} {l : List Int} (h : ∀ x ∈ l, p x = false) : ¬ 0 ≤ idxI p l := by
  have h2 : l.findIdx? p = none := by
    rw [List.findIdx?_eq_none_iff]
    exact fun x hx => by rw [h x hx]
  unfold idxI
  rw [h2]
  decide
set_option maxHeartbeats 16000000 in
theorem refcolumn_any (h a b c : Int) (aT : Option Addr) (nT cT : Nat) (t : List Int) (W : World) (hT : RK .i64 W aT nT t) (hmT : nT ≤ maxLen) :
    Calls Tryd.prog 49 #[.slice aT nT cT, .int .i64 h, .int .i64 a, .int .i64 b, .int .i64 c] W (JRef W (jcO t h a b c, jcD t h a b c)) := by
  have T0 := Tk.nil W
  have T1 := T0.add (fun wv => Below W.heap.size W wv) (bnil W)
  clear T0
  have T2 := T1.add (fun wv => RK .i64 wv aT nT t) (hT)
  clear T1
  clear hT
  obtain ⟨Wb, hWb⟩ : ∃ Wb, W.alloc (.cells #[.int .i64 0, .slice none 0 0, .slice none 0 0] 48) = Wb := ⟨_, rfl⟩
  have hbWb : Below W.heap.size W Wb := by rw [← hWb]; exact balloc (bnil W) _
  have T3 := T2.up hbWb
  clear T2
  have HWb := Lib.hid hWb
  clear hWb hbWb
  have hz2 : Wb.heap[W.heap.size]? = some (.cells #[.int .i64 0, .slice none 0 0, .slice none 0 0] 48) := by rw [← HWb.out]; exact heap_alloc_new W _
  have hsz : W.heap.size + 1 = Wb.heap.size := by rw [← HWb.out]; simp
  have T4 := T3.add (fun wv => wv.heap[W.heap.size]? = some (.cells #[.int .i64 0, .slice none 0 0, .slice none 0 0] 48)) (hz2)
  clear T3
  have HSZ := Lib.hid hsz
  clear hz2 hsz
  cases htd : tabD t with
  | some x =>
    have hxl := tabD_len htd
    have hod := jcD_tab (h := h) (a := a) (b := b) (c := c) htd
    have HOD := Lib.hid (And.intro (jcO_er hod) hod)
    obtain ⟨es0, n0⟩ := x
    have HTD := Lib.hid htd
    clear htd hod
    go_enter Tryd.func49, Tryd.ntmps49
    go_wp2_with fail
    rw [HWb.out]
    refine (refplcheck_any aT nT cT t Wb T4.out.1.2 hmT).mono ?_; rintro e w0 ⟨N0, a1, n1, c1, a2, n2, c2, rfl, hw, _, _, _, _, hbw0⟩
    have T5 := T4.up hbw0
    clear T4
    rw [HTD.out] at hw
    obtain rfl := wc_numP hw
    have hxl : es0.length = 1 := hxl
    have HWQ := Lib.hid hw
    clear hw
    go_wp2_with fail
    refine (refUnder_some _ _ _ _ a1 a2 n1 c1 n2 c2 w0 HWQ.out (by omega) (by omega)).mono ?_; rintro e w1 ⟨N, b1, m1, d1, b2, m2, d2, rfl, hw, f1, f2, hN, _, hbw1⟩
    have T6 := T5.up hbw1
    clear T5
    have T7 := T6.add (fun wv => WC wv (.agg #[.int .i64 N, .slice b1 m1 d1, .slice b2 m2 d2]) (some ((opJudge, 0) :: es0, N0))) (hw)
    clear T6
    have hl0 : W.heap.size + 1 ≤ w0.heap.size := by have h1 := HSZ.out; have h2 := hbw0.size; omega
    have HLT : Hid (W.heap.size < w1.heap.size) := heap_ltT (T7.out.1.2)
    have HNS := Lib.hid hN
    have HF := Lib.hid (And.intro (f1.base hl0) (f2.base hl0))
    clear hw f1 f2 hN
    obtain ⟨we, hwe⟩ : ∃ we, w1.alloc (.cells #[.int .i64 N, .slice b1 m1 d1, .slice b2 m2 d2] 48) = we := ⟨_, rfl⟩
    have hbwe : Below w1.heap.size w1 we := by rw [← hwe]; exact balloc (bnil w1) _
    have T8 := T7.up hbwe
    clear T7
    have T9 := T8.add (fun wv => wv.cell? ⟨w1.heap.size, 0, none⟩ = some (.int .i64 N) ∧ wv.cell? ⟨w1.heap.size, 1, none⟩ = some (.slice b1 m1 d1) ∧ wv.cell? ⟨w1.heap.size, 2, none⟩ = some (.slice b2 m2 d2)) (by rw [← hwe]; exact ⟨cnw (by simp) rfl, cnw (by simp) rfl, cnw (by simp) rfl⟩)
    clear T8
    have Hwe := Lib.hid hwe
    clear hwe hbwe
    have v_e0 : (w1.alloc (.cells #[.int .i64 N, .slice b1 m1 d1, .slice b2 m2 d2] 48)).cell? ⟨w1.heap.size, 0, none⟩ = some (.int .i64 N) := by rw [Hwe.out]; exact T9.out.2.1
    have v_e1 : (w1.alloc (.cells #[.int .i64 N, .slice b1 m1 d1, .slice b2 m2 d2] 48)).cell? ⟨w1.heap.size, 1, none⟩ = some (.slice b1 m1 d1) := by rw [Hwe.out]; exact T9.out.2.2.1
    have v_e2 : (w1.alloc (.cells #[.int .i64 N, .slice b1 m1 d1, .slice b2 m2 d2] 48)).cell? ⟨w1.heap.size, 2, none⟩ = some (.slice b2 m2 d2) := by rw [Hwe.out]; exact T9.out.2.2.2
    go_wp2_with fail
    rw [Hwe.out]
    refine (refBadE _ _ _ we true HNS.out).mono ?_; rintro e w2 ⟨rfl, hbw2⟩
    clear v_e0 v_e1 v_e2
    have T10 := T9.up hbw2
    clear T9
    have v_e0 : w2.cell? ⟨w1.heap.size, 0, none⟩ = some (.int .i64 N) := T10.out.2.1
    have v_e1 : w2.cell? ⟨w1.heap.size, 1, none⟩ = some (.slice b1 m1 d1) := T10.out.2.2.1
    have v_e2 : w2.cell? ⟨w1.heap.size, 2, none⟩ = some (.slice b2 m2 d2) := T10.out.2.2.2
    have ne1 : ¬ w1.heap.size = W.heap.size := by have := HLT.out; omega
    have ne2 : ¬ W.heap.size = w1.heap.size := by have := HLT.out; omega
    obtain ⟨⟨q3, q4, q5⟩, f3, f4, f5⟩ := p_cells (T10.out.1.1.2)
    obtain ⟨w9, e9, ⟨r0, r1, r2⟩, hk9, hs9, hw9, hb9⟩ := er_set (Nat.le_refl W.heap.size) (T10.out.1.1.2) (T10.out.1.1.1.1.2) HF.out.1 HF.out.2 (T10.out.1.2)
    have HRET := Lib.hid (And.intro hw9 hb9)
    clear hk9 hs9 hw9 hb9
    have HE9 := Lib.hid e9
    have HR9 := Lib.hid (And.intro r0 (And.intro r1 r2))
    clear e9 r0 r1 r2
    go_wp2_with fail
    go_region
    all_goals
      go_wp2
      rw [HE9.out]
      have r0 := HR9.out.1
      have r1 := HR9.out.2.1
      have r2 := HR9.out.2.2
      refine bodyPost_ret (v := .tuple #[.int .i64 0, .agg #[.int .i64 N, .slice b1 m1 d1, .slice b2 m2 d2]]) (by simp [results, Tryd.results49, go_sem, r0, r1, r2]) rfl ?_
      rw [HOD.out.1, HOD.out.2]
      exact ⟨_, _, _, _, _, _, _, rfl, HRET.out.1.up (Below.drew (bnil _)), HNS.out, Below.drew HRET.out.2⟩
  | none =>
    have HTD := Lib.hid htd
    by_cases hh : h < 1 ∨ 4 < h
    · skip
      have hod := jcD_h (a := a) (b := b) (c := c) htd hh
      have HOD := Lib.hid (And.intro (jcO_er hod) hod)
      clear hod htd
      by_cases hh1 : h < 1
      · skip
        clear hh
        go_enter Tryd.func49, Tryd.ntmps49
        go_wp2_with fail
        rw [HWb.out]
        refine (refplcheck_ok aT nT cT t Wb T4.out.1.2 hmT HTD.out).mono ?_; rintro e w0 ⟨rfl, hbw0⟩
        have T5 := T4.up hbw0
        clear T4
        go_wp2_with fail
        refine (refUnder_z _ _ w0).mono ?_; rintro e w1 ⟨rfl, hbw1⟩
        have T6 := T5.up hbw1
        clear T5
        obtain ⟨we, hwe⟩ : ∃ we, w1.alloc (.cells #[.int .i64 0, .slice none 0 0, .slice none 0 0] 48) = we := ⟨_, rfl⟩
        have hbwe : Below w1.heap.size w1 we := by rw [← hwe]; exact balloc (bnil w1) _
        have T7 := T6.up hbwe
        clear T6
        have T8 := T7.add (fun wv => wv.cell? ⟨w1.heap.size, 0, none⟩ = some (.int .i64 0) ∧ wv.cell? ⟨w1.heap.size, 1, none⟩ = some (.slice none 0 0) ∧ wv.cell? ⟨w1.heap.size, 2, none⟩ = some (.slice none 0 0)) (by rw [← hwe]; exact ⟨cnw (by simp) rfl, cnw (by simp) rfl, cnw (by simp) rfl⟩)
        clear T7
        have Hwe := Lib.hid hwe
        clear hwe hbwe
        have v_e0 : (w1.alloc (.cells #[.int .i64 0, .slice none 0 0, .slice none 0 0] 48)).cell? ⟨w1.heap.size, 0, none⟩ = some (.int .i64 0) := by rw [Hwe.out]; exact T8.out.2.1
        have v_e1 : (w1.alloc (.cells #[.int .i64 0, .slice none 0 0, .slice none 0 0] 48)).cell? ⟨w1.heap.size, 1, none⟩ = some (.slice none 0 0) := by rw [Hwe.out]; exact T8.out.2.2.1
        have v_e2 : (w1.alloc (.cells #[.int .i64 0, .slice none 0 0, .slice none 0 0] 48)).cell? ⟨w1.heap.size, 2, none⟩ = some (.slice none 0 0) := by rw [Hwe.out]; exact T8.out.2.2.2
        go_wp2_with fail
        rw [Hwe.out]
        refine (refBadE _ _ _ we false rfl).mono ?_; rintro e w2 ⟨rfl, hbw2⟩
        clear v_e0 v_e1 v_e2
        have T9 := T8.up hbw2
        clear T8
        have hl6 : W.heap.size + 1 ≤ w2.heap.size := heap_ltT (T9.out.1.2)
        go_wp2_with fail
        refine (rawNew_fresh _ _ _ w2 rfl).mono ?_; rintro e w7 ⟨b1, b2, rfl, lb1, lb2, hw8, hbw7⟩
        have T10 := T9.up hbw7
        clear T9
        obtain ⟨⟨q3, q4, q5⟩, f3, f4, f5⟩ := p_cells (T10.out.1.2)
        obtain ⟨w9, e9, ⟨r0, r1, r2⟩, hk9, hs9, hw9, hb9⟩ := er_set (Nat.le_refl W.heap.size) (T10.out.1.2) (T10.out.1.1.1.2) (fr_some (by omega)) (fr_some (by omega)) (wc_want hw8)
        have HRET := Lib.hid (And.intro hw9 hb9)
        clear hk9 hs9 hw9 hb9
        have HE9 := Lib.hid e9
        have HR9 := Lib.hid (And.intro r0 (And.intro r1 r2))
        clear e9 r0 r1 r2
        go_wp2
        rw [HE9.out]
        have r0 := HR9.out.1
        have r1 := HR9.out.2.1
        have r2 := HR9.out.2.2
        refine bodyPost_ret (v := .tuple #[.int .i64 0, .agg #[.int .i64 3, .slice (some ⟨b1, 0, none⟩) 1 1, .slice (some ⟨b2, 0, none⟩) 1 1]]) (by simp [results, Tryd.results49, go_sem, r0, r1, r2]) rfl ?_
        rw [HOD.out.1, HOD.out.2]
        exact ⟨_, _, _, _, _, _, _, rfl, HRET.out.1, rfl, HRET.out.2⟩
      · skip
        have hh5 : (4 : Int) < h := by omega
        clear hh
        go_enter Tryd.func49, Tryd.ntmps49
        go_wp2_with fail
        rw [HWb.out]
        refine (refplcheck_ok aT nT cT t Wb T4.out.1.2 hmT HTD.out).mono ?_; rintro e w0 ⟨rfl, hbw0⟩
        have T5 := T4.up hbw0
        clear T4
        go_wp2_with fail
        refine (refUnder_z _ _ w0).mono ?_; rintro e w1 ⟨rfl, hbw1⟩
        have T6 := T5.up hbw1
        clear T5
        obtain ⟨we, hwe⟩ : ∃ we, w1.alloc (.cells #[.int .i64 0, .slice none 0 0, .slice none 0 0] 48) = we := ⟨_, rfl⟩
        have hbwe : Below w1.heap.size w1 we := by rw [← hwe]; exact balloc (bnil w1) _
        have T7 := T6.up hbwe
        clear T6
        have T8 := T7.add (fun wv => wv.cell? ⟨w1.heap.size, 0, none⟩ = some (.int .i64 0) ∧ wv.cell? ⟨w1.heap.size, 1, none⟩ = some (.slice none 0 0) ∧ wv.cell? ⟨w1.heap.size, 2, none⟩ = some (.slice none 0 0)) (by rw [← hwe]; exact ⟨cnw (by simp) rfl, cnw (by simp) rfl, cnw (by simp) rfl⟩)
        clear T7
        have Hwe := Lib.hid hwe
        clear hwe hbwe
        have v_e0 : (w1.alloc (.cells #[.int .i64 0, .slice none 0 0, .slice none 0 0] 48)).cell? ⟨w1.heap.size, 0, none⟩ = some (.int .i64 0) := by rw [Hwe.out]; exact T8.out.2.1
        have v_e1 : (w1.alloc (.cells #[.int .i64 0, .slice none 0 0, .slice none 0 0] 48)).cell? ⟨w1.heap.size, 1, none⟩ = some (.slice none 0 0) := by rw [Hwe.out]; exact T8.out.2.2.1
        have v_e2 : (w1.alloc (.cells #[.int .i64 0, .slice none 0 0, .slice none 0 0] 48)).cell? ⟨w1.heap.size, 2, none⟩ = some (.slice none 0 0) := by rw [Hwe.out]; exact T8.out.2.2.2
        go_wp2_with fail
        rw [Hwe.out]
        refine (refBadE _ _ _ we false rfl).mono ?_; rintro e w2 ⟨rfl, hbw2⟩
        clear v_e0 v_e1 v_e2
        have T9 := T8.up hbw2
        clear T8
        have hl6 : W.heap.size + 1 ≤ w2.heap.size := heap_ltT (T9.out.1.2)
        go_wp2_with fail
        refine (rawNew_fresh _ _ _ w2 rfl).mono ?_; rintro e w7 ⟨b1, b2, rfl, lb1, lb2, hw8, hbw7⟩
        have T10 := T9.up hbw7
        clear T9
        obtain ⟨⟨q3, q4, q5⟩, f3, f4, f5⟩ := p_cells (T10.out.1.2)
        obtain ⟨w9, e9, ⟨r0, r1, r2⟩, hk9, hs9, hw9, hb9⟩ := er_set (Nat.le_refl W.heap.size) (T10.out.1.2) (T10.out.1.1.1.2) (fr_some (by omega)) (fr_some (by omega)) (wc_want hw8)
        have HRET := Lib.hid (And.intro hw9 hb9)
        clear hk9 hs9 hw9 hb9
        have HE9 := Lib.hid e9
        have HR9 := Lib.hid (And.intro r0 (And.intro r1 r2))
        clear e9 r0 r1 r2
        go_wp2
        rw [HE9.out]
        have r0 := HR9.out.1
        have r1 := HR9.out.2.1
        have r2 := HR9.out.2.2
        refine bodyPost_ret (v := .tuple #[.int .i64 0, .agg #[.int .i64 3, .slice (some ⟨b1, 0, none⟩) 1 1, .slice (some ⟨b2, 0, none⟩) 1 1]]) (by simp [results, Tryd.results49, go_sem, r0, r1, r2]) rfl ?_
        rw [HOD.out.1, HOD.out.2]
        exact ⟨_, _, _, _, _, _, _, rfl, HRET.out.1, rfl, HRET.out.2⟩
    obtain ⟨h, rfl⟩ : ∃ h' : Nat, h = (h' : Int) := ⟨h.toNat, by omega⟩
    have hh1 : 1 ≤ h := by omega
    have hh4 : h ≤ 4 := by omega
    have hhA : ¬ (h : Int) < 1 := by omega
    have hhB : ¬ (4 : Int) < (h : Int) := by omega
    obtain ⟨M, hM⟩ : ∃ M, 4 * 2 ^ h = M := ⟨_, rfl⟩
    have hMO := fun W => most24_any h hh4 W
    simp only [hM] at hMO
    have HMO := Lib.hid hMO
    have hM64 : M ≤ 64 := by
      rw [← hM]
      have := Nat.pow_le_pow_right (n := 2) (by omega) hh4
      have h2 : (2 : Nat) ^ 4 = 16 := by decide
      omega
    have HJB : Hid (∀ x : Int, jcB h x = decide (x < 0 ∨ (M : Int) ≤ x)) := fun x => by
      unfold jcB
      rw [Int.toNat_natCast]
      have hMI : (4 : Int) * 2 ^ h = (M : Int) := by rw [← hM, Int.natCast_mul, Int.natCast_pow]; rfl
      rw [hMI]
    have HER : Hid (∀ i : Nat, idxI (jcB h) [a, b, c] = (i : Int) → jcO t h a b c = 0 ∧ jcD t h a b c = some ([(opJudge, 2 + (i : Int))], 3)) := fun i hi => by
      have hod := jcD_at (a := a) (b := b) (c := c) htd hh hi
      exact ⟨jcO_er hod, hod⟩
    have HFI : Hid ((¬ 0 ≤ idxI (jcB h) [a, b, c]) → jcD t h a b c = none) := fun hi => jcD_fin htd hh hi
    have HM := Lib.hid hM
    have HIT := Lib.hid (tabD_none htd)
    clear hMO hM htd hh
    obtain rfl : nT = 512 := (T4.out.1.2).len.trans HIT.out.len
    obtain ⟨ab, ao, hab0, hab1, _⟩ := (T4.out.1.2).addr (by omega)
    subst hab0
    clear hab1
    go_enter Tryd.func49, Tryd.ntmps49
    go_wp2_with fail
    rw [HWb.out]
    refine (refplcheck_ok (some ⟨ab, ao, none⟩) 512 cT t Wb T4.out.1.2 hmT HTD.out).mono ?_; rintro e w0 ⟨rfl, hbw0⟩
    have T5 := T4.up hbw0
    clear T4
    go_wp2_with fail
    refine (refUnder_z _ _ w0).mono ?_; rintro e w1 ⟨rfl, hbw1⟩
    have T6 := T5.up hbw1
    clear T5
    obtain ⟨we, hwe⟩ : ∃ we, w1.alloc (.cells #[.int .i64 0, .slice none 0 0, .slice none 0 0] 48) = we := ⟨_, rfl⟩
    have hbwe : Below w1.heap.size w1 we := by rw [← hwe]; exact balloc (bnil w1) _
    have T7 := T6.up hbwe
    clear T6
    have T8 := T7.add (fun wv => wv.cell? ⟨w1.heap.size, 0, none⟩ = some (.int .i64 0) ∧ wv.cell? ⟨w1.heap.size, 1, none⟩ = some (.slice none 0 0) ∧ wv.cell? ⟨w1.heap.size, 2, none⟩ = some (.slice none 0 0)) (by rw [← hwe]; exact ⟨cnw (by simp) rfl, cnw (by simp) rfl, cnw (by simp) rfl⟩)
    clear T7
    have Hwe := Lib.hid hwe
    clear hwe hbwe
    have v_e0 : (w1.alloc (.cells #[.int .i64 0, .slice none 0 0, .slice none 0 0] 48)).cell? ⟨w1.heap.size, 0, none⟩ = some (.int .i64 0) := by rw [Hwe.out]; exact T8.out.2.1
    have v_e1 : (w1.alloc (.cells #[.int .i64 0, .slice none 0 0, .slice none 0 0] 48)).cell? ⟨w1.heap.size, 1, none⟩ = some (.slice none 0 0) := by rw [Hwe.out]; exact T8.out.2.2.1
    have v_e2 : (w1.alloc (.cells #[.int .i64 0, .slice none 0 0, .slice none 0 0] 48)).cell? ⟨w1.heap.size, 2, none⟩ = some (.slice none 0 0) := by rw [Hwe.out]; exact T8.out.2.2.2
    go_wp2_with fail
    rw [Hwe.out]
    refine (refBadE _ _ _ we false rfl).mono ?_; rintro e w2 ⟨rfl, hbw2⟩
    clear v_e0 v_e1 v_e2
    have T9 := T8.up hbw2
    clear T8
    go_wp2_with fail
    obtain ⟨wl, hwl⟩ : ∃ wl, w2.alloc (.cells #[.int .i64 a, .int .i64 b, .int .i64 c] 3) = wl := ⟨_, rfl⟩
    obtain ⟨gl, hgl⟩ : ∃ gl, w2.heap.size = gl := ⟨_, rfl⟩
    have hlr : RK .i64 wl (some ⟨gl, 0, none⟩) 3 [a, b, c] := by rw [← hwl, ← hgl]; exact litRK3 w2 [a, b, c]
    have hbwl : Below w2.heap.size w2 wl := by rw [← hwl]; exact balloc (bnil w2) _
    have T10 := T9.up hbwl
    clear T9
    have T11 := T10.add (fun wv => RK .i64 wv (some ⟨gl, 0, none⟩) 3 [a, b, c]) (hlr)
    clear T10
    try rw [hgl]
    try rw [hgl] at hwl
    rw [hwl]
    clear hwl hlr hbwl
    go_loopw [14] (fun ix wr => ∃ i m : Nat, i ≤ 3 ∧ ix = .int .i64 (i : Nat) ∧ (∀ x ∈ [a, b, c].take i, jcB h x = false) ∧ wr = wl.drewN m) (fun ix _ => 3 - (intOf ix).toNat)
    case atStart => exact ⟨0, 0, by omega, rfl, (fun x hx => by simp at hx), rfl⟩
    case round =>
      obtain ⟨i, m, hi, rfl, hall, hwm⟩ := hrel
      have HWM := Lib.hid hwm
      have HALL := Lib.hid hall
      have hbm : Below wl.heap.size wl wr := by rw [hwm]; exact bdrewN (bnil wl) m
      have T12 := T11.up hbm
      clear T11
      clear hwm hall hbm
      by_cases hi3 : i < 3
      · skip
        obtain ⟨_, _, hgq, _, hcc⟩ := (T12.out.2).addr (by omega)
        cases hgq
        have hcx := hcc i hi3
        rw [Nat.zero_add] at hcx
        have hbx := HJB.out ([a, b, c].getD i 0)
        have htk : [a, b, c].take (i + 1) = [a, b, c].take i ++ [[a, b, c].getD i 0] := by
          rw [List.take_succ_eq_append_getElem (by simpa using hi3)]
          simp [hi3]
        have HTK := Lib.hid htk
        obtain ⟨x, hx⟩ : ∃ x, [a, b, c].getD i 0 = x := ⟨_, rfl⟩
        have HX := Lib.hid hx
        rw [hx] at hcx hbx
        have HBX := Lib.hid hbx
        have i0 : (0 : Int) ≤ (i : Int) := by omega
        have i1 : (i : Int) < 3 := by omega
        have iw : IntKind.i64.wrap ((i : Int) + 1) = (i : Int) + 1 := IntWalk.i64_in _ (by omega)
        have iw2 : IntKind.i64.wrap (2 + (i : Int)) = 2 + (i : Int) := IntWalk.i64_in _ (by omega)
        have HBAD : Hid (jcB h x = true → jcO t h a b c = 0 ∧ jcD t h a b c = some ([(opJudge, 2 + (i : Int))], 3)) := fun hb => HER.out i (findIdx_at (by simpa using hi3) HALL.out (by rw [HX.out]; exact hb))
        have HOKN : Hid (jcB h x = false → ∀ z ∈ [a, b, c].take (i + 1), jcB h z = false) := fun hb z hz => by
          rw [HTK.out, HX.out] at hz
          rcases List.mem_append.1 hz with hz | hz
          · exact HALL.out z hz
          · obtain rfl : z = x := by simpa using hz
            exact hb
        clear hcc hx hbx htk
        by_cases hx0 : x < 0
        · skip
          have hodb := HBAD.out (by rw [HBX.out]; exact decide_eq_true (.inl hx0))
          have HOD := Lib.hid hodb
          clear hodb
          have hd : decide (x < 0) = true := decide_eq_true hx0
          go_wp2_with fail
          go_quiet ((go_at_call 43; exact Calls.quiet_of_same (HMO.out _)))
          have hbq : Below wr.heap.size wr (wr.drewN nq) := bdrewN (bnil wr) nq
          clear hd
          have T13 := T12.up hbq
          clear T12
          have hl6 : W.heap.size + 1 ≤ (wr.drewN nq).heap.size := heap_ltT (T13.out.1.1.2)
          go_wp2_with fail
          refine (rawNew_fresh _ _ _ (wr.drewN nq) rfl).mono ?_; rintro e w7 ⟨b1, b2, rfl, lb1, lb2, hw8, hbw7⟩
          have T14 := T13.up hbw7
          clear T13
          obtain ⟨⟨q3, q4, q5⟩, f3, f4, f5⟩ := p_cells (T14.out.1.1.2)
          obtain ⟨w9, e9, ⟨r0, r1, r2⟩, hk9, hs9, hw9, hb9⟩ := er_set (Nat.le_refl W.heap.size) (T14.out.1.1.2) (T14.out.1.1.1.1.2) (fr_some (by omega)) (fr_some (by omega)) (wc_want hw8)
          have HRET := Lib.hid (And.intro hw9 hb9)
          clear hk9 hs9 hw9 hb9
          have HE9 := Lib.hid e9
          have HR9 := Lib.hid (And.intro r0 (And.intro r1 r2))
          clear e9 r0 r1 r2
          go_wp2
          rw [HE9.out]
          have r0 := HR9.out.1
          have r1 := HR9.out.2.1
          have r2 := HR9.out.2.2
          refine bodyPost_ret (v := .tuple #[.int .i64 0, .agg #[.int .i64 3, .slice (some ⟨b1, 0, none⟩) 1 1, .slice (some ⟨b2, 0, none⟩) 1 1]]) (by simp [results, Tryd.results49, go_sem, r0, r1, r2]) rfl ?_
          rw [HOD.out.1, HOD.out.2]
          exact ⟨_, _, _, _, _, _, _, rfl, HRET.out.1, rfl, HRET.out.2⟩
        have hd : decide (x < 0) = false := decide_eq_false hx0
        by_cases hx1 : (M : Int) ≤ x
        · skip
          have hodb := HBAD.out (by rw [HBX.out]; exact decide_eq_true (.inr hx1))
          have HOD := Lib.hid hodb
          clear hodb
          go_wp2_with fail
          go_quiet ((go_at_call 43; exact Calls.quiet_of_same (HMO.out _)))
          have hbq : Below wr.heap.size wr (wr.drewN nq) := bdrewN (bnil wr) nq
          clear hd
          have T13 := T12.up hbq
          clear T12
          have hl6 : W.heap.size + 1 ≤ (wr.drewN nq).heap.size := heap_ltT (T13.out.1.1.2)
          go_wp2_with fail
          refine (rawNew_fresh _ _ _ (wr.drewN nq) rfl).mono ?_; rintro e w7 ⟨b1, b2, rfl, lb1, lb2, hw8, hbw7⟩
          have T14 := T13.up hbw7
          clear T13
          obtain ⟨⟨q3, q4, q5⟩, f3, f4, f5⟩ := p_cells (T14.out.1.1.2)
          obtain ⟨w9, e9, ⟨r0, r1, r2⟩, hk9, hs9, hw9, hb9⟩ := er_set (Nat.le_refl W.heap.size) (T14.out.1.1.2) (T14.out.1.1.1.1.2) (fr_some (by omega)) (fr_some (by omega)) (wc_want hw8)
          have HRET := Lib.hid (And.intro hw9 hb9)
          clear hk9 hs9 hw9 hb9
          have HE9 := Lib.hid e9
          have HR9 := Lib.hid (And.intro r0 (And.intro r1 r2))
          clear e9 r0 r1 r2
          go_wp2
          rw [HE9.out]
          have r0 := HR9.out.1
          have r1 := HR9.out.2.1
          have r2 := HR9.out.2.2
          refine bodyPost_ret (v := .tuple #[.int .i64 0, .agg #[.int .i64 3, .slice (some ⟨b1, 0, none⟩) 1 1, .slice (some ⟨b2, 0, none⟩) 1 1]]) (by simp [results, Tryd.results49, go_sem, r0, r1, r2]) rfl ?_
          rw [HOD.out.1, HOD.out.2]
          exact ⟨_, _, _, _, _, _, _, rfl, HRET.out.1, rfl, HRET.out.2⟩
        have hok := HOKN.out (by rw [HBX.out]; exact decide_eq_false (by omega))
        have HOK := Lib.hid hok
        clear hok
        go_wp2_with fail
        go_quiet ((go_at_call 43; exact Calls.quiet_of_same (HMO.out _)))
        go_wp2
        go_roundw
        case rel => exact ⟨i + 1, m + nq, by omega, by go_num, HOK.out, by rw [HWM.out]; exact World.drewN_drewN _ _ _⟩
        case measure => simp [intOf]; omega
      · skip
        obtain rfl : i = 3 := by omega
        have hno : ¬ 0 ≤ idxI (jcB h) [a, b, c] := idx_no (fun x hx => HALL.out x hx)
        have hod := HFI.out (by first | exact hno | exact Int.not_le.1 hno)
        obtain ⟨h9, a, b, c, hh9, rfl, rfl, rfl, _, _, _, hab, hbb, hcb⟩ := jcD_none hod
        obtain rfl : h = h9 := by omega
        have hoo : jcO t h a b c = madeV t a b c h := by unfold jcO; rw [if_pos hod]; simp only [Int.toNat_natCast]
        have HOD := Lib.hid (And.intro hoo hod)
        rw [HM.out] at hab hbb hcb
        clear hod hoo hh9
        have hbr := T12.out.1.1.1.2
        have hzz := T12.out.1.1.2
        have hbb9 := T12.out.1.1.1.1.2
        go_wp2_with fail
        refine (made24_any ab ao cT t h a b c wr hbr HIT.out hh4 (by omega) (by omega) (by omega)).mono ?_; rintro e w6 ⟨rfl, q, hw6⟩
        have hbq : Below wr.heap.size wr w6 := by rw [hw6]; exact bdrewN (bnil wr) q
        clear hbr hzz hbb9 hw6
        have T13 := T12.up hbq
        clear T12
        obtain ⟨⟨q3, q4, q5⟩, f3, f4, f5⟩ := p_cells (T13.out.1.1.2)
        obtain ⟨w9, e9, ⟨r0, r1, r2⟩, hk9, hs9, hw9, hb9⟩ := er_set (Nat.le_refl W.heap.size) (T13.out.1.1.2) (T13.out.1.1.1.1.2) fr_none fr_none (wc_none w6)
        have HRET := Lib.hid (And.intro hw9 hb9)
        clear hk9 hs9 hw9 hb9
        have HE9 := Lib.hid e9
        have HR9 := Lib.hid (And.intro r0 (And.intro r1 r2))
        clear e9 r0 r1 r2
        go_wp2
        rw [HE9.out]
        have r0 := HR9.out.1
        have r1 := HR9.out.2.1
        have r2 := HR9.out.2.2
        refine bodyPost_ret (v := .tuple #[.int .i64 ((madeV t a b c h : Nat) : Int), .agg #[.int .i64 0, .slice none 0 0, .slice none 0 0]]) (by simp [results, Tryd.results49, go_sem, r0, r1, r2]) rfl ?_
        rw [HOD.out.1, HOD.out.2]
        exact ⟨_, _, _, _, _, _, _, rfl, HRET.out.1, rfl, HRET.out.2⟩
end Go.Proofs.YtocfkmdoalhjmaaDoor
