/- plane.Step where it refuses; the window's number step by step. -/
import Derived.Test.YtocfkmdoalhjmaaDoorPlaA
import Derived.Test.YtocfkmdoalhjmaaDoorPlaP
import Derived.Test.YtocfkmdoalhjmaaDoorPatN
namespace Go.Proofs.YtocfkmdoalhjmaaDoor
open Go.RowKit
set_option linter.unusedVariables false
set_option maxRecDepth 100000

/-- what plane.Step tells -/
def stepD (t : List Int) (w h : Int) (l : List Int) : ErrD := match tabD t with
  | some e => some e
  | none => match patchD w h l with
    | some e => some ((opPlane, 1) :: e.1, e.2)
    | none => if w < 3 ∨ h < 3 then some ([(opPlane, 1)], 3) else none
def stepO (t : List Int) (w h : Int) (l : List Int) : Int × Int × List Int := if stepD t w h l = none then (w - 2, h - 2, stepL t w.toNat h.toNat l) else (0, 0, [])
theorem stepO_er {t : List Int} {w h : Int} {l : List Int} {x : List (ByteArray × Int) × Int} (hd : stepD t w h l = some x) : stepO t w h l = (0, 0, []) := by unfold stepO; rw [if_neg (by rw [hd]; exact nofun)]
/-- a window's number, line by line -/
def winP (w : Nat) (l : List Int) (x y : Nat) : Nat → Nat
  | 0 => 0
  | k + 1 => 8 * winP w l x y k + 4 * (atL w l x (y + k)).toNat + 2 * (atL w l (x + 1) (y + k)).toNat + (atL w l (x + 2) (y + k)).toNat
theorem atL_nat {w h : Nat} {l : List Int} (hp : IsPatch w h l) {x y : Nat} (hx : x < w) (hy : y < h) : ∃ c : Nat, atL w l x y = (c : Int) ∧ c ≤ 1 := by
  rcases atL_sym hp hx hy with h | h
  · exact ⟨0, h, by omega⟩
  · exact ⟨1, h, by omega⟩
theorem winP_three {w h : Nat} {l : List Int} (hp : IsPatch w h l) {x y : Nat} (hx : x + 2 < w) (hy : y + 2 < h) : winP w l x y 3 = winN w l x y := by
  obtain ⟨c1, e1, _⟩ := atL_nat hp (show x < w by omega) (show y < h by omega)
  obtain ⟨c2, e2, _⟩ := atL_nat hp (show x + 1 < w by omega) (show y < h by omega)
  obtain ⟨c3, e3, _⟩ := atL_nat hp (show x + 2 < w by omega) (show y < h by omega)
  obtain ⟨c4, e4, _⟩ := atL_nat hp (show x < w by omega) (show y + 1 < h by omega)
  obtain ⟨c5, e5, _⟩ := atL_nat hp (show x + 1 < w by omega) (show y + 1 < h by omega)
  obtain ⟨c6, e6, _⟩ := atL_nat hp (show x + 2 < w by omega) (show y + 1 < h by omega)
  obtain ⟨c7, e7, _⟩ := atL_nat hp (show x < w by omega) (show y + 2 < h by omega)
  obtain ⟨c8, e8, _⟩ := atL_nat hp (show x + 1 < w by omega) (show y + 2 < h by omega)
  obtain ⟨c9, e9, _⟩ := atL_nat hp (show x + 2 < w by omega) (show y + 2 < h by omega)
  unfold winN winZ
  simp only [winP, Nat.add_zero, e1, e2, e3, e4, e5, e6, e7, e8, e9, Int.toNat_natCast]
  omega
theorem winP_lt {w h : Nat} {l : List Int} (hp : IsPatch w h l) {x y : Nat} (hx : x + 2 < w) (hy : y + 2 < h) : ∀ k, k ≤ 3 → winP w l x y k < 8 ^ k
  | 0, _ => by simp [winP]
  | k + 1, hk => by
    have ih := winP_lt hp hx hy k (by omega)
    obtain ⟨c1, e1, _⟩ := atL_nat hp (show x < w by omega) (show y + k < h by omega)
    obtain ⟨c2, e2, _⟩ := atL_nat hp (show x + 1 < w by omega) (show y + k < h by omega)
    obtain ⟨c3, e3, _⟩ := atL_nat hp (show x + 2 < w by omega) (show y + k < h by omega)
    simp only [winP, e1, e2, e3, Int.toNat_natCast]
    rw [Nat.pow_succ]
    omega
theorem or_line : ∀ (n : Fin 64) (a b c : Fin 2), (((n.val * 8 ||| a.val * 4) ||| b.val * 2) ||| c.val) = 8 * n.val + 4 * a.val + 2 * b.val + c.val ∧ (n.val * 8 ||| a.val * 4) < 600 ∧ ((n.val * 8 ||| a.val * 4) ||| b.val * 2) < 600 := by decide +kernel
theorem plunder (op : ByteArray) (at_ : Int) (t : TypeId) (p : Value) (w : World) :
    Calls Tryd.prog 56 #[.string op, .int .i64 at_, .iface t p] w fun e w' =>
      e = .returned (.iface 117 (.pointer (some ⟨w.heap.size, 0, none⟩))) ∧ w' = w.alloc (faultObj op at_ (.iface t p)) := by
  go_enter Tryd.func56, Tryd.ntmps56
  go_wp2
  go_ret
  exact ⟨rfl, rfl⟩
set_option maxHeartbeats 16000000 in
theorem plstep_er (w h : Int) (a aT : Option Addr) (n c nT cT : Nat) (l t : List Int) (W : World) (R : Nat → Addr) (hS : Sent W R) (hR : RK .i64 W a n l) (hm : n ≤ maxLen) (hx : I64 l) (hT : RK .i64 W aT nT t) (hmT : nT ≤ maxLen) (hd : stepD t w h l ≠ none) :
    Calls Tryd.prog 17 #[.slice aT nT cT, patV w h a n c] W (PatRet R W (stepO t w h l) (stepD t w h l)) := by
  have T0 := Tk.nil W
  have T1 := T0.add (fun wv => Below W.heap.size W wv) (bnil W)
  clear T0
  have T2 := T1.add (fun wv => Sent wv R) (hS)
  clear T1
  have T3 := T2.add (fun wv => RK .i64 wv a n l) (hR)
  clear T2
  have T4 := T3.add (fun wv => RK .i64 wv aT nT t) (hT)
  clear T3
  have HI6 := Lib.hid hx
  have HS0 := Lib.hid hS
  clear hS hR hT hx
  obtain ⟨Wb, hWb⟩ : ∃ Wb, (W.alloc (.cells #[.int .i64 w, .int .i64 h, .slice a n c] 24)).alloc (.cells #[.int .i64 0, .int .i64 0, .slice none 0 0] 24) = Wb := ⟨_, rfl⟩
  have hbWb : Below W.heap.size W Wb := by rw [← hWb]; exact balloc (balloc (bnil W) _) _
  have T5 := T4.up hbWb
  clear T4
  have T6 := T5.add (fun wv => wv.cell? ⟨W.heap.size, 0, none⟩ = some (.int .i64 w) ∧ wv.cell? ⟨W.heap.size, 1, none⟩ = some (.int .i64 h) ∧ wv.cell? ⟨W.heap.size, 2, none⟩ = some (.slice a n c)) (by rw [← hWb]; exact ⟨al000 (cnw (by simp) rfl), al000 (cnw (by simp) rfl), al000 (cnw (by simp) rfl)⟩)
  clear T5
  have HWb := Lib.hid hWb
  clear hWb hbWb
  have hz1 : Wb.heap[W.heap.size + 1]? = some (.cells #[.int .i64 0, .int .i64 0, .slice none 0 0] 24) := by
    rw [← HWb.out]
    have := heap_alloc_new (W.alloc (.cells #[.int .i64 w, .int .i64 h, .slice a n c] 24)) (.cells #[.int .i64 0, .int .i64 0, .slice none 0 0] 24)
    simpa using this
  have T7 := T6.add (fun wv => wv.heap[W.heap.size + 1]? = some (.cells #[.int .i64 0, .int .i64 0, .slice none 0 0] 24)) (hz1)
  clear T6
  clear hz1
  by_cases htd : tabD t ≠ none
  · skip
    have hsd : stepD t w h l = tabD t := by
      unfold stepD
      cases hq : tabD t with
      | none => exact absurd hq htd
      | some x => rfl
    obtain ⟨x, hx⟩ : ∃ x, tabD t = some x := by
      cases hq : tabD t with
      | none => exact absurd hq htd
      | some x => exact ⟨x, rfl⟩
    have HOD := Lib.hid (And.intro (stepO_er (hsd.trans hx)) hsd)
    have HTD := Lib.hid htd
    clear hsd hx hd htd
    go_enter Tryd.func17, Tryd.ntmps17
    go_wp2_with fail
    rw [HWb.out]
    refine (plcheck_er aT nT cT t Wb R T7.out.1.1.1.1.2 T7.out.1.1.2 hmT HTD.out).mono ?_; rintro e w1 ⟨g, rfl, he, hbw1⟩
    have T8 := T7.up hbw1
    clear T7
    have HEC := Lib.hid (he)
    obtain ⟨⟨q0, q1, q2⟩, f0, f1, f2⟩ := p_cells (T8.out.2)
    obtain ⟨w9, e9, ⟨r0, r1, r2⟩, hk9, hs9, hbl9⟩ := set3p (T8.out.2) (.int .i64 0) (.int .i64 0) (.slice none 0 0)
    have HRET := Lib.hid (And.intro (HEC.out.othP HS0.out hk9 (T8.out.2) (by omega)) (hbl9 W W.heap.size (by omega) (T8.out.1.1.1.1.1.2)))
    have HE9 := Lib.hid e9
    have HR9 := Lib.hid (And.intro r0 (And.intro r1 r2))
    clear hk9 hs9 hbl9 e9 r0 r1 r2
    go_wp2
    rw [HE9.out]
    have r0 := HR9.out.1
    have r1 := HR9.out.2.1
    have r2 := HR9.out.2.2
    refine bodyPost_ret (v := .tuple #[patV 0 0 none 0 0, .iface 117 (.pointer (some ⟨g, 0, none⟩))]) (by simp [results, Tryd.results17, go_sem, r0, r1, r2]) rfl ?_
    rw [HOD.out.1, HOD.out.2]
    exact ⟨none, 0, 0, _, rfl, OwI.nil _ _, HRET.out.1, HRET.out.2⟩
  have htd0 : tabD t = none := Decidable.byContradiction htd
  have HT := Lib.hid (tabD_none htd0)
  cases hpe : patchErr w h l with
  | some y =>
    have hsd : stepD t w h l = some ([(opPlane, 1), (opPatch, y.1)], y.2) := by
      unfold stepD patchD
      rw [htd0, hpe]
      rfl
    have HOD := Lib.hid (And.intro (stepO_er hsd) hsd)
    have HPE := Lib.hid hpe
    clear hsd hd htd htd0 hpe
    go_enter Tryd.func17, Tryd.ntmps17
    go_wp2_with fail
    rw [HWb.out]
    refine (plcheck_ok aT nT cT t Wb R T7.out.1.1.1.1.2 T7.out.1.1.2 hmT HT.out).mono ?_; rintro e w1 ⟨rfl, hbw1⟩
    have T8 := T7.up hbw1
    clear T7
    have v_p0 : w1.cell? ⟨W.heap.size, 0, none⟩ = some (.int .i64 w) := T8.out.1.2.1
    have v_p1 : w1.cell? ⟨W.heap.size, 1, none⟩ = some (.int .i64 h) := T8.out.1.2.2.1
    have v_p2 : w1.cell? ⟨W.heap.size, 2, none⟩ = some (.slice a n c) := T8.out.1.2.2.2
    go_wp2_with fail
    refine (pcheck_er w h a n c l w1 R T8.out.1.1.1.1.2 T8.out.1.1.1.2 hm HI6.out y HPE.out).mono ?_; rintro e w2 ⟨g, rfl, he, hbw2⟩
    clear v_p0 v_p1 v_p2
    have T9 := T8.up hbw2
    clear T8
    have HE2 := Lib.hid he
    clear he
    go_wp2_with fail
    refine (plunder _ _ _ _ _).mono ?_; rintro e w3 ⟨rfl, hw3⟩
    have hb3 : Below w2.heap.size w2 w3 := by rw [hw3]; exact balloc (bnil w2) _
    have he3 : EC R w3 (.iface 117 (.pointer (some ⟨w2.heap.size, 0, none⟩))) (some ([(opPlane, 1), (opPatch, y.1)], y.2)) := by rw [hw3]; exact ec_under opPlane 1 HE2.out
    clear hw3
    have T10 := T9.up hb3
    clear T9
    clear hb3
    have HEC := Lib.hid (he3)
    obtain ⟨⟨q0, q1, q2⟩, f0, f1, f2⟩ := p_cells (T10.out.2)
    obtain ⟨w9, e9, ⟨r0, r1, r2⟩, hk9, hs9, hbl9⟩ := set3p (T10.out.2) (.int .i64 0) (.int .i64 0) (.slice none 0 0)
    have HRET := Lib.hid (And.intro (HEC.out.othP HS0.out hk9 (T10.out.2) (by omega)) (hbl9 W W.heap.size (by omega) (T10.out.1.1.1.1.1.2)))
    have HE9 := Lib.hid e9
    have HR9 := Lib.hid (And.intro r0 (And.intro r1 r2))
    clear hk9 hs9 hbl9 e9 r0 r1 r2
    go_wp2
    rw [HE9.out]
    have r0 := HR9.out.1
    have r1 := HR9.out.2.1
    have r2 := HR9.out.2.2
    refine bodyPost_ret (v := .tuple #[patV 0 0 none 0 0, .iface 117 (.pointer (some ⟨w2.heap.size, 0, none⟩))]) (by simp [results, Tryd.results17, go_sem, r0, r1, r2]) rfl ?_
    rw [HOD.out.1, HOD.out.2]
    exact ⟨none, 0, 0, _, rfl, OwI.nil _ _, HRET.out.1, HRET.out.2⟩
  | none =>
    obtain ⟨w, h, rfl, rfl, hp⟩ := patchErr_none hpe
    have hc : w < 3 ∨ h < 3 := by
      refine Decidable.byContradiction fun hn => hd ?_
      unfold stepD patchD
      rw [htd0, hpe]
      exact if_neg (by omega)
    have hsd : stepD t w h l = some ([(opPlane, 1)], 3) := by
      unfold stepD patchD
      rw [htd0, hpe]
      exact if_pos (by omega)
    have HOD := Lib.hid (And.intro (stepO_er hsd) hsd)
    have HPP := Lib.hid hp
    clear hsd hd htd htd0 hpe hp
    by_cases hc1 : w < 3
    · skip
      have hcI : (w : Int) < 3 := by omega
      clear hc hc1
      go_enter Tryd.func17, Tryd.ntmps17
      go_wp2_with fail
      rw [HWb.out]
      refine (plcheck_ok aT nT cT t Wb R T7.out.1.1.1.1.2 T7.out.1.1.2 hmT HT.out).mono ?_; rintro e w1 ⟨rfl, hbw1⟩
      have T8 := T7.up hbw1
      clear T7
      have v_p0 : w1.cell? ⟨W.heap.size, 0, none⟩ = some (.int .i64 w) := T8.out.1.2.1
      have v_p1 : w1.cell? ⟨W.heap.size, 1, none⟩ = some (.int .i64 h) := T8.out.1.2.2.1
      have v_p2 : w1.cell? ⟨W.heap.size, 2, none⟩ = some (.slice a n c) := T8.out.1.2.2.2
      go_wp2_with fail
      refine (pcheck_ok w h a n c l w1 R T8.out.1.1.1.1.2 T8.out.1.1.1.2 hm HI6.out HPP.out).mono ?_; rintro e w2 ⟨rfl, hbw2⟩
      clear v_p0 v_p1 v_p2
      have T9 := T8.up hbw2
      clear T8
      have v_p0 : w2.cell? ⟨W.heap.size, 0, none⟩ = some (.int .i64 w) := T9.out.1.2.1
      have v_p1 : w2.cell? ⟨W.heap.size, 1, none⟩ = some (.int .i64 h) := T9.out.1.2.2.1
      have v_p2 : w2.cell? ⟨W.heap.size, 2, none⟩ = some (.slice a n c) := T9.out.1.2.2.2
      go_wp2_with fail
      refine (plane_wrong _ _ _ R (T9.out.1.1.1.1.2).glob rfl).mono ?_; rintro e w3 ⟨rfl, hw3⟩
      have hb3 : Below w2.heap.size w2 w3 := by rw [hw3]; exact balloc (bnil w2) _
      have he3 : EC R w3 (.iface 117 (.pointer (some ⟨w2.heap.size, 0, none⟩))) (some ([(opPlane, 1)], 3)) := by rw [hw3]; exact ec_err ((T9.out.1.1.1.1.2).up (balloc (bnil w2) (faultObj opPlane 1 (.iface 199 (.pointer (some (R (rix 3)))))))) (isErr_new (Nat.le_refl _))
      clear hw3
      clear v_p0 v_p1 v_p2
      have T10 := T9.up hb3
      clear T9
      clear hb3
      have HEC := Lib.hid (he3)
      obtain ⟨⟨q0, q1, q2⟩, f0, f1, f2⟩ := p_cells (T10.out.2)
      obtain ⟨w9, e9, ⟨r0, r1, r2⟩, hk9, hs9, hbl9⟩ := set3p (T10.out.2) (.int .i64 0) (.int .i64 0) (.slice none 0 0)
      have HRET := Lib.hid (And.intro (HEC.out.othP HS0.out hk9 (T10.out.2) (by omega)) (hbl9 W W.heap.size (by omega) (T10.out.1.1.1.1.1.2)))
      have HE9 := Lib.hid e9
      have HR9 := Lib.hid (And.intro r0 (And.intro r1 r2))
      clear hk9 hs9 hbl9 e9 r0 r1 r2
      go_wp2
      rw [HE9.out]
      have r0 := HR9.out.1
      have r1 := HR9.out.2.1
      have r2 := HR9.out.2.2
      refine bodyPost_ret (v := .tuple #[patV 0 0 none 0 0, .iface 117 (.pointer (some ⟨w2.heap.size, 0, none⟩))]) (by simp [results, Tryd.results17, go_sem, r0, r1, r2]) rfl ?_
      rw [HOD.out.1, HOD.out.2]
      exact ⟨none, 0, 0, _, rfl, OwI.nil _ _, HRET.out.1, HRET.out.2⟩
    · skip
      have hcI : ¬ (w : Int) < 3 := by omega
      have hcJ : (h : Int) < 3 := by omega
      clear hc hc1
      go_enter Tryd.func17, Tryd.ntmps17
      go_wp2_with fail
      rw [HWb.out]
      refine (plcheck_ok aT nT cT t Wb R T7.out.1.1.1.1.2 T7.out.1.1.2 hmT HT.out).mono ?_; rintro e w1 ⟨rfl, hbw1⟩
      have T8 := T7.up hbw1
      clear T7
      have v_p0 : w1.cell? ⟨W.heap.size, 0, none⟩ = some (.int .i64 w) := T8.out.1.2.1
      have v_p1 : w1.cell? ⟨W.heap.size, 1, none⟩ = some (.int .i64 h) := T8.out.1.2.2.1
      have v_p2 : w1.cell? ⟨W.heap.size, 2, none⟩ = some (.slice a n c) := T8.out.1.2.2.2
      go_wp2_with fail
      refine (pcheck_ok w h a n c l w1 R T8.out.1.1.1.1.2 T8.out.1.1.1.2 hm HI6.out HPP.out).mono ?_; rintro e w2 ⟨rfl, hbw2⟩
      clear v_p0 v_p1 v_p2
      have T9 := T8.up hbw2
      clear T8
      have v_p0 : w2.cell? ⟨W.heap.size, 0, none⟩ = some (.int .i64 w) := T9.out.1.2.1
      have v_p1 : w2.cell? ⟨W.heap.size, 1, none⟩ = some (.int .i64 h) := T9.out.1.2.2.1
      have v_p2 : w2.cell? ⟨W.heap.size, 2, none⟩ = some (.slice a n c) := T9.out.1.2.2.2
      go_wp2_with fail
      refine (plane_wrong _ _ _ R (T9.out.1.1.1.1.2).glob rfl).mono ?_; rintro e w3 ⟨rfl, hw3⟩
      have hb3 : Below w2.heap.size w2 w3 := by rw [hw3]; exact balloc (bnil w2) _
      have he3 : EC R w3 (.iface 117 (.pointer (some ⟨w2.heap.size, 0, none⟩))) (some ([(opPlane, 1)], 3)) := by rw [hw3]; exact ec_err ((T9.out.1.1.1.1.2).up (balloc (bnil w2) (faultObj opPlane 1 (.iface 199 (.pointer (some (R (rix 3)))))))) (isErr_new (Nat.le_refl _))
      clear hw3
      clear v_p0 v_p1 v_p2
      have T10 := T9.up hb3
      clear T9
      clear hb3
      have HEC := Lib.hid (he3)
      obtain ⟨⟨q0, q1, q2⟩, f0, f1, f2⟩ := p_cells (T10.out.2)
      obtain ⟨w9, e9, ⟨r0, r1, r2⟩, hk9, hs9, hbl9⟩ := set3p (T10.out.2) (.int .i64 0) (.int .i64 0) (.slice none 0 0)
      have HRET := Lib.hid (And.intro (HEC.out.othP HS0.out hk9 (T10.out.2) (by omega)) (hbl9 W W.heap.size (by omega) (T10.out.1.1.1.1.1.2)))
      have HE9 := Lib.hid e9
      have HR9 := Lib.hid (And.intro r0 (And.intro r1 r2))
      clear hk9 hs9 hbl9 e9 r0 r1 r2
      go_wp2
      rw [HE9.out]
      have r0 := HR9.out.1
      have r1 := HR9.out.2.1
      have r2 := HR9.out.2.2
      refine bodyPost_ret (v := .tuple #[patV 0 0 none 0 0, .iface 117 (.pointer (some ⟨w2.heap.size, 0, none⟩))]) (by simp [results, Tryd.results17, go_sem, r0, r1, r2]) rfl ?_
      rw [HOD.out.1, HOD.out.2]
      exact ⟨none, 0, 0, _, rfl, OwI.nil _ _, HRET.out.1, HRET.out.2⟩
end Go.Proofs.YtocfkmdoalhjmaaDoor
