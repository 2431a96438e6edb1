/- eve.asked for any table and patch. -/
import Derived.Test.YtoaooblodgejdaaDoorJdgX
namespace Go.Proofs.YtoaooblodgejdaaDoor
open Go.RowKit
set_option linter.unusedVariables false
set_option maxRecDepth 100000

/-- the fault of the table, of the patch, of its size -/
def evD (t : List Int) (w h : Int) (l : List Int) : ErrD := match tabD t with
  | some e => some ((opEve, 0) :: e.1, e.2)
  | none => match patchErr w h l with
    | some y => some ([(opEve, 1), (opPatch, y.1)], y.2)
    | none => if 8 < w then some ([(opEve, 1)], 4) else if 4 < h then some ([(opEve, 2)], 4) else none
theorem evD_none {t : List Int} {w h : Int} {l : List Int} (hd : evD t w h l = none) : ∃ w' h' : Nat, w = w' ∧ h = h' ∧ IsPatch w' h' l ∧ IsTab t ∧ w' ≤ 8 ∧ h' ≤ 4 := by
  unfold evD at hd
  cases ht : tabD t with
  | some e => rw [ht] at hd; cases hd
  | none =>
    rw [ht] at hd
    cases hp : patchErr w h l with
    | some y => rw [hp] at hd; cases hd
    | none =>
      rw [hp] at hd
      obtain ⟨w', h', rfl, rfl, hpp⟩ := patchErr_none hp
      simp only at hd
      split at hd
      · cases hd
      · split at hd
        · cases hd
        · exact ⟨w', h', rfl, rfl, hpp, tabD_none ht, by omega, by omega⟩
set_option maxHeartbeats 16000000 in
theorem evasked_any (w h : Int) (a aT : Option Addr) (n c nT cT : Nat) (l t : List Int) (W : World) (R : Nat → Addr) (hS : Sent W R) (hR : RK .i64 W a n l) (hm : n ≤ maxLen) (hx : I64 l) (hT : RK .i64 W aT nT t) (hmT : nT ≤ maxLen) :
    Calls Tryd.prog 56 #[.slice aT nT cT, patV w h a n c] W (ErrRet R W (evD t w h l)) := by
  have T0 := Tk.nil W
  have T1 := T0.add (fun wv => Below W.heap.size W wv) (bnil W)
  clear T0
  have T2 := T1.add (fun wv => Sent wv R) (hS)
  clear T1
  have T3 := T2.add (fun wv => RK .i64 wv a n l) (hR)
  clear T2
  have T4 := T3.add (fun wv => RK .i64 wv aT nT t) (hT)
  clear T3
  have HI6 := Lib.hid hx
  clear hS hR hT hx
  obtain ⟨Wb, hWb⟩ : ∃ Wb, W.alloc (.cells #[.int .i64 w, .int .i64 h, .slice a n c] 24) = Wb := ⟨_, rfl⟩
  have hbWb : Below W.heap.size W Wb := by rw [← hWb]; exact balloc (bnil W) _
  have T5 := T4.up hbWb
  clear T4
  have T6 := T5.add (fun wv => wv.cell? ⟨W.heap.size, 0, none⟩ = some (.int .i64 w) ∧ wv.cell? ⟨W.heap.size, 1, none⟩ = some (.int .i64 h) ∧ wv.cell? ⟨W.heap.size, 2, none⟩ = some (.slice a n c)) (by rw [← hWb]; exact ⟨cnw (by simp) rfl, cnw (by simp) rfl, cnw (by simp) rfl⟩)
  clear T5
  have HWb := Lib.hid hWb
  clear hWb hbWb
  cases htd : tabD t with
  | some y0 =>
    have hod : evD t w h l = some ((opEve, 0) :: y0.1, y0.2) := by unfold evD; rw [htd]
    have HOD := Lib.hid hod
    have htn : tabD t ≠ none := by rw [htd]; exact nofun
    have HTN := Lib.hid htn
    have HTD := Lib.hid htd
    clear hod htn htd
    go_enter Tryd.func56, Tryd.ntmps56
    go_wp2_with fail
    rw [HWb.out]
    refine (plcheck_er aT nT cT t Wb R T6.out.1.1.1.2 T6.out.1.2 hmT HTN.out).mono ?_; rintro e w1 ⟨g, rfl, he, hbw1⟩
    have T7 := T6.up hbw1
    clear T6
    rw [HTD.out] at he
    obtain ⟨es0, n0⟩ := y0
    have HE := Lib.hid he
    clear he
    go_wp2_with fail
    refine (plunder _ _ _ _ _).mono ?_; rintro e w2 ⟨rfl, hw3⟩
    have hb3 : Below w1.heap.size w1 w2 := by rw [hw3]; exact balloc (bnil w1) _
    have he3 : EC R w2 (.iface 124 (.pointer (some ⟨w1.heap.size, 0, none⟩))) (some ((opEve, 0) :: es0, n0)) := by rw [hw3]; exact ec_under opEve 0 HE.out
    clear hw3
    have T8 := T7.up hb3
    clear T7
    have HE3 := Lib.hid he3
    clear hb3 he3
    go_wp2
    go_ret
    rw [HOD.out]
    exact ⟨_, rfl, HE3.out, T8.out.1.1.1.1.2⟩
  | none =>
    have HT := Lib.hid (tabD_none htd)
    cases hpe : patchErr w h l with
    | some y =>
      have hod : evD t w h l = some ([(opEve, 1), (opPatch, y.1)], y.2) := by unfold evD; rw [htd, hpe]
      have HOD := Lib.hid hod
      have HPE := Lib.hid hpe
      clear hod htd hpe
      go_enter Tryd.func56, Tryd.ntmps56
      go_wp2_with fail
      rw [HWb.out]
      refine (plcheck_ok aT nT cT t Wb R T6.out.1.1.1.2 T6.out.1.2 hmT HT.out).mono ?_; rintro e w1 ⟨rfl, hbw1⟩
      have T7 := T6.up hbw1
      clear T6
      have v_p0 : w1.cell? ⟨W.heap.size, 0, none⟩ = some (.int .i64 w) := T7.out.2.1
      have v_p1 : w1.cell? ⟨W.heap.size, 1, none⟩ = some (.int .i64 h) := T7.out.2.2.1
      have v_p2 : w1.cell? ⟨W.heap.size, 2, none⟩ = some (.slice a n c) := T7.out.2.2.2
      go_wp2_with fail
      refine (pcheck_er w h a n c l w1 R T7.out.1.1.1.2 T7.out.1.1.2 hm HI6.out y HPE.out).mono ?_; rintro e w2 ⟨g, rfl, he, hbw2⟩
      clear v_p0 v_p1 v_p2
      have T8 := T7.up hbw2
      clear T7
      have HE := Lib.hid he
      clear he
      go_wp2_with fail
      refine (plunder _ _ _ _ _).mono ?_; rintro e w3 ⟨rfl, hw3⟩
      have hb3 : Below w2.heap.size w2 w3 := by rw [hw3]; exact balloc (bnil w2) _
      have he3 : EC R w3 (.iface 124 (.pointer (some ⟨w2.heap.size, 0, none⟩))) (some ([(opEve, 1), (opPatch, y.1)], y.2)) := by rw [hw3]; exact ec_under opEve 1 HE.out
      clear hw3
      have T9 := T8.up hb3
      clear T8
      have HE3 := Lib.hid he3
      clear hb3 he3
      go_wp2
      go_ret
      rw [HOD.out]
      exact ⟨_, rfl, HE3.out, T9.out.1.1.1.1.2⟩
    | none =>
      obtain ⟨w, h, rfl, rfl, hp⟩ := patchErr_none hpe
      have HPP := Lib.hid hp
      have hgv : evD t (w : Int) (h : Int) l = if 8 < (w : Int) then some ([(opEve, 1)], 4) else if 4 < (h : Int) then some ([(opEve, 2)], 4) else none := by unfold evD; rw [htd, hpe]
      have HGV := Lib.hid hgv
      clear htd hpe hp hgv
      by_cases hw8 : 8 < (w : Int)
      · skip
        have HOD := Lib.hid (HGV.out.trans (if_pos hw8))
        go_enter Tryd.func56, Tryd.ntmps56
        go_wp2_with fail
        rw [HWb.out]
        refine (plcheck_ok aT nT cT t Wb R T6.out.1.1.1.2 T6.out.1.2 hmT HT.out).mono ?_; rintro e w1 ⟨rfl, hbw1⟩
        have T7 := T6.up hbw1
        clear T6
        have v_p0 : w1.cell? ⟨W.heap.size, 0, none⟩ = some (.int .i64 w) := T7.out.2.1
        have v_p1 : w1.cell? ⟨W.heap.size, 1, none⟩ = some (.int .i64 h) := T7.out.2.2.1
        have v_p2 : w1.cell? ⟨W.heap.size, 2, none⟩ = some (.slice a n c) := T7.out.2.2.2
        go_wp2_with fail
        refine (pcheck_ok w h a n c l w1 R T7.out.1.1.1.2 T7.out.1.1.2 hm HI6.out HPP.out).mono ?_; rintro e w2 ⟨rfl, hbw2⟩
        clear v_p0 v_p1 v_p2
        have T8 := T7.up hbw2
        clear T7
        have v_p0 : w2.cell? ⟨W.heap.size, 0, none⟩ = some (.int .i64 w) := T8.out.2.1
        have v_p1 : w2.cell? ⟨W.heap.size, 1, none⟩ = some (.int .i64 h) := T8.out.2.2.1
        have v_p2 : w2.cell? ⟨W.heap.size, 2, none⟩ = some (.slice a n c) := T8.out.2.2.2
        go_wp2_with fail
        refine (eve_wrong _ _ _ R (T8.out.1.1.1.2).glob rfl).mono ?_; rintro e w3 ⟨rfl, hw3⟩
        have hb3 : Below w2.heap.size w2 w3 := by rw [hw3]; exact balloc (bnil w2) _
        have he3 : EC R w3 (.iface 124 (.pointer (some ⟨w2.heap.size, 0, none⟩))) (some ([(opEve, 1)], 4)) := by rw [hw3]; exact ec_err ((T8.out.1.1.1.2).up (balloc (bnil w2) (faultObj opEve 1 (.iface 190 (.pointer (some (R (rix 4)))))))) (isErr_new (Nat.le_refl _))
        clear hw3
        clear v_p0 v_p1 v_p2
        have T9 := T8.up hb3
        clear T8
        have HE3 := Lib.hid he3
        clear hb3 he3
        go_wp2
        go_ret
        rw [HOD.out]
        exact ⟨_, rfl, HE3.out, T9.out.1.1.1.1.2⟩
      by_cases hh4 : 4 < (h : Int)
      · skip
        have HOD := Lib.hid (HGV.out.trans ((if_neg hw8).trans (if_pos hh4)))
        go_enter Tryd.func56, Tryd.ntmps56
        go_wp2_with fail
        rw [HWb.out]
        refine (plcheck_ok aT nT cT t Wb R T6.out.1.1.1.2 T6.out.1.2 hmT HT.out).mono ?_; rintro e w1 ⟨rfl, hbw1⟩
        have T7 := T6.up hbw1
        clear T6
        have v_p0 : w1.cell? ⟨W.heap.size, 0, none⟩ = some (.int .i64 w) := T7.out.2.1
        have v_p1 : w1.cell? ⟨W.heap.size, 1, none⟩ = some (.int .i64 h) := T7.out.2.2.1
        have v_p2 : w1.cell? ⟨W.heap.size, 2, none⟩ = some (.slice a n c) := T7.out.2.2.2
        go_wp2_with fail
        refine (pcheck_ok w h a n c l w1 R T7.out.1.1.1.2 T7.out.1.1.2 hm HI6.out HPP.out).mono ?_; rintro e w2 ⟨rfl, hbw2⟩
        clear v_p0 v_p1 v_p2
        have T8 := T7.up hbw2
        clear T7
        have v_p0 : w2.cell? ⟨W.heap.size, 0, none⟩ = some (.int .i64 w) := T8.out.2.1
        have v_p1 : w2.cell? ⟨W.heap.size, 1, none⟩ = some (.int .i64 h) := T8.out.2.2.1
        have v_p2 : w2.cell? ⟨W.heap.size, 2, none⟩ = some (.slice a n c) := T8.out.2.2.2
        go_wp2_with fail
        refine (eve_wrong _ _ _ R (T8.out.1.1.1.2).glob rfl).mono ?_; rintro e w3 ⟨rfl, hw3⟩
        have hb3 : Below w2.heap.size w2 w3 := by rw [hw3]; exact balloc (bnil w2) _
        have he3 : EC R w3 (.iface 124 (.pointer (some ⟨w2.heap.size, 0, none⟩))) (some ([(opEve, 2)], 4)) := by rw [hw3]; exact ec_err ((T8.out.1.1.1.2).up (balloc (bnil w2) (faultObj opEve 2 (.iface 190 (.pointer (some (R (rix 4)))))))) (isErr_new (Nat.le_refl _))
        clear hw3
        clear v_p0 v_p1 v_p2
        have T9 := T8.up hb3
        clear T8
        have HE3 := Lib.hid he3
        clear hb3 he3
        go_wp2
        go_ret
        rw [HOD.out]
        exact ⟨_, rfl, HE3.out, T9.out.1.1.1.1.2⟩
      have HOD := Lib.hid (HGV.out.trans ((if_neg hw8).trans (if_neg hh4)))
      go_enter Tryd.func56, Tryd.ntmps56
      go_wp2_with fail
      rw [HWb.out]
      refine (plcheck_ok aT nT cT t Wb R T6.out.1.1.1.2 T6.out.1.2 hmT HT.out).mono ?_; rintro e w1 ⟨rfl, hbw1⟩
      have T7 := T6.up hbw1
      clear T6
      have v_p0 : w1.cell? ⟨W.heap.size, 0, none⟩ = some (.int .i64 w) := T7.out.2.1
      have v_p1 : w1.cell? ⟨W.heap.size, 1, none⟩ = some (.int .i64 h) := T7.out.2.2.1
      have v_p2 : w1.cell? ⟨W.heap.size, 2, none⟩ = some (.slice a n c) := T7.out.2.2.2
      go_wp2_with fail
      refine (pcheck_ok w h a n c l w1 R T7.out.1.1.1.2 T7.out.1.1.2 hm HI6.out HPP.out).mono ?_; rintro e w2 ⟨rfl, hbw2⟩
      clear v_p0 v_p1 v_p2
      have T8 := T7.up hbw2
      clear T7
      have v_p0 : w2.cell? ⟨W.heap.size, 0, none⟩ = some (.int .i64 w) := T8.out.2.1
      have v_p1 : w2.cell? ⟨W.heap.size, 1, none⟩ = some (.int .i64 h) := T8.out.2.2.1
      have v_p2 : w2.cell? ⟨W.heap.size, 2, none⟩ = some (.slice a n c) := T8.out.2.2.2
      go_wp2
      go_ret
      rw [HOD.out]
      exact ⟨_, rfl, rfl, T8.out.1.1.1.1.2⟩

end Go.Proofs.YtoaooblodgejdaaDoor
