/- judge.given for any table and patch; what judge.Judge tells (plain). -/
import Derived.Test.YtocfkmdoalhjmaaDoorJdgB
import Derived.Test.YtocfkmdoalhjmaaDoorDec
import Derived.Test.YtocfkmdoalhjmaaDoorPlaG
import Derived.Test.YtocfkmdoalhjmaaDoorPatM
import Derived.Test.YtocfkmdoalhjmaaDoorTrkP
namespace Go.Proofs.YtocfkmdoalhjmaaDoor
open Go.RowKit
set_option linter.unusedVariables false
set_option maxRecDepth 100000

/-- the fault of the table, of the patch, of its size -/
def gvD (t : List Int) (w h : Int) (l : List Int) : ErrD := match tabD t with
  | some e => some ((opJudge, 0) :: e.1, e.2)
  | none => match patchErr w h l with
    | some y => some ([(opJudge, 1), (opPatch, y.1)], y.2)
    | none => if 8 < w then some ([(opJudge, 1)], 4) else if 4 < h then some ([(opJudge, 2)], 4) else none
theorem gvD_none {t : List Int} {w h : Int} {l : List Int} (hd : gvD t w h l = none) : ∃ w' h' : Nat, w = w' ∧ h = h' ∧ IsPatch w' h' l ∧ IsTab t ∧ w' ≤ 8 ∧ h' ≤ 4 := by
  unfold gvD at hd
  cases ht : tabD t with
  | some e => rw [ht] at hd; cases hd
  | none =>
    rw [ht] at hd
    cases hp : patchErr w h l with
    | some y => rw [hp] at hd; cases hd
    | none =>
      rw [hp] at hd
      obtain ⟨w', h', rfl, rfl, hpp⟩ := patchErr_none hp
      simp only at hd
      split at hd
      · cases hd
      · split at hd
        · cases hd
        · exact ⟨w', h', rfl, rfl, hpp, tabD_none ht, by omega, by omega⟩
def ErrRet (R : Nat → Addr) (W : World) (x : ErrD) (e : Ending) (w' : World) : Prop := ∃ ev, e = .returned ev ∧ EC R w' ev x ∧ Below W.heap.size W w'
set_option maxHeartbeats 16000000 in
theorem jgiven_any (w h : Int) (a aT : Option Addr) (n c nT cT : Nat) (l t : List Int) (W : World) (R : Nat → Addr) (hS : Sent W R) (hR : RK .i64 W a n l) (hm : n ≤ maxLen) (hx : I64 l) (hT : RK .i64 W aT nT t) (hmT : nT ≤ maxLen) :
    Calls Tryd.prog 83 #[.slice aT nT cT, patV w h a n c] W (ErrRet R W (gvD t w h l)) := by
  have T0 := Tk.nil W
  have T1 := T0.add (fun wv => Below W.heap.size W wv) (bnil W)
  clear T0
  have T2 := T1.add (fun wv => Sent wv R) (hS)
  clear T1
  have T3 := T2.add (fun wv => RK .i64 wv a n l) (hR)
  clear T2
  have T4 := T3.add (fun wv => RK .i64 wv aT nT t) (hT)
  clear T3
  have HI6 := Lib.hid hx
  clear hS hR hT hx
  obtain ⟨Wb, hWb⟩ : ∃ Wb, W.alloc (.cells #[.int .i64 w, .int .i64 h, .slice a n c] 24) = Wb := ⟨_, rfl⟩
  have hbWb : Below W.heap.size W Wb := by rw [← hWb]; exact balloc (bnil W) _
  have T5 := T4.up hbWb
  clear T4
  have T6 := T5.add (fun wv => wv.cell? ⟨W.heap.size, 0, none⟩ = some (.int .i64 w) ∧ wv.cell? ⟨W.heap.size, 1, none⟩ = some (.int .i64 h) ∧ wv.cell? ⟨W.heap.size, 2, none⟩ = some (.slice a n c)) (by rw [← hWb]; exact ⟨cnw (by simp) rfl, cnw (by simp) rfl, cnw (by simp) rfl⟩)
  clear T5
  have HWb := Lib.hid hWb
  clear hWb hbWb
  cases htd : tabD t with
  | some y0 =>
    have hod : gvD t w h l = some ((opJudge, 0) :: y0.1, y0.2) := by unfold gvD; rw [htd]
    have HOD := Lib.hid hod
    have htn : tabD t ≠ none := by rw [htd]; exact nofun
    have HTN := Lib.hid htn
    have HTD := Lib.hid htd
    clear hod htn htd
    go_enter Tryd.func83, Tryd.ntmps83
    go_wp2_with fail
    rw [HWb.out]
    refine (plcheck_er aT nT cT t Wb R T6.out.1.1.1.2 T6.out.1.2 hmT HTN.out).mono ?_; rintro e w1 ⟨g, rfl, he, hbw1⟩
    have T7 := T6.up hbw1
    clear T6
    rw [HTD.out] at he
    obtain ⟨es0, n0⟩ := y0
    have HE := Lib.hid he
    clear he
    go_wp2_with fail
    refine (plunder _ _ _ _ _).mono ?_; rintro e w2 ⟨rfl, hw3⟩
    have hb3 : Below w1.heap.size w1 w2 := by rw [hw3]; exact balloc (bnil w1) _
    have he3 : EC R w2 (.iface 117 (.pointer (some ⟨w1.heap.size, 0, none⟩))) (some ((opJudge, 0) :: es0, n0)) := by rw [hw3]; exact ec_under opJudge 0 HE.out
    clear hw3
    have T8 := T7.up hb3
    clear T7
    have HE3 := Lib.hid he3
    clear hb3 he3
    go_wp2
    go_ret
    rw [HOD.out]
    exact ⟨_, rfl, HE3.out, T8.out.1.1.1.1.2⟩
  | none =>
    have HT := Lib.hid (tabD_none htd)
    cases hpe : patchErr w h l with
    | some y =>
      have hod : gvD t w h l = some ([(opJudge, 1), (opPatch, y.1)], y.2) := by unfold gvD; rw [htd, hpe]
      have HOD := Lib.hid hod
      have HPE := Lib.hid hpe
      clear hod htd hpe
      go_enter Tryd.func83, Tryd.ntmps83
      go_wp2_with fail
      rw [HWb.out]
      refine (plcheck_ok aT nT cT t Wb R T6.out.1.1.1.2 T6.out.1.2 hmT HT.out).mono ?_; rintro e w1 ⟨rfl, hbw1⟩
      have T7 := T6.up hbw1
      clear T6
      have v_p0 : w1.cell? ⟨W.heap.size, 0, none⟩ = some (.int .i64 w) := T7.out.2.1
      have v_p1 : w1.cell? ⟨W.heap.size, 1, none⟩ = some (.int .i64 h) := T7.out.2.2.1
      have v_p2 : w1.cell? ⟨W.heap.size, 2, none⟩ = some (.slice a n c) := T7.out.2.2.2
      go_wp2_with fail
      refine (pcheck_er w h a n c l w1 R T7.out.1.1.1.2 T7.out.1.1.2 hm HI6.out y HPE.out).mono ?_; rintro e w2 ⟨g, rfl, he, hbw2⟩
      clear v_p0 v_p1 v_p2
      have T8 := T7.up hbw2
      clear T7
      have HE := Lib.hid he
      clear he
      go_wp2_with fail
      refine (plunder _ _ _ _ _).mono ?_; rintro e w3 ⟨rfl, hw3⟩
      have hb3 : Below w2.heap.size w2 w3 := by rw [hw3]; exact balloc (bnil w2) _
      have he3 : EC R w3 (.iface 117 (.pointer (some ⟨w2.heap.size, 0, none⟩))) (some ([(opJudge, 1), (opPatch, y.1)], y.2)) := by rw [hw3]; exact ec_under opJudge 1 HE.out
      clear hw3
      have T9 := T8.up hb3
      clear T8
      have HE3 := Lib.hid he3
      clear hb3 he3
      go_wp2
      go_ret
      rw [HOD.out]
      exact ⟨_, rfl, HE3.out, T9.out.1.1.1.1.2⟩
    | none =>
      obtain ⟨w, h, rfl, rfl, hp⟩ := patchErr_none hpe
      have HPP := Lib.hid hp
      have hgv : gvD t (w : Int) (h : Int) l = if 8 < (w : Int) then some ([(opJudge, 1)], 4) else if 4 < (h : Int) then some ([(opJudge, 2)], 4) else none := by unfold gvD; rw [htd, hpe]
      have HGV := Lib.hid hgv
      clear htd hpe hp hgv
      by_cases hw8 : 8 < (w : Int)
      · skip
        have HOD := Lib.hid (HGV.out.trans (if_pos hw8))
        go_enter Tryd.func83, Tryd.ntmps83
        go_wp2_with fail
        rw [HWb.out]
        refine (plcheck_ok aT nT cT t Wb R T6.out.1.1.1.2 T6.out.1.2 hmT HT.out).mono ?_; rintro e w1 ⟨rfl, hbw1⟩
        have T7 := T6.up hbw1
        clear T6
        have v_p0 : w1.cell? ⟨W.heap.size, 0, none⟩ = some (.int .i64 w) := T7.out.2.1
        have v_p1 : w1.cell? ⟨W.heap.size, 1, none⟩ = some (.int .i64 h) := T7.out.2.2.1
        have v_p2 : w1.cell? ⟨W.heap.size, 2, none⟩ = some (.slice a n c) := T7.out.2.2.2
        go_wp2_with fail
        refine (pcheck_ok w h a n c l w1 R T7.out.1.1.1.2 T7.out.1.1.2 hm HI6.out HPP.out).mono ?_; rintro e w2 ⟨rfl, hbw2⟩
        clear v_p0 v_p1 v_p2
        have T8 := T7.up hbw2
        clear T7
        have v_p0 : w2.cell? ⟨W.heap.size, 0, none⟩ = some (.int .i64 w) := T8.out.2.1
        have v_p1 : w2.cell? ⟨W.heap.size, 1, none⟩ = some (.int .i64 h) := T8.out.2.2.1
        have v_p2 : w2.cell? ⟨W.heap.size, 2, none⟩ = some (.slice a n c) := T8.out.2.2.2
        go_wp2_with fail
        refine (judge_wrong _ _ _ R (T8.out.1.1.1.2).glob rfl).mono ?_; rintro e w3 ⟨rfl, hw3⟩
        have hb3 : Below w2.heap.size w2 w3 := by rw [hw3]; exact balloc (bnil w2) _
        have he3 : EC R w3 (.iface 117 (.pointer (some ⟨w2.heap.size, 0, none⟩))) (some ([(opJudge, 1)], 4)) := by rw [hw3]; exact ec_err ((T8.out.1.1.1.2).up (balloc (bnil w2) (faultObj opJudge 1 (.iface 199 (.pointer (some (R (rix 4)))))))) (isErr_new (Nat.le_refl _))
        clear hw3
        clear v_p0 v_p1 v_p2
        have T9 := T8.up hb3
        clear T8
        have HE3 := Lib.hid he3
        clear hb3 he3
        go_wp2
        go_ret
        rw [HOD.out]
        exact ⟨_, rfl, HE3.out, T9.out.1.1.1.1.2⟩
      by_cases hh4 : 4 < (h : Int)
      · skip
        have HOD := Lib.hid (HGV.out.trans ((if_neg hw8).trans (if_pos hh4)))
        go_enter Tryd.func83, Tryd.ntmps83
        go_wp2_with fail
        rw [HWb.out]
        refine (plcheck_ok aT nT cT t Wb R T6.out.1.1.1.2 T6.out.1.2 hmT HT.out).mono ?_; rintro e w1 ⟨rfl, hbw1⟩
        have T7 := T6.up hbw1
        clear T6
        have v_p0 : w1.cell? ⟨W.heap.size, 0, none⟩ = some (.int .i64 w) := T7.out.2.1
        have v_p1 : w1.cell? ⟨W.heap.size, 1, none⟩ = some (.int .i64 h) := T7.out.2.2.1
        have v_p2 : w1.cell? ⟨W.heap.size, 2, none⟩ = some (.slice a n c) := T7.out.2.2.2
        go_wp2_with fail
        refine (pcheck_ok w h a n c l w1 R T7.out.1.1.1.2 T7.out.1.1.2 hm HI6.out HPP.out).mono ?_; rintro e w2 ⟨rfl, hbw2⟩
        clear v_p0 v_p1 v_p2
        have T8 := T7.up hbw2
        clear T7
        have v_p0 : w2.cell? ⟨W.heap.size, 0, none⟩ = some (.int .i64 w) := T8.out.2.1
        have v_p1 : w2.cell? ⟨W.heap.size, 1, none⟩ = some (.int .i64 h) := T8.out.2.2.1
        have v_p2 : w2.cell? ⟨W.heap.size, 2, none⟩ = some (.slice a n c) := T8.out.2.2.2
        go_wp2_with fail
        refine (judge_wrong _ _ _ R (T8.out.1.1.1.2).glob rfl).mono ?_; rintro e w3 ⟨rfl, hw3⟩
        have hb3 : Below w2.heap.size w2 w3 := by rw [hw3]; exact balloc (bnil w2) _
        have he3 : EC R w3 (.iface 117 (.pointer (some ⟨w2.heap.size, 0, none⟩))) (some ([(opJudge, 2)], 4)) := by rw [hw3]; exact ec_err ((T8.out.1.1.1.2).up (balloc (bnil w2) (faultObj opJudge 2 (.iface 199 (.pointer (some (R (rix 4)))))))) (isErr_new (Nat.le_refl _))
        clear hw3
        clear v_p0 v_p1 v_p2
        have T9 := T8.up hb3
        clear T8
        have HE3 := Lib.hid he3
        clear hb3 he3
        go_wp2
        go_ret
        rw [HOD.out]
        exact ⟨_, rfl, HE3.out, T9.out.1.1.1.1.2⟩
      have HOD := Lib.hid (HGV.out.trans ((if_neg hw8).trans (if_neg hh4)))
      go_enter Tryd.func83, Tryd.ntmps83
      go_wp2_with fail
      rw [HWb.out]
      refine (plcheck_ok aT nT cT t Wb R T6.out.1.1.1.2 T6.out.1.2 hmT HT.out).mono ?_; rintro e w1 ⟨rfl, hbw1⟩
      have T7 := T6.up hbw1
      clear T6
      have v_p0 : w1.cell? ⟨W.heap.size, 0, none⟩ = some (.int .i64 w) := T7.out.2.1
      have v_p1 : w1.cell? ⟨W.heap.size, 1, none⟩ = some (.int .i64 h) := T7.out.2.2.1
      have v_p2 : w1.cell? ⟨W.heap.size, 2, none⟩ = some (.slice a n c) := T7.out.2.2.2
      go_wp2_with fail
      refine (pcheck_ok w h a n c l w1 R T7.out.1.1.1.2 T7.out.1.1.2 hm HI6.out HPP.out).mono ?_; rintro e w2 ⟨rfl, hbw2⟩
      clear v_p0 v_p1 v_p2
      have T8 := T7.up hbw2
      clear T7
      have v_p0 : w2.cell? ⟨W.heap.size, 0, none⟩ = some (.int .i64 w) := T8.out.2.1
      have v_p1 : w2.cell? ⟨W.heap.size, 1, none⟩ = some (.int .i64 h) := T8.out.2.2.1
      have v_p2 : w2.cell? ⟨W.heap.size, 2, none⟩ = some (.slice a n c) := T8.out.2.2.2
      go_wp2
      go_ret
      rw [HOD.out]
      exact ⟨_, rfl, rfl, T8.out.1.1.1.1.2⟩

/-- the looks and the end of a certificate that is gone through: entries to come, the number of the first of them, those that came, the unlike ones of column 0 among them, the looks so far; m: how many columns -/
def judgeRun (t cols : List Int) (h m : Nat) : List (Int × Int × Int) → Nat → List (Int × Int × Int) → Nat → Nat → Nat × Option Nat
  | [], i, acc, first, n => if first < m * m then (n, some (4 + i)) else (n, none)
  | x :: r, i, acc, first, n => if (holdsF t h (cols.getD x.1.toNat 0).toNat x.1.toNat x.2.1.toNat x.2.2.toNat acc m 0 0).2 = true
      then judgeRun t cols h m r (i + 1) (acc ++ [x]) (first + if ¬ x ∈ acc ∧ x.1 = 0 then 1 else 0) (n + (holdsF t h (cols.getD x.1.toNat 0).toNat x.1.toNat x.2.1.toNat x.2.2.toNat acc m 0 0).1)
      else (n + (holdsF t h (cols.getD x.1.toNat 0).toNat x.1.toNat x.2.1.toNat x.2.2.toNat acc m 0 0).1, some (4 + i))
/-- what Judge tells: the looks, the fault -/
def judgeF (t : List Int) (w h : Int) (l bs : List Int) : Nat × ErrD := match gvD t w h l with
  | some e => (0, some e)
  | none => match decF bs with
    | .error y => (0, some ([(opJudge, 2), (opCert, y.1)], y.2))
    | .ok z => if z.1 ≠ w ∨ z.2.1 ≠ h then (0, some ([(opJudge, 3)], 8)) else
      match judgeRun t (colL w.toNat h.toNat l) h.toNat (4 * 2 ^ h.toNat) z.2.2 0 [] 0 0 with
      | (n, some at_) => (n, some ([(opJudge, (at_ : Int))], 8))
      | (n, none) => (n, none)
/-- an entry fits a certificate's size -/
structure Fit3 (w m : Nat) (x : Int × Int × Int) : Prop where
  a0 : 0 ≤ x.1
  a1 : x.1 < w
  b0 : 0 ≤ x.2.1
  b1 : x.2.1 < m
  c0 : 0 ≤ x.2.2
  c1 : x.2.2 < m
theorem entsOf_fit {w m : Nat} : ∀ (k : Nat) (l : List Int), l.length = 3 * k → (∀ j, j < l.length → 0 ≤ l.getD j 0 ∧ l.getD j 0 < (if j % 3 = 0 then (w : Int) else (m : Int))) → ∀ x ∈ entsOf l, Fit3 w m x
  | 0, l, hl, _ => by
    match l, hl with
    | [], _ => intro x hx; cases hx
  | k + 1, l, hl, h => by
    match l, hl with
    | a :: b :: c :: r, hl =>
      have hr : r.length = 3 * k := by simp at hl; omega
      have ih := entsOf_fit k r hr (fun j hj => by
        have := h (j + 3) (by simp; omega)
        have e : (j + 3) % 3 = j % 3 := by omega
        rw [e] at this
        simpa using this)
      intro x hx
      have hx2 : x = (a, b, c) ∨ x ∈ entsOf r := by simpa [entsOf] using hx
      rcases hx2 with rfl | hx2
      · have h0 := h 0 (by simp)
        have h1 := h 1 (by simp)
        have h2 := h 2 (by simp)
        simp at h0 h1 h2
        exact ⟨h0.1, h0.2, h1.1, h1.2, h2.1, h2.2⟩
      · exact ih x hx2
    | [_], hl => simp at hl; omega
    | [_, _], hl => simp at hl; omega
    | [], hl => simp at hl
end Go.Proofs.YtocfkmdoalhjmaaDoor
