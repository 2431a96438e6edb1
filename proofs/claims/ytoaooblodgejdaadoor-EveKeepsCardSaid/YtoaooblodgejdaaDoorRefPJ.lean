/- The contract of edenref21.Columns, for any patch. -/
import Derived.Test.YtoaooblodgejdaaDoorPatX
import Derived.BigRegion
namespace Go.Proofs.YtoaooblodgejdaaDoor
open Go.RowKit
set_option linter.unusedVariables false
set_option maxRecDepth 100000

def horN (w h : Nat) (l : List Int) (x : Nat) : Nat → Nat
  | 0 => 0
  | j + 1 => 2 * horN w h l x j + cellN w l x (h - 1 - j)
theorem horN_eq {w h : Nat} {l : List Int} {x : Nat} : ∀ j, j ≤ h → colV w l x h = colV w l x (h - j) + 2 ^ (h - j) * horN w h l x j
  | 0, _ => by simp [horN]
  | j + 1, hj => by
    have ih := horN_eq (w := w) (h := h) (l := l) (x := x) j (by omega)
    obtain ⟨k, hk⟩ : ∃ k, h - j = k + 1 := ⟨h - j - 1, by omega⟩
    rw [hk] at ih
    rw [ih, show h - (j + 1) = k by omega]
    have e1 : colV w l x (k + 1) = colV w l x k + cellN w l x k * 2 ^ k := rfl
    have e2 : horN w h l x (j + 1) = 2 * horN w h l x j + cellN w l x (h - 1 - j) := rfl
    rw [e1, e2, show h - 1 - j = k by omega, Nat.pow_succ, Nat.mul_add, Nat.mul_comm (cellN w l x k), Nat.mul_assoc]
    omega
theorem horN_all {w h : Nat} {l : List Int} {x : Nat} : horN w h l x h = colV w l x h := by
  have := horN_eq (w := w) (l := l) (x := x) h (Nat.le_refl h)
  rw [Nat.sub_self] at this
  rw [this]
  simp [colV]
theorem horN_lt {w h : Nat} {l : List Int} (hp : IsPatch w h l) {x : Nat} (hx : x < w) : ∀ j, j ≤ h → horN w h l x j < 2 ^ j
  | 0, _ => by simp [horN]
  | j + 1, hj => by
    have ih := horN_lt hp hx j (by omega)
    have hc := (cellN_le hp hx (show h - 1 - j < h by omega)).1
    have e2 : horN w h l x (j + 1) = 2 * horN w h l x j + cellN w l x (h - 1 - j) := rfl
    rw [e2, Nat.pow_succ]
    omega
def stL (cs : List Int) (w x : Nat) (v : Int) : List Int := cs.take x ++ v :: List.replicate (w - 1 - x) 0
theorem stL_start {cs : List Int} {w x : Nat} (hx : x < w) : cs.take x ++ List.replicate (w - x) 0 = stL cs w x 0 := by
  unfold stL
  rw [show w - x = (w - 1 - x) + 1 by omega, List.replicate_succ]
theorem stL_len {cs : List Int} {w x : Nat} {v : Int} (hc : cs.length = w) (hx : x < w) : (stL cs w x v).length = w := by simp [stL]; omega
theorem stL_get {cs : List Int} {w x : Nat} {v : Int} (hc : cs.length = w) (hx : x < w) : (stL cs w x v)[x]? = some v := by
  unfold stL
  have h1 : (cs.take x).length = x := by simp; omega
  rw [List.getElem?_append_right (by omega), h1, Nat.sub_self]
  rfl
theorem stL_set {cs : List Int} {w x : Nat} {v u : Int} (hc : cs.length = w) (hx : x < w) : (stL cs w x v).set x u = stL cs w x u := by
  unfold stL
  have h1 : (cs.take x).length = x := by simp; omega
  rw [List.set_append_right _ _ (by omega), h1, Nat.sub_self]
  rfl
theorem stL_end {cs : List Int} {w x : Nat} (hc : cs.length = w) (hx : x < w) : stL cs w x (cs.getD x 0) = cs.take (x + 1) ++ List.replicate (w - (x + 1)) 0 := by
  unfold stL
  rw [List.take_succ_eq_append_getElem (by omega), show cs.getD x 0 = cs[x]'(by omega) by simp [hc, hx], List.append_assoc, show w - (x + 1) = w - 1 - x by omega]
  rfl

set_option maxHeartbeats 16000000 in
theorem refcol_any (w h : Int) (a : Option Addr) (n c : Nat) (l : List Int) (W : World) (hR : RK .i64 W a n l) (hm : n ≤ maxLen) :
    Calls Tryd.prog 84 #[patV w h a n c] W (IntsRef W (colO w h l) (colD w h l)) := by
  have T0 := Tk.nil W
  have T1 := T0.add (fun wv => Below W.heap.size W wv) (bnil W)
  clear T0
  have T2 := T1.add (fun wv => RK .i64 wv a n l) (hR)
  clear T1
  obtain ⟨Wb, hWb⟩ : ∃ Wb, (W.alloc (.cells #[.int .i64 w, .int .i64 h, .slice a n c] 24)).alloc (.cells #[.int .i64 0, .slice none 0 0, .slice none 0 0] 60) = Wb := ⟨_, rfl⟩
  have hbWb : Below W.heap.size W Wb := by rw [← hWb]; exact balloc (balloc (bnil W) _) _
  have T3 := T2.up hbWb
  clear T2
  have T4 := T3.add (fun wv => wv.cell? ⟨W.heap.size, 0, none⟩ = some (.int .i64 w) ∧ wv.cell? ⟨W.heap.size, 1, none⟩ = some (.int .i64 h) ∧ wv.cell? ⟨W.heap.size, 2, none⟩ = some (.slice a n c)) (by rw [← hWb]; exact ⟨al000 (cnw (by simp) rfl), al000 (cnw (by simp) rfl), al000 (cnw (by simp) rfl)⟩)
  clear T3
  have HWb := Lib.hid hWb
  clear hWb hbWb
  have hz2 : Wb.heap[W.heap.size + 1]? = some (.cells #[.int .i64 0, .slice none 0 0, .slice none 0 0] 60) := by
    rw [← HWb.out]
    have := heap_alloc_new (W.alloc (.cells #[.int .i64 w, .int .i64 h, .slice a n c] 24)) (.cells #[.int .i64 0, .slice none 0 0, .slice none 0 0] 60)
    simpa using this
  have hsz : W.heap.size + 1 + 1 = Wb.heap.size := by rw [← HWb.out]; simp
  have T5 := T4.add (fun wv => wv.heap[W.heap.size + 1]? = some (.cells #[.int .i64 0, .slice none 0 0, .slice none 0 0] 60)) (hz2)
  clear T4
  have HSZ := Lib.hid hsz
  clear hz2 hsz
  clear hR
  have hmx : n ≤ 9223372036854775807 := hm
  by_cases hpe : patchErr w h l ≠ none
  · skip
    have hd : colD w h l = patchD w h l := by
      unfold colD patchD
      cases he : patchErr w h l with
      | none => exact absurd he hpe
      | some e => rfl
    have ho : colO w h l = [] := by
      unfold colO colD
      cases he : patchErr w h l with
      | none => exact absurd he hpe
      | some e => rfl
    have hpd : patchD w h l ≠ none := by
      unfold patchD
      cases he : patchErr w h l with
      | none => exact absurd he hpe
      | some e => exact nofun
    have HOD := Lib.hid (And.intro ho hd)
    have HPD := Lib.hid hpd
    have HPE := Lib.hid hpe
    clear hd ho hpd hpe
    go_enter Tryd.func84, Tryd.ntmps84
    have v_p0 : ((W.alloc (.cells #[.int .i64 w, .int .i64 h, .slice a n c] 24)).alloc (.cells #[.int .i64 0, .slice none 0 0, .slice none 0 0] 60)).cell? ⟨W.heap.size, 0, none⟩ = some (.int .i64 w) := by rw [HWb.out]; exact T5.out.1.2.1
    have v_p1 : ((W.alloc (.cells #[.int .i64 w, .int .i64 h, .slice a n c] 24)).alloc (.cells #[.int .i64 0, .slice none 0 0, .slice none 0 0] 60)).cell? ⟨W.heap.size, 1, none⟩ = some (.int .i64 h) := by rw [HWb.out]; exact T5.out.1.2.2.1
    have v_p2 : ((W.alloc (.cells #[.int .i64 w, .int .i64 h, .slice a n c] 24)).alloc (.cells #[.int .i64 0, .slice none 0 0, .slice none 0 0] 60)).cell? ⟨W.heap.size, 2, none⟩ = some (.slice a n c) := by rw [HWb.out]; exact T5.out.1.2.2.2
    go_wp2_with fail
    rw [HWb.out]
    refine (refpcheck_er w h a n c l Wb T5.out.1.1.2 hm HPE.out).mono ?_; rintro e w1 ⟨N, a1, n1, c1, a2, n2, c2, rfl, hw, f1, f2, hN, hbw1⟩
    clear v_p0 v_p1 v_p2
    have T6 := T5.up hbw1
    clear T5
    have T7 := T6.add (fun wv => WC wv (.agg #[.int .i64 N, .slice a1 n1 c1, .slice a2 n2 c2]) (patchD w h l)) (hw)
    clear T6
    have HN := Lib.hid hN
    have HF := Lib.hid (And.intro f1 f2)
    clear hw f1 f2 hN
    obtain ⟨we, hwe⟩ : ∃ we, w1.alloc (.cells #[.int .i64 N, .slice a1 n1 c1, .slice a2 n2 c2] 60) = we := ⟨_, rfl⟩
    have hbwe : Below w1.heap.size w1 we := by rw [← hwe]; exact balloc (bnil w1) _
    have T8 := T7.up hbwe
    clear T7
    have T9 := T8.add (fun wv => wv.cell? ⟨w1.heap.size, 0, none⟩ = some (.int .i64 N) ∧ wv.cell? ⟨w1.heap.size, 1, none⟩ = some (.slice a1 n1 c1) ∧ wv.cell? ⟨w1.heap.size, 2, none⟩ = some (.slice a2 n2 c2)) (by rw [← hwe]; exact ⟨cnw (by simp) rfl, cnw (by simp) rfl, cnw (by simp) rfl⟩)
    clear T8
    have Hwe := Lib.hid hwe
    clear hwe hbwe
    have v_e0 : (w1.alloc (.cells #[.int .i64 N, .slice a1 n1 c1, .slice a2 n2 c2] 60)).cell? ⟨w1.heap.size, 0, none⟩ = some (.int .i64 N) := by rw [Hwe.out]; exact T9.out.2.1
    have v_e1 : (w1.alloc (.cells #[.int .i64 N, .slice a1 n1 c1, .slice a2 n2 c2] 60)).cell? ⟨w1.heap.size, 1, none⟩ = some (.slice a1 n1 c1) := by rw [Hwe.out]; exact T9.out.2.2.1
    have v_e2 : (w1.alloc (.cells #[.int .i64 N, .slice a1 n1 c1, .slice a2 n2 c2] 60)).cell? ⟨w1.heap.size, 2, none⟩ = some (.slice a2 n2 c2) := by rw [Hwe.out]; exact T9.out.2.2.2
    go_wp2_with fail
    rw [Hwe.out]
    refine (refBadE _ _ _ we true HN.out).mono ?_; rintro e w2 ⟨rfl, hbw2⟩
    clear v_e0 v_e1 v_e2
    have T10 := T9.up hbw2
    clear T9
    have hNs : (N != 0) = (patchD w h l).isSome := by rw [HN.out]; cases hq : patchD w h l with | none => exact absurd hq HPD.out | some z => rfl
    have HNS := Lib.hid hNs
    clear hNs
    have v_e0 : w2.cell? ⟨w1.heap.size, 0, none⟩ = some (.int .i64 N) := T10.out.2.1
    have v_e1 : w2.cell? ⟨w1.heap.size, 1, none⟩ = some (.slice a1 n1 c1) := T10.out.2.2.1
    have v_e2 : w2.cell? ⟨w1.heap.size, 2, none⟩ = some (.slice a2 n2 c2) := T10.out.2.2.2
    obtain ⟨⟨q3, q4, q5⟩, f3, f4, f5⟩ := p_cells (T10.out.1.1.2)
    obtain ⟨w9, e9, ⟨r0, r1, r2⟩, hk9, hs9, hw9, hb9⟩ := er_set (show W.heap.size ≤ W.heap.size + 1 by omega) (T10.out.1.1.2) (T10.out.1.1.1.1.1.2) (HF.out.1.base (by have := HSZ.out; omega)) (HF.out.2.base (by have := HSZ.out; omega)) (T10.out.1.2)
    have HRET := Lib.hid (And.intro hw9 hb9)
    clear hk9 hs9 hw9 hb9
    have HE9 := Lib.hid e9
    have HR9 := Lib.hid (And.intro r0 (And.intro r1 r2))
    clear e9 r0 r1 r2
    have sz1 := hbw1.size
    have sz0 := HSZ.out
    have ne1 : ¬ w1.heap.size = W.heap.size + 1 := by omega
    have ne2 : ¬ W.heap.size + 1 = w1.heap.size := by omega
    clear sz0 sz1
    go_wp2_with fail
    go_region
    all_goals
      go_wp2
      rw [HE9.out]
      have r0 := HR9.out.1
      have r1 := HR9.out.2.1
      have r2 := HR9.out.2.2
      refine bodyPost_ret (v := .tuple #[.slice none 0 0, .agg #[.int .i64 N, .slice a1 n1 c1, .slice a2 n2 c2]]) (by simp [results, Tryd.results84, go_sem, r0, r1, r2]) rfl ?_
      rw [HOD.out.1, HOD.out.2]
      exact ⟨none, 0, 0, N, a1, n1, c1, a2, n2, c2, rfl, RK.nil, HRET.out.1.up (Below.drew (bnil _)), HNS.out, Below.drew HRET.out.2⟩
  have he : patchErr w h l = none := Decidable.byContradiction hpe
  obtain ⟨w, h, rfl, rfl, hp⟩ := patchErr_none he
  have HPP := Lib.hid hp
  have hw1 := hp.w1
  have hw2 := hp.w2
  have hh1 := hp.h1
  have hh2 := hp.h2
  clear hpe hp
  by_cases h16 : 16 < (h : Int)
  · skip
    have hd : colD (w : Int) (h : Int) l = some ([(opPatch, 2)], 4) := by unfold colD; rw [he]; exact if_pos h16
    have ho : colO (w : Int) (h : Int) l = [] := by unfold colO; rw [hd]; rfl
    have HOD := Lib.hid (And.intro ho hd)
    clear he hd ho
    go_enter Tryd.func84, Tryd.ntmps84
    have v_p0 : ((W.alloc (.cells #[.int .i64 w, .int .i64 h, .slice a n c] 24)).alloc (.cells #[.int .i64 0, .slice none 0 0, .slice none 0 0] 60)).cell? ⟨W.heap.size, 0, none⟩ = some (.int .i64 w) := by rw [HWb.out]; exact T5.out.1.2.1
    have v_p1 : ((W.alloc (.cells #[.int .i64 w, .int .i64 h, .slice a n c] 24)).alloc (.cells #[.int .i64 0, .slice none 0 0, .slice none 0 0] 60)).cell? ⟨W.heap.size, 1, none⟩ = some (.int .i64 h) := by rw [HWb.out]; exact T5.out.1.2.2.1
    have v_p2 : ((W.alloc (.cells #[.int .i64 w, .int .i64 h, .slice a n c] 24)).alloc (.cells #[.int .i64 0, .slice none 0 0, .slice none 0 0] 60)).cell? ⟨W.heap.size, 2, none⟩ = some (.slice a n c) := by rw [HWb.out]; exact T5.out.1.2.2.2
    go_wp2_with fail
    rw [HWb.out]
    refine (refpcheck_ok w h a n c l Wb T5.out.1.1.2 hm HPP.out).mono ?_; rintro e w1 ⟨rfl, hbw1⟩
    clear v_p0 v_p1 v_p2
    have T6 := T5.up hbw1
    clear T5
    obtain ⟨we, hwe⟩ : ∃ we, w1.alloc (.cells #[.int .i64 0, .slice none 0 0, .slice none 0 0] 60) = we := ⟨_, rfl⟩
    have hbwe : Below w1.heap.size w1 we := by rw [← hwe]; exact balloc (bnil w1) _
    have T7 := T6.up hbwe
    clear T6
    have T8 := T7.add (fun wv => wv.cell? ⟨w1.heap.size, 0, none⟩ = some (.int .i64 0) ∧ wv.cell? ⟨w1.heap.size, 1, none⟩ = some (.slice none 0 0) ∧ wv.cell? ⟨w1.heap.size, 2, none⟩ = some (.slice none 0 0)) (by rw [← hwe]; exact ⟨cnw (by simp) rfl, cnw (by simp) rfl, cnw (by simp) rfl⟩)
    clear T7
    have Hwe := Lib.hid hwe
    clear hwe hbwe
    have v_e0 : (w1.alloc (.cells #[.int .i64 0, .slice none 0 0, .slice none 0 0] 60)).cell? ⟨w1.heap.size, 0, none⟩ = some (.int .i64 0) := by rw [Hwe.out]; exact T8.out.2.1
    have v_e1 : (w1.alloc (.cells #[.int .i64 0, .slice none 0 0, .slice none 0 0] 60)).cell? ⟨w1.heap.size, 1, none⟩ = some (.slice none 0 0) := by rw [Hwe.out]; exact T8.out.2.2.1
    have v_e2 : (w1.alloc (.cells #[.int .i64 0, .slice none 0 0, .slice none 0 0] 60)).cell? ⟨w1.heap.size, 2, none⟩ = some (.slice none 0 0) := by rw [Hwe.out]; exact T8.out.2.2.2
    go_wp2_with fail
    rw [Hwe.out]
    refine (refBadE _ _ _ we false rfl).mono ?_; rintro e w2 ⟨rfl, hbw2⟩
    clear v_e0 v_e1 v_e2
    have T9 := T8.up hbw2
    clear T8
    have sb0 : W.heap.size + 1 < w2.heap.size := heap_ltT (T9.out.1.2)
    have v_p0 : w2.cell? ⟨W.heap.size, 0, none⟩ = some (.int .i64 w) := T9.out.1.1.2.1
    have v_p1 : w2.cell? ⟨W.heap.size, 1, none⟩ = some (.int .i64 h) := T9.out.1.1.2.2.1
    have v_p2 : w2.cell? ⟨W.heap.size, 2, none⟩ = some (.slice a n c) := T9.out.1.1.2.2.2
    go_wp2_with fail
    refine (rawNew_fresh _ _ _ _ rfl).mono ?_; rintro e w8 ⟨b1, b2, rfl, lb1, lb2, hw8, hbw8⟩
    clear v_p0 v_p1 v_p2
    have T10 := T9.up hbw8
    clear T9
    obtain ⟨⟨q3, q4, q5⟩, f3, f4, f5⟩ := p_cells (T10.out.1.2)
    obtain ⟨w9, e9, ⟨r0, r1, r2⟩, hk9, hs9, hw9, hb9⟩ := er_set (show W.heap.size ≤ W.heap.size + 1 by omega) (T10.out.1.2) (T10.out.1.1.1.1.2) (fr_some (by omega)) (fr_some (by omega)) (wc_want hw8)
    have HRET := Lib.hid (And.intro hw9 hb9)
    clear hk9 hs9 hw9 hb9 hw8 lb1 lb2 sb0
    have HE9 := Lib.hid e9
    have HR9 := Lib.hid (And.intro r0 (And.intro r1 r2))
    clear e9 r0 r1 r2
    go_wp2
    rw [HE9.out]
    have r0 := HR9.out.1
    have r1 := HR9.out.2.1
    have r2 := HR9.out.2.2
    refine bodyPost_ret (v := .tuple #[.slice none 0 0, .agg #[.int .i64 4, .slice (some ⟨b1, 0, none⟩) 1 1, .slice (some ⟨b2, 0, none⟩) 1 1]]) (by simp [results, Tryd.results84, go_sem, r0, r1, r2]) rfl ?_
    rw [HOD.out.1, HOD.out.2]
    exact ⟨none, 0, 0, 4, _, 1, 1, _, 1, 1, rfl, RK.nil, HRET.out.1, rfl, HRET.out.2⟩
  · skip
    have hd : colD (w : Int) (h : Int) l = none := by unfold colD; rw [he]; exact if_neg h16
    have ho : colO (w : Int) (h : Int) l = colL w h l := by unfold colO; rw [if_pos hd]; simp only [Int.toNat_natCast]
    have HOD := Lib.hid (And.intro ho hd)
    have h16n : h ≤ 16 := by omega
    obtain ⟨CS, hCS⟩ : ∃ CS, colL w h l = CS := ⟨_, rfl⟩
    have hcl : CS.length = w := by rw [← hCS]; exact colL_len w h l
    have HCS := Lib.hid hCS
    have HCL := Lib.hid hcl
    clear he hd ho hCS hcl
    go_enter Tryd.func84, Tryd.ntmps84
    have v_p0 : ((W.alloc (.cells #[.int .i64 w, .int .i64 h, .slice a n c] 24)).alloc (.cells #[.int .i64 0, .slice none 0 0, .slice none 0 0] 60)).cell? ⟨W.heap.size, 0, none⟩ = some (.int .i64 w) := by rw [HWb.out]; exact T5.out.1.2.1
    have v_p1 : ((W.alloc (.cells #[.int .i64 w, .int .i64 h, .slice a n c] 24)).alloc (.cells #[.int .i64 0, .slice none 0 0, .slice none 0 0] 60)).cell? ⟨W.heap.size, 1, none⟩ = some (.int .i64 h) := by rw [HWb.out]; exact T5.out.1.2.2.1
    have v_p2 : ((W.alloc (.cells #[.int .i64 w, .int .i64 h, .slice a n c] 24)).alloc (.cells #[.int .i64 0, .slice none 0 0, .slice none 0 0] 60)).cell? ⟨W.heap.size, 2, none⟩ = some (.slice a n c) := by rw [HWb.out]; exact T5.out.1.2.2.2
    go_wp2_with fail
    rw [HWb.out]
    refine (refpcheck_ok w h a n c l Wb T5.out.1.1.2 hm HPP.out).mono ?_; rintro e w1 ⟨rfl, hbw1⟩
    clear v_p0 v_p1 v_p2
    have T6 := T5.up hbw1
    clear T5
    obtain ⟨we, hwe⟩ : ∃ we, w1.alloc (.cells #[.int .i64 0, .slice none 0 0, .slice none 0 0] 60) = we := ⟨_, rfl⟩
    have hbwe : Below w1.heap.size w1 we := by rw [← hwe]; exact balloc (bnil w1) _
    have T7 := T6.up hbwe
    clear T6
    have T8 := T7.add (fun wv => wv.cell? ⟨w1.heap.size, 0, none⟩ = some (.int .i64 0) ∧ wv.cell? ⟨w1.heap.size, 1, none⟩ = some (.slice none 0 0) ∧ wv.cell? ⟨w1.heap.size, 2, none⟩ = some (.slice none 0 0)) (by rw [← hwe]; exact ⟨cnw (by simp) rfl, cnw (by simp) rfl, cnw (by simp) rfl⟩)
    clear T7
    have Hwe := Lib.hid hwe
    clear hwe hbwe
    have v_e0 : (w1.alloc (.cells #[.int .i64 0, .slice none 0 0, .slice none 0 0] 60)).cell? ⟨w1.heap.size, 0, none⟩ = some (.int .i64 0) := by rw [Hwe.out]; exact T8.out.2.1
    have v_e1 : (w1.alloc (.cells #[.int .i64 0, .slice none 0 0, .slice none 0 0] 60)).cell? ⟨w1.heap.size, 1, none⟩ = some (.slice none 0 0) := by rw [Hwe.out]; exact T8.out.2.2.1
    have v_e2 : (w1.alloc (.cells #[.int .i64 0, .slice none 0 0, .slice none 0 0] 60)).cell? ⟨w1.heap.size, 2, none⟩ = some (.slice none 0 0) := by rw [Hwe.out]; exact T8.out.2.2.2
    go_wp2_with fail
    rw [Hwe.out]
    refine (refBadE _ _ _ we false rfl).mono ?_; rintro e w2 ⟨rfl, hbw2⟩
    clear v_e0 v_e1 v_e2
    have T9 := T8.up hbw2
    clear T8
    have HLE : Hid (W.heap.size + 1 < w2.heap.size) := heap_ltT (T9.out.1.2)
    have v_p0 : w2.cell? ⟨W.heap.size, 0, none⟩ = some (.int .i64 w) := T9.out.1.1.2.1
    have v_p1 : w2.cell? ⟨W.heap.size, 1, none⟩ = some (.int .i64 h) := T9.out.1.1.2.2.1
    have v_p2 : w2.cell? ⟨W.heap.size, 2, none⟩ = some (.slice a n c) := T9.out.1.1.2.2.2
    go_wp2_with (first
      | (at_make; refine mk_full rfl _ _ _ rfl w2.heap.size et_int .i64 .i64 _ _ w rfl rfl rfl rfl (by omega) (by unfold maxLen; omega) (Nat.le_refl _) ?_; intro w3 hown hb3 hsz3; rw [made_i64p] at hown; have q2 := cpa hb3 v_p2; have q0 := cpa hb3 v_p0))
    obtain ⟨g, hg⟩ : ∃ g, w2.heap.size = g := ⟨_, rfl⟩
    rw [hg] at hown
    rw [hg]
    have HO2 : Hid (w3.ownsRow g 3 1 (.slice (some ⟨g, 0, none⟩) w w) w ((CS.take 0 ++ List.replicate (w - 0) 0).map (Value.int .i64))) := by show World.ownsRow _ _ _ _ _ _ _; simpa using hown
    have HG := Lib.hid hg
    have HB3 := Lib.hid hb3
    clear hown hg hb3 q2 q0 hsz3
    clear v_p0 v_p1 v_p2
    go_loopw [6] (fun ix wr => ∃ x : Nat, x ≤ w ∧ ix = .int .i64 x ∧ wr.ownsRow g 3 1 (.slice (some ⟨g, 0, none⟩) w w) w ((CS.take x ++ List.replicate (w - x) 0).map (Value.int .i64)) ∧ Below w2.heap.size w2 wr) (fun ix _ => w - (intOf ix).toNat)
    case atStart => exact ⟨0, by omega, rfl, HO2.out, HB3.out⟩
    case round =>
      obtain ⟨x, hx, rfl, ho, hbr⟩ := hrel
      have HO := Lib.hid ho
      have HBR := Lib.hid hbr
      clear ho
      generalize wr = wo at *
      by_cases hxw : x < w
      · skip
        have TT := T9.up hbr
        have v_p0 : wo.cell? ⟨W.heap.size, 0, none⟩ = some (.int .i64 w) := TT.out.1.1.2.1
        have v_p1 : wo.cell? ⟨W.heap.size, 1, none⟩ = some (.int .i64 h) := TT.out.1.1.2.2.1
        have HO1 : Hid (wo.ownsRow g 3 1 (.slice (some ⟨g, 0, none⟩) w w) w ((stL CS w x (horN w h l x 0 : Nat)).map (Value.int .i64))) := by
          have h := HO.out
          rw [stL_start hxw] at h
          exact h
        clear TT hbr
        go_wp2_with fail
        clear v_p0 v_p1
        go_loopw [7] (fun iy wr => ∃ x1 j : Nat, x1 = x ∧ j ≤ h ∧ iy = .int .i64 ((h : Int) - 1 - (j : Int)) ∧ wr.ownsRow g 3 1 (.slice (some ⟨g, 0, none⟩) w w) w ((stL CS w x1 (horN w h l x1 j : Nat)).map (Value.int .i64)) ∧ Below w2.heap.size w2 wr) (fun iy _ => (intOf iy + 1).toNat)
        case atStart => exact ⟨x, 0, rfl, by omega, by simp, HO1.out, HBR.out⟩
        case round =>
          obtain ⟨x1, j, rfl, hj, rfl, ho, hbr⟩ := hrel
          have HO3 := Lib.hid ho
          have HB4 := Lib.hid hbr
          clear ho
          by_cases hjh : j < h
          · skip
            have T10 := T9.up hbr
            clear T9
            clear hbr
            obtain ⟨Y, hY⟩ : ∃ Y, h - 1 - j = Y := ⟨_, rfl⟩
            have hYI : (h : Int) - 1 - (j : Int) = (Y : Int) := by omega
            rw [hYI]
            have hYh : Y < h := by omega
            have hnx : horN w h l x1 (j + 1) = 2 * horN w h l x1 j + cellN w l x1 Y := by rw [← hY]; rfl
            have hVb := horN_lt HPP.out hxw j (by omega)
            have hpow : 2 ^ j ≤ 65536 := by
              have := Nat.pow_le_pow_right (n := 2) (by omega) (show j ≤ 16 by omega)
              omega
            have hC := cellN_le HPP.out hxw hYh
            obtain ⟨k, hk⟩ : ∃ k, Y * w + x1 = k := ⟨_, rfl⟩
            have hkn : k < n := by have h1 := (T10.out.1.1.1.2).len; have h2 := HPP.out.len; have h3 := place_lt hxw hYh; rw [hk] at h3; omega
            obtain ⟨ab, ao, hab0, hab, hcell⟩ := (T10.out.1.1.1.2).addr (by omega)
            subst hab0
            have z0 := hcell k hkn
            have hat : l.getD k 0 = (cellN w l x1 Y : Int) := by rw [hC.2, atL, hk]
            rw [hat] at z0
            have hget1 : wr.cell? ⟨g, x1, none⟩ = some (.int .i64 (horN w h l x1 j : Nat)) := by
              rw [HO3.out.cellAt x1 (by omega), List.getElem?_map, stL_get HCL.out hxw]
              rfl
            have f0 := HO3.out.frozenAt x1
            generalize cellN w l x1 Y = U at z0 hC hnx hat
            generalize hV : horN w h l x1 j = V at hVb hnx hget1
            obtain ⟨Z, hZ⟩ : ∃ Z, 2 * V + U = Z := ⟨_, rfl⟩
            have hZI : 2 * (V : Int) + (U : Int) = (Z : Int) := by omega
            have hV2 : IntKind.i64.wrap (2 * (V : Int)) = 2 * (V : Int) := IntWalk.i64_in _ (by omega)
            have hU1 := hC.1
            have hZw : IntKind.i64.wrap (Z : Int) = (Z : Int) := IntWalk.i64_in _ (by omega)
            rw [hZ] at hnx
            have HNX := Lib.hid hnx
            obtain ⟨Q, hQ⟩ : ∃ Q, Y * w = Q := ⟨_, rfl⟩
            have hQ4 : Q ≤ 4096 := by rw [← hQ]; exact Nat.mul_le_mul (show Y ≤ 64 by omega) hw2
            have hQI : (Y : Int) * (w : Int) = (Q : Int) := by rw [← hQ, Int.natCast_mul]
            have hQw : IntKind.i64.wrap (Q : Int) = (Q : Int) := IntWalk.i64_in _ (by omega)
            have hkI : (Q : Int) + (x1 : Int) = (k : Int) := by omega
            have hkw : IntKind.i64.wrap (k : Int) = (k : Int) := IntWalk.i64_in _ (by omega)
            have k0 : (0 : Int) ≤ (k : Int) := by omega
            have k1 : (k : Int) < (n : Int) := by omega
            have x0 : (0 : Int) ≤ (x1 : Int) := by omega
            have xw : (x1 : Int) < (w : Int) := by omega
            have y0 : (0 : Int) ≤ (Y : Int) := by omega
            have ho6 := own_set HO3.out x1 (.int .i64 (Z : Int))
            rw [map_set_i, stL_set HCL.out hxw] at ho6
            have hb6 := HB4.out.setCell (p := ⟨g, x1, none⟩) (by rw [HG.out]; exact Nat.le_refl _) (.int .i64 (Z : Int))
            have HO6 : Hid ((wr.setCell ⟨g, x1, none⟩ (.int .i64 (Z : Int))).drew.ownsRow g 3 1 (.slice (some ⟨g, 0, none⟩) w w) w ((stL CS w x1 (horN w h l x1 (j + 1) : Nat)).map (Value.int .i64))) := by rw [HNX.out]; exact owns_up ho6 (Below.drew (bnil _))
            have HB6 := Lib.hid (Below.drew hb6)
            have HY := Lib.hid hY
            clear hcell hat hC hnx hV hZ hQ hk ho6 hb6 hVb hpow hYI hY
            have v_p0 : wr.cell? ⟨W.heap.size, 0, none⟩ = some (.int .i64 w) := T10.out.1.1.2.1
            have v_p2 : wr.cell? ⟨W.heap.size, 2, none⟩ = some (.slice (some ⟨ab, ao, none⟩) n c) := T10.out.1.1.2.2.2
            go_wp2_with fail
            go_region
            clear v_p0 v_p2
            clear hQI hQw hkI hkw hV2 hZI hZw z0 hget1 f0
            go_wp2
            go_roundw
            case rel => exact ⟨x1, j + 1, rfl, by omega, congrArg (Value.int .i64) (by have := HY.out; omega), HO6.out, HB6.out⟩
            case measure => simp [intOf] <;> omega
          · skip
            obtain rfl : h = j := by omega
            rw [show (h : Int) - 1 - (h : Int) = -1 by omega]
            have HO7 : Hid (wr.ownsRow g 3 1 (.slice (some ⟨g, 0, none⟩) w w) w ((CS.take (x1 + 1) ++ List.replicate (w - (x1 + 1)) 0).map (Value.int .i64))) := by
              have h1 := HO3.out
              rw [horN_all, ← colL_getD hxw, HCS.out, stL_end HCL.out hxw] at h1
              exact h1
            clear hbr
            go_wp2
            go_roundw
            case rel => exact ⟨x1 + 1, by omega, by go_num, HO7.out, HB4.out⟩
            case measure => simp [intOf]; omega
      · skip
        have T10 := T9.up hbr
        clear T9
        obtain rfl : w = x := by omega
        have ho := HO.out
        rw [Nat.sub_self, List.replicate_zero, List.append_nil, List.take_of_length_le (by have := HCL.out; omega), ← HCS.out] at ho
        have ho9 : OwI wo g (some ⟨g, 0, none⟩) w w (colL w h l) := ⟨ho⟩
        have v_p0 : wo.cell? ⟨W.heap.size, 0, none⟩ = some (.int .i64 w) := T10.out.1.1.2.1
        obtain ⟨⟨q3, q4, q5⟩, f3, f4, f5⟩ := p_cells (T10.out.1.2)
        obtain ⟨w9, e9, ⟨r0, r1, r2⟩, hk9, hs9, hw9, hb9⟩ := er_set (show W.heap.size ≤ W.heap.size + 1 by omega) (T10.out.1.2) (T10.out.1.1.1.1.2) fr_none fr_none (wc_none wo)
        have HRK : Hid (RK .i64 w9 (some ⟨g, 0, none⟩) w (colL w h l)) := OwI.rk (base := g) ⟨own_of_heap' ho9.own fun b hb => hk9 b (by have h1 := (ho9.own.lt b hb).1; have h2 := HLE.out; have h3 := HG.out; omega)⟩
        have HRET := Lib.hid (And.intro hw9 hb9)
        clear hk9 hs9 hw9 hb9 hbr ho9 ho HO
        have HE9 := Lib.hid e9
        have HR9 := Lib.hid (And.intro r0 (And.intro r1 r2))
        clear e9 r0 r1 r2
        go_wp2_with fail
        first | rw [HE9.out] | (go_region; all_goals go_wp2; rw [HE9.out])
        have r0 := HR9.out.1
        have r1 := HR9.out.2.1
        have r2 := HR9.out.2.2
        refine bodyPost_ret (v := .tuple #[.slice (some ⟨g, 0, none⟩) w w, .agg #[.int .i64 0, .slice none 0 0, .slice none 0 0]]) (by simp [results, Tryd.results84, go_sem, r0, r1, r2]) rfl ?_
        rw [HOD.out.1, HOD.out.2]
        exact ⟨_, _, _, 0, none, 0, 0, none, 0, 0, rfl, HRK.out, HRET.out.1, rfl, HRET.out.2⟩
end Go.Proofs.YtoaooblodgejdaaDoor
