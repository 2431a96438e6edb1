/- edentop.WholePieces returns true. -/
import Derived.Test.YtoaooblodgejdaaDoorWPred
import Derived.Test.YtoaooblodgejdaaDoorEvC
namespace Go.Proofs.YtoaooblodgejdaaDoor
open Go.RowKit
set_option linter.unusedVariables false
set_option maxRecDepth 100000

theorem cutD_noneW {w h : Int} {l : List Int} {x y p q : Int} (hd : cutD w h l x y p q = none) : ∃ w' h' x' y' p' q' : Nat, w = w' ∧ h = h' ∧ x = x' ∧ y = y' ∧ p = p' ∧ q = q' ∧ IsPatch w' h' l ∧ 1 ≤ p' ∧ 1 ≤ q' ∧ x' + p' ≤ w' ∧ y' + q' ≤ h' := by
  unfold cutD at hd
  split at hd
  · cases hd
  rename_i he
  obtain ⟨w', h', rfl, rfl, hp⟩ := patchErr_none he
  split at hd
  · cases hd
  rename_i h1
  split at hd
  · cases hd
  rename_i h2
  obtain ⟨a1, a2, a3, a4⟩ := withinB_t2 h1
  obtain ⟨b1, b2, b3, b4⟩ := withinB_t2 h2
  exact ⟨w', h', x.toNat, y.toNat, p.toNat, q.toNat, rfl, rfl, by omega, by omega, by omega, by omega, hp, by omega, by omega, by omega, by omega⟩

/-- a piece of a patch that has a predecessor has one -/
theorem piece_pred {t l : List Int} {w h x y p q : Nat} (ht : IsTab t) (hp : IsPatch w h l) (w8 : w ≤ 8) (h4 : h ≤ 4) (p1 : 1 ≤ p) (q1 : 1 ≤ q) (h3 : x + p ≤ w) (h5 : y + q ≤ h) (hn : cntN t (colL w h l) h (4 * 2 ^ h) w ≠ 0) :
    cntN t (colL p q (cutL w l x y p q)) q (4 * 2 ^ q) p ≠ 0 := by
  obtain ⟨v, hv⟩ := (cntN_pos (m_le h4).2 (m_le h4).1 w8).1 hn
  obtain ⟨hB, hs⟩ := pred_step ht hp w8 h4 hv
  generalize joinL (h + 2) (colsV v w) = B at hB hs
  have hc := cut_patch (x := x) (y := y) (p := p + 2) (q := q + 2) hB (by omega) (by omega) (by omega) (by omega)
  have hst := step_cut (w := w + 2) (h := h + 2) (x := x) (y := y) (p := p) (q := q) (l := B) (t := t) p1 (by omega) (by omega)
  rw [show w + 2 - 2 = w from rfl, hs] at hst
  have hpr := step_pred hc ht
  rw [hst] at hpr
  exact (cntN_pos (m_le (by omega)).2 (m_le (by omega)).1 (by omega)).2 ⟨_, hpr⟩
theorem limbs_len_pos {x : Nat} (h : x ≠ 0) : 0 < (limbs x).length := by
  refine Nat.pos_of_ne_zero fun e => h ?_
  have e2 : limbs x = [] := List.length_eq_zero_iff.1 e
  rw [← val_limbs x, e2]
  rfl
set_option maxHeartbeats 32000000 in
theorem whole_pcs (w h x y p q : Int) (a aT : Option Addr) (n c nT cT : Nat) (l t : List Int) (W : World) (R : Nat → Addr) (hE : Sent W R) (hR : RK .i64 W a n l) (hm : n ≤ maxLen) (hx : I64 l) (hT : RK .i64 W aT nT t) (hmT : nT ≤ maxLen) :
    Calls Tryd.prog 9 #[.slice aT nT cT, patV w h a n c, .int .i64 x, .int .i64 y, .int .i64 p, .int .i64 q] W (TrueBelow W) := by
  have HI6 := Lib.hid hx
  have T0 := Tk.nil W
  have T1 := T0.add (fun wv => Below W.heap.size W wv) (bnil W)
  clear T0
  have T2 := T1.add (fun wv => Sent wv R) (hE)
  clear T1
  have T3 := T2.add (fun wv => RK .i64 wv a n l) (hR)
  clear T2
  have T4 := T3.add (fun wv => RK .i64 wv aT nT t) (hT)
  clear T3
  clear hE hR hx hT
  by_cases hd : cutD w h l x y p q = none
  rotate_left
  · skip
    have HD := Lib.hid hd
    clear hd
    obtain ⟨Wb, hWb⟩ : ∃ Wb, W.alloc (.cells #[.int .i64 w, .int .i64 h, .slice a n c] 24) = Wb := ⟨_, rfl⟩
    have hbWb : Below W.heap.size W Wb := by rw [← hWb]; exact balloc (bnil W) _
    have T5 := T4.up hbWb
    clear T4
    have T6 := T5.add (fun wv => wv.cell? ⟨W.heap.size, 0, none⟩ = some (.int .i64 w) ∧ wv.cell? ⟨W.heap.size, 1, none⟩ = some (.int .i64 h) ∧ wv.cell? ⟨W.heap.size, 2, none⟩ = some (.slice a n c)) (by rw [← hWb]; exact ⟨cnw (by simp) rfl, cnw (by simp) rfl, cnw (by simp) rfl⟩)
    clear T5
    have HWb := Lib.hid hWb
    clear hWb hbWb
    go_enter Tryd.func9, Tryd.ntmps9
    go_wp2_with fail
    rw [HWb.out]
    refine (seeks_any Wb R T6.out.1.1.1.2).mono ?_; rintro e w0 ⟨rfl, hbw0⟩
    have T7 := T6.up hbw0
    clear T6
    have v_p0 : w0.cell? ⟨W.heap.size, 0, none⟩ = some (.int .i64 w) := T7.out.2.1
    have v_p1 : w0.cell? ⟨W.heap.size, 1, none⟩ = some (.int .i64 h) := T7.out.2.2.1
    have v_p2 : w0.cell? ⟨W.heap.size, 2, none⟩ = some (.slice a n c) := T7.out.2.2.2
    go_wp2_with fail
    refine (cut_errP w h x y p q a n c l w0 R T7.out.1.1.1.2 T7.out.1.1.2 hm HI6.out HD.out).mono ?_; rintro e w1 ⟨g, rfl, he, hbw1⟩
    clear v_p0 v_p1 v_p2
    have T8 := T7.up hbw1
    clear T7
    clear he
    obtain ⟨w2, hw2⟩ : ∃ w2, w1.alloc (.cells #[.int .i64 0, .int .i64 0, .slice none 0 0] 24) = w2 := ⟨_, rfl⟩
    have hbw2 : Below w1.heap.size w1 w2 := by rw [← hw2]; exact balloc (bnil w1) _
    have T9 := T8.up hbw2
    clear T8
    have T10 := T9.add (fun wv => wv.cell? ⟨w1.heap.size, 0, none⟩ = some (.int .i64 0) ∧ wv.cell? ⟨w1.heap.size, 1, none⟩ = some (.int .i64 0) ∧ wv.cell? ⟨w1.heap.size, 2, none⟩ = some (.slice none 0 0)) (by rw [← hw2]; exact ⟨cnw (by simp) rfl, cnw (by simp) rfl, cnw (by simp) rfl⟩)
    clear T9
    have Hw2 := Lib.hid hw2
    clear hw2 hbw2
    go_wp2
    rw [Hw2.out]
    go_ret
    exact ⟨rfl, T10.out.1.1.1.1.1.2⟩
  obtain ⟨w, h, x, y, p, q, rfl, rfl, rfl, rfl, rfl, rfl, hpp, p1, q1, h3, h5⟩ := cutD_noneW hd
  have HPP := Lib.hid hpp
  have HQQ := Lib.hid (cut_patch hpp p1 q1 h3 h5)
  obtain ⟨L, hL⟩ : ∃ L, cutL w l x y p q = L := ⟨_, rfl⟩
  obtain ⟨K, hK⟩ : ∃ K, p * q = K := ⟨_, rfl⟩
  have hct := fun W R hS hR => cut_okP w h x y p q a n c l W R hS hR hm HI6.out hpp p1 q1 h3 h5
  rw [hL] at HQQ
  simp only [hL, hK] at hct
  have hKm : K ≤ maxLen := by
    have := Nat.mul_le_mul (show p ≤ 64 by have := hpp.w2; omega) (show q ≤ 64 by have := hpp.h2; omega)
    unfold maxLen
    omega
  have HCT := Lib.hid hct
  have HLL := Lib.hid hL
  have hqx : I64 L := by
    intro u hu
    have := HQQ.out.sym u hu
    omega
  have HQX := Lib.hid hqx
  clear hd hpp hct hL hK hqx
  obtain ⟨Wb, hWb⟩ : ∃ Wb, W.alloc (.cells #[.int .i64 w, .int .i64 h, .slice a n c] 24) = Wb := ⟨_, rfl⟩
  have hbWb : Below W.heap.size W Wb := by rw [← hWb]; exact balloc (bnil W) _
  have T5 := T4.up hbWb
  clear T4
  have T6 := T5.add (fun wv => wv.cell? ⟨W.heap.size, 0, none⟩ = some (.int .i64 w) ∧ wv.cell? ⟨W.heap.size, 1, none⟩ = some (.int .i64 h) ∧ wv.cell? ⟨W.heap.size, 2, none⟩ = some (.slice a n c)) (by rw [← hWb]; exact ⟨cnw (by simp) rfl, cnw (by simp) rfl, cnw (by simp) rfl⟩)
  clear T5
  have HWb := Lib.hid hWb
  clear hWb hbWb
  go_enter Tryd.func9, Tryd.ntmps9
  go_wp2_with fail
  rw [HWb.out]
  refine (seeks_any Wb R T6.out.1.1.1.2).mono ?_; rintro e w0 ⟨rfl, hbw0⟩
  have T7 := T6.up hbw0
  clear T6
  have v_p0 : w0.cell? ⟨W.heap.size, 0, none⟩ = some (.int .i64 w) := T7.out.2.1
  have v_p1 : w0.cell? ⟨W.heap.size, 1, none⟩ = some (.int .i64 h) := T7.out.2.2.1
  have v_p2 : w0.cell? ⟨W.heap.size, 2, none⟩ = some (.slice a n c) := T7.out.2.2.2
  go_wp2_with fail
  refine (HCT.out w0 R T7.out.1.1.1.2 T7.out.1.1.2).mono ?_; rintro e w1 ⟨g, c7, rfl, ho7, hbw1⟩
  clear v_p0 v_p1 v_p2
  have T8 := T7.up hbw1
  clear T7
  have T9 := T8.add (fun wv => RK .i64 wv (some ⟨g, 0, none⟩) K L) (ho7.rk)
  clear T8
  clear ho7
  obtain ⟨w2, hw2⟩ : ∃ w2, w1.alloc (.cells #[.int .i64 (p : Nat), .int .i64 (q : Nat), .slice (some ⟨g, 0, none⟩) K c7] 24) = w2 := ⟨_, rfl⟩
  have hbw2 : Below w1.heap.size w1 w2 := by rw [← hw2]; exact balloc (bnil w1) _
  have T10 := T9.up hbw2
  clear T9
  have T11 := T10.add (fun wv => wv.cell? ⟨w1.heap.size, 0, none⟩ = some (.int .i64 (p : Nat)) ∧ wv.cell? ⟨w1.heap.size, 1, none⟩ = some (.int .i64 (q : Nat)) ∧ wv.cell? ⟨w1.heap.size, 2, none⟩ = some (.slice (some ⟨g, 0, none⟩) K c7)) (by rw [← hw2]; exact ⟨cnw (by simp) rfl, cnw (by simp) rfl, cnw (by simp) rfl⟩)
  clear T10
  have Hw2 := Lib.hid hw2
  clear hw2 hbw2
  cases htd : tabD t with
  | some y0 =>
    have hne : tabD t ≠ none := by rw [htd]; exact nofun
    have HNE := Lib.hid hne
    clear hne htd
    go_wp2_with fail
    rw [Hw2.out]
    refine (plcheck_er aT nT cT t w2 R T11.out.1.1.1.1.1.2 T11.out.1.1.1.2 hmT HNE.out).mono ?_; rintro e w3 ⟨g0, rfl, he0, hbw3⟩
    have T12 := T11.up hbw3
    clear T11
    clear he0
    go_wp2
    go_ret
    exact ⟨rfl, T12.out.1.1.1.1.1.1.2⟩
  | none =>
    have HT := Lib.hid (tabD_none htd)
    clear htd
    go_wp2_with fail
    rw [Hw2.out]
    refine (plcheck_ok aT nT cT t w2 R T11.out.1.1.1.1.1.2 T11.out.1.1.1.2 hmT HT.out).mono ?_; rintro e w3 ⟨rfl, hbw3⟩
    have T12 := T11.up hbw3
    clear T11
    obtain rfl : nT = 512 := (T12.out.1.1.1.2).len.trans HT.out.len
    obtain ⟨bT, oT, hbo, _⟩ := (T12.out.1.1.1.2).addr (by omega)
    subst hbo
    by_cases q8 : (8 : Int) < (w : Nat)
    · skip
      have v_p0 : w3.cell? ⟨W.heap.size, 0, none⟩ = some (.int .i64 w) := T12.out.1.1.2.1
      have v_p1 : w3.cell? ⟨W.heap.size, 1, none⟩ = some (.int .i64 h) := T12.out.1.1.2.2.1
      have v_p2 : w3.cell? ⟨W.heap.size, 2, none⟩ = some (.slice a n c) := T12.out.1.1.2.2.2
      go_wp2
      go_ret
      exact ⟨rfl, T12.out.1.1.1.1.1.1.2⟩
    have v_p0 : w3.cell? ⟨W.heap.size, 0, none⟩ = some (.int .i64 w) := T12.out.1.1.2.1
    have v_p1 : w3.cell? ⟨W.heap.size, 1, none⟩ = some (.int .i64 h) := T12.out.1.1.2.2.1
    have v_p2 : w3.cell? ⟨W.heap.size, 2, none⟩ = some (.slice a n c) := T12.out.1.1.2.2.2
    go_wp2_with fail
    refine (small_any w h a n c w3).mono ?_; rintro e w4 ⟨rfl, hbw4⟩
    clear v_p0 v_p1 v_p2
    have T13 := T12.up hbw4
    clear T12
    by_cases hv : (h : Int) < 3 ∨ (h : Int) = 3 ∧ (w : Int) < 4
    rotate_left
    · skip
      have hd := decide_eq_false hv
      rw [hd]
      clear hd hv
      go_wp2
      go_ret
      exact ⟨rfl, T13.out.1.1.1.1.1.1.2⟩
    have hd := decide_eq_true hv
    rw [hd]
    have hw8 : w ≤ 8 := by omega
    have hh4 : h ≤ 4 := by omega
    have hp8 : p ≤ 8 := by omega
    have hq4 : q ≤ 4 := by omega
    have hpc := fun e => piece_pred (x := x) (y := y) HT.out HPP.out hw8 hh4 p1 q1 h3 h5 e
    rw [HLL.out] at hpc
    have HPC := Lib.hid hpc
    clear hd hv hpc
    have v_p0 : w4.cell? ⟨W.heap.size, 0, none⟩ = some (.int .i64 w) := T13.out.1.1.2.1
    have v_p1 : w4.cell? ⟨W.heap.size, 1, none⟩ = some (.int .i64 h) := T13.out.1.1.2.2.1
    have v_p2 : w4.cell? ⟨W.heap.size, 2, none⟩ = some (.slice a n c) := T13.out.1.1.2.2.2
    go_wp2_with fail
    refine (evcount_ok w h a n c bT oT cT l t w4 R T13.out.1.1.1.1.1.2 T13.out.1.1.1.1.2 hm HI6.out T13.out.1.1.1.2 HT.out HPP.out hw8 hh4).mono ?_; rintro e w5 ⟨gA, nA, rfl, _, hnA, hbw5⟩
    clear v_p0 v_p1 v_p2
    have T14 := T13.up hbw5
    clear T13
    have v_q0 : w5.cell? ⟨w1.heap.size, 0, none⟩ = some (.int .i64 (p : Nat)) := T14.out.2.1
    have v_q1 : w5.cell? ⟨w1.heap.size, 1, none⟩ = some (.int .i64 (q : Nat)) := T14.out.2.2.1
    have v_q2 : w5.cell? ⟨w1.heap.size, 2, none⟩ = some (.slice (some ⟨g, 0, none⟩) K c7) := T14.out.2.2.2
    go_wp2_with fail
    refine (evcount_ok p q (some ⟨g, 0, none⟩) K c7 bT oT cT L t w5 R T14.out.1.1.1.1.1.2 T14.out.1.2 hKm HQX.out T14.out.1.1.1.2 HT.out HQQ.out hp8 hq4).mono ?_; rintro e w6 ⟨gB, nB, rfl, _, hnB, hbw6⟩
    clear v_q0 v_q1 v_q2
    have T15 := T14.up hbw6
    clear T14
    have eA := hnA.len
    have eB := hnB.len
    by_cases hz : nA = 0
    · skip
      subst hz
      clear eA eB hnA hnB
      go_wp2
      go_ret
      exact ⟨rfl, T15.out.1.1.1.1.1.1.2⟩
    have hB0 : 0 < nB := by
      rw [eB]
      refine limbs_len_pos (HPC.out fun e => hz ?_)
      rw [eA, e]
      rfl
    have z1 : ((nA : Int) == 0) = false := by rw [beq_eq_false_iff_ne]; omega
    have z2 : ¬ (nA : Int) = 0 := by omega
    have z3 : (0 : Int) < (nB : Int) := by omega
    clear eA eB hnA hnB
    go_wp2
    go_ret
    exact ⟨rfl, T15.out.1.1.1.1.1.1.2⟩
theorem whole_pcs_row (aT : Option Addr) (cT : Nat) (t : List Int) (w h : Int) (a : Option Addr) (n c : Nat) (l : List Int) (x y p q : Int) (W : World) (R : Nat → Addr) (hE : Sent W R)
    (hR0 : Rd W aT t.length 1 (t.map (Value.int .i64))) (hl0 : t.length ≤ cT) (hz0 : cT * 8 ≤ 140737488351232) (hn0 : aT = none → cT = 0) (hx0 : ∀ x ∈ t, -9223372036854775808 ≤ x ∧ x ≤ 9223372036854775807) (hM : SlI W a n c l) (hx : I64 l) :
    Calls Tryd.prog 9 #[.slice aT t.length cT, patV w h a n c, .int .i64 x, .int .i64 y, .int .i64 p, .int .i64 q] W (TrueBelow W) :=
  whole_pcs w h x y p q a aT n c t.length cT l t W R hE hM.rk hM.nm hx ⟨rfl, hR0⟩ (by unfold maxLen; omega)
end Go.Proofs.YtoaooblodgejdaaDoor
