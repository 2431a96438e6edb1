/- edenlaw06.RingSteps returns true. -/
import Derived.Test.YtjgblanpaanglaaDoorAwk06
import Derived.Test.YtjgblanpaanglaaDoorRfB
import Derived.Test.YtjgblanpaanglaaDoorRuleL
import Derived.Deep.QuietTactic
import Derived.BigQuiet
namespace Go.Proofs.YtjgblanpaanglaaDoor
open Go.RowKit
set_option linter.unusedVariables false
set_option maxRecDepth 100000

instance monoEnvS {R : Nat → Addr} : Mono (fun w => Env w R) := ⟨⟨fun hb h => h.up hb⟩⟩
instance monoECS {R : Nat → Addr} {v : Value} {f : ErrD} : Mono (fun w => EC R w v f) := ⟨⟨fun hb h => h.up hb⟩⟩
instance monoLentS {g n : Nat} {l : List Int} : Mono (fun w => LentM w g n l) := ⟨⟨fun hb h => h.up hb⟩⟩
theorem aftV_len (k r : Int) (tb wl : List Int) (t : Int) : (aftV k r tb wl t).length ≤ wl.length := by
  unfold aftV
  split
  · rw [itR_len]; exact Nat.le_refl _
  · exact Nat.zero_le _
theorem ringV_len (k r : Int) (tb wl : List Int) : (ringV k r tb wl).length ≤ wl.length := by
  unfold ringV
  split
  · rw [ringL_len]; exact Nat.le_refl _
  · exact Nat.zero_le _
theorem trcV_len (k r : Int) (tb wl : List Int) (t : Int) : (trcV k r tb wl t).length ≤ maxLen := by
  unfold trcV
  cases hd : aftD k r tb wl t with
  | none =>
    obtain ⟨kn, rn, tn, rfl, rfl, rfl, hI, hG, ht⟩ := aft_none hd
    have h1 : tn ≤ 262144 := Nat.le_trans (Nat.le_mul_of_pos_right tn hG.l1) ht
    show (trR _ _ _ _ _).length ≤ maxLen
    rw [trR_len]
    show ((tn : Int)).toNat ≤ maxLen
    unfold maxLen
    omega
  | some x => exact Nat.zero_le _
set_option maxHeartbeats 16000000 in
theorem ring_steps (k r t : Int) (a : Option Addr) (n c : Nat) (l : List Int) (aw : Option Addr) (nw cw : Nat) (wl : List Int) (W : World) (R : Nat → Addr) (hE : Env W R) (hR : RK .i64 W a n l) (hn8 : n * 8 ≤ 140737488351232) (hW : SlI W aw nw cw wl) :
    Calls Tryd.prog 7 #[ruleV k r a n c, .slice aw nw cw, .int .i64 t] W (TrueBelow W) := by
  have hmw := hW.nm
  have h8w := hW.n8
  have hnm : n ≤ maxLen := by unfold maxLen; omega
  have hll : wl.length ≤ maxLen := by rw [← hW.rk.len]; exact hmw
  have HL1 : Hid ((ringV k r l wl).length ≤ maxLen) := Nat.le_trans (ringV_len k r l wl) hll
  have HL2 : Hid ((aftV k r l wl t).length ≤ maxLen) := Nat.le_trans (aftV_len k r l wl t) hll
  have HL3 : Hid ((trcV k r l wl t).length ≤ maxLen) := trcV_len k r l wl t
  clear hll
  have T0 := Tk.nil W
  have T1 := T0.add (fun wv => Below W.heap.size W wv) (bnil W)
  clear T0
  have T2 := T1.add (fun wv => Env wv R) (hE)
  clear T1
  have T3 := T2.add (fun wv => RK .i64 wv a n l) (hR)
  clear T2
  have T4 := T3.add (fun wv => SlI wv aw nw cw wl) (hW)
  clear T3
  clear hE hR hW
  obtain ⟨Wb, hWb⟩ : ∃ Wb, W.alloc (.cells #[.int .i64 k, .int .i64 r, .slice a n c] 24) = Wb := ⟨_, rfl⟩
  have hbWb : Below W.heap.size W Wb := by rw [← hWb]; exact balloc (bnil W) _
  have T5 := T4.up hbWb
  clear T4
  have T6 := T5.add (fun wv => wv.cell? ⟨W.heap.size, 0, none⟩ = some (.int .i64 k) ∧ wv.cell? ⟨W.heap.size, 1, none⟩ = some (.int .i64 r) ∧ wv.cell? ⟨W.heap.size, 2, none⟩ = some (.slice a n c)) (by rw [← hWb]; exact ⟨cnw (by simp) rfl, cnw (by simp) rfl, cnw (by simp) rfl⟩)
  clear T5
  have HWb := Lib.hid hWb
  clear hWb hbWb
  go_enter Tryd.func7, Tryd.ntmps7
  go_wp2_with fail
  rw [HWb.out]
  refine (awake06_any Wb R (T6.out.1.1.1.2).sent.glob).mono ?_; rintro e w0 ⟨rfl, hbw0⟩
  have T7 := T6.up hbw0
  clear T6
  have v_p0 : w0.cell? ⟨W.heap.size, 0, none⟩ = some (.int .i64 k) := T7.out.2.1
  have v_p1 : w0.cell? ⟨W.heap.size, 1, none⟩ = some (.int .i64 r) := T7.out.2.2.1
  have v_p2 : w0.cell? ⟨W.heap.size, 2, none⟩ = some (.slice a n c) := T7.out.2.2.2
  go_wp2_with fail
  refine (lentRule_any k r a n c l w0 T7.out.1.1.2 hn8).mono ?_; rintro e w1 ⟨gm, rfl, hlm, hbw1⟩
  clear v_p0 v_p1 v_p2
  have T8 := T7.up hbw1
  clear T7
  have T9 := T8.add (fun wv => LentM wv gm n l) (hlm)
  clear T8
  clear hlm
  obtain ⟨wm, hwm⟩ : ∃ wm, w1.alloc (.cells #[.int .i64 k, .int .i64 r, .slice (some ⟨gm, 0, none⟩) n (n + 2)] 24) = wm := ⟨_, rfl⟩
  have hbwm : Below w1.heap.size w1 wm := by rw [← hwm]; exact balloc (bnil w1) _
  have T10 := T9.up hbwm
  clear T9
  have T11 := T10.add (fun wv => wv.cell? ⟨w1.heap.size, 0, none⟩ = some (.int .i64 k) ∧ wv.cell? ⟨w1.heap.size, 1, none⟩ = some (.int .i64 r) ∧ wv.cell? ⟨w1.heap.size, 2, none⟩ = some (.slice (some ⟨gm, 0, none⟩) n (n + 2))) (by rw [← hwm]; exact ⟨cnw (by simp) rfl, cnw (by simp) rfl, cnw (by simp) rfl⟩)
  clear T10
  have Hwm := Lib.hid hwm
  clear hwm hbwm
  go_wp2_with fail
  rw [Hwm.out]
  refine (lent_ex aw nw cw wl wm (T11.out.1.1.1.2).rk h8w).mono ?_; rintro e w2 ⟨gv, cv, rfl, hcv, hlv, hbw2⟩
  have T12 := T11.up hbw2
  clear T11
  subst hcv
  have T13 := T12.add (fun wv => LentM wv gv nw wl) (hlv.rk)
  clear T12
  clear hlv
  have v_m0 : w2.cell? ⟨w1.heap.size, 0, none⟩ = some (.int .i64 k) := T13.out.1.2.1
  have v_m1 : w2.cell? ⟨w1.heap.size, 1, none⟩ = some (.int .i64 r) := T13.out.1.2.2.1
  have v_m2 : w2.cell? ⟨w1.heap.size, 2, none⟩ = some (.slice (some ⟨gm, 0, none⟩) n (n + 2)) := T13.out.1.2.2.2
  go_wp2_with fail
  refine (ringstep_anyE k r (some ⟨gm, 0, none⟩) n (n + 2) l (some ⟨gv, 0, none⟩) nw (nw + 2) wl w2 R (T13.out.1.1.1.1.1.1.2).sent (LentM.sl T13.out.1.1.2 hn8).rk hnm (LentM.sl T13.out.2 h8w)).mono ?_; rintro e wp1 ⟨a1, n1, c1, ev1, rfl, hl1, he1, hbwp1⟩
  clear v_m0 v_m1 v_m2
  have T14 := T13.up hbwp1
  clear T13
  have T15 := T14.add (fun wv => RK .i64 wv a1 n1 (ringV k r l wl)) (hl1.rk)
  clear T14
  have T16 := T15.add (fun wv => EC R wv ev1 (ringD k r l wl)) (he1)
  clear T15
  clear hl1 he1
  have v_p0 : wp1.cell? ⟨W.heap.size, 0, none⟩ = some (.int .i64 k) := T16.out.1.1.1.1.1.2.1
  have v_p1 : wp1.cell? ⟨W.heap.size, 1, none⟩ = some (.int .i64 r) := T16.out.1.1.1.1.1.2.2.1
  have v_p2 : wp1.cell? ⟨W.heap.size, 2, none⟩ = some (.slice a n c) := T16.out.1.1.1.1.1.2.2.2
  go_wp2_with fail
  refine (refstep_any k r a n c l aw nw cw wl wp1 T16.out.1.1.1.1.1.1.1.2 hnm T16.out.1.1.1.1.1.1.2).mono ?_; rintro e wr1 ⟨b1, m1, d1, N1, x1, u1, y1, x1', u1', y1', rfl, hl1, hw1, hbwr1⟩
  clear v_p0 v_p1 v_p2
  have T17 := T16.up hbwr1
  clear T16
  have T18 := T17.add (fun wv => RK .i64 wv b1 m1 (ringV k r l wl)) (hl1)
  clear T17
  have T19 := T18.add (fun wv => WC wv (.agg #[.int .i64 N1, .slice x1 u1 y1, .slice x1' u1' y1']) (ringD k r l wl)) (hw1)
  clear T18
  clear hl1 hw1
  obtain ⟨we1, hwe1⟩ : ∃ we1, wr1.alloc (.cells #[.int .i64 N1, .slice x1 u1 y1, .slice x1' u1' y1'] 43) = we1 := ⟨_, rfl⟩
  have hbwe1 : Below wr1.heap.size wr1 we1 := by rw [← hwe1]; exact balloc (bnil wr1) _
  have T20 := T19.up hbwe1
  clear T19
  have T21 := T20.add (fun wv => wv.cell? ⟨wr1.heap.size, 0, none⟩ = some (.int .i64 N1) ∧ wv.cell? ⟨wr1.heap.size, 1, none⟩ = some (.slice x1 u1 y1) ∧ wv.cell? ⟨wr1.heap.size, 2, none⟩ = some (.slice x1' u1' y1')) (by rw [← hwe1]; exact ⟨cnw (by simp) rfl, cnw (by simp) rfl, cnw (by simp) rfl⟩)
  clear T20
  have Hwe1 := Lib.hid hwe1
  clear hwe1 hbwe1
  have v_m0 : (wr1.alloc (.cells #[.int .i64 N1, .slice x1 u1 y1, .slice x1' u1' y1'] 43)).cell? ⟨w1.heap.size, 0, none⟩ = some (.int .i64 k) := by rw [Hwe1.out]; exact T21.out.1.1.1.1.1.1.2.1
  have v_m1 : (wr1.alloc (.cells #[.int .i64 N1, .slice x1 u1 y1, .slice x1' u1' y1'] 43)).cell? ⟨w1.heap.size, 1, none⟩ = some (.int .i64 r) := by rw [Hwe1.out]; exact T21.out.1.1.1.1.1.1.2.2.1
  have v_m2 : (wr1.alloc (.cells #[.int .i64 N1, .slice x1 u1 y1, .slice x1' u1' y1'] 43)).cell? ⟨w1.heap.size, 2, none⟩ = some (.slice (some ⟨gm, 0, none⟩) n (n + 2)) := by rw [Hwe1.out]; exact T21.out.1.1.1.1.1.1.2.2.2
  go_wp2_with fail
  rw [Hwe1.out]
  refine (rafter_anyE k r t (some ⟨gm, 0, none⟩) n (n + 2) l (some ⟨gv, 0, none⟩) nw (nw + 2) wl we1 R (T21.out.1.1.1.1.1.1.1.1.1.1.1.2).sent (LentM.sl T21.out.1.1.1.1.1.1.1.2 hn8).rk hnm (LentM.sl T21.out.1.1.1.1.1.2 h8w)).mono ?_; rintro e wp2 ⟨a2, n2, c2, ev2, rfl, hl2, he2, hbwp2⟩
  clear v_m0 v_m1 v_m2
  have T22 := T21.up hbwp2
  clear T21
  have T23 := T22.add (fun wv => RK .i64 wv a2 n2 (aftV k r l wl t)) (hl2.rk)
  clear T22
  have T24 := T23.add (fun wv => EC R wv ev2 (aftD k r l wl t)) (he2)
  clear T23
  clear hl2 he2
  have v_p0 : wp2.cell? ⟨W.heap.size, 0, none⟩ = some (.int .i64 k) := T24.out.1.1.1.1.1.1.1.1.1.1.2.1
  have v_p1 : wp2.cell? ⟨W.heap.size, 1, none⟩ = some (.int .i64 r) := T24.out.1.1.1.1.1.1.1.1.1.1.2.2.1
  have v_p2 : wp2.cell? ⟨W.heap.size, 2, none⟩ = some (.slice a n c) := T24.out.1.1.1.1.1.1.1.1.1.1.2.2.2
  go_wp2_with fail
  refine (refafter_any k r t a n c l aw nw cw wl wp2 T24.out.1.1.1.1.1.1.1.1.1.1.1.1.2 hnm T24.out.1.1.1.1.1.1.1.1.1.1.1.2).mono ?_; rintro e wr2 ⟨b2, m2, d2, N2, x2, u2, y2, x2', u2', y2', rfl, hl2, hw2, hbwr2⟩
  clear v_p0 v_p1 v_p2
  have T25 := T24.up hbwr2
  clear T24
  have T26 := T25.add (fun wv => RK .i64 wv b2 m2 (aftV k r l wl t)) (hl2)
  clear T25
  have T27 := T26.add (fun wv => WC wv (.agg #[.int .i64 N2, .slice x2 u2 y2, .slice x2' u2' y2']) (aftD k r l wl t)) (hw2)
  clear T26
  clear hl2 hw2
  obtain ⟨we2, hwe2⟩ : ∃ we2, wr2.alloc (.cells #[.int .i64 N2, .slice x2 u2 y2, .slice x2' u2' y2'] 43) = we2 := ⟨_, rfl⟩
  have hbwe2 : Below wr2.heap.size wr2 we2 := by rw [← hwe2]; exact balloc (bnil wr2) _
  have T28 := T27.up hbwe2
  clear T27
  have T29 := T28.add (fun wv => wv.cell? ⟨wr2.heap.size, 0, none⟩ = some (.int .i64 N2) ∧ wv.cell? ⟨wr2.heap.size, 1, none⟩ = some (.slice x2 u2 y2) ∧ wv.cell? ⟨wr2.heap.size, 2, none⟩ = some (.slice x2' u2' y2')) (by rw [← hwe2]; exact ⟨cnw (by simp) rfl, cnw (by simp) rfl, cnw (by simp) rfl⟩)
  clear T28
  have Hwe2 := Lib.hid hwe2
  clear hwe2 hbwe2
  have v_m0 : (wr2.alloc (.cells #[.int .i64 N2, .slice x2 u2 y2, .slice x2' u2' y2'] 43)).cell? ⟨w1.heap.size, 0, none⟩ = some (.int .i64 k) := by rw [Hwe2.out]; exact T29.out.1.1.1.1.1.1.1.1.1.1.1.2.1
  have v_m1 : (wr2.alloc (.cells #[.int .i64 N2, .slice x2 u2 y2, .slice x2' u2' y2'] 43)).cell? ⟨w1.heap.size, 1, none⟩ = some (.int .i64 r) := by rw [Hwe2.out]; exact T29.out.1.1.1.1.1.1.1.1.1.1.1.2.2.1
  have v_m2 : (wr2.alloc (.cells #[.int .i64 N2, .slice x2 u2 y2, .slice x2' u2' y2'] 43)).cell? ⟨w1.heap.size, 2, none⟩ = some (.slice (some ⟨gm, 0, none⟩) n (n + 2)) := by rw [Hwe2.out]; exact T29.out.1.1.1.1.1.1.1.1.1.1.1.2.2.2
  go_wp2_with fail
  rw [Hwe2.out]
  refine (rtrace_anyE k r t (some ⟨gm, 0, none⟩) n (n + 2) l (some ⟨gv, 0, none⟩) nw (nw + 2) wl we2 R (T29.out.1.1.1.1.1.1.1.1.1.1.1.1.1.1.1.1.2).sent (LentM.sl T29.out.1.1.1.1.1.1.1.1.1.1.1.1.2 hn8).rk hnm (LentM.sl T29.out.1.1.1.1.1.1.1.1.1.1.2 h8w)).mono ?_; rintro e wp3 ⟨a3, n3, c3, ev3, rfl, hl3, he3, hbwp3⟩
  clear v_m0 v_m1 v_m2
  have T30 := T29.up hbwp3
  clear T29
  have T31 := T30.add (fun wv => RK .i64 wv a3 n3 (trcV k r l wl t)) (hl3.rk)
  clear T30
  have T32 := T31.add (fun wv => EC R wv ev3 (aftD k r l wl t)) (he3)
  clear T31
  clear hl3 he3
  have v_p0 : wp3.cell? ⟨W.heap.size, 0, none⟩ = some (.int .i64 k) := T32.out.1.1.1.1.1.1.1.1.1.1.1.1.1.1.1.2.1
  have v_p1 : wp3.cell? ⟨W.heap.size, 1, none⟩ = some (.int .i64 r) := T32.out.1.1.1.1.1.1.1.1.1.1.1.1.1.1.1.2.2.1
  have v_p2 : wp3.cell? ⟨W.heap.size, 2, none⟩ = some (.slice a n c) := T32.out.1.1.1.1.1.1.1.1.1.1.1.1.1.1.1.2.2.2
  go_wp2_with fail
  refine (reftrace_any k r t a n c l aw nw cw wl wp3 T32.out.1.1.1.1.1.1.1.1.1.1.1.1.1.1.1.1.1.2 hnm T32.out.1.1.1.1.1.1.1.1.1.1.1.1.1.1.1.1.2).mono ?_; rintro e wr3 ⟨b3, m3, d3, N3, x3, u3, y3, x3', u3', y3', rfl, hl3, hw3, hbwr3⟩
  clear v_p0 v_p1 v_p2
  have T33 := T32.up hbwr3
  clear T32
  have T34 := T33.add (fun wv => RK .i64 wv b3 m3 (trcV k r l wl t)) (hl3)
  clear T33
  have T35 := T34.add (fun wv => WC wv (.agg #[.int .i64 N3, .slice x3 u3 y3, .slice x3' u3' y3']) (aftD k r l wl t)) (hw3)
  clear T34
  clear hl3 hw3
  obtain ⟨we3, hwe3⟩ : ∃ we3, wr3.alloc (.cells #[.int .i64 N3, .slice x3 u3 y3, .slice x3' u3' y3'] 43) = we3 := ⟨_, rfl⟩
  have hbwe3 : Below wr3.heap.size wr3 we3 := by rw [← hwe3]; exact balloc (bnil wr3) _
  have T36 := T35.up hbwe3
  clear T35
  have T37 := T36.add (fun wv => wv.cell? ⟨wr3.heap.size, 0, none⟩ = some (.int .i64 N3) ∧ wv.cell? ⟨wr3.heap.size, 1, none⟩ = some (.slice x3 u3 y3) ∧ wv.cell? ⟨wr3.heap.size, 2, none⟩ = some (.slice x3' u3' y3')) (by rw [← hwe3]; exact ⟨cnw (by simp) rfl, cnw (by simp) rfl, cnw (by simp) rfl⟩)
  clear T36
  have Hwe3 := Lib.hid hwe3
  clear hwe3 hbwe3
  go_wp2_with fail
  rw [Hwe3.out]
  refine (ints_eqB a1 b1 n1 m1 c1 d1 (ringV k r l wl) we3 T37.out.1.1.1.1.1.1.1.1.1.1.1.1.1.1.2 T37.out.1.1.1.1.1.1.1.1.1.1.1.1.2 HL1.out).mono ?_; rintro e wi1 ⟨rfl, hbwi1⟩
  have T38 := T37.up hbwi1
  clear T37
  have v_e1x0 : wi1.cell? ⟨wr1.heap.size, 0, none⟩ = some (.int .i64 N1) := T38.out.1.1.1.1.1.1.1.1.1.1.2.1
  have v_e1x1 : wi1.cell? ⟨wr1.heap.size, 1, none⟩ = some (.slice x1 u1 y1) := T38.out.1.1.1.1.1.1.1.1.1.1.2.2.1
  have v_e1x2 : wi1.cell? ⟨wr1.heap.size, 2, none⟩ = some (.slice x1' u1' y1') := T38.out.1.1.1.1.1.1.1.1.1.1.2.2.2
  go_wp2_with fail
  refine (rawIs_ch ev1 _ (ringD k r l wl) wi1 R T38.out.1.1.1.1.1.1.1.1.1.1.1.1.1.1.1.1.1.1.1.1.1.2 T38.out.1.1.1.1.1.1.1.1.1.1.1.1.1.2 T38.out.1.1.1.1.1.1.1.1.1.1.1.2).mono ?_; rintro e wj1 ⟨rfl, hbwj1⟩
  clear v_e1x0 v_e1x1 v_e1x2
  have T39 := T38.up hbwj1
  clear T38
  go_wp2_with fail
  refine (ints_eqB a2 b2 n2 m2 c2 d2 (aftV k r l wl t) wj1 T39.out.1.1.1.1.1.1.1.1.1.2 T39.out.1.1.1.1.1.1.1.2 HL2.out).mono ?_; rintro e wi2 ⟨rfl, hbwi2⟩
  have T40 := T39.up hbwi2
  clear T39
  have v_e2x0 : wi2.cell? ⟨wr2.heap.size, 0, none⟩ = some (.int .i64 N2) := T40.out.1.1.1.1.1.2.1
  have v_e2x1 : wi2.cell? ⟨wr2.heap.size, 1, none⟩ = some (.slice x2 u2 y2) := T40.out.1.1.1.1.1.2.2.1
  have v_e2x2 : wi2.cell? ⟨wr2.heap.size, 2, none⟩ = some (.slice x2' u2' y2') := T40.out.1.1.1.1.1.2.2.2
  go_wp2_with fail
  refine (rawIs_ch ev2 _ (aftD k r l wl t) wi2 R T40.out.1.1.1.1.1.1.1.1.1.1.1.1.1.1.1.1.1.1.1.1.1.2 T40.out.1.1.1.1.1.1.1.1.2 T40.out.1.1.1.1.1.1.2).mono ?_; rintro e wj2 ⟨rfl, hbwj2⟩
  clear v_e2x0 v_e2x1 v_e2x2
  have T41 := T40.up hbwj2
  clear T40
  go_wp2_with fail
  refine (ints_eqB a3 b3 n3 m3 c3 d3 (trcV k r l wl t) wj2 T41.out.1.1.1.1.2 T41.out.1.1.2 HL3.out).mono ?_; rintro e wi3 ⟨rfl, hbwi3⟩
  have T42 := T41.up hbwi3
  clear T41
  have v_e3x0 : wi3.cell? ⟨wr3.heap.size, 0, none⟩ = some (.int .i64 N3) := T42.out.2.1
  have v_e3x1 : wi3.cell? ⟨wr3.heap.size, 1, none⟩ = some (.slice x3 u3 y3) := T42.out.2.2.1
  have v_e3x2 : wi3.cell? ⟨wr3.heap.size, 2, none⟩ = some (.slice x3' u3' y3') := T42.out.2.2.2
  go_wp2_with fail
  refine (rawIs_ch ev3 _ (aftD k r l wl t) wi3 R T42.out.1.1.1.1.1.1.1.1.1.1.1.1.1.1.1.1.1.1.1.1.1.2 T42.out.1.1.1.2 T42.out.1.2).mono ?_; rintro e wj3 ⟨rfl, hbwj3⟩
  clear v_e3x0 v_e3x1 v_e3x2
  have T43 := T42.up hbwj3
  clear T42
  have v_p0 : wj3.cell? ⟨W.heap.size, 0, none⟩ = some (.int .i64 k) := T43.out.1.1.1.1.1.1.1.1.1.1.1.1.1.1.1.1.1.1.2.1
  have v_p1 : wj3.cell? ⟨W.heap.size, 1, none⟩ = some (.int .i64 r) := T43.out.1.1.1.1.1.1.1.1.1.1.1.1.1.1.1.1.1.1.2.2.1
  have v_p2 : wj3.cell? ⟨W.heap.size, 2, none⟩ = some (.slice a n c) := T43.out.1.1.1.1.1.1.1.1.1.1.1.1.1.1.1.1.1.1.2.2.2
  have v_m0 : wj3.cell? ⟨w1.heap.size, 0, none⟩ = some (.int .i64 k) := T43.out.1.1.1.1.1.1.1.1.1.1.1.1.1.1.1.1.2.1
  have v_m1 : wj3.cell? ⟨w1.heap.size, 1, none⟩ = some (.int .i64 r) := T43.out.1.1.1.1.1.1.1.1.1.1.1.1.1.1.1.1.2.2.1
  have v_m2 : wj3.cell? ⟨w1.heap.size, 2, none⟩ = some (.slice (some ⟨gm, 0, none⟩) n (n + 2)) := T43.out.1.1.1.1.1.1.1.1.1.1.1.1.1.1.1.1.2.2.2
  go_wp2_with fail
  refine (keptRule_any k r gm a n c l wj3 T43.out.1.1.1.1.1.1.1.1.1.1.1.1.1.1.1.1.1.2 T43.out.1.1.1.1.1.1.1.1.1.1.1.1.1.1.1.1.1.1.1.1.2 hn8).mono ?_; rintro e wk1 ⟨rfl, hbwk1⟩
  clear v_p0 v_p1 v_p2 v_m0 v_m1 v_m2
  have T44 := T43.up hbwk1
  clear T43
  go_wp2_with fail
  refine (kept_any gv nw (nw + 2) cw aw wl wk1 T44.out.1.1.1.1.1.1.1.1.1.1.1.1.1.1.1.2 (by omega) (by unfold maxLen; omega) (T44.out.1.1.1.1.1.1.1.1.1.1.1.1.1.1.1.1.1.1.1.2).rk h8w).mono ?_; rintro e wk2 ⟨rfl, hbwk2⟩
  have T45 := T44.up hbwk2
  clear T44
  go_wp2
  go_ret
  exact ⟨rfl, T45.out.1.1.1.1.1.1.1.1.1.1.1.1.1.1.1.1.1.1.1.1.1.1.2⟩
theorem ring_steps_row (k r : Int) (a : Option Addr) (n c : Nat) (l : List Int) (aw : Option Addr) (cw : Nat) (wl : List Int) (t : Int) (W : World) (R : Nat → Addr) (hE : Env W R) (hM : SlI W a n c l)
    (hR1 : Rd W aw wl.length 1 (wl.map (Value.int .i64))) (hl1 : wl.length ≤ cw) (hz1 : cw * 8 ≤ 140737488351232) (hn1 : aw = none → cw = 0) (hx1 : ∀ x ∈ wl, -9223372036854775808 ≤ x ∧ x ≤ 9223372036854775807) :
    Calls Tryd.prog 7 #[ruleV k r a n c, .slice aw wl.length cw, .int .i64 t] W (TrueBelow W) :=
  ring_steps k r t a n c l aw wl.length cw wl W R hE hM.rk hM.n8 ⟨⟨rfl, hR1⟩, hl1, by omega, by unfold maxLen; omega, hn1⟩
end Go.Proofs.YtjgblanpaanglaaDoor
