/- edenlaw17.CountWords, CountRings return true. -/
import Derived.Test.YteneiianpghalaaDoorR17X
import Derived.Test.YteneiianpghalaaDoorRuleM
import Derived.Test.YteneiianpghalaaDoorMatK
import Derived.Test.YteneiianpghalaaDoorCntX
import Derived.Test.YteneiianpghalaaDoorTrk
import Derived.Deep.QuietTactic
import Derived.BigQuiet
namespace Go.Proofs.YteneiianpghalaaDoor
open Go.RowKit
set_option linter.unusedVariables false
set_option maxRecDepth 100000

instance monoEnvW {R : Nat → Addr} : Mono (fun w => Env w R) := ⟨⟨fun hb h => h.up hb⟩⟩
instance monoECW {R : Nat → Addr} {v : Value} {f : ErrD} : Mono (fun w => EC R w v f) := ⟨⟨fun hb h => h.up hb⟩⟩
instance monoWCW {x : Value} {f : ErrD} : Mono (fun w => WC w x f) := ⟨⟨fun hb h => h.up hb⟩⟩
instance monoLentW {g n : Nat} {l : List Int} : Mono (fun w => LentM w g n l) := ⟨⟨fun hb h => h.up hb⟩⟩
instance monoNRW {a : Option Addr} {n : Nat} {l : List Nat} : Mono (fun w => NR w a n l) := ⟨⟨fun hb h => h.up hb⟩⟩
instance monoRKW {k : IntKind} {a : Option Addr} {n : Nat} {l : List Int} : Mono (fun w => RK k w a n l) := ⟨⟨fun hb h => h.up hb⟩⟩
instance monoSlW {a : Option Addr} {n c : Nat} {l : List Int} : Mono (fun w => SlI w a n c l) := ⟨⟨fun hb h => h.up hb⟩⟩
theorem cnw {w : World} {g j : Nat} {cs : Array Value} {t : TypeId} {v : Value} (hg : g = w.heap.size) (hv : cs[j]? = some v) : (w.alloc (.cells cs t)).cell? ⟨g, j, none⟩ = some v := cell_at_new rfl hg hv
theorem al000 {w : World} {a : Addr} {v : Value} {o : Obj} (h : w.cell? a = some v) : (w.alloc o).cell? a = some v := al16 h
theorem nats_b (a1 a2 : Option Addr) (n1 n2 c1 c2 : Nat) (l : List Nat) (W : World) (h1 : NR W a1 n1 l) (h2 : NR W a2 n2 l) (hm : n1 ≤ maxLen) :
    Calls Tryd.prog 26 #[.slice a1 n1 c1, .slice a2 n2 c2] W fun e w' => e = .returned (.bool true) ∧ Below W.heap.size W w' := by
  refine (nats_q a1 a2 n1 n2 c1 c2 l W h1 h2 hm).mono ?_
  rintro e w' ⟨rfl, q, rfl⟩
  exact ⟨rfl, bdrewN (bnil W) q⟩

set_option maxHeartbeats 16000000 in
theorem count_words (k r : Int) (a : Option Addr) (n c : Nat) (l : List Int) (aw : Option Addr) (nw cw : Nat) (wl : List Int) (W : World) (R : Nat → Addr) (hE : Env W R) (hR : RK .i64 W a n l) (hn8 : n * 8 ≤ 140737488351232) (hW : SlI W aw nw cw wl) :
    Calls Tryd.prog 5 #[ruleV k r a n c, .slice aw nw cw] W (TrueBelow W) := by
  have hmw := hW.nm
  have h8w := hW.n8
  have hnm : n ≤ maxLen := by unfold maxLen; omega
  have hnm2 : n + 2 ≤ maxLen := by unfold maxLen; omega
  have T0 := Tk.nil W
  have T1 := T0.add (fun wv => Below W.heap.size W wv) (bnil W)
  clear T0
  have T2 := T1.add (fun wv => Env wv R) (hE)
  clear T1
  have T3 := T2.add (fun wv => RK .i64 wv a n l) (hR)
  clear T2
  have T4 := T3.add (fun wv => SlI wv aw nw cw wl) (hW)
  clear T3
  clear hE hR hW
  obtain ⟨Wb, hWb⟩ : ∃ Wb, W.alloc (.cells #[.int .i64 k, .int .i64 r, .slice a n c] 24) = Wb := ⟨_, rfl⟩
  have hbWb : Below W.heap.size W Wb := by rw [← hWb]; exact balloc (bnil W) _
  have T5 := T4.up hbWb
  clear T4
  have T6 := T5.add (fun wv => wv.cell? ⟨W.heap.size, 0, none⟩ = some (.int .i64 k) ∧ wv.cell? ⟨W.heap.size, 1, none⟩ = some (.int .i64 r) ∧ wv.cell? ⟨W.heap.size, 2, none⟩ = some (.slice a n c)) (by rw [← hWb]; exact ⟨cnw (by simp) rfl, cnw (by simp) rfl, cnw (by simp) rfl⟩)
  clear T5
  have HWb := Lib.hid hWb
  clear hWb hbWb
  go_enter Tryd.func5, Tryd.ntmps5
  go_wp2_with fail
  rw [HWb.out]
  refine (awake17 Wb R (T6.out.1.1.1.2).sent.glob).mono ?_; rintro e w0 ⟨rfl, hbw0⟩
  have T7 := T6.up hbw0
  clear T6
  have v_p0 : w0.cell? ⟨W.heap.size, 0, none⟩ = some (.int .i64 k) := T7.out.2.1
  have v_p1 : w0.cell? ⟨W.heap.size, 1, none⟩ = some (.int .i64 r) := T7.out.2.2.1
  have v_p2 : w0.cell? ⟨W.heap.size, 2, none⟩ = some (.slice a n c) := T7.out.2.2.2
  go_wp2_with fail
  refine (lentRule_any k r a n c l w0 T7.out.1.1.2 hn8).mono ?_; rintro e w1 ⟨gm, rfl, hlm, hbw1⟩
  clear v_p0 v_p1 v_p2
  have T8 := T7.up hbw1
  clear T7
  have T9 := T8.add (fun wv => LentM wv gm n l) (hlm)
  clear T8
  clear hlm
  obtain ⟨wm, hwm⟩ : ∃ wm, w1.alloc (.cells #[.int .i64 k, .int .i64 r, .slice (some ⟨gm, 0, none⟩) n (n + 2)] 24) = wm := ⟨_, rfl⟩
  have hbwm : Below w1.heap.size w1 wm := by rw [← hwm]; exact balloc (bnil w1) _
  have T10 := T9.up hbwm
  clear T9
  have T11 := T10.add (fun wv => wv.cell? ⟨w1.heap.size, 0, none⟩ = some (.int .i64 k) ∧ wv.cell? ⟨w1.heap.size, 1, none⟩ = some (.int .i64 r) ∧ wv.cell? ⟨w1.heap.size, 2, none⟩ = some (.slice (some ⟨gm, 0, none⟩) n (n + 2))) (by rw [← hwm]; exact ⟨cnw (by simp) rfl, cnw (by simp) rfl, cnw (by simp) rfl⟩)
  clear T10
  have Hwm := Lib.hid hwm
  clear hwm hbwm
  go_wp2_with fail
  rw [Hwm.out]
  refine (lent_ex aw nw cw wl wm (T11.out.1.1.1.2).rk h8w).mono ?_; rintro e w2 ⟨gv, cv, rfl, hcv, hlv, hbw2⟩
  have T12 := T11.up hbw2
  clear T11
  subst hcv
  have T13 := T12.add (fun wv => LentM wv gv nw wl) (hlv.rk)
  clear T12
  clear hlv
  have v_m0 : w2.cell? ⟨w1.heap.size, 0, none⟩ = some (.int .i64 k) := T13.out.1.2.1
  have v_m1 : w2.cell? ⟨w1.heap.size, 1, none⟩ = some (.int .i64 r) := T13.out.1.2.2.1
  have v_m2 : w2.cell? ⟨w1.heap.size, 2, none⟩ = some (.slice (some ⟨gm, 0, none⟩) n (n + 2)) := T13.out.1.2.2.2
  go_wp2_with fail
  refine (pcWords k r (some ⟨gm, 0, none⟩) (some ⟨gv, 0, none⟩) n (n + 2) nw (nw + 2) l wl w2 R (T13.out.1.1.1.1.1.1.2).sent (T13.out.1.1.1.1.1.1.2).sent.glob (LentM.sl T13.out.1.1.2 hn8).rk (LentM.sl T13.out.2 h8w).rk (by omega) hnm2 hmw).mono ?_; rintro e wp1 ⟨a1, n1, c1, ev1, rfl, hl1, hq1, he1, hbwp1⟩
  clear v_m0 v_m1 v_m2
  have T14 := T13.up hbwp1
  clear T13
  have T15 := T14.add (fun wv => NR wv a1 n1 (limbs (wordsX k r l wl))) (hl1)
  clear T14
  have T16 := T15.add (fun wv => EC R wv ev1 (wordsE k r l wl)) (he1)
  clear T15
  have HQ1 := Lib.hid hq1
  clear hl1 he1 hq1
  have v_p0 : wp1.cell? ⟨W.heap.size, 0, none⟩ = some (.int .i64 k) := T16.out.1.1.1.1.1.2.1
  have v_p1 : wp1.cell? ⟨W.heap.size, 1, none⟩ = some (.int .i64 r) := T16.out.1.1.1.1.1.2.2.1
  have v_p2 : wp1.cell? ⟨W.heap.size, 2, none⟩ = some (.slice a n c) := T16.out.1.1.1.1.1.2.2.2
  go_wp2_with fail
  refine (refWords_any k r a aw n c nw cw l wl wp1 T16.out.1.1.1.1.1.1.1.2 (T16.out.1.1.1.1.1.1.2).rk hnm hmw).mono ?_; rintro e wr1 ⟨b1, m1, d1, N1, x1, u1, y1, x1', u1', y1', rfl, hl1, hw1, hbwr1⟩
  clear v_p0 v_p1 v_p2
  have T17 := T16.up hbwr1
  clear T16
  have T18 := T17.add (fun wv => NR wv b1 m1 (limbs (wordsX k r l wl))) (hl1)
  clear T17
  have T19 := T18.add (fun wv => WC wv (.agg #[.int .i64 N1, .slice x1 u1 y1, .slice x1' u1' y1']) (wordsE k r l wl)) (hw1)
  clear T18
  clear hl1 hw1
  obtain ⟨we1, hwe1⟩ : ∃ we1, wr1.alloc (.cells #[.int .i64 N1, .slice x1 u1 y1, .slice x1' u1' y1'] 53) = we1 := ⟨_, rfl⟩
  have hbwe1 : Below wr1.heap.size wr1 we1 := by rw [← hwe1]; exact balloc (bnil wr1) _
  have T20 := T19.up hbwe1
  clear T19
  have T21 := T20.add (fun wv => wv.cell? ⟨wr1.heap.size, 0, none⟩ = some (.int .i64 N1) ∧ wv.cell? ⟨wr1.heap.size, 1, none⟩ = some (.slice x1 u1 y1) ∧ wv.cell? ⟨wr1.heap.size, 2, none⟩ = some (.slice x1' u1' y1')) (by rw [← hwe1]; exact ⟨cnw (by simp) rfl, cnw (by simp) rfl, cnw (by simp) rfl⟩)
  clear T20
  have Hwe1 := Lib.hid hwe1
  clear hwe1 hbwe1
  go_wp2_with fail
  rw [Hwe1.out]
  refine (nats_b a1 b1 n1 m1 c1 d1 (limbs (wordsX k r l wl)) we1 T21.out.1.1.1.1.2 T21.out.1.1.2 HQ1.out).mono ?_; rintro e wi1 ⟨rfl, hbwi1⟩
  have T22 := T21.up hbwi1
  clear T21
  have v_e1x0 : wi1.cell? ⟨wr1.heap.size, 0, none⟩ = some (.int .i64 N1) := T22.out.2.1
  have v_e1x1 : wi1.cell? ⟨wr1.heap.size, 1, none⟩ = some (.slice x1 u1 y1) := T22.out.2.2.1
  have v_e1x2 : wi1.cell? ⟨wr1.heap.size, 2, none⟩ = some (.slice x1' u1' y1') := T22.out.2.2.2
  go_wp2_with fail
  refine (rawIs_ch ev1 _ (wordsE k r l wl) wi1 R T22.out.1.1.1.1.1.1.1.1.1.1.1.2 T22.out.1.1.1.2 T22.out.1.2).mono ?_; rintro e wj1 ⟨rfl, hbwj1⟩
  clear v_e1x0 v_e1x1 v_e1x2
  have T23 := T22.up hbwj1
  clear T22
  have v_p0 : wj1.cell? ⟨W.heap.size, 0, none⟩ = some (.int .i64 k) := T23.out.1.1.1.1.1.1.1.1.2.1
  have v_p1 : wj1.cell? ⟨W.heap.size, 1, none⟩ = some (.int .i64 r) := T23.out.1.1.1.1.1.1.1.1.2.2.1
  have v_p2 : wj1.cell? ⟨W.heap.size, 2, none⟩ = some (.slice a n c) := T23.out.1.1.1.1.1.1.1.1.2.2.2
  have v_m0 : wj1.cell? ⟨w1.heap.size, 0, none⟩ = some (.int .i64 k) := T23.out.1.1.1.1.1.1.2.1
  have v_m1 : wj1.cell? ⟨w1.heap.size, 1, none⟩ = some (.int .i64 r) := T23.out.1.1.1.1.1.1.2.2.1
  have v_m2 : wj1.cell? ⟨w1.heap.size, 2, none⟩ = some (.slice (some ⟨gm, 0, none⟩) n (n + 2)) := T23.out.1.1.1.1.1.1.2.2.2
  go_wp2_with fail
  refine (keptRule_any k r gm a n c l wj1 T23.out.1.1.1.1.1.1.1.2 T23.out.1.1.1.1.1.1.1.1.1.1.2 hn8).mono ?_; rintro e wk1 ⟨rfl, hbwk1⟩
  clear v_p0 v_p1 v_p2 v_m0 v_m1 v_m2
  have T24 := T23.up hbwk1
  clear T23
  go_wp2_with fail
  refine (kept_any gv nw (nw + 2) cw aw wl wk1 T24.out.1.1.1.1.1.2 (by omega) (by unfold maxLen; omega) (T24.out.1.1.1.1.1.1.1.1.1.2).rk h8w).mono ?_; rintro e wk2 ⟨rfl, hbwk2⟩
  have T25 := T24.up hbwk2
  clear T24
  go_wp2
  go_ret
  exact ⟨rfl, T25.out.1.1.1.1.1.1.1.1.1.1.1.1.2⟩
theorem count_words_row (k r : Int) (a : Option Addr) (n c : Nat) (l : List Int) (aw : Option Addr) (cw : Nat) (wl : List Int) (W : World) (R : Nat → Addr) (hE : Env W R) (hM : SlI W a n c l)
    (hR1 : Rd W aw wl.length 1 (wl.map (Value.int .i64))) (hl1 : wl.length ≤ cw) (hz1 : cw * 8 ≤ 140737488351232) (hn1 : aw = none → cw = 0) (hx1 : ∀ x ∈ wl, -9223372036854775808 ≤ x ∧ x ≤ 9223372036854775807) :
    Calls Tryd.prog 5 #[ruleV k r a n c, .slice aw wl.length cw] W (TrueBelow W) :=
  count_words k r  a n c l aw wl.length cw wl W R hE hM.rk hM.n8 ⟨⟨rfl, hR1⟩, hl1, by omega, by unfold maxLen; omega, hn1⟩
set_option maxHeartbeats 16000000 in
theorem count_rings (k r m : Int) (a : Option Addr) (n c : Nat) (l : List Int) (aw : Option Addr) (nw cw : Nat) (wl : List Int) (W : World) (R : Nat → Addr) (hE : Env W R) (hR : RK .i64 W a n l) (hn8 : n * 8 ≤ 140737488351232) (hW : SlI W aw nw cw wl) :
    Calls Tryd.prog 6 #[ruleV k r a n c, .slice aw nw cw, .int .i64 m] W (TrueBelow W) := by
  have hmw := hW.nm
  have h8w := hW.n8
  have hnm : n ≤ maxLen := by unfold maxLen; omega
  have hnm2 : n + 2 ≤ maxLen := by unfold maxLen; omega
  have T0 := Tk.nil W
  have T1 := T0.add (fun wv => Below W.heap.size W wv) (bnil W)
  clear T0
  have T2 := T1.add (fun wv => Env wv R) (hE)
  clear T1
  have T3 := T2.add (fun wv => RK .i64 wv a n l) (hR)
  clear T2
  have T4 := T3.add (fun wv => SlI wv aw nw cw wl) (hW)
  clear T3
  clear hE hR hW
  obtain ⟨Wb, hWb⟩ : ∃ Wb, W.alloc (.cells #[.int .i64 k, .int .i64 r, .slice a n c] 24) = Wb := ⟨_, rfl⟩
  have hbWb : Below W.heap.size W Wb := by rw [← hWb]; exact balloc (bnil W) _
  have T5 := T4.up hbWb
  clear T4
  have T6 := T5.add (fun wv => wv.cell? ⟨W.heap.size, 0, none⟩ = some (.int .i64 k) ∧ wv.cell? ⟨W.heap.size, 1, none⟩ = some (.int .i64 r) ∧ wv.cell? ⟨W.heap.size, 2, none⟩ = some (.slice a n c)) (by rw [← hWb]; exact ⟨cnw (by simp) rfl, cnw (by simp) rfl, cnw (by simp) rfl⟩)
  clear T5
  have HWb := Lib.hid hWb
  clear hWb hbWb
  go_enter Tryd.func6, Tryd.ntmps6
  go_wp2_with fail
  rw [HWb.out]
  refine (awake17 Wb R (T6.out.1.1.1.2).sent.glob).mono ?_; rintro e w0 ⟨rfl, hbw0⟩
  have T7 := T6.up hbw0
  clear T6
  have v_p0 : w0.cell? ⟨W.heap.size, 0, none⟩ = some (.int .i64 k) := T7.out.2.1
  have v_p1 : w0.cell? ⟨W.heap.size, 1, none⟩ = some (.int .i64 r) := T7.out.2.2.1
  have v_p2 : w0.cell? ⟨W.heap.size, 2, none⟩ = some (.slice a n c) := T7.out.2.2.2
  go_wp2_with fail
  refine (lentRule_any k r a n c l w0 T7.out.1.1.2 hn8).mono ?_; rintro e w1 ⟨gm, rfl, hlm, hbw1⟩
  clear v_p0 v_p1 v_p2
  have T8 := T7.up hbw1
  clear T7
  have T9 := T8.add (fun wv => LentM wv gm n l) (hlm)
  clear T8
  clear hlm
  obtain ⟨wm, hwm⟩ : ∃ wm, w1.alloc (.cells #[.int .i64 k, .int .i64 r, .slice (some ⟨gm, 0, none⟩) n (n + 2)] 24) = wm := ⟨_, rfl⟩
  have hbwm : Below w1.heap.size w1 wm := by rw [← hwm]; exact balloc (bnil w1) _
  have T10 := T9.up hbwm
  clear T9
  have T11 := T10.add (fun wv => wv.cell? ⟨w1.heap.size, 0, none⟩ = some (.int .i64 k) ∧ wv.cell? ⟨w1.heap.size, 1, none⟩ = some (.int .i64 r) ∧ wv.cell? ⟨w1.heap.size, 2, none⟩ = some (.slice (some ⟨gm, 0, none⟩) n (n + 2))) (by rw [← hwm]; exact ⟨cnw (by simp) rfl, cnw (by simp) rfl, cnw (by simp) rfl⟩)
  clear T10
  have Hwm := Lib.hid hwm
  clear hwm hbwm
  go_wp2_with fail
  rw [Hwm.out]
  refine (lent_ex aw nw cw wl wm (T11.out.1.1.1.2).rk h8w).mono ?_; rintro e w2 ⟨gv, cv, rfl, hcv, hlv, hbw2⟩
  have T12 := T11.up hbw2
  clear T11
  subst hcv
  have T13 := T12.add (fun wv => LentM wv gv nw wl) (hlv.rk)
  clear T12
  clear hlv
  have v_m0 : w2.cell? ⟨w1.heap.size, 0, none⟩ = some (.int .i64 k) := T13.out.1.2.1
  have v_m1 : w2.cell? ⟨w1.heap.size, 1, none⟩ = some (.int .i64 r) := T13.out.1.2.2.1
  have v_m2 : w2.cell? ⟨w1.heap.size, 2, none⟩ = some (.slice (some ⟨gm, 0, none⟩) n (n + 2)) := T13.out.1.2.2.2
  go_wp2_with fail
  refine (pcRings k r (some ⟨gm, 0, none⟩) (some ⟨gv, 0, none⟩) n (n + 2) nw (nw + 2) l wl w2 R (T13.out.1.1.1.1.1.1.2).sent (T13.out.1.1.1.1.1.1.2).sent.glob (LentM.sl T13.out.1.1.2 hn8).rk (LentM.sl T13.out.2 h8w).rk (by omega) hnm2 hmw).mono ?_; rintro e wp1 ⟨a1, n1, c1, ev1, rfl, hl1, hq1, he1, hbwp1⟩
  clear v_m0 v_m1 v_m2
  have T14 := T13.up hbwp1
  clear T13
  have T15 := T14.add (fun wv => NR wv a1 n1 (limbs (ringsX k r l wl))) (hl1)
  clear T14
  have T16 := T15.add (fun wv => EC R wv ev1 (ringsE k r l wl)) (he1)
  clear T15
  have HQ1 := Lib.hid hq1
  clear hl1 he1 hq1
  have v_p0 : wp1.cell? ⟨W.heap.size, 0, none⟩ = some (.int .i64 k) := T16.out.1.1.1.1.1.2.1
  have v_p1 : wp1.cell? ⟨W.heap.size, 1, none⟩ = some (.int .i64 r) := T16.out.1.1.1.1.1.2.2.1
  have v_p2 : wp1.cell? ⟨W.heap.size, 2, none⟩ = some (.slice a n c) := T16.out.1.1.1.1.1.2.2.2
  go_wp2_with fail
  refine (refRings_any k r a aw n c nw cw l wl wp1 T16.out.1.1.1.1.1.1.1.2 (T16.out.1.1.1.1.1.1.2).rk hnm hmw).mono ?_; rintro e wr1 ⟨b1, m1, d1, N1, x1, u1, y1, x1', u1', y1', rfl, hl1, hw1, hbwr1⟩
  clear v_p0 v_p1 v_p2
  have T17 := T16.up hbwr1
  clear T16
  have T18 := T17.add (fun wv => NR wv b1 m1 (limbs (ringsX k r l wl))) (hl1)
  clear T17
  have T19 := T18.add (fun wv => WC wv (.agg #[.int .i64 N1, .slice x1 u1 y1, .slice x1' u1' y1']) (ringsE k r l wl)) (hw1)
  clear T18
  clear hl1 hw1
  obtain ⟨we1, hwe1⟩ : ∃ we1, wr1.alloc (.cells #[.int .i64 N1, .slice x1 u1 y1, .slice x1' u1' y1'] 53) = we1 := ⟨_, rfl⟩
  have hbwe1 : Below wr1.heap.size wr1 we1 := by rw [← hwe1]; exact balloc (bnil wr1) _
  have T20 := T19.up hbwe1
  clear T19
  have T21 := T20.add (fun wv => wv.cell? ⟨wr1.heap.size, 0, none⟩ = some (.int .i64 N1) ∧ wv.cell? ⟨wr1.heap.size, 1, none⟩ = some (.slice x1 u1 y1) ∧ wv.cell? ⟨wr1.heap.size, 2, none⟩ = some (.slice x1' u1' y1')) (by rw [← hwe1]; exact ⟨cnw (by simp) rfl, cnw (by simp) rfl, cnw (by simp) rfl⟩)
  clear T20
  have Hwe1 := Lib.hid hwe1
  clear hwe1 hbwe1
  have v_m0 : (wr1.alloc (.cells #[.int .i64 N1, .slice x1 u1 y1, .slice x1' u1' y1'] 53)).cell? ⟨w1.heap.size, 0, none⟩ = some (.int .i64 k) := by rw [Hwe1.out]; exact T21.out.1.1.1.1.1.1.2.1
  have v_m1 : (wr1.alloc (.cells #[.int .i64 N1, .slice x1 u1 y1, .slice x1' u1' y1'] 53)).cell? ⟨w1.heap.size, 1, none⟩ = some (.int .i64 r) := by rw [Hwe1.out]; exact T21.out.1.1.1.1.1.1.2.2.1
  have v_m2 : (wr1.alloc (.cells #[.int .i64 N1, .slice x1 u1 y1, .slice x1' u1' y1'] 53)).cell? ⟨w1.heap.size, 2, none⟩ = some (.slice (some ⟨gm, 0, none⟩) n (n + 2)) := by rw [Hwe1.out]; exact T21.out.1.1.1.1.1.1.2.2.2
  go_wp2_with fail
  rw [Hwe1.out]
  refine (pcFixed k r m (some ⟨gm, 0, none⟩) n (n + 2) l we1 R (T21.out.1.1.1.1.1.1.1.1.1.1.1.2).sent (T21.out.1.1.1.1.1.1.1.1.1.1.1.2).sent.glob (LentM.sl T21.out.1.1.1.1.1.1.1.2 hn8).rk (by omega) hnm2).mono ?_; rintro e wp2 ⟨a2, n2, c2, ev2, rfl, hl2, hq2, he2, hbwp2⟩
  clear v_m0 v_m1 v_m2
  have T22 := T21.up hbwp2
  clear T21
  have T23 := T22.add (fun wv => NR wv a2 n2 (limbs (fixedX k r l m))) (hl2)
  clear T22
  have T24 := T23.add (fun wv => EC R wv ev2 (fixedE k r l m)) (he2)
  clear T23
  have HQ2 := Lib.hid hq2
  clear hl2 he2 hq2
  have v_p0 : wp2.cell? ⟨W.heap.size, 0, none⟩ = some (.int .i64 k) := T24.out.1.1.1.1.1.1.1.1.1.1.2.1
  have v_p1 : wp2.cell? ⟨W.heap.size, 1, none⟩ = some (.int .i64 r) := T24.out.1.1.1.1.1.1.1.1.1.1.2.2.1
  have v_p2 : wp2.cell? ⟨W.heap.size, 2, none⟩ = some (.slice a n c) := T24.out.1.1.1.1.1.1.1.1.1.1.2.2.2
  go_wp2_with fail
  refine (refFixed_any k r m a n c l wp2 T24.out.1.1.1.1.1.1.1.1.1.1.1.1.2 hnm).mono ?_; rintro e wr2 ⟨b2, m2, d2, N2, x2, u2, y2, x2', u2', y2', rfl, hl2, hw2, hbwr2⟩
  clear v_p0 v_p1 v_p2
  have T25 := T24.up hbwr2
  clear T24
  have T26 := T25.add (fun wv => NR wv b2 m2 (limbs (fixedX k r l m))) (hl2)
  clear T25
  have T27 := T26.add (fun wv => WC wv (.agg #[.int .i64 N2, .slice x2 u2 y2, .slice x2' u2' y2']) (fixedE k r l m)) (hw2)
  clear T26
  clear hl2 hw2
  obtain ⟨we2, hwe2⟩ : ∃ we2, wr2.alloc (.cells #[.int .i64 N2, .slice x2 u2 y2, .slice x2' u2' y2'] 53) = we2 := ⟨_, rfl⟩
  have hbwe2 : Below wr2.heap.size wr2 we2 := by rw [← hwe2]; exact balloc (bnil wr2) _
  have T28 := T27.up hbwe2
  clear T27
  have T29 := T28.add (fun wv => wv.cell? ⟨wr2.heap.size, 0, none⟩ = some (.int .i64 N2) ∧ wv.cell? ⟨wr2.heap.size, 1, none⟩ = some (.slice x2 u2 y2) ∧ wv.cell? ⟨wr2.heap.size, 2, none⟩ = some (.slice x2' u2' y2')) (by rw [← hwe2]; exact ⟨cnw (by simp) rfl, cnw (by simp) rfl, cnw (by simp) rfl⟩)
  clear T28
  have Hwe2 := Lib.hid hwe2
  clear hwe2 hbwe2
  go_wp2_with fail
  rw [Hwe2.out]
  refine (nats_b a1 b1 n1 m1 c1 d1 (limbs (ringsX k r l wl)) we2 T29.out.1.1.1.1.1.1.1.1.1.2 T29.out.1.1.1.1.1.1.1.2 HQ1.out).mono ?_; rintro e wi1 ⟨rfl, hbwi1⟩
  have T30 := T29.up hbwi1
  clear T29
  have v_e1x0 : wi1.cell? ⟨wr1.heap.size, 0, none⟩ = some (.int .i64 N1) := T30.out.1.1.1.1.1.2.1
  have v_e1x1 : wi1.cell? ⟨wr1.heap.size, 1, none⟩ = some (.slice x1 u1 y1) := T30.out.1.1.1.1.1.2.2.1
  have v_e1x2 : wi1.cell? ⟨wr1.heap.size, 2, none⟩ = some (.slice x1' u1' y1') := T30.out.1.1.1.1.1.2.2.2
  go_wp2_with fail
  refine (rawIs_ch ev1 _ (ringsE k r l wl) wi1 R T30.out.1.1.1.1.1.1.1.1.1.1.1.1.1.1.1.1.2 T30.out.1.1.1.1.1.1.1.1.2 T30.out.1.1.1.1.1.1.2).mono ?_; rintro e wj1 ⟨rfl, hbwj1⟩
  clear v_e1x0 v_e1x1 v_e1x2
  have T31 := T30.up hbwj1
  clear T30
  go_wp2_with fail
  refine (nats_b a2 b2 n2 m2 c2 d2 (limbs (fixedX k r l m)) wj1 T31.out.1.1.1.1.2 T31.out.1.1.2 HQ2.out).mono ?_; rintro e wi2 ⟨rfl, hbwi2⟩
  have T32 := T31.up hbwi2
  clear T31
  have v_e2x0 : wi2.cell? ⟨wr2.heap.size, 0, none⟩ = some (.int .i64 N2) := T32.out.2.1
  have v_e2x1 : wi2.cell? ⟨wr2.heap.size, 1, none⟩ = some (.slice x2 u2 y2) := T32.out.2.2.1
  have v_e2x2 : wi2.cell? ⟨wr2.heap.size, 2, none⟩ = some (.slice x2' u2' y2') := T32.out.2.2.2
  go_wp2_with fail
  refine (rawIs_ch ev2 _ (fixedE k r l m) wi2 R T32.out.1.1.1.1.1.1.1.1.1.1.1.1.1.1.1.1.2 T32.out.1.1.1.2 T32.out.1.2).mono ?_; rintro e wj2 ⟨rfl, hbwj2⟩
  clear v_e2x0 v_e2x1 v_e2x2
  have T33 := T32.up hbwj2
  clear T32
  have v_p0 : wj2.cell? ⟨W.heap.size, 0, none⟩ = some (.int .i64 k) := T33.out.1.1.1.1.1.1.1.1.1.1.1.1.1.2.1
  have v_p1 : wj2.cell? ⟨W.heap.size, 1, none⟩ = some (.int .i64 r) := T33.out.1.1.1.1.1.1.1.1.1.1.1.1.1.2.2.1
  have v_p2 : wj2.cell? ⟨W.heap.size, 2, none⟩ = some (.slice a n c) := T33.out.1.1.1.1.1.1.1.1.1.1.1.1.1.2.2.2
  have v_m0 : wj2.cell? ⟨w1.heap.size, 0, none⟩ = some (.int .i64 k) := T33.out.1.1.1.1.1.1.1.1.1.1.1.2.1
  have v_m1 : wj2.cell? ⟨w1.heap.size, 1, none⟩ = some (.int .i64 r) := T33.out.1.1.1.1.1.1.1.1.1.1.1.2.2.1
  have v_m2 : wj2.cell? ⟨w1.heap.size, 2, none⟩ = some (.slice (some ⟨gm, 0, none⟩) n (n + 2)) := T33.out.1.1.1.1.1.1.1.1.1.1.1.2.2.2
  go_wp2_with fail
  refine (keptRule_any k r gm a n c l wj2 T33.out.1.1.1.1.1.1.1.1.1.1.1.1.2 T33.out.1.1.1.1.1.1.1.1.1.1.1.1.1.1.1.2 hn8).mono ?_; rintro e wk1 ⟨rfl, hbwk1⟩
  clear v_p0 v_p1 v_p2 v_m0 v_m1 v_m2
  have T34 := T33.up hbwk1
  clear T33
  go_wp2_with fail
  refine (kept_any gv nw (nw + 2) cw aw wl wk1 T34.out.1.1.1.1.1.1.1.1.1.1.2 (by omega) (by unfold maxLen; omega) (T34.out.1.1.1.1.1.1.1.1.1.1.1.1.1.1.2).rk h8w).mono ?_; rintro e wk2 ⟨rfl, hbwk2⟩
  have T35 := T34.up hbwk2
  clear T34
  go_wp2
  go_ret
  exact ⟨rfl, T35.out.1.1.1.1.1.1.1.1.1.1.1.1.1.1.1.1.1.2⟩
theorem count_rings_row (k r : Int) (a : Option Addr) (n c : Nat) (l : List Int) (aw : Option Addr) (cw : Nat) (wl : List Int) (m : Int) (W : World) (R : Nat → Addr) (hE : Env W R) (hM : SlI W a n c l)
    (hR1 : Rd W aw wl.length 1 (wl.map (Value.int .i64))) (hl1 : wl.length ≤ cw) (hz1 : cw * 8 ≤ 140737488351232) (hn1 : aw = none → cw = 0) (hx1 : ∀ x ∈ wl, -9223372036854775808 ≤ x ∧ x ≤ 9223372036854775807) :
    Calls Tryd.prog 6 #[ruleV k r a n c, .slice aw wl.length cw, .int .i64 m] W (TrueBelow W) :=
  count_rings k r m a n c l aw wl.length cw wl W R hE hM.rk hM.n8 ⟨⟨rfl, hR1⟩, hl1, by omega, by unfold maxLen; omega, hn1⟩
end Go.Proofs.YteneiianpghalaaDoor
