/- edenlaw06.RingNecks returns true. -/
import Derived.Test.YtjgblanpaanglaaDoorAwk06
import Derived.Test.YtjgblanpaanglaaDoorRngM
import Derived.Deep.RegionHeld3
import Derived.Deep.Cut
import Derived.Deep.QuietTactic
import Derived.BigQuiet
namespace Go.Proofs.YtjgblanpaanglaaDoor
open Go.RowKit
set_option linter.unusedVariables false
set_option maxRecDepth 100000

instance monoEnvN {R : Nat → Addr} : Mono (fun w => Env w R) := ⟨⟨fun hb h => h.up hb⟩⟩
instance monoECN {R : Nat → Addr} {v : Value} {f : ErrD} : Mono (fun w => EC R w v f) := ⟨⟨fun hb h => h.up hb⟩⟩
theorem ringV_lenN (k r : Int) (tb wl : List Int) : (ringV k r tb wl).length ≤ wl.length := by
  unfold ringV
  split
  · rw [ringL_len]; exact Nat.le_refl _
  · exact Nat.zero_le _
theorem ec_ring {R : Nat → Addr} {w : World} {v : Value} {k r : Int} {tb wl : List Int} {x} (h : EC R w v (ringD k r tb wl)) (hx : ringD k r tb wl = some x) : ∃ g, v = .iface 72 (.pointer (some ⟨g, 0, none⟩)) := by
  unfold ringD at hx h
  cases he : ruleErr k r tb with
  | some a => rw [he] at h; exact ec_some h
  | none =>
    rw [he] at h hx
    cases hq : ringE k wl with
    | none => rw [hq] at hx; cases hx
    | some y => rw [hq] at h; exact ec_some h
/-- the neck of a ring with a fault has one, too -/
theorem ringD_neck {k r : Int} {tb wl : List Int} {x} (h : ringD k r tb wl = some x) : ∃ y, ringD k r tb (neckL wl) = some y := by
  cases hq : ringD k r tb (neckL wl) with
  | some y => exact ⟨y, rfl⟩
  | none =>
    obtain ⟨kn, rn, rfl, rfl, hI, hG⟩ := ringD_none hq
    rw [ringD_is hI (neck_ring hG)] at h
    cases h
set_option maxHeartbeats 16000000 in
theorem ring_necks (k r n0 : Int) (a : Option Addr) (n c : Nat) (l : List Int) (aw : Option Addr) (nw cw : Nat) (wl : List Int) (W : World) (R : Nat → Addr) (hE : Env W R) (hR : RK .i64 W a n l) (hnm : n ≤ maxLen) (hW : SlI W aw nw cw wl) :
    Calls Tryd.prog 8 #[ruleV k r a n c, .slice aw nw cw, .int .i64 n0] W (TrueBelow W) := by
  have hmw := hW.nm
  have h8w := hW.n8
  have HLW : Hid (nw = wl.length) := hW.rk.len
  obtain ⟨T, hT⟩ : ∃ T, turnAt n0 nw = T := ⟨_, rfl⟩
  have HT := Lib.hid hT
  have HNR : Hid (neckL (rot wl T) = neckL wl) := by
    show _ = _
    by_cases h0 : nw = 0
    · have hz : wl = [] := List.eq_nil_of_length_eq_zero (by rw [← HLW.out]; exact h0)
      rw [hz]
      simp [rot]
    · exact neck_rot wl T (by rw [← HLW.out, ← hT]; exact Nat.le_of_lt (turn_int n0 nw (by omega)).2)
  have HND : Hid (neckD (rot wl T) = neckD wl) := neckD_rot wl T
  have HLN : Hid ((neckL wl).length ≤ maxLen) := by show _ ≤ _; rw [neck_len, ← HLW.out]; exact hmw
  clear hT
  have T0 := Tk.nil W
  have T1 := T0.add (fun wv => Below W.heap.size W wv) (bnil W)
  clear T0
  have T2 := T1.add (fun wv => Env wv R) (hE)
  clear T1
  have T3 := T2.add (fun wv => RK .i64 wv a n l) (hR)
  clear T2
  have T4 := T3.add (fun wv => SlI wv aw nw cw wl) (hW)
  clear T3
  clear hE hR hW
  obtain ⟨Wb, hWb⟩ : ∃ Wb, W.alloc (.cells #[.int .i64 k, .int .i64 r, .slice a n c] 24) = Wb := ⟨_, rfl⟩
  have hbWb : Below W.heap.size W Wb := by rw [← hWb]; exact balloc (bnil W) _
  have T5 := T4.up hbWb
  clear T4
  have T6 := T5.add (fun wv => wv.cell? ⟨W.heap.size, 0, none⟩ = some (.int .i64 k) ∧ wv.cell? ⟨W.heap.size, 1, none⟩ = some (.int .i64 r) ∧ wv.cell? ⟨W.heap.size, 2, none⟩ = some (.slice a n c)) (by rw [← hWb]; exact ⟨cnw (by simp) rfl, cnw (by simp) rfl, cnw (by simp) rfl⟩)
  clear T5
  have HWb := Lib.hid hWb
  clear hWb hbWb
  go_enter Tryd.func8, Tryd.ntmps8
  go_wp2_with fail
  rw [HWb.out]
  refine (awake06_any Wb R (T6.out.1.1.1.2).sent.glob).mono ?_; rintro e w0 ⟨rfl, hbw0⟩
  have T7 := T6.up hbw0
  clear T6
  by_cases q1 : (200 : Int) < (nw : Int)
  · skip
    go_wp2
    go_ret
    exact ⟨rfl, T7.out.1.1.1.1.2⟩
  have n200 : nw ≤ 200 := by omega
  go_wp2_with fail
  refine (neck_anyE aw nw cw wl w0 R (T7.out.1.1.1.2).sent T7.out.1.2).mono ?_; rintro e w1 ⟨a1, n1, c1, ev1, rfl, hl1, he1, hbw1⟩
  have T8 := T7.up hbw1
  clear T7
  have T9 := T8.add (fun wv => SlI wv a1 n1 c1 (neckL wl)) (hl1)
  clear T8
  have T10 := T9.add (fun wv => EC R wv ev1 (neckD wl)) (he1)
  clear T9
  clear hl1 he1
  go_wp2_with fail
  refine (refneck_any aw nw cw wl w1 T10.out.1.1.1.2).mono ?_; rintro e w2 ⟨b1, m1, d1, N1, x1, u1, y1, x1', u1', y1', rfl, hl, hw, hbw2⟩
  have T11 := T10.up hbw2
  clear T10
  have T12 := T11.add (fun wv => RK .i64 wv b1 m1 (neckL wl)) (hl)
  clear T11
  have T13 := T12.add (fun wv => WC wv (.agg #[.int .i64 N1, .slice x1 u1 y1, .slice x1' u1' y1']) (neckD wl)) (hw)
  clear T12
  clear hl hw
  obtain ⟨we, hwe⟩ : ∃ we, w2.alloc (.cells #[.int .i64 N1, .slice x1 u1 y1, .slice x1' u1' y1'] 43) = we := ⟨_, rfl⟩
  have hbwe : Below w2.heap.size w2 we := by rw [← hwe]; exact balloc (bnil w2) _
  have T14 := T13.up hbwe
  clear T13
  have T15 := T14.add (fun wv => wv.cell? ⟨w2.heap.size, 0, none⟩ = some (.int .i64 N1) ∧ wv.cell? ⟨w2.heap.size, 1, none⟩ = some (.slice x1 u1 y1) ∧ wv.cell? ⟨w2.heap.size, 2, none⟩ = some (.slice x1' u1' y1')) (by rw [← hwe]; exact ⟨cnw (by simp) rfl, cnw (by simp) rfl, cnw (by simp) rfl⟩)
  clear T14
  have Hwe := Lib.hid hwe
  clear hwe hbwe
  go_wp2_with fail
  rw [Hwe.out]
  refine (turn_any aw nw cw wl n0 we (T15.out.1.1.1.1.1.1.2).rk (T15.out.1.1.1.1.1.1.2).le h8w (T15.out.1.1.1.1.1.1.2).mx (T15.out.1.1.1.1.1.1.2).nn).mono ?_; rintro e w3 ⟨a2, c2, rfl, ho2, hbw3⟩
  have T16 := T15.up hbw3
  clear T15
  rw [HT.out] at ho2
  have hs2 : SlI w3 a2 nw c2 (rot wl T) := OwI.sl ⟨ho2⟩ h8w
  clear ho2
  have T17 := T16.add (fun wv => SlI wv a2 nw c2 (rot wl T)) (hs2)
  clear T16
  clear hs2
  go_wp2_with fail
  refine (neck_anyE a2 nw c2 (rot wl T) w3 R (T17.out.1.1.1.1.1.1.1.1.1.2).sent T17.out.2).mono ?_; rintro e w4 ⟨a3, n3, c3, ev3, rfl, hl3, he3, hbw4⟩
  have T18 := T17.up hbw4
  clear T17
  rw [HNR.out] at hl3
  rw [HND.out] at he3
  have T19 := T18.add (fun wv => SlI wv a3 n3 c3 (neckL wl)) (hl3)
  clear T18
  have T20 := T19.add (fun wv => EC R wv ev3 (neckD wl)) (he3)
  clear T19
  clear hl3 he3
  by_cases h0 : nw = 0
  · skip
    have hz : wl = [] := List.eq_nil_of_length_eq_zero (by rw [← HLW.out]; exact h0)
    obtain ⟨g1, e1⟩ : ∃ g, ev1 = .iface 72 (.pointer (some ⟨g, 0, none⟩)) := ec_some (y := (opRing, 0)) (es := []) (n := 3) (by have q := T20.out.1.1.1.1.1.1.2; rw [hz] at q; exact q)
    obtain ⟨g3, e3⟩ : ∃ g, ev3 = .iface 72 (.pointer (some ⟨g, 0, none⟩)) := ec_some (y := (opRing, 0)) (es := []) (n := 3) (by have q := T20.out.2; rw [hz] at q; exact q)
    have HZ := Lib.hid hz
    clear hz h0
    subst e1 e3
    have HS0 : Hid (w4.drew.cell? ⟨w2.heap.size, 0, none⟩ = some (.int .i64 N1) ∧ w4.drew.cell? ⟨w2.heap.size, 1, none⟩ = some (.slice x1 u1 y1) ∧ w4.drew.cell? ⟨w2.heap.size, 2, none⟩ = some (.slice x1' u1' y1')) := ⟨T20.out.1.1.1.2.1, T20.out.1.1.1.2.2.1, T20.out.1.1.1.2.2.2⟩
    have D0 : Hid (Below w4.heap.size w4 w4.drew) := Below.drew (bnil _)
    have HL1 : Hid (RK .i64 w4 a1 n1 (neckL wl)) := (T20.out.1.1.1.1.1.1.1.2).rk
    have HM1 : Hid (RK .i64 w4 b1 m1 (neckL wl)) := T20.out.1.1.1.1.1.2
    have HL3 : Hid (RK .i64 w4 a3 n3 (neckL wl)) := (T20.out.1.2).rk
    have HEN : Hid (Env w4 R) := T20.out.1.1.1.1.1.1.1.1.1.1.1.2
    have HC1 : Hid (EC R w4 (.iface 72 (.pointer (some ⟨g1, 0, none⟩))) (neckD wl)) := T20.out.1.1.1.1.1.1.2
    have HW1 : Hid (WC w4 (.agg #[.int .i64 N1, .slice x1 u1 y1, .slice x1' u1' y1']) (neckD wl)) := T20.out.1.1.1.1.2
    go_upto_region 8 with (fail)
    go_region_held3 (fun w' => w'.cell? ⟨w2.heap.size, 0, none⟩ = some (.int .i64 N1) ∧ w'.cell? ⟨w2.heap.size, 1, none⟩ = some (.slice x1 u1 y1) ∧ w'.cell? ⟨w2.heap.size, 2, none⟩ = some (.slice x1' u1' y1'))
      (first | with_reducible exact HS7.out | with_reducible exact HS6.out | with_reducible exact HS5.out | with_reducible exact HS0.out | go_keep)
      (first
        | (go_at_call 12; (first
            | (with_reducible refine (ints_eqB a3 a1 n3 n1 c3 c1 (neckL wl) w6 (HL3.out.up D6.out) (HL1.out.up D6.out) HLN.out).mono ?_; rintro e w7 ⟨rfl, hb7⟩; have D7 := Lib.hid (bstep D6.out hb7); have HS7 := Lib.hid (And.intro (cpa hb7 (HS6.out).1) (And.intro (cpa hb7 (HS6.out).2.1) (cpa hb7 (HS6.out).2.2))); clear hb7)
            | (with_reducible refine (ints_eqB a1 b1 n1 m1 c1 d1 (neckL wl) _ (HL1.out.up D0.out) (HM1.out.up D0.out) HLN.out).mono ?_; rintro e w5 ⟨rfl, hb5⟩; have D5 := Lib.hid (bstep D0.out hb5); have HS5 := Lib.hid (And.intro (cpa hb5 (HS0.out).1) (And.intro (cpa hb5 (HS0.out).2.1) (cpa hb5 (HS0.out).2.2))); clear hb5)))
        | (go_at_call 24; refine (rawIs_ch _ _ (neckD wl) w5 R (HEN.out.up D5.out) (HC1.out.up D5.out) (HW1.out.up D5.out)).mono ?_; rintro e w6 ⟨rfl, hb6⟩; have D6 := Lib.hid (bstep D5.out hb6); have HS6 := Lib.hid (And.intro (cpa hb6 (HS5.out).1) (And.intro (cpa hb6 (HS5.out).2.1) (cpa hb6 (HS5.out).2.2))); clear hb6))
    have hb7 := D7.out
    clear HS0 HS5 HS6 HS7 D0 D5 D6 D7 HL1 HM1 HL3 HEN HC1 HW1
    have T21 := T20.up hb7
    clear T20
    clear hb7
    have v_p0 : w7.cell? ⟨W.heap.size, 0, none⟩ = some (.int .i64 k) := T21.out.1.1.1.1.1.1.1.1.2.1
    have v_p1 : w7.cell? ⟨W.heap.size, 1, none⟩ = some (.int .i64 r) := T21.out.1.1.1.1.1.1.1.1.2.2.1
    have v_p2 : w7.cell? ⟨W.heap.size, 2, none⟩ = some (.slice a n c) := T21.out.1.1.1.1.1.1.1.1.2.2.2
    go_wp2_with fail
    refine (ringstep_anyE k r a n c l aw nw cw wl w7 R (T21.out.1.1.1.1.1.1.1.1.1.1.1.2).sent T21.out.1.1.1.1.1.1.1.1.1.1.2 hnm T21.out.1.1.1.1.1.1.1.1.1.2).mono ?_; rintro e w8 ⟨a5, n5, c5, ev5, rfl, hl5, he5, hbw8⟩
    clear v_p0 v_p1 v_p2
    have T22 := T21.up hbw8
    clear T21
    have T23 := T22.add (fun wv => SlI wv a5 n5 c5 (ringV k r l wl)) (hl5)
    clear T22
    have T24 := T23.add (fun wv => EC R wv ev5 (ringD k r l wl)) (he5)
    clear T23
    clear hl5 he5
    have v_p0 : w8.cell? ⟨W.heap.size, 0, none⟩ = some (.int .i64 k) := T24.out.1.1.1.1.1.1.1.1.1.1.2.1
    have v_p1 : w8.cell? ⟨W.heap.size, 1, none⟩ = some (.int .i64 r) := T24.out.1.1.1.1.1.1.1.1.1.1.2.2.1
    have v_p2 : w8.cell? ⟨W.heap.size, 2, none⟩ = some (.slice a n c) := T24.out.1.1.1.1.1.1.1.1.1.1.2.2.2
    go_wp2_with fail
    refine (ringstep_anyE k r a n c l a1 n1 c1 (neckL wl) w8 R (T24.out.1.1.1.1.1.1.1.1.1.1.1.1.1.2).sent T24.out.1.1.1.1.1.1.1.1.1.1.1.1.2 hnm T24.out.1.1.1.1.1.1.1.1.1.2).mono ?_; rintro e w9 ⟨a6, n6, c6, ev6, rfl, hl6, he6, hbw9⟩
    clear v_p0 v_p1 v_p2
    have T25 := T24.up hbw9
    clear T24
    have T26 := T25.add (fun wv => SlI wv a6 n6 c6 (ringV k r l (neckL wl))) (hl6)
    clear T25
    have T27 := T26.add (fun wv => EC R wv ev6 (ringD k r l (neckL wl))) (he6)
    clear T26
    clear hl6 he6
    obtain ⟨x, hx⟩ : ∃ x, ringD k r l wl = some x := by
      cases hq : ringD k r l wl with
      | some x => exact ⟨x, rfl⟩
      | none =>
        obtain ⟨kn, rn, _, _, _, hG⟩ := ringD_none hq
        exact absurd hG.l1 (by rw [HZ.out]; simp)
    obtain ⟨y, hy⟩ := ringD_neck hx
    obtain ⟨g5, e5⟩ := ec_ring T27.out.1.1.2 hx
    obtain ⟨g6, e6⟩ := ec_ring T27.out.2 hy
    subst e5 e6
    go_wp2
    go_ret
    exact ⟨rfl, T27.out.1.1.1.1.1.1.1.1.1.1.1.1.1.1.1.1.2⟩
  have hnd : neckD wl = none := by unfold neckD; rw [if_neg (by rw [← HLW.out]; exact h0)]
  have e1 : ev1 = .nilIface := (by have q := T20.out.1.1.1.1.1.1.2; rw [hnd] at q; exact q)
  have e3 : ev3 = .nilIface := (by have q := T20.out.2; rw [hnd] at q; exact q)
  subst e1 e3
  have HNN := Lib.hid hnd
  clear hnd
  have HS0 : Hid (w4.drew.cell? ⟨w2.heap.size, 0, none⟩ = some (.int .i64 N1) ∧ w4.drew.cell? ⟨w2.heap.size, 1, none⟩ = some (.slice x1 u1 y1) ∧ w4.drew.cell? ⟨w2.heap.size, 2, none⟩ = some (.slice x1' u1' y1')) := ⟨T20.out.1.1.1.2.1, T20.out.1.1.1.2.2.1, T20.out.1.1.1.2.2.2⟩
  have D0 : Hid (Below w4.heap.size w4 w4.drew) := Below.drew (bnil _)
  have HL1 : Hid (RK .i64 w4 a1 n1 (neckL wl)) := (T20.out.1.1.1.1.1.1.1.2).rk
  have HM1 : Hid (RK .i64 w4 b1 m1 (neckL wl)) := T20.out.1.1.1.1.1.2
  have HL3 : Hid (RK .i64 w4 a3 n3 (neckL wl)) := (T20.out.1.2).rk
  have HEN : Hid (Env w4 R) := T20.out.1.1.1.1.1.1.1.1.1.1.1.2
  have HC1 : Hid (EC R w4 .nilIface (neckD wl)) := T20.out.1.1.1.1.1.1.2
  have HW1 : Hid (WC w4 (.agg #[.int .i64 N1, .slice x1 u1 y1, .slice x1' u1' y1']) (neckD wl)) := T20.out.1.1.1.1.2
  go_upto_region 8 with (fail)
  go_region_held3 (fun w' => w'.cell? ⟨w2.heap.size, 0, none⟩ = some (.int .i64 N1) ∧ w'.cell? ⟨w2.heap.size, 1, none⟩ = some (.slice x1 u1 y1) ∧ w'.cell? ⟨w2.heap.size, 2, none⟩ = some (.slice x1' u1' y1'))
    (first | with_reducible exact HS7.out | with_reducible exact HS6.out | with_reducible exact HS5.out | with_reducible exact HS0.out | go_keep)
    (first
      | (go_at_call 12; (first
          | (with_reducible refine (ints_eqB a3 a1 n3 n1 c3 c1 (neckL wl) w6 (HL3.out.up D6.out) (HL1.out.up D6.out) HLN.out).mono ?_; rintro e w7 ⟨rfl, hb7⟩; have D7 := Lib.hid (bstep D6.out hb7); have HS7 := Lib.hid (And.intro (cpa hb7 (HS6.out).1) (And.intro (cpa hb7 (HS6.out).2.1) (cpa hb7 (HS6.out).2.2))); clear hb7)
          | (with_reducible refine (ints_eqB a1 b1 n1 m1 c1 d1 (neckL wl) _ (HL1.out.up D0.out) (HM1.out.up D0.out) HLN.out).mono ?_; rintro e w5 ⟨rfl, hb5⟩; have D5 := Lib.hid (bstep D0.out hb5); have HS5 := Lib.hid (And.intro (cpa hb5 (HS0.out).1) (And.intro (cpa hb5 (HS0.out).2.1) (cpa hb5 (HS0.out).2.2))); clear hb5)))
      | (go_at_call 24; refine (rawIs_ch _ _ (neckD wl) w5 R (HEN.out.up D5.out) (HC1.out.up D5.out) (HW1.out.up D5.out)).mono ?_; rintro e w6 ⟨rfl, hb6⟩; have D6 := Lib.hid (bstep D5.out hb6); have HS6 := Lib.hid (And.intro (cpa hb6 (HS5.out).1) (And.intro (cpa hb6 (HS5.out).2.1) (cpa hb6 (HS5.out).2.2))); clear hb6))
  have hb7 := D7.out
  clear HS0 HS5 HS6 HS7 D0 D5 D6 D7 HL1 HM1 HL3 HEN HC1 HW1
  have T21 := T20.up hb7
  clear T20
  clear hb7
  have v_p0 : w7.cell? ⟨W.heap.size, 0, none⟩ = some (.int .i64 k) := T21.out.1.1.1.1.1.1.1.1.2.1
  have v_p1 : w7.cell? ⟨W.heap.size, 1, none⟩ = some (.int .i64 r) := T21.out.1.1.1.1.1.1.1.1.2.2.1
  have v_p2 : w7.cell? ⟨W.heap.size, 2, none⟩ = some (.slice a n c) := T21.out.1.1.1.1.1.1.1.1.2.2.2
  go_wp2_with fail
  refine (ringstep_anyE k r a n c l aw nw cw wl w7 R (T21.out.1.1.1.1.1.1.1.1.1.1.1.2).sent T21.out.1.1.1.1.1.1.1.1.1.1.2 hnm T21.out.1.1.1.1.1.1.1.1.1.2).mono ?_; rintro e w8 ⟨a5, n5, c5, ev5, rfl, hl5, he5, hbw8⟩
  clear v_p0 v_p1 v_p2
  have T22 := T21.up hbw8
  clear T21
  have T23 := T22.add (fun wv => SlI wv a5 n5 c5 (ringV k r l wl)) (hl5)
  clear T22
  have T24 := T23.add (fun wv => EC R wv ev5 (ringD k r l wl)) (he5)
  clear T23
  clear hl5 he5
  have v_p0 : w8.cell? ⟨W.heap.size, 0, none⟩ = some (.int .i64 k) := T24.out.1.1.1.1.1.1.1.1.1.1.2.1
  have v_p1 : w8.cell? ⟨W.heap.size, 1, none⟩ = some (.int .i64 r) := T24.out.1.1.1.1.1.1.1.1.1.1.2.2.1
  have v_p2 : w8.cell? ⟨W.heap.size, 2, none⟩ = some (.slice a n c) := T24.out.1.1.1.1.1.1.1.1.1.1.2.2.2
  go_wp2_with fail
  refine (ringstep_anyE k r a n c l a1 n1 c1 (neckL wl) w8 R (T24.out.1.1.1.1.1.1.1.1.1.1.1.1.1.2).sent T24.out.1.1.1.1.1.1.1.1.1.1.1.1.2 hnm T24.out.1.1.1.1.1.1.1.1.1.2).mono ?_; rintro e w9 ⟨a6, n6, c6, ev6, rfl, hl6, he6, hbw9⟩
  clear v_p0 v_p1 v_p2
  have T25 := T24.up hbw9
  clear T24
  have T26 := T25.add (fun wv => SlI wv a6 n6 c6 (ringV k r l (neckL wl))) (hl6)
  clear T25
  have T27 := T26.add (fun wv => EC R wv ev6 (ringD k r l (neckL wl))) (he6)
  clear T26
  clear hl6 he6
  cases hx : ringD k r l wl with
  | some x =>
    obtain ⟨y, hy⟩ := ringD_neck hx
    obtain ⟨g5, e5⟩ := ec_ring T27.out.1.1.2 hx
    obtain ⟨g6, e6⟩ := ec_ring T27.out.2 hy
    subst e5 e6
    go_wp2
    go_ret
    exact ⟨rfl, T27.out.1.1.1.1.1.1.1.1.1.1.1.1.1.1.1.1.2⟩
  | none =>
    obtain ⟨kn, rn, ek, er, hI, hG⟩ := ringD_none hx
    have hx2 : ringD k r l (neckL wl) = none := by rw [ek, er]; exact ringD_is hI (ring_neck hG)
    have e5 : ev5 = .nilIface := (by have q := T27.out.1.1.2; rw [hx] at q; exact q)
    have e6 : ev6 = .nilIface := (by have q := T27.out.2; rw [hx2] at q; exact q)
    have v5 : ringV k r l wl = ringL kn rn l wl := by unfold ringV; rw [hx, ek, er]; rfl
    have v6 : ringV k r l (neckL wl) = ringL kn rn l (neckL wl) := by unfold ringV; rw [hx2, ek, er]; rfl
    have HNE : Hid (neckL (ringV k r l (neckL wl)) = neckL (ringV k r l wl)) := by show _ = _; rw [v5, v6]; exact neck_image hG.l1
    have hn5 : n5 = wl.length := by rw [(T27.out.1.1.1.2).rk.len, v5, ringL_len]
    have hd5 : neckD (ringV k r l wl) = none := by unfold neckD; rw [v5, ringL_len, if_neg (by rw [← HLW.out]; exact h0)]
    have hd6 : neckD (ringV k r l (neckL wl)) = none := by unfold neckD; rw [v6, ringL_len, neck_len, if_neg (by rw [← HLW.out]; exact h0)]
    have HV5 := Lib.hid (And.intro hd5 hd6)
    have HLV : Hid ((neckL (ringV k r l wl)).length ≤ maxLen) := by show _ ≤ _; rw [neck_len, v5, ringL_len, ← HLW.out]; exact hmw
    clear hx hx2 v5 v6 hn5 hd5 hd6 hI hG ek er
    subst e5 e6
    go_wp2_with fail
    refine (neck_anyE a5 n5 c5 (ringV k r l wl) w9 R (T27.out.1.1.1.1.1.1.1.1.1.1.1.1.1.1.1.2).sent T27.out.1.1.1.2).mono ?_; rintro e v1 ⟨a7, n7, c7, ev7, rfl, hl7, he7, hbv1⟩
    have T28 := T27.up hbv1
    clear T27
    rw [HV5.out.1] at he7
    have e7 : ev7 = .nilIface := he7
    subst e7
    clear he7
    have T29 := T28.add (fun wv => SlI wv a7 n7 c7 (neckL (ringV k r l wl))) (hl7)
    clear T28
    clear hl7
    go_wp2_with fail
    refine (neck_anyE a6 n6 c6 (ringV k r l (neckL wl)) v1 R (T29.out.1.1.1.1.1.1.1.1.1.1.1.1.1.1.1.1.2).sent T29.out.1.1.2).mono ?_; rintro e v2 ⟨a8, n8, c8, ev8, rfl, hl8, he8, hbv2⟩
    have T30 := T29.up hbv2
    clear T29
    rw [HV5.out.2] at he8
    have e8 : ev8 = .nilIface := he8
    subst e8
    clear he8
    rw [HNE.out] at hl8
    have T31 := T30.add (fun wv => SlI wv a8 n8 c8 (neckL (ringV k r l wl))) (hl8)
    clear T30
    clear hl8
    go_wp2_with fail
    refine (ints_eqB a7 a8 n7 n8 c7 c8 (neckL (ringV k r l wl)) v2 (T31.out.1.2).rk (T31.out.2).rk HLV.out).mono ?_; rintro e v3 ⟨rfl, hbv3⟩
    have T32 := T31.up hbv3
    clear T31
    go_wp2
    go_ret
    exact ⟨rfl, T32.out.1.1.1.1.1.1.1.1.1.1.1.1.1.1.1.1.1.1.2⟩
theorem ring_necks_row (k r : Int) (a : Option Addr) (n c : Nat) (l : List Int) (aw : Option Addr) (cw : Nat) (wl : List Int) (n0 : Int) (W : World) (R : Nat → Addr) (hE : Env W R) (hM : SlI W a n c l)
    (hR1 : Rd W aw wl.length 1 (wl.map (Value.int .i64))) (hl1 : wl.length ≤ cw) (hz1 : cw * 8 ≤ 140737488351232) (hn1 : aw = none → cw = 0) (hx1 : ∀ x ∈ wl, -9223372036854775808 ≤ x ∧ x ≤ 9223372036854775807) :
    Calls Tryd.prog 8 #[ruleV k r a n c, .slice aw wl.length cw, .int .i64 n0] W (TrueBelow W) :=
  ring_necks k r n0 a n c l aw wl.length cw wl W R hE hM.rk hM.nm ⟨⟨rfl, hR1⟩, hl1, by omega, by unfold maxLen; omega, hn1⟩
end Go.Proofs.YtjgblanpaanglaaDoor
