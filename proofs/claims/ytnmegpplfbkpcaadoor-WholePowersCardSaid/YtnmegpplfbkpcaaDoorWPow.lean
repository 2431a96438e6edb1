/- edentop.WholePowers returns true. -/
import Derived.Test.YtnmegpplfbkpcaaDoorWpoA
namespace Go.Proofs.YtnmegpplfbkpcaaDoor
open Go.RowKit
set_option linter.unusedVariables false
set_option maxRecDepth 100000

instance monoSentS {R : Nat → Addr} : Mono (fun w => Sent w R) := ⟨⟨fun hb h => h.up hb⟩⟩
instance monoSlS {a : Option Addr} {n c : Nat} {l : List Int} : Mono (fun w => SlI w a n c l) := ⟨⟨fun hb h => h.up hb⟩⟩
instance monoRowS {aL aC aR : Option Addr} {nL cL nC cC nR cR : Nat} {L C Q : List Int} : Mono (fun w => RowM w aL nL cL L aC nC cC C aR nR cR Q) := ⟨⟨fun hb h => h.up hb⟩⟩
instance monoECS {R : Nat → Addr} {v : Value} {f : ErrD} : Mono (fun w => EC R w v f) := ⟨⟨fun hb h => h.up hb⟩⟩
theorem ints_eqS (a1 a2 : Option Addr) (n1 n2 c1 c2 : Nat) (l1 l2 : List Int) (W : World) (h1 : SlI W a1 n1 c1 l1) (h2 : SlI W a2 n2 c2 l2) (e : l1 = l2) :
    Calls Tryd.prog 9 #[.slice a1 n1 c1, .slice a2 n2 c2] W fun e w' => e = .returned (.bool true) ∧ Below W.heap.size W w' := by
  subst e
  exact ints_eqB a1 a2 n1 n2 c1 c2 l1 W h1.rk h2.rk (by rw [← h1.rk.len]; exact h1.nm)
theorem pow_or (k r t : Int) (tb : List Int) : ((∃ x, ruleErr k r tb = some x) ∨ ∃ kn rn : Nat, k = kn ∧ r = rn ∧ IsRule kn rn tb ∧ (t < 0 ∨ 0 < rn ∧ ((3 / rn : Nat) : Int) < t)) ∨ ∃ kn rn tn : Nat, k = kn ∧ r = rn ∧ t = tn ∧ IsRule kn rn tb ∧ rn * tn ≤ 3 := by
  cases h : ruleErr k r tb with
  | some x => exact .inl (.inl ⟨x, rfl⟩)
  | none =>
    obtain ⟨kn, rn, rfl, rfl, hI⟩ := ruleErr_none h
    by_cases t0 : t < 0
    · exact .inl (.inr ⟨kn, rn, rfl, rfl, hI, .inl t0⟩)
    · obtain ⟨tn, rfl⟩ : ∃ tn : Nat, t = (tn : Int) := ⟨t.toNat, by omega⟩
      by_cases hr : 0 < rn
      · by_cases hq : 3 / rn < tn
        · exact .inl (.inr ⟨kn, rn, rfl, rfl, hI, .inr ⟨hr, by omega⟩⟩)
        · exact .inr ⟨kn, rn, tn, rfl, rfl, rfl, hI, by
            have h2 : tn ≤ 3 / rn := by omega
            have h3 := (Nat.le_div_iff_mul_le hr).1 h2
            rwa [Nat.mul_comm] at h3⟩
      · obtain rfl : rn = 0 := by omega
        exact .inr ⟨kn, 0, tn, rfl, rfl, rfl, hI, by omega⟩
/-- what rings show: both wrong, or both right and alike -/
theorem rings_or {k r t R : Nat} {tb tp wl : List Int} (hp : PowR k r tb t R tp) : (∃ x, aftD k r tb wl t = some x) ∨ (aftD k r tb wl t = none ∧ ringD k R tp wl = none ∧ aftV k r tb wl t = ringV k R tp wl) := by
  cases h : aftD (k : Int) (r : Int) tb wl (t : Int) with
  | some x => exact .inl ⟨x, rfl⟩
  | none =>
    obtain ⟨kn, rn, tn, e1, e2, e3, hI, hG, _⟩ := aft_none h
    obtain rfl : k = kn := by omega
    obtain rfl : r = rn := by omega
    obtain rfl : t = tn := by omega
    have hd := ringD_is hp.is hG
    refine .inr ⟨rfl, hd, ?_⟩
    unfold aftV ringV
    rw [h, hd]
    simp only [Int.toNat_natCast]
    exact (ring_pow hp hG).symm

set_option maxHeartbeats 32000000 in
theorem whole_powers (k r t : Int) (a : Option Addr) (T c : Nat) (tb : List Int) (aw : Option Addr) (nw cw : Nat) (wl : List Int) (p : Int) (aL : Option Addr) (nL cL : Nat) (L : List Int) (aC : Option Addr) (nC cC : Nat) (C : List Int) (aR : Option Addr) (nR cR : Nat) (Q : List Int) (W : World) (R : Nat → Addr) (hS : Sent W R)
    (hT : SlI W a T c tb) (htm : t ≤ 9223372036854775807) (hW : SlI W aw nw cw wl) (hM : RowM W aL nL cL L aC nC cC C aR nR cR Q) :
    Calls Tryd.prog 3 #[ruleV k r a T c, .int .i64 t, .slice aw nw cw, rowV p aL nL cL aC nC cC aR nR cR] W (TrueBelow W) := by
  have hTm := hT.nm
  have hnm := hM.c.nm
  have hlm := hM.l.nm
  have hrm := hM.r.nm
  unfold maxLen at hnm hlm hrm
  have T0 := Tk.nil W
  have T1 := T0.add (fun wv => Below W.heap.size W wv) (bnil W)
  clear T0
  have T2 := T1.add (fun wv => Sent wv R) (hS)
  clear T1
  have T3 := T2.add (fun wv => SlI wv a T c tb) (hT)
  clear T2
  have T4 := T3.add (fun wv => SlI wv aw nw cw wl) (hW)
  clear T3
  have T5 := T4.add (fun wv => RowM wv aL nL cL L aC nC cC C aR nR cR Q) (hM)
  clear T4
  clear hS hT hW hM
  obtain ⟨Wb, hWb⟩ : ∃ Wb, (W.alloc (.cells #[.int .i64 k, .int .i64 r, .slice a T c] 24)).alloc (.cells #[.int .i64 p, .slice aL nL cL, .slice aC nC cC, .slice aR nR cR] 26) = Wb := ⟨_, rfl⟩
  have hbWb : Below W.heap.size W Wb := by rw [← hWb]; exact balloc (balloc (bnil W) _) _
  have T6 := T5.up hbWb
  clear T5
  have T7 := T6.add (fun wv => wv.cell? ⟨W.heap.size, 0, none⟩ = some (.int .i64 k) ∧ wv.cell? ⟨W.heap.size, 1, none⟩ = some (.int .i64 r) ∧ wv.cell? ⟨W.heap.size, 2, none⟩ = some (.slice a T c)) (by rw [← hWb]; exact ⟨al000 (cnw (by simp) rfl), al000 (cnw (by simp) rfl), al000 (cnw (by simp) rfl)⟩)
  clear T6
  have T8 := T7.add (fun wv => wv.cell? ⟨W.heap.size + 1, 0, none⟩ = some (.int .i64 p) ∧ wv.cell? ⟨W.heap.size + 1, 1, none⟩ = some (.slice aL nL cL) ∧ wv.cell? ⟨W.heap.size + 1, 2, none⟩ = some (.slice aC nC cC) ∧ wv.cell? ⟨W.heap.size + 1, 3, none⟩ = some (.slice aR nR cR)) (by rw [← hWb]; exact ⟨cnw (by simp) rfl, cnw (by simp) rfl, cnw (by simp) rfl, cnw (by simp) rfl⟩)
  clear T7
  have HWb := Lib.hid hWb
  clear hWb hbWb
  rcases pow_or k r t tb with herr | ⟨kn, rn, tn, rfl, rfl, rfl, hI, hrt⟩
  · skip
    have HER := Lib.hid herr
    clear herr
    go_enter Tryd.func3, Tryd.ntmps3
    go_wp2_with fail
    rw [HWb.out]
    refine (steps_any Wb).mono ?_; rintro e w1 ⟨rfl, hbw1⟩
    have T9 := T8.up hbw1
    clear T8
    have v_r0 : w1.cell? ⟨W.heap.size, 0, none⟩ = some (.int .i64 k) := T9.out.1.2.1
    have v_r1 : w1.cell? ⟨W.heap.size, 1, none⟩ = some (.int .i64 r) := T9.out.1.2.2.1
    have v_r2 : w1.cell? ⟨W.heap.size, 2, none⟩ = some (.slice a T c) := T9.out.1.2.2.2
    go_wp2_with fail
    refine (fpower_err k r t a T c tb w1 R (T9.out.1.1.1.1.1.2).glob (T9.out.1.1.1.1.2).rk hTm HER.out).mono ?_; rintro e w2 ⟨ty, pv, rfl, hbw2⟩
    clear v_r0 v_r1 v_r2
    have T10 := T9.up hbw2
    clear T9
    go_wp2
    go_ret
    exact ⟨rfl, balloc (T10.out.1.1.1.1.1.1.2) _⟩
  · skip
    have HI := Lib.hid hI
    have HRT := Lib.hid hrt
    have htn : tn ≤ 9223372036854775807 := by omega
    clear hI hrt htm
    go_enter Tryd.func3, Tryd.ntmps3
    go_wp2_with fail
    rw [HWb.out]
    refine (steps_any Wb).mono ?_; rintro e w1 ⟨rfl, hbw1⟩
    have T9 := T8.up hbw1
    clear T8
    have v_r0 : w1.cell? ⟨W.heap.size, 0, none⟩ = some (.int .i64 kn) := T9.out.1.2.1
    have v_r1 : w1.cell? ⟨W.heap.size, 1, none⟩ = some (.int .i64 rn) := T9.out.1.2.2.1
    have v_r2 : w1.cell? ⟨W.heap.size, 2, none⟩ = some (.slice a T c) := T9.out.1.2.2.2
    go_wp2_with fail
    refine (fpower_ok kn rn tn a T c tb w1 (T9.out.1.1.1.1.2).rk HI.out HRT.out htn).mono ?_; rintro e w2 ⟨aT, RR, TT, tp, rfl, hrk, hpw, hbw2⟩
    clear v_r0 v_r1 v_r2
    have T10 := T9.up hbw2
    clear T9
    have T11 := T10.add (fun wv => RK .i64 wv (some ⟨aT, 0, none⟩) TT tp) (hrk)
    clear T10
    have HPW := Lib.hid hpw
    clear hrk hpw
    have hTT : TT ≤ maxLen := by rw [(T11.out.2).len, HPW.out.is.len]; exact Nat.le_trans (rpow_le HPW.out.is.k4 (by have := HPW.out.is.r3; omega)) (by unfold maxLen; decide)
    obtain ⟨w3, hw3⟩ : ∃ w3, w2.alloc (.cells #[.int .i64 kn, .int .i64 RR, .slice (some ⟨aT, 0, none⟩) TT TT] 24) = w3 := ⟨_, rfl⟩
    have hbw3 : Below w2.heap.size w2 w3 := by rw [← hw3]; exact balloc (bnil w2) _
    have T12 := T11.up hbw3
    clear T11
    have T13 := T12.add (fun wv => wv.cell? ⟨w2.heap.size, 0, none⟩ = some (.int .i64 kn) ∧ wv.cell? ⟨w2.heap.size, 1, none⟩ = some (.int .i64 RR) ∧ wv.cell? ⟨w2.heap.size, 2, none⟩ = some (.slice (some ⟨aT, 0, none⟩) TT TT)) (by rw [← hw3]; exact ⟨cnw (by simp) rfl, cnw (by simp) rfl, cnw (by simp) rfl⟩)
    clear T12
    have Hw3 := Lib.hid hw3
    clear hw3 hbw3
    by_cases h40 : 40 < tn
    · skip
      have h40i : (40 : Int) < (tn : Int) := by omega
      go_wp2
      rw [Hw3.out]
      go_ret
      exact ⟨rfl, T13.out.1.1.1.1.1.1.1.1.2⟩
    · skip
      have h40i : ¬ (40 : Int) < (tn : Int) := by omega
      have v_r0 : (w2.alloc (.cells #[.int .i64 kn, .int .i64 RR, .slice (some ⟨aT, 0, none⟩) TT TT] 24)).cell? ⟨W.heap.size, 0, none⟩ = some (.int .i64 kn) := by rw [Hw3.out]; exact T13.out.1.1.1.2.1
      have v_r1 : (w2.alloc (.cells #[.int .i64 kn, .int .i64 RR, .slice (some ⟨aT, 0, none⟩) TT TT] 24)).cell? ⟨W.heap.size, 1, none⟩ = some (.int .i64 rn) := by rw [Hw3.out]; exact T13.out.1.1.1.2.2.1
      have v_r2 : (w2.alloc (.cells #[.int .i64 kn, .int .i64 RR, .slice (some ⟨aT, 0, none⟩) TT TT] 24)).cell? ⟨W.heap.size, 2, none⟩ = some (.slice a T c) := by rw [Hw3.out]; exact T13.out.1.1.1.2.2.2
      go_wp2_with fail
      rw [Hw3.out]
      refine (rafter_anyE kn rn tn a T c tb aw nw cw wl w3 R T13.out.1.1.1.1.1.1.1.2 (T13.out.1.1.1.1.1.1.2).rk hTm T13.out.1.1.1.1.1.2).mono ?_; rintro e w4 ⟨a1, n1, c1, ev1, rfl, hs1, he1, hbw4⟩
      clear v_r0 v_r1 v_r2
      have T14 := T13.up hbw4
      clear T13
      have T15 := T14.add (fun wv => SlI wv a1 n1 c1 (aftV kn rn tb wl tn)) (hs1)
      clear T14
      have T16 := T15.add (fun wv => EC R wv ev1 (aftD kn rn tb wl tn)) (he1)
      clear T15
      clear hs1 he1
      have v_p0 : w4.cell? ⟨w2.heap.size, 0, none⟩ = some (.int .i64 kn) := T16.out.1.1.2.1
      have v_p1 : w4.cell? ⟨w2.heap.size, 1, none⟩ = some (.int .i64 RR) := T16.out.1.1.2.2.1
      have v_p2 : w4.cell? ⟨w2.heap.size, 2, none⟩ = some (.slice (some ⟨aT, 0, none⟩) TT TT) := T16.out.1.1.2.2.2
      go_wp2_with fail
      refine (ringstep_anyE kn RR (some ⟨aT, 0, none⟩) TT TT tp aw nw cw wl w4 R T16.out.1.1.1.1.1.1.1.1.1.2 T16.out.1.1.1.2 hTT T16.out.1.1.1.1.1.1.1.2).mono ?_; rintro e w5 ⟨a2, n2, c2, ev2, rfl, hs2, he2, hbw5⟩
      clear v_p0 v_p1 v_p2
      have T17 := T16.up hbw5
      clear T16
      have T18 := T17.add (fun wv => SlI wv a2 n2 c2 (ringV kn RR tp wl)) (hs2)
      clear T17
      have T19 := T18.add (fun wv => EC R wv ev2 (ringD kn RR tp wl)) (he2)
      clear T18
      clear hs2 he2
      have HC1 := Lib.hid (T19.out.1.1.2)
      have HC2 := Lib.hid (T19.out.2)
      rcases rings_or (wl := wl) HPW.out with ⟨x9, hx9⟩ | ⟨h1, h2, h3⟩
      · skip
        rw [hx9] at HC1
        obtain ⟨t9, p9, rfl⟩ := Chain.iface HC1.out
        clear hx9 HC1 HC2
        cases hre : rowErr (kn : Int) p L C Q with
        | some y =>
          have HRE := Lib.hid hre
          clear hre
          have v_r0 : w5.cell? ⟨W.heap.size, 0, none⟩ = some (.int .i64 kn) := T19.out.1.1.1.1.1.1.1.2.1
          have v_r1 : w5.cell? ⟨W.heap.size, 1, none⟩ = some (.int .i64 rn) := T19.out.1.1.1.1.1.1.1.2.2.1
          have v_r2 : w5.cell? ⟨W.heap.size, 2, none⟩ = some (.slice a T c) := T19.out.1.1.1.1.1.1.1.2.2.2
          have v_x0 : w5.cell? ⟨W.heap.size + 1, 0, none⟩ = some (.int .i64 p) := T19.out.1.1.1.1.1.1.2.1
          have v_x1 : w5.cell? ⟨W.heap.size + 1, 1, none⟩ = some (.slice aL nL cL) := T19.out.1.1.1.1.1.1.2.2.1
          have v_x2 : w5.cell? ⟨W.heap.size + 1, 2, none⟩ = some (.slice aC nC cC) := T19.out.1.1.1.1.1.1.2.2.2.1
          have v_x3 : w5.cell? ⟨W.heap.size + 1, 3, none⟩ = some (.slice aR nR cR) := T19.out.1.1.1.1.1.1.2.2.2.2
          go_wp2_with fail
          refine (rowcheck_err kn p aL aC aR nL cL nC cC nR cR L C Q w5 R (T19.out.1.1.1.1.1.1.1.1.1.1.1.2).glob T19.out.1.1.1.1.1.1.1.1.2 y HRE.out).mono ?_; rintro e x1 ⟨g9, rfl, _, hbx1⟩
          clear v_r0 v_r1 v_r2 v_x0 v_x1 v_x2 v_x3
          have T20 := T19.up hbx1
          clear T19
          have v_x0 : x1.cell? ⟨W.heap.size + 1, 0, none⟩ = some (.int .i64 p) := T20.out.1.1.1.1.1.1.2.1
          have v_x1 : x1.cell? ⟨W.heap.size + 1, 1, none⟩ = some (.slice aL nL cL) := T20.out.1.1.1.1.1.1.2.2.1
          have v_x2 : x1.cell? ⟨W.heap.size + 1, 2, none⟩ = some (.slice aC nC cC) := T20.out.1.1.1.1.1.1.2.2.2.1
          have v_x3 : x1.cell? ⟨W.heap.size + 1, 3, none⟩ = some (.slice aR nR cR) := T20.out.1.1.1.1.1.1.2.2.2.2
          go_wp2
          go_ret
          exact ⟨rfl, T20.out.1.1.1.1.1.1.1.1.1.1.1.1.2⟩
        | none =>
          obtain ⟨kn2, hk2, hrow⟩ := rowErr_none hre
          obtain rfl : kn = kn2 := by omega
          have HRW := Lib.hid hrow
          clear hre hrow hk2
          have v_r0 : w5.cell? ⟨W.heap.size, 0, none⟩ = some (.int .i64 kn) := T19.out.1.1.1.1.1.1.1.2.1
          have v_r1 : w5.cell? ⟨W.heap.size, 1, none⟩ = some (.int .i64 rn) := T19.out.1.1.1.1.1.1.1.2.2.1
          have v_r2 : w5.cell? ⟨W.heap.size, 2, none⟩ = some (.slice a T c) := T19.out.1.1.1.1.1.1.1.2.2.2
          have v_x0 : w5.cell? ⟨W.heap.size + 1, 0, none⟩ = some (.int .i64 p) := T19.out.1.1.1.1.1.1.2.1
          have v_x1 : w5.cell? ⟨W.heap.size + 1, 1, none⟩ = some (.slice aL nL cL) := T19.out.1.1.1.1.1.1.2.2.1
          have v_x2 : w5.cell? ⟨W.heap.size + 1, 2, none⟩ = some (.slice aC nC cC) := T19.out.1.1.1.1.1.1.2.2.2.1
          have v_x3 : w5.cell? ⟨W.heap.size + 1, 3, none⟩ = some (.slice aR nR cR) := T19.out.1.1.1.1.1.1.2.2.2.2
          go_wp2_with fail
          refine (rowcheck_ok kn p aL aC aR nL cL nC cC nR cR L C Q w5 R (T19.out.1.1.1.1.1.1.1.1.1.1.1.2).glob T19.out.1.1.1.1.1.1.1.1.2 HRW.out).mono ?_; rintro e x1 ⟨rfl, hbx1⟩
          clear v_r0 v_r1 v_r2 v_x0 v_x1 v_x2 v_x3
          have T20 := T19.up hbx1
          clear T19
          have v_x0 : x1.cell? ⟨W.heap.size + 1, 0, none⟩ = some (.int .i64 p) := T20.out.1.1.1.1.1.1.2.1
          have v_x1 : x1.cell? ⟨W.heap.size + 1, 1, none⟩ = some (.slice aL nL cL) := T20.out.1.1.1.1.1.1.2.2.1
          have v_x2 : x1.cell? ⟨W.heap.size + 1, 2, none⟩ = some (.slice aC nC cC) := T20.out.1.1.1.1.1.1.2.2.2.1
          have v_x3 : x1.cell? ⟨W.heap.size + 1, 3, none⟩ = some (.slice aR nR cR) := T20.out.1.1.1.1.1.1.2.2.2.2
          by_cases hp4 : p < -4000
          · skip
            skip
            go_wp2
            go_ret
            exact ⟨rfl, T20.out.1.1.1.1.1.1.1.1.1.1.1.1.2⟩
          · skip
            skip
            by_cases hc4 : 400 < nC
            · skip
              have hc4i : (400 : Int) < (nC : Int) := by omega
              go_wp2
              go_ret
              exact ⟨rfl, T20.out.1.1.1.1.1.1.1.1.1.1.1.1.2⟩
            · skip
              have hc4i : ¬ (400 : Int) < (nC : Int) := by omega
              by_cases hl4 : 40 < nL
              · skip
                have hl4i : (40 : Int) < (nL : Int) := by omega
                go_wp2
                go_ret
                exact ⟨rfl, T20.out.1.1.1.1.1.1.1.1.1.1.1.1.2⟩
              · skip
                have hl4i : ¬ (40 : Int) < (nL : Int) := by omega
                by_cases hr4 : 40 < nR
                · skip
                  have hr4i : (40 : Int) < (nR : Int) := by omega
                  go_wp2
                  go_ret
                  exact ⟨rfl, T20.out.1.1.1.1.1.1.1.1.1.1.1.1.2⟩
                · skip
                  have hr4i : ¬ (40 : Int) < (nR : Int) := by omega
                  obtain ⟨gy, hgy⟩ : ∃ gy, x1.heap.size = gy := ⟨_, rfl⟩
                  obtain ⟨x2, hx2⟩ : ∃ x2, x1.alloc (.cells #[.int .i64 p, .slice aL nL cL, .slice aC nC cC, .slice aR nR cR] 26) = x2 := ⟨_, rfl⟩
                  have HZY : Hid (x2.heap[gy]? = some (.cells #[.int .i64 p, .slice aL nL cL, .slice aC nC cC, .slice aR nR cR] 26)) := by show _ = _; rw [← hx2, ← hgy]; exact heap_alloc_new x1 _
                  have HBY : Hid (Below x1.heap.size x1 x2) := by rw [← hx2]; exact balloc (bnil x1) _
                  have HMY : Hid (∀ b o, aL = some ⟨b, o, none⟩ ∨ aC = some ⟨b, o, none⟩ ∨ aR = some ⟨b, o, none⟩ → nL ≠ 0 ∧ nC ≠ 0 ∧ nR ≠ 0 → b ≠ gy) := fun b o e hn => by
                    rcases e with e | e | e
                    · subst e; have := rk_ltP (T20.out.1.1.1.1.1.1.1.1.2).l.rk (by omega); omega
                    · subst e; have := rk_ltP (T20.out.1.1.1.1.1.1.1.1.2).c.rk (by omega); omega
                    · subst e; have := rk_ltP (T20.out.1.1.1.1.1.1.1.1.2).r.rk (by omega); omega
                  have HX2 := Lib.hid hx2
                  have HGY := Lib.hid hgy
                  clear hx2 hgy
                  go_wp2_with fail
                  rw [HX2.out]
                  simp only [HGY.out]
                  clear v_x0 v_x1 v_x2 v_x3
                  go_loopw [16] (fun ix wr => ∃ i d q bL dL bC mC dC bR dR L' C' Q', i ≤ tn ∧ ix = .int .i64 (i : Nat) ∧ RowIt kn rn tb p (cellF p L C Q) nC i d q mC L' C' Q' ∧ RowM wr bL nL dL L' bC mC dC C' bR nR dR Q' ∧ wr.heap[gy]? = some (.cells #[.int .i64 q, .slice bL nL dL, .slice bC mC dC, .slice bR nR dR] 26) ∧ Below x1.heap.size x1 wr) (fun ix _ => tn - (intOf ix).toNat)
                  case atStart => exact ⟨0, 0, p, aL, cL, aC, nC, cC, aR, cR, L, C, Q, Nat.zero_le _, rfl, rowIt_zero HRW.out, (T20.out.1.1.1.1.1.1.1.1.2).up HBY.out, HZY.out, HBY.out⟩
                  case round =>
                    clear HZY HBY HMY
                    obtain ⟨i, d, q, bL, dL, bC, mC, dC, bR, dR, L', C', Q', hi, rfl, hit, hm, hzy, hb⟩ := hrel
                    generalize wr = x3 at *
                    have HIT := Lib.hid hit
                    have HM := Lib.hid hm
                    have HZY := Lib.hid hzy
                    have hd3 : d ≤ 3 := by
                      rw [hit.dd]
                      exact Nat.le_trans (Nat.mul_le_mul_left _ hi) HRT.out
                    have HMC := Lib.hid hit.nc
                    have HQE := Lib.hid hit.at_
                    have HGX : Hid (x1.heap.size = gy) := HGY.out
                    clear hit hm hzy
                    have T21 := T20.up hb
                    clear T20
                    have HBX3 := Lib.hid hb
                    clear hb
                    obtain ⟨y0, y1, y2, y3⟩ := cells4S HZY.out
                    by_cases hin : i < tn
                    · skip
                      have i1 : (i : Int) < (tn : Int) := by omega
                      have hdr : d + rn ≤ 3 := by
                        have h1 := HIT.out.dd
                        have h2 : rn * (i + 1) ≤ rn * tn := Nat.mul_le_mul_left _ hin
                        have h3 := HRT.out
                        rw [Nat.mul_add] at h2
                        omega
                      have v_r0 : x3.cell? ⟨W.heap.size, 0, none⟩ = some (.int .i64 kn) := T21.out.1.1.1.1.1.1.1.2.1
                      have v_r1 : x3.cell? ⟨W.heap.size, 1, none⟩ = some (.int .i64 rn) := T21.out.1.1.1.1.1.1.1.2.2.1
                      have v_r2 : x3.cell? ⟨W.heap.size, 2, none⟩ = some (.slice a T c) := T21.out.1.1.1.1.1.1.1.2.2.2
                      go_wp2_with fail
                      refine (rowstep_im kn rn a T c tb q bL bC bR nL dL mC dC nR dR L' C' Q' x3 R (T21.out.1.1.1.1.1.1.1.1.1.1.1.2).glob (T21.out.1.1.1.1.1.1.1.1.1.1.2).rk HI.out HM.out HIT.out.row (by have := HQE.out; omega) (by have := HMC.out; omega)).mono ?_; rintro e x4 ⟨eL, fL, eC, fC, eR, fR, rfl, hm4, hfr, hb⟩
                      clear v_r0 v_r1 v_r2
                      clear y0 y1 y2 y3
                      have hnx := rowIt_step HIT.out HI.out (by have := HQE.out; omega) HM.out.c.rk.len (by have := HMC.out; omega)
                      obtain ⟨q2, hq2⟩ : ∃ q2, q - (rn : Int) = q2 := ⟨_, rfl⟩
                      obtain ⟨m2, hm2⟩ : ∃ m2, mC + 2 * rn = m2 := ⟨_, rfl⟩
                      rw [hq2, hm2] at hnx
                      rw [hm2] at hm4
                      simp only [hq2, hm2]
                      have HNX := Lib.hid hnx
                      have HM4 := Lib.hid hm4
                      have HZ4 := Lib.hid ((hb.block _ (heap_ltP HZY.out)).trans HZY.out)
                      have HB4 := Lib.hid (HBX3.out.trans (hb.mono HBX3.out.size))
                      have HFR : Hid (∀ b o, eL = some ⟨b, o, none⟩ ∨ eC = some ⟨b, o, none⟩ ∨ eR = some ⟨b, o, none⟩ → x3.heap.size ≤ b) := hfr
                      have hg3 := heap_ltP HZY.out
                      have HG3 := Lib.hid hg3
                      clear hnx hm4 hfr hb hg3 hq2 hm2
                      obtain ⟨x5, hx5⟩ : ∃ x5, x4.alloc (.cells #[.int .i64 q2, .slice eL nL fL, .slice eC m2 fC, .slice eR nR fR] 26) = x5 := ⟨_, rfl⟩
                      have hbz : Below x4.heap.size x4 x5 := by rw [← hx5]; exact balloc (bnil x4) _
                      obtain ⟨gz, hgz⟩ : ∃ gz, x4.heap.size = gz := ⟨_, rfl⟩
                      have hzz : x5.heap[gz]? = some (.cells #[.int .i64 q2, .slice eL nL fL, .slice eC m2 fC, .slice eR nR fR] 26) := by rw [← hx5, ← hgz]; exact heap_alloc_new x4 _
                      have hzy5 := (hbz.block _ (heap_ltP HZ4.out)).trans HZ4.out
                      obtain ⟨z0, z1, z2, z3⟩ := cells4S hzz
                      obtain ⟨v0, v1, v2, v3⟩ := cells4S hzy5
                      obtain ⟨f0, f1, f2, f3⟩ := frozen4S hzy5
                      obtain ⟨x6, e6, hk, hsz, hbl, hz6⟩ := set4S hzy5 (.int .i64 q2) (.slice eL nL fL) (.slice eC m2 fC) (.slice eR nR fR)
                      have HM6 := Lib.hid (RowM.st (HM4.out.up hbz) hk hsz fun b o e => by have h1 := HFR.out b o e; have h2 := HG3.out; omega)
                      have HZ6 := Lib.hid hz6
                      have HB6 := Lib.hid (hbl x1 x1.heap.size (by have := HGX.out; omega) (HB4.out.trans (hbz.mono HB4.out.size)))
                      rw [← hx5] at e6
                      rw [← hx5, ← hgz] at z0 z1 z2 z3
                      rw [← hx5] at v0 v1 v2 v3 f0 f1 f2 f3
                      have HE6 := Lib.hid e6
                      clear hbz hgz hzz hzy5 e6 hk hsz hbl hz6 hx5
                      go_wp2
                      rw [HE6.out]
                      go_roundw
                      case rel => exact ⟨i + 1, d + rn, q2, eL, fL, eC, m2, fC, eR, fR, _, _, _, by omega, by go_num, HNX.out, HM6.out, HZ6.out, HB6.out⟩
                      case measure => simp [intOf]; omega
                    · skip
                      obtain rfl : i = tn := by omega
                      have i1 : ¬ (i : Int) < (i : Int) := by omega
                      have HRR : Hid (RR = d) := by show _ = _; rw [HPW.out.rad, HIT.out.dd]
                      have HCN : Hid (C.length = nC) := (T21.out.1.1.1.1.1.1.1.1.2).c.rk.len.symm
                      have v_p0 : x3.cell? ⟨w2.heap.size, 0, none⟩ = some (.int .i64 kn) := T21.out.1.1.1.1.2.1
                      have v_p1 : x3.cell? ⟨w2.heap.size, 1, none⟩ = some (.int .i64 RR) := T21.out.1.1.1.1.2.2.1
                      have v_p2 : x3.cell? ⟨w2.heap.size, 2, none⟩ = some (.slice (some ⟨aT, 0, none⟩) TT TT) := T21.out.1.1.1.1.2.2.2
                      have v_x0 : x3.cell? ⟨W.heap.size + 1, 0, none⟩ = some (.int .i64 p) := T21.out.1.1.1.1.1.1.2.1
                      have v_x1 : x3.cell? ⟨W.heap.size + 1, 1, none⟩ = some (.slice aL nL cL) := T21.out.1.1.1.1.1.1.2.2.1
                      have v_x2 : x3.cell? ⟨W.heap.size + 1, 2, none⟩ = some (.slice aC nC cC) := T21.out.1.1.1.1.1.1.2.2.2.1
                      have v_x3 : x3.cell? ⟨W.heap.size + 1, 3, none⟩ = some (.slice aR nR cR) := T21.out.1.1.1.1.1.1.2.2.2.2
                      go_wp2_with fail
                      refine (rowstep_im kn RR (some ⟨aT, 0, none⟩) TT TT tp p aL aC aR nL cL nC cC nR cR L C Q x3 R (T21.out.1.1.1.1.1.1.1.1.1.1.1.2).glob T21.out.1.1.1.1.1.2 HPW.out.is T21.out.1.1.1.1.1.1.1.1.2 HRW.out (by have := HRR.out; omega) (by have := HRR.out; omega)).mono ?_; rintro e x4 ⟨eL, fL, eC, fC, eR, fR, rfl, hm4, hfr, hb⟩
                      clear v_p0 v_p1 v_p2 v_x0 v_x1 v_x2 v_x3
                      clear y0 y1 y2 y3
                      have HRQ := Lib.hid (im_row HRW.out HPW.out.is (by have := HRR.out; omega) (by have := HRR.out; have := HCN.out; omega))
                      have HEQ : Hid (∀ j, cellF (p - (RR : Int)) (imL kn RR tp p L C Q) (imC kn RR tp p L C Q) (imQ kn RR tp p L C Q) j = cellF q L' C' Q' j) := fun j => by
                        rw [im_cell HRW.out, HIT.out.eq]
                        exact HPW.out.eq _ (fun j => HRW.out.cell j) j
                      obtain ⟨q2, hq2⟩ : ∃ q2, p - (RR : Int) = q2 := ⟨_, rfl⟩
                      obtain ⟨m2, hm2⟩ : ∃ m2, nC + 2 * RR = m2 := ⟨_, rfl⟩
                      rw [hq2] at HRQ HEQ
                      rw [hm2] at hm4
                      simp only [hq2, hm2]
                      have HM4 := Lib.hid hm4
                      have HZ4 := Lib.hid ((hb.block _ (heap_ltP HZY.out)).trans HZY.out)
                      have HMY := Lib.hid (HM.out.up hb)
                      clear hm4 hfr hq2 hm2
                      have T22 := T21.up hb
                      clear T21
                      clear hb
                      obtain ⟨x5, hx5⟩ : ∃ x5, x4.alloc (.cells #[.int .i64 q2, .slice eL nL fL, .slice eC m2 fC, .slice eR nR fR] 26) = x5 := ⟨_, rfl⟩
                      have hbz : Below x4.heap.size x4 x5 := by rw [← hx5]; exact balloc (bnil x4) _
                      obtain ⟨gz, hgz⟩ : ∃ gz, x4.heap.size = gz := ⟨_, rfl⟩
                      have hzz : x5.heap[gz]? = some (.cells #[.int .i64 q2, .slice eL nL fL, .slice eC m2 fC, .slice eR nR fR] 26) := by rw [← hx5, ← hgz]; exact heap_alloc_new x4 _
                      obtain ⟨z0, z1, z2, z3⟩ := cells4S hzz
                      obtain ⟨v0, v1, v2, v3⟩ := cells4S ((hbz.block _ (heap_ltP HZ4.out)).trans HZ4.out)
                      rw [← hx5, ← hgz] at z0 z1 z2 z3
                      rw [← hx5] at v0 v1 v2 v3
                      have HM5 := Lib.hid (HM4.out.up hbz)
                      have HY5 := Lib.hid (HMY.out.up hbz)
                      have HX5 := Lib.hid hx5
                      have T23 := T22.up hbz
                      clear T22
                      clear hbz hzz hgz hx5
                      have v_r0 := T23.out.1.1.1.1.1.1.1.2.1
                      rw [← HX5.out] at v_r0
                      go_wp2_with fail
                      rw [HX5.out]
                      refine (same_ok kn q2 eL eC eR nL fL m2 fC nR fR _ _ _ q bL bC bR nL dL mC dC nR dR L' C' Q' x5 R (T23.out.1.1.1.1.1.1.1.1.1.1.1.2).glob HM5.out HRQ.out HY5.out HIT.out.row).mono ?_; rintro e x6 ⟨b, rfl, hbt, hb⟩
                      obtain rfl : b = true := hbt.2 HEQ.out
                      clear hbt z0 z1 z2 z3 v0 v1 v2 v3 v_r0
                      have T24 := T23.up hb
                      clear T23
                      clear hb
                      have v_p0 : x6.cell? ⟨w2.heap.size, 0, none⟩ = some (.int .i64 kn) := T24.out.1.1.1.1.2.1
                      have v_p1 : x6.cell? ⟨w2.heap.size, 1, none⟩ = some (.int .i64 RR) := T24.out.1.1.1.1.2.2.1
                      have v_p2 : x6.cell? ⟨w2.heap.size, 2, none⟩ = some (.slice (some ⟨aT, 0, none⟩) TT TT) := T24.out.1.1.1.1.2.2.2
                      go_wp2_with fail
                      refine (rcheck_ok kn RR (some ⟨aT, 0, none⟩) TT TT tp x6 T24.out.1.1.1.1.1.2 HPW.out.is).mono ?_; rintro e x7 ⟨rfl, hbx7⟩
                      clear v_p0 v_p1 v_p2
                      have T25 := T24.up hbx7
                      clear T24
                      go_wp2
                      go_ret
                      exact ⟨rfl, T25.out.1.1.1.1.1.1.1.1.1.1.1.1.2⟩
      · skip
        rw [h1] at HC1
        rw [h2] at HC2
        obtain rfl : ev1 = .nilIface := HC1.out
        obtain rfl : ev2 = .nilIface := HC2.out
        have HE3 := Lib.hid h3
        clear h1 h2 h3 HC1 HC2
        go_wp2_with fail
        refine (ints_eqS a1 a2 n1 n2 c1 c2 _ _ w5 T19.out.1.1.1.2 T19.out.1.2 HE3.out).mono ?_; rintro e w6 ⟨rfl, hbw6⟩
        have T20 := T19.up hbw6
        clear T19
        cases hre : rowErr (kn : Int) p L C Q with
        | some y =>
          have HRE := Lib.hid hre
          clear hre
          have v_r0 : w6.cell? ⟨W.heap.size, 0, none⟩ = some (.int .i64 kn) := T20.out.1.1.1.1.1.1.1.2.1
          have v_r1 : w6.cell? ⟨W.heap.size, 1, none⟩ = some (.int .i64 rn) := T20.out.1.1.1.1.1.1.1.2.2.1
          have v_r2 : w6.cell? ⟨W.heap.size, 2, none⟩ = some (.slice a T c) := T20.out.1.1.1.1.1.1.1.2.2.2
          have v_x0 : w6.cell? ⟨W.heap.size + 1, 0, none⟩ = some (.int .i64 p) := T20.out.1.1.1.1.1.1.2.1
          have v_x1 : w6.cell? ⟨W.heap.size + 1, 1, none⟩ = some (.slice aL nL cL) := T20.out.1.1.1.1.1.1.2.2.1
          have v_x2 : w6.cell? ⟨W.heap.size + 1, 2, none⟩ = some (.slice aC nC cC) := T20.out.1.1.1.1.1.1.2.2.2.1
          have v_x3 : w6.cell? ⟨W.heap.size + 1, 3, none⟩ = some (.slice aR nR cR) := T20.out.1.1.1.1.1.1.2.2.2.2
          go_wp2_with fail
          refine (rowcheck_err kn p aL aC aR nL cL nC cC nR cR L C Q w6 R (T20.out.1.1.1.1.1.1.1.1.1.1.1.2).glob T20.out.1.1.1.1.1.1.1.1.2 y HRE.out).mono ?_; rintro e x1 ⟨g9, rfl, _, hbx1⟩
          clear v_r0 v_r1 v_r2 v_x0 v_x1 v_x2 v_x3
          have T21 := T20.up hbx1
          clear T20
          have v_x0 : x1.cell? ⟨W.heap.size + 1, 0, none⟩ = some (.int .i64 p) := T21.out.1.1.1.1.1.1.2.1
          have v_x1 : x1.cell? ⟨W.heap.size + 1, 1, none⟩ = some (.slice aL nL cL) := T21.out.1.1.1.1.1.1.2.2.1
          have v_x2 : x1.cell? ⟨W.heap.size + 1, 2, none⟩ = some (.slice aC nC cC) := T21.out.1.1.1.1.1.1.2.2.2.1
          have v_x3 : x1.cell? ⟨W.heap.size + 1, 3, none⟩ = some (.slice aR nR cR) := T21.out.1.1.1.1.1.1.2.2.2.2
          go_wp2
          go_ret
          exact ⟨rfl, T21.out.1.1.1.1.1.1.1.1.1.1.1.1.2⟩
        | none =>
          obtain ⟨kn2, hk2, hrow⟩ := rowErr_none hre
          obtain rfl : kn = kn2 := by omega
          have HRW := Lib.hid hrow
          clear hre hrow hk2
          have v_r0 : w6.cell? ⟨W.heap.size, 0, none⟩ = some (.int .i64 kn) := T20.out.1.1.1.1.1.1.1.2.1
          have v_r1 : w6.cell? ⟨W.heap.size, 1, none⟩ = some (.int .i64 rn) := T20.out.1.1.1.1.1.1.1.2.2.1
          have v_r2 : w6.cell? ⟨W.heap.size, 2, none⟩ = some (.slice a T c) := T20.out.1.1.1.1.1.1.1.2.2.2
          have v_x0 : w6.cell? ⟨W.heap.size + 1, 0, none⟩ = some (.int .i64 p) := T20.out.1.1.1.1.1.1.2.1
          have v_x1 : w6.cell? ⟨W.heap.size + 1, 1, none⟩ = some (.slice aL nL cL) := T20.out.1.1.1.1.1.1.2.2.1
          have v_x2 : w6.cell? ⟨W.heap.size + 1, 2, none⟩ = some (.slice aC nC cC) := T20.out.1.1.1.1.1.1.2.2.2.1
          have v_x3 : w6.cell? ⟨W.heap.size + 1, 3, none⟩ = some (.slice aR nR cR) := T20.out.1.1.1.1.1.1.2.2.2.2
          go_wp2_with fail
          refine (rowcheck_ok kn p aL aC aR nL cL nC cC nR cR L C Q w6 R (T20.out.1.1.1.1.1.1.1.1.1.1.1.2).glob T20.out.1.1.1.1.1.1.1.1.2 HRW.out).mono ?_; rintro e x1 ⟨rfl, hbx1⟩
          clear v_r0 v_r1 v_r2 v_x0 v_x1 v_x2 v_x3
          have T21 := T20.up hbx1
          clear T20
          have v_x0 : x1.cell? ⟨W.heap.size + 1, 0, none⟩ = some (.int .i64 p) := T21.out.1.1.1.1.1.1.2.1
          have v_x1 : x1.cell? ⟨W.heap.size + 1, 1, none⟩ = some (.slice aL nL cL) := T21.out.1.1.1.1.1.1.2.2.1
          have v_x2 : x1.cell? ⟨W.heap.size + 1, 2, none⟩ = some (.slice aC nC cC) := T21.out.1.1.1.1.1.1.2.2.2.1
          have v_x3 : x1.cell? ⟨W.heap.size + 1, 3, none⟩ = some (.slice aR nR cR) := T21.out.1.1.1.1.1.1.2.2.2.2
          by_cases hp4 : p < -4000
          · skip
            skip
            go_wp2
            go_ret
            exact ⟨rfl, T21.out.1.1.1.1.1.1.1.1.1.1.1.1.2⟩
          · skip
            skip
            by_cases hc4 : 400 < nC
            · skip
              have hc4i : (400 : Int) < (nC : Int) := by omega
              go_wp2
              go_ret
              exact ⟨rfl, T21.out.1.1.1.1.1.1.1.1.1.1.1.1.2⟩
            · skip
              have hc4i : ¬ (400 : Int) < (nC : Int) := by omega
              by_cases hl4 : 40 < nL
              · skip
                have hl4i : (40 : Int) < (nL : Int) := by omega
                go_wp2
                go_ret
                exact ⟨rfl, T21.out.1.1.1.1.1.1.1.1.1.1.1.1.2⟩
              · skip
                have hl4i : ¬ (40 : Int) < (nL : Int) := by omega
                by_cases hr4 : 40 < nR
                · skip
                  have hr4i : (40 : Int) < (nR : Int) := by omega
                  go_wp2
                  go_ret
                  exact ⟨rfl, T21.out.1.1.1.1.1.1.1.1.1.1.1.1.2⟩
                · skip
                  have hr4i : ¬ (40 : Int) < (nR : Int) := by omega
                  obtain ⟨gy, hgy⟩ : ∃ gy, x1.heap.size = gy := ⟨_, rfl⟩
                  obtain ⟨x2, hx2⟩ : ∃ x2, x1.alloc (.cells #[.int .i64 p, .slice aL nL cL, .slice aC nC cC, .slice aR nR cR] 26) = x2 := ⟨_, rfl⟩
                  have HZY : Hid (x2.heap[gy]? = some (.cells #[.int .i64 p, .slice aL nL cL, .slice aC nC cC, .slice aR nR cR] 26)) := by show _ = _; rw [← hx2, ← hgy]; exact heap_alloc_new x1 _
                  have HBY : Hid (Below x1.heap.size x1 x2) := by rw [← hx2]; exact balloc (bnil x1) _
                  have HMY : Hid (∀ b o, aL = some ⟨b, o, none⟩ ∨ aC = some ⟨b, o, none⟩ ∨ aR = some ⟨b, o, none⟩ → nL ≠ 0 ∧ nC ≠ 0 ∧ nR ≠ 0 → b ≠ gy) := fun b o e hn => by
                    rcases e with e | e | e
                    · subst e; have := rk_ltP (T21.out.1.1.1.1.1.1.1.1.2).l.rk (by omega); omega
                    · subst e; have := rk_ltP (T21.out.1.1.1.1.1.1.1.1.2).c.rk (by omega); omega
                    · subst e; have := rk_ltP (T21.out.1.1.1.1.1.1.1.1.2).r.rk (by omega); omega
                  have HX2 := Lib.hid hx2
                  have HGY := Lib.hid hgy
                  clear hx2 hgy
                  go_wp2_with fail
                  rw [HX2.out]
                  simp only [HGY.out]
                  clear v_x0 v_x1 v_x2 v_x3
                  go_loopw [16] (fun ix wr => ∃ i d q bL dL bC mC dC bR dR L' C' Q', i ≤ tn ∧ ix = .int .i64 (i : Nat) ∧ RowIt kn rn tb p (cellF p L C Q) nC i d q mC L' C' Q' ∧ RowM wr bL nL dL L' bC mC dC C' bR nR dR Q' ∧ wr.heap[gy]? = some (.cells #[.int .i64 q, .slice bL nL dL, .slice bC mC dC, .slice bR nR dR] 26) ∧ Below x1.heap.size x1 wr) (fun ix _ => tn - (intOf ix).toNat)
                  case atStart => exact ⟨0, 0, p, aL, cL, aC, nC, cC, aR, cR, L, C, Q, Nat.zero_le _, rfl, rowIt_zero HRW.out, (T21.out.1.1.1.1.1.1.1.1.2).up HBY.out, HZY.out, HBY.out⟩
                  case round =>
                    clear HZY HBY HMY
                    obtain ⟨i, d, q, bL, dL, bC, mC, dC, bR, dR, L', C', Q', hi, rfl, hit, hm, hzy, hb⟩ := hrel
                    generalize wr = x3 at *
                    have HIT := Lib.hid hit
                    have HM := Lib.hid hm
                    have HZY := Lib.hid hzy
                    have hd3 : d ≤ 3 := by
                      rw [hit.dd]
                      exact Nat.le_trans (Nat.mul_le_mul_left _ hi) HRT.out
                    have HMC := Lib.hid hit.nc
                    have HQE := Lib.hid hit.at_
                    have HGX : Hid (x1.heap.size = gy) := HGY.out
                    clear hit hm hzy
                    have T22 := T21.up hb
                    clear T21
                    have HBX3 := Lib.hid hb
                    clear hb
                    obtain ⟨y0, y1, y2, y3⟩ := cells4S HZY.out
                    by_cases hin : i < tn
                    · skip
                      have i1 : (i : Int) < (tn : Int) := by omega
                      have hdr : d + rn ≤ 3 := by
                        have h1 := HIT.out.dd
                        have h2 : rn * (i + 1) ≤ rn * tn := Nat.mul_le_mul_left _ hin
                        have h3 := HRT.out
                        rw [Nat.mul_add] at h2
                        omega
                      have v_r0 : x3.cell? ⟨W.heap.size, 0, none⟩ = some (.int .i64 kn) := T22.out.1.1.1.1.1.1.1.2.1
                      have v_r1 : x3.cell? ⟨W.heap.size, 1, none⟩ = some (.int .i64 rn) := T22.out.1.1.1.1.1.1.1.2.2.1
                      have v_r2 : x3.cell? ⟨W.heap.size, 2, none⟩ = some (.slice a T c) := T22.out.1.1.1.1.1.1.1.2.2.2
                      go_wp2_with fail
                      refine (rowstep_im kn rn a T c tb q bL bC bR nL dL mC dC nR dR L' C' Q' x3 R (T22.out.1.1.1.1.1.1.1.1.1.1.1.2).glob (T22.out.1.1.1.1.1.1.1.1.1.1.2).rk HI.out HM.out HIT.out.row (by have := HQE.out; omega) (by have := HMC.out; omega)).mono ?_; rintro e x4 ⟨eL, fL, eC, fC, eR, fR, rfl, hm4, hfr, hb⟩
                      clear v_r0 v_r1 v_r2
                      clear y0 y1 y2 y3
                      have hnx := rowIt_step HIT.out HI.out (by have := HQE.out; omega) HM.out.c.rk.len (by have := HMC.out; omega)
                      obtain ⟨q2, hq2⟩ : ∃ q2, q - (rn : Int) = q2 := ⟨_, rfl⟩
                      obtain ⟨m2, hm2⟩ : ∃ m2, mC + 2 * rn = m2 := ⟨_, rfl⟩
                      rw [hq2, hm2] at hnx
                      rw [hm2] at hm4
                      simp only [hq2, hm2]
                      have HNX := Lib.hid hnx
                      have HM4 := Lib.hid hm4
                      have HZ4 := Lib.hid ((hb.block _ (heap_ltP HZY.out)).trans HZY.out)
                      have HB4 := Lib.hid (HBX3.out.trans (hb.mono HBX3.out.size))
                      have HFR : Hid (∀ b o, eL = some ⟨b, o, none⟩ ∨ eC = some ⟨b, o, none⟩ ∨ eR = some ⟨b, o, none⟩ → x3.heap.size ≤ b) := hfr
                      have hg3 := heap_ltP HZY.out
                      have HG3 := Lib.hid hg3
                      clear hnx hm4 hfr hb hg3 hq2 hm2
                      obtain ⟨x5, hx5⟩ : ∃ x5, x4.alloc (.cells #[.int .i64 q2, .slice eL nL fL, .slice eC m2 fC, .slice eR nR fR] 26) = x5 := ⟨_, rfl⟩
                      have hbz : Below x4.heap.size x4 x5 := by rw [← hx5]; exact balloc (bnil x4) _
                      obtain ⟨gz, hgz⟩ : ∃ gz, x4.heap.size = gz := ⟨_, rfl⟩
                      have hzz : x5.heap[gz]? = some (.cells #[.int .i64 q2, .slice eL nL fL, .slice eC m2 fC, .slice eR nR fR] 26) := by rw [← hx5, ← hgz]; exact heap_alloc_new x4 _
                      have hzy5 := (hbz.block _ (heap_ltP HZ4.out)).trans HZ4.out
                      obtain ⟨z0, z1, z2, z3⟩ := cells4S hzz
                      obtain ⟨v0, v1, v2, v3⟩ := cells4S hzy5
                      obtain ⟨f0, f1, f2, f3⟩ := frozen4S hzy5
                      obtain ⟨x6, e6, hk, hsz, hbl, hz6⟩ := set4S hzy5 (.int .i64 q2) (.slice eL nL fL) (.slice eC m2 fC) (.slice eR nR fR)
                      have HM6 := Lib.hid (RowM.st (HM4.out.up hbz) hk hsz fun b o e => by have h1 := HFR.out b o e; have h2 := HG3.out; omega)
                      have HZ6 := Lib.hid hz6
                      have HB6 := Lib.hid (hbl x1 x1.heap.size (by have := HGX.out; omega) (HB4.out.trans (hbz.mono HB4.out.size)))
                      rw [← hx5] at e6
                      rw [← hx5, ← hgz] at z0 z1 z2 z3
                      rw [← hx5] at v0 v1 v2 v3 f0 f1 f2 f3
                      have HE6 := Lib.hid e6
                      clear hbz hgz hzz hzy5 e6 hk hsz hbl hz6 hx5
                      go_wp2
                      rw [HE6.out]
                      go_roundw
                      case rel => exact ⟨i + 1, d + rn, q2, eL, fL, eC, m2, fC, eR, fR, _, _, _, by omega, by go_num, HNX.out, HM6.out, HZ6.out, HB6.out⟩
                      case measure => simp [intOf]; omega
                    · skip
                      obtain rfl : i = tn := by omega
                      have i1 : ¬ (i : Int) < (i : Int) := by omega
                      have HRR : Hid (RR = d) := by show _ = _; rw [HPW.out.rad, HIT.out.dd]
                      have HCN : Hid (C.length = nC) := (T22.out.1.1.1.1.1.1.1.1.2).c.rk.len.symm
                      have v_p0 : x3.cell? ⟨w2.heap.size, 0, none⟩ = some (.int .i64 kn) := T22.out.1.1.1.1.2.1
                      have v_p1 : x3.cell? ⟨w2.heap.size, 1, none⟩ = some (.int .i64 RR) := T22.out.1.1.1.1.2.2.1
                      have v_p2 : x3.cell? ⟨w2.heap.size, 2, none⟩ = some (.slice (some ⟨aT, 0, none⟩) TT TT) := T22.out.1.1.1.1.2.2.2
                      have v_x0 : x3.cell? ⟨W.heap.size + 1, 0, none⟩ = some (.int .i64 p) := T22.out.1.1.1.1.1.1.2.1
                      have v_x1 : x3.cell? ⟨W.heap.size + 1, 1, none⟩ = some (.slice aL nL cL) := T22.out.1.1.1.1.1.1.2.2.1
                      have v_x2 : x3.cell? ⟨W.heap.size + 1, 2, none⟩ = some (.slice aC nC cC) := T22.out.1.1.1.1.1.1.2.2.2.1
                      have v_x3 : x3.cell? ⟨W.heap.size + 1, 3, none⟩ = some (.slice aR nR cR) := T22.out.1.1.1.1.1.1.2.2.2.2
                      go_wp2_with fail
                      refine (rowstep_im kn RR (some ⟨aT, 0, none⟩) TT TT tp p aL aC aR nL cL nC cC nR cR L C Q x3 R (T22.out.1.1.1.1.1.1.1.1.1.1.1.2).glob T22.out.1.1.1.1.1.2 HPW.out.is T22.out.1.1.1.1.1.1.1.1.2 HRW.out (by have := HRR.out; omega) (by have := HRR.out; omega)).mono ?_; rintro e x4 ⟨eL, fL, eC, fC, eR, fR, rfl, hm4, hfr, hb⟩
                      clear v_p0 v_p1 v_p2 v_x0 v_x1 v_x2 v_x3
                      clear y0 y1 y2 y3
                      have HRQ := Lib.hid (im_row HRW.out HPW.out.is (by have := HRR.out; omega) (by have := HRR.out; have := HCN.out; omega))
                      have HEQ : Hid (∀ j, cellF (p - (RR : Int)) (imL kn RR tp p L C Q) (imC kn RR tp p L C Q) (imQ kn RR tp p L C Q) j = cellF q L' C' Q' j) := fun j => by
                        rw [im_cell HRW.out, HIT.out.eq]
                        exact HPW.out.eq _ (fun j => HRW.out.cell j) j
                      obtain ⟨q2, hq2⟩ : ∃ q2, p - (RR : Int) = q2 := ⟨_, rfl⟩
                      obtain ⟨m2, hm2⟩ : ∃ m2, nC + 2 * RR = m2 := ⟨_, rfl⟩
                      rw [hq2] at HRQ HEQ
                      rw [hm2] at hm4
                      simp only [hq2, hm2]
                      have HM4 := Lib.hid hm4
                      have HZ4 := Lib.hid ((hb.block _ (heap_ltP HZY.out)).trans HZY.out)
                      have HMY := Lib.hid (HM.out.up hb)
                      clear hm4 hfr hq2 hm2
                      have T23 := T22.up hb
                      clear T22
                      clear hb
                      obtain ⟨x5, hx5⟩ : ∃ x5, x4.alloc (.cells #[.int .i64 q2, .slice eL nL fL, .slice eC m2 fC, .slice eR nR fR] 26) = x5 := ⟨_, rfl⟩
                      have hbz : Below x4.heap.size x4 x5 := by rw [← hx5]; exact balloc (bnil x4) _
                      obtain ⟨gz, hgz⟩ : ∃ gz, x4.heap.size = gz := ⟨_, rfl⟩
                      have hzz : x5.heap[gz]? = some (.cells #[.int .i64 q2, .slice eL nL fL, .slice eC m2 fC, .slice eR nR fR] 26) := by rw [← hx5, ← hgz]; exact heap_alloc_new x4 _
                      obtain ⟨z0, z1, z2, z3⟩ := cells4S hzz
                      obtain ⟨v0, v1, v2, v3⟩ := cells4S ((hbz.block _ (heap_ltP HZ4.out)).trans HZ4.out)
                      rw [← hx5, ← hgz] at z0 z1 z2 z3
                      rw [← hx5] at v0 v1 v2 v3
                      have HM5 := Lib.hid (HM4.out.up hbz)
                      have HY5 := Lib.hid (HMY.out.up hbz)
                      have HX5 := Lib.hid hx5
                      have T24 := T23.up hbz
                      clear T23
                      clear hbz hzz hgz hx5
                      have v_r0 := T24.out.1.1.1.1.1.1.1.2.1
                      rw [← HX5.out] at v_r0
                      go_wp2_with fail
                      rw [HX5.out]
                      refine (same_ok kn q2 eL eC eR nL fL m2 fC nR fR _ _ _ q bL bC bR nL dL mC dC nR dR L' C' Q' x5 R (T24.out.1.1.1.1.1.1.1.1.1.1.1.2).glob HM5.out HRQ.out HY5.out HIT.out.row).mono ?_; rintro e x6 ⟨b, rfl, hbt, hb⟩
                      obtain rfl : b = true := hbt.2 HEQ.out
                      clear hbt z0 z1 z2 z3 v0 v1 v2 v3 v_r0
                      have T25 := T24.up hb
                      clear T24
                      clear hb
                      have v_p0 : x6.cell? ⟨w2.heap.size, 0, none⟩ = some (.int .i64 kn) := T25.out.1.1.1.1.2.1
                      have v_p1 : x6.cell? ⟨w2.heap.size, 1, none⟩ = some (.int .i64 RR) := T25.out.1.1.1.1.2.2.1
                      have v_p2 : x6.cell? ⟨w2.heap.size, 2, none⟩ = some (.slice (some ⟨aT, 0, none⟩) TT TT) := T25.out.1.1.1.1.2.2.2
                      go_wp2_with fail
                      refine (rcheck_ok kn RR (some ⟨aT, 0, none⟩) TT TT tp x6 T25.out.1.1.1.1.1.2 HPW.out.is).mono ?_; rintro e x7 ⟨rfl, hbx7⟩
                      clear v_p0 v_p1 v_p2
                      have T26 := T25.up hbx7
                      clear T25
                      go_wp2
                      go_ret
                      exact ⟨rfl, T26.out.1.1.1.1.1.1.1.1.1.1.1.1.2⟩
theorem whole_powers_row (k r : Int) (a : Option Addr) (T c : Nat) (tb : List Int) (t : Int) (aw : Option Addr) (cw : Nat) (wl : List Int) (p : Int) (aL : Option Addr) (nL cL : Nat) (L : List Int) (aC : Option Addr) (nC cC : Nat) (C : List Int) (aR : Option Addr) (nR cR : Nat) (Q : List Int) (W : World) (R : Nat → Addr) (hS : Sent W R)
    (hT : SlI W a T c tb) (hb : -9223372036854775808 ≤ t ∧ t ≤ 9223372036854775807) (hR1 : Rd W aw wl.length 1 (wl.map (Value.int .i64))) (hl1 : wl.length ≤ cw) (hz1 : cw * 8 ≤ 140737488351232) (hn1 : aw = none → cw = 0) (hx1 : ∀ x ∈ wl, -9223372036854775808 ≤ x ∧ x ≤ 9223372036854775807) (hM : RowM W aL nL cL L aC nC cC C aR nR cR Q) :
    Calls Tryd.prog 3 #[ruleV k r a T c, .int .i64 t, .slice aw wl.length cw, rowV p aL nL cL aC nC cC aR nR cR] W (TrueBelow W) :=
  whole_powers k r t a T c tb aw wl.length cw wl p aL nL cL L aC nC cC C aR nR cR Q W R hS hT hb.2 ⟨⟨rfl, hR1⟩, hl1, by omega, by unfold maxLen; omega, hn1⟩ hM
end Go.Proofs.YtnmegpplfbkpcaaDoor
