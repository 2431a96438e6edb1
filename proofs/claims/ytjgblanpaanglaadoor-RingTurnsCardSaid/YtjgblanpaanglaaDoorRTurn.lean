/- edenlaw06.RingTurns returns true. -/
import Derived.Test.YtjgblanpaanglaaDoorAwk06
import Derived.Test.YtjgblanpaanglaaDoorRngE
import Derived.Test.YtjgblanpaanglaaDoorRngV
import Derived.Test.YtjgblanpaanglaaDoorWTr
import Derived.Test.YtjgblanpaanglaaDoorLent
import Derived.Test.YtjgblanpaanglaaDoorErrB
import Derived.Deep.RegionHeld3
import Derived.Deep.Cut
import Derived.Deep.QuietTactic
import Derived.BigQuiet
namespace Go.Proofs.YtjgblanpaanglaaDoor
open Go.RowKit
set_option linter.unusedVariables false
set_option maxRecDepth 100000

instance monoSentT {R : Nat → Addr} : Mono (fun w => Sent w R) := ⟨⟨fun hb h => h.up hb⟩⟩
theorem times_q (a : Option Addr) (n c t q : Nat) (l : List Int) (W : World) (hR : RK .i64 W a n l) (hn : 0 < n) (hn8 : n * 8 ≤ 140737488351232) (hM : n * t ≤ 4096) (hq : n * t = q) :
    Calls Tryd.prog 20 #[.slice a n c, .int .i64 t] W fun e w' => ∃ a' c', e = .returned (.tuple #[.slice a' q c', .nilIface]) ∧ RK .i64 w' a' q (repL l q) ∧ Below W.heap.size W w' := by
  subst hq
  refine (times_ok a n c t l W hR hn hn8 hM).mono ?_
  rintro e w' ⟨a', c', rfl, ho, hb⟩
  exact ⟨a', c', rfl, RK.of_own ho, hb⟩
theorem turnF (n0 : Int) (n : Nat) (hn : 0 < n) : ∃ T, turnAt n0 n = T ∧ T < n := ⟨_, rfl, (turn_int n0 n hn).2⟩
theorem rstep_q (k r m : Nat) (a : Option Addr) (n c : Nat) (l : List Int) (aw : Option Addr) (nw cw : Nat) (wl xs ys : List Int) (W : World) (hR : RK .i64 W a n l) (hW : RK .i64 W aw nw wl) (h : IsRule k r l) (hw : nw ≤ 4096) (hs : ∀ x ∈ wl, 0 ≤ x ∧ x < (k : Int)) (hm : nw - 2 * r = m) (hy : stepL k r l wl = ys) :
    Calls Tryd.prog 21 #[ruleV k r a n c, .slice aw nw cw] W fun e w' => ∃ a' c', e = .returned (.tuple #[.slice a' m c', .nilIface]) ∧ RK .i64 w' a' m ys ∧ Below W.heap.size W w' := by
  subst hm hy
  refine (rstep_ok k r a n c l aw nw cw wl W hR hW h hw hs).mono ?_
  rintro e w' ⟨a', c', rfl, ho, hb⟩
  exact ⟨a', c', rfl, ho.rk, hb⟩
theorem mod4 (s : Int) : ∃ (u : Int) (M : Nat), s.tmod 4 = u ∧ IntKind.i64.wrap (u + 4) = u + 4 ∧ (∃ v : Int, (u + 4).tmod 4 = v ∧ IntKind.i64.wrap (v + 1) = (M : Int)) ∧ 0 < M ∧ M ≤ 4 := by
  obtain ⟨u, X, h1, h2, h3, h4, h5, h6⟩ := ring_at s (n := 4) (by omega)
  refine ⟨u, X + 1, h1, IntWalk.i64_in _ (by omega), ⟨X, h4, ?_⟩, by omega, by omega⟩
  rw [show ((X : Int) + 1) = ((X + 1 : Nat) : Int) by omega]
  exact IntWalk.i64_in _ (by omega)
set_option maxHeartbeats 16000000 in
theorem ring_turns (k r n0 t0 : Int) (a : Option Addr) (n c : Nat) (l : List Int) (aw : Option Addr) (nw cw : Nat) (wl : List Int) (W : World) (R : Nat → Addr) (hE : Sent W R) (hR : RK .i64 W a n l) (hnm : n ≤ maxLen) (hW : SlI W aw nw cw wl) :
    Calls Tryd.prog 5 #[ruleV k r a n c, .slice aw nw cw, .int .i64 n0, .int .i64 t0] W (TrueBelow W) := by
  have hmw := hW.nm
  have h8w := hW.n8
  obtain ⟨u0, M, tx1, tx2, ⟨v0, tx3, tx4⟩, hM0, hM4⟩ := mod4 t0
  have T0 := Tk.nil W
  have T1 := T0.add (fun wv => Below W.heap.size W wv) (bnil W)
  clear T0
  have T2 := T1.add (fun wv => Sent wv R) (hE)
  clear T1
  have T3 := T2.add (fun wv => RK .i64 wv a n l) (hR)
  clear T2
  have T4 := T3.add (fun wv => SlI wv aw nw cw wl) (hW)
  clear T3
  clear hE hR hW
  obtain ⟨Wb, hWb⟩ : ∃ Wb, W.alloc (.cells #[.int .i64 k, .int .i64 r, .slice a n c] 24) = Wb := ⟨_, rfl⟩
  have hbWb : Below W.heap.size W Wb := by rw [← hWb]; exact balloc (bnil W) _
  have T5 := T4.up hbWb
  clear T4
  have T6 := T5.add (fun wv => wv.cell? ⟨W.heap.size, 0, none⟩ = some (.int .i64 k) ∧ wv.cell? ⟨W.heap.size, 1, none⟩ = some (.int .i64 r) ∧ wv.cell? ⟨W.heap.size, 2, none⟩ = some (.slice a n c)) (by rw [← hWb]; exact ⟨cnw (by simp) rfl, cnw (by simp) rfl, cnw (by simp) rfl⟩)
  clear T5
  have HWb := Lib.hid hWb
  clear hWb hbWb
  go_enter Tryd.func5, Tryd.ntmps5
  go_wp2_with fail
  rw [HWb.out]
  refine (awake06_any Wb R (T6.out.1.1.1.2).glob).mono ?_; rintro e w0 ⟨rfl, hbw0⟩
  have T7 := T6.up hbw0
  clear T6
  by_cases hok : ∃ kn rn : Nat, k = kn ∧ r = rn ∧ IsRule kn rn l ∧ IsRing kn wl
  · skip
    obtain ⟨k, r, rfl, rfl, hru, hrg⟩ := hok
    have HRU := Lib.hid hru
    have HRG := Lib.hid hrg
    have hr3 := hru.r3
    have hnp : 0 < nw := by rw [(T7.out.1.2).rk.len]; exact hrg.l1
    have HLW : Hid (wl.length = nw) := (T7.out.1.2).rk.len.symm
    obtain ⟨bw, ow, rfl, _, _⟩ := (T7.out.1.2).rk.addr hnp
    clear hru hrg
    have v_p0 : w0.cell? ⟨W.heap.size, 0, none⟩ = some (.int .i64 k) := T7.out.2.1
    have v_p1 : w0.cell? ⟨W.heap.size, 1, none⟩ = some (.int .i64 r) := T7.out.2.2.1
    have v_p2 : w0.cell? ⟨W.heap.size, 2, none⟩ = some (.slice a n c) := T7.out.2.2.2
    go_wp2_with fail
    refine (ringstep_ok k r a n c l (some ⟨bw, ow, none⟩) nw cw wl w0 T7.out.1.1.2 (T7.out.1.2).rk HRU.out HRG.out).mono ?_; rintro e w2 ⟨a1, c1, rfl, ho1, hbw2⟩
    clear v_p0 v_p1 v_p2
    have T8 := T7.up hbw2
    clear T7
    have T9 := T8.add (fun wv => OwI wv w0.heap.size a1 nw c1 (ringL k r l wl)) (ho1)
    clear T8
    clear ho1
    by_cases q1 : (100 : Int) < (nw : Int)
    · skip
      go_wp2
      go_ret
      exact ⟨rfl, T9.out.1.1.1.1.1.2⟩
    have n100 : nw ≤ 100 := by omega
    obtain ⟨T, hT, hTn⟩ := turnF n0 nw hnp
    have HT := Lib.hid hT
    clear hT
    have HS0 : Hid (w2.drew.cell? ⟨W.heap.size, 0, none⟩ = some (.int .i64 k) ∧ w2.drew.cell? ⟨W.heap.size, 1, none⟩ = some (.int .i64 r) ∧ w2.drew.cell? ⟨W.heap.size, 2, none⟩ = some (.slice a n c)) := ⟨T9.out.1.2.1, T9.out.1.2.2.1, T9.out.1.2.2.2⟩
    have D0 : Hid (Below w2.heap.size w2 w2.drew) := Below.drew (bnil _)
    have HW0 : Hid (SlI w2.drew (some ⟨bw, ow, none⟩) nw cw wl) := (T9.out.1.1.2).up D0.out
    have HR0 : Hid (RK .i64 w2 a n l) := T9.out.1.1.1.2
    have HRR : Hid (IsRing k (rot wl T)) := ring_rot HRG.out
    have HTE : Hid (ringL k r l (rot wl T) = rot (ringL k r l wl) T) := ring_turn HRG.out.l1 (by rw [HLW.out]; exact Nat.le_of_lt hTn)
    go_upto_region 6 with (fail)
    go_cut [11, 12] from 23 (fun s11 s12 wx => ∃ (aB : Option Addr) (cB : Nat), s11 = .slice aB nw cB ∧ s12 = .nilIface ∧ RK .i64 wx aB nw (rot (ringL k r l wl) T) ∧ Below w2.heap.size w2 wx)
    case first =>
      go_region_held3 (fun w' => w'.cell? ⟨W.heap.size, 0, none⟩ = some (.int .i64 k) ∧ w'.cell? ⟨W.heap.size, 1, none⟩ = some (.int .i64 r) ∧ w'.cell? ⟨W.heap.size, 2, none⟩ = some (.slice a n c))
        (first | with_reducible exact HS6.out | with_reducible exact HS5.out | with_reducible exact HS0.out | go_keep)
        (first
          | (go_at_call 19; refine (turn_any (some ⟨bw, ow, none⟩) nw cw wl n0 _ HW0.out.rk HW0.out.le HW0.out.n8 HW0.out.mx HW0.out.nn).mono ?_; rintro e w3 ⟨a2, c2, rfl, ho2, hb3⟩; rw [HT.out] at ho2; have HO2 : Hid (RK .i64 w3 a2 nw (rot wl T)) := RK.of_own ho2; have HB3 : Hid (Below w2.heap.size w2 w3) := D0.out.trans hb3; have HS5 := Lib.hid (And.intro (cpa hb3 (HS0.out).1) (And.intro (cpa hb3 (HS0.out).2.1) (cpa hb3 (HS0.out).2.2))); clear ho2 hb3)
          | (go_at_call 15; refine (ringstep_ok k r a n c l a2 nw c2 (rot wl T) _ (HR0.out.up HB3.out) HO2.out HRU.out HRR.out).mono ?_; rintro e w4 ⟨a3, c3, rfl, ho3, hb4⟩; rw [HTE.out] at ho3; have HO3 : Hid (RK .i64 w4 a3 nw (rot (ringL k r l wl) T)) := ho3.rk; have HB4 : Hid (Below w2.heap.size w2 w4) := bstep HB3.out hb4; have HS6 := Lib.hid (And.intro (cpa hb4 (HS5.out).1) (And.intro (cpa hb4 (HS5.out).2.1) (cpa hb4 (HS5.out).2.2))); clear ho3 hb4))
      all_goals
        go_wp2_with fail
        go_meet
        exact ⟨a3, c3, rfl, rfl, HO3.out, HB4.out⟩
    case rest =>
      obtain ⟨aB, cB, rfl, rfl, hrb, hbx⟩ := hcut
      generalize wc = wx at *
      have T10 := T9.up hbx
      clear T9
      have T11 := T10.add (fun wv => RK .i64 wv aB nw (rot (ringL k r l wl) T)) (hrb)
      clear T10
      clear hrb HR0 HW0 D0 HS0
      obtain ⟨Q, hQ⟩ : ∃ Q, nw * M = Q := ⟨_, rfl⟩
      have hQ1 : nw * M ≤ 4096 := Nat.le_trans (Nat.mul_le_mul n100 hM4) (by omega)
      have hQ0 : 0 < Q := by rw [← hQ]; exact Nat.mul_pos hnp hM0
      have hQ4 : Q ≤ 4096 := by rw [← hQ]; exact hQ1
      have HRQ : Hid (IsRing k (repL wl Q)) := ring_rep HRG.out hQ0 hQ4
      have HQE : Hid (ringL k r l (repL wl Q) = repL (ringL k r l wl) Q) := by
        show _ = _
        rw [← hQ, ← HLW.out]
        exact ring_times HRG.out.l1 hM0
      go_wp2_with fail
      refine (times_q (some ⟨bw, ow, none⟩) nw cw M Q wl wx (T11.out.1.1.1.2).rk hnp h8w hQ1 hQ).mono ?_; rintro e w3 ⟨aV, cV, rfl, hrv, hbw3⟩
      have T12 := T11.up hbw3
      clear T11
      have T13 := T12.add (fun wv => RK .i64 wv aV Q (repL wl Q)) (hrv)
      clear T12
      clear hrv
      have v_p0 : w3.cell? ⟨W.heap.size, 0, none⟩ = some (.int .i64 k) := T13.out.1.1.1.2.1
      have v_p1 : w3.cell? ⟨W.heap.size, 1, none⟩ = some (.int .i64 r) := T13.out.1.1.1.2.2.1
      have v_p2 : w3.cell? ⟨W.heap.size, 2, none⟩ = some (.slice a n c) := T13.out.1.1.1.2.2.2
      go_wp2_with fail
      refine (ringstep_ok k r a n c l aV Q cV (repL wl Q) w3 T13.out.1.1.1.1.1.2 T13.out.2 HRU.out HRQ.out).mono ?_; rintro e w4 ⟨aC, cC, rfl, ho4, hbw4⟩
      clear v_p0 v_p1 v_p2
      have T14 := T13.up hbw4
      clear T13
      rw [HQE.out] at ho4
      have T15 := T14.add (fun wv => RK .i64 wv aC Q (repL (ringL k r l wl) Q)) (ho4.rk)
      clear T14
      clear ho4
      go_wp2_with fail
      refine (times_q a1 nw c1 M Q (ringL k r l wl) w4 (T15.out.1.1.1.2).rk hnp h8w hQ1 hQ).mono ?_; rintro e w5 ⟨aD, cD, rfl, hrd, hbw5⟩
      have T16 := T15.up hbw5
      clear T15
      have T17 := T16.add (fun wv => RK .i64 wv aD Q (repL (ringL k r l wl) Q)) (hrd)
      clear T16
      clear hrd hQ
      go_wp2_with fail
      refine (turn_any a1 nw c1 (ringL k r l wl) n0 w5 (T17.out.1.1.1.1.2).rk (T17.out.1.1.1.1.2).nnc.1 h8w (T17.out.1.1.1.1.2).nnc.2.1 (T17.out.1.1.1.1.2).nnc.2.2).mono ?_; rintro e w6 ⟨aE, cE, rfl, ho6, hbw6⟩
      have T18 := T17.up hbw6
      clear T17
      rw [HT.out] at ho6
      have T19 := T18.add (fun wv => RK .i64 wv aE nw (rot (ringL k r l wl) T)) (RK.of_own ho6)
      clear T18
      clear ho6
      go_wp2_with fail
      refine (ints_eqB aB aE nw nw cB cE (rot (ringL k r l wl) T) w6 T19.out.1.1.1.1.2 T19.out.2 (by rw [rot_len, ringL_len]; have := HLW.out; unfold maxLen; omega)).mono ?_; rintro e w7 ⟨rfl, hbw7⟩
      have T20 := T19.up hbw7
      clear T19
      go_wp2_with fail
      refine (ints_eqB aC aD Q Q cC cD (repL (ringL k r l wl) Q) w7 T20.out.1.1.2 T20.out.1.2 (by rw [repL_len]; unfold maxLen; omega)).mono ?_; rintro e w8 ⟨rfl, hbw8⟩
      have T21 := T20.up hbw8
      clear T20
      have bneg : IntKind.i64.wrap (-(r : Int)) = -(r : Int) := IntWalk.i64_in _ (by omega)
      have bsum : IntKind.i64.wrap ((nw : Int) + (r : Int)) = (nw : Int) + (r : Int) := IntWalk.i64_in _ (by omega)
      clear tx1 tx2 tx3 tx4 hM0 hM4 hQ0 hQ1 hQ4 hbx hbw2 hbw3 hbw4 hbw5 hbw6 hbw7 hbw8
      have z1 : (w8.alloc (.cells #[] 3)).cell? ⟨W.heap.size, 1, none⟩ = some (.int .i64 r) := al000 (T21.out.1.1.1.1.1.1.2.2.1)
      have v_p0 : w8.cell? ⟨W.heap.size, 0, none⟩ = some (.int .i64 k) := T21.out.1.1.1.1.1.1.2.1
      have v_p1 : w8.cell? ⟨W.heap.size, 1, none⟩ = some (.int .i64 r) := T21.out.1.1.1.1.1.1.2.2.1
      have v_p2 : w8.cell? ⟨W.heap.size, 2, none⟩ = some (.slice a n c) := T21.out.1.1.1.1.1.1.2.2.2
      go_wp2_with fail
      clear v_p0 v_p1 v_p2
      clear z1
      go_loopw [19, 20] (fun sx si wr => ∃ (q : Nat) (aL : Option Addr) (cL : Nat), q ≤ nw + 2 * r ∧ si = .int .i64 ((q : Int) - (r : Int)) ∧ sx = .slice aL q cL ∧ wr.ownsRow w8.heap.size 3 1 (.slice aL q cL) q ((valsF (ringF wl) (-(r : Int)) q).map (Value.int .i64)) ∧ Below w8.heap.size w8 wr) (fun _ si _ => nw + 2 * r - (intOf si + (r : Int)).toNat)
      case atStart => exact ⟨0, _, _, by omega, by rw [show ((0 : Nat) : Int) - (r : Int) = -(r : Int) by omega], rfl, own_empty _ _ rfl (Nat.le_refl _), balloc (bnil w8) _⟩
      case round =>
        obtain ⟨q, aL, cL, hq, rfl, rfl, hown, hb⟩ := hrel
        have HOW := Lib.hid hown
        have HBR := Lib.hid hb
        clear hown
        have T22 := T21.up hb
        clear T21
        clear hb
        obtain ⟨j, hj⟩ : ∃ j : Int, (q : Int) - (r : Int) = j := ⟨_, rfl⟩
        rw [hj]
        by_cases hlt : q < nw + 2 * r
        · skip
          have j1 : j < (nw : Int) + (r : Int) := by omega
          obtain ⟨u, X, y1, y2, y3, y4, y5, y6⟩ := ring_at j hnp
          have y7 : IntKind.i64.wrap (u + (nw : Int)) = u + (nw : Int) := IntWalk.i64_in _ (by omega)
          have y8 : IntKind.i64.wrap (j + 1) = j + 1 := IntWalk.i64_in _ (by omega)
          have nnz : ((nw : Int) == 0) = false := by rw [beq_eq_false_iff_ne]; omega
          have x0 : (0 : Int) ≤ (X : Int) := by omega
          have x1 : (X : Int) < (nw : Int) := by omega
          have HSL := Lib.hid (T22.out.1.1.1.1.1.1.1.2)
          obtain ⟨b', o', e', _, hc⟩ := HSL.out.rk.addr hnp
          cases e'
          have z0 := hc X y5
          have hv : wl.getD X 0 = ringF wl (-(r : Int) + (q : Int)) := by
            unfold ringF
            rw [show -(r : Int) + (q : Int) = j by omega, HLW.out, y6]
            rfl
          rw [hv] at z0
          have hq9 : q ≤ 200 := by omega
          have HJ := Lib.hid (And.intro hj (And.intro hq hlt))
          clear hc hv hj hq hlt y2 y3 y6
          have v_p0 : wr.cell? ⟨W.heap.size, 0, none⟩ = some (.int .i64 k) := T22.out.1.1.1.1.1.1.2.1
          have v_p1 : wr.cell? ⟨W.heap.size, 1, none⟩ = some (.int .i64 r) := T22.out.1.1.1.1.1.1.2.2.1
          have v_p2 : wr.cell? ⟨W.heap.size, 2, none⟩ = some (.slice a n c) := T22.out.1.1.1.1.1.1.2.2.2
          generalize hzz : ringF wl (-(r : Int) + (q : Int)) = zz at z0
          have HZ := Lib.hid hzz
          clear hzz
          go_wp2_with ((at_builtin; refine apl rfl _ _ _ rfl w8.heap.size et_int _ q _ HOW.out rfl 1 _ _ rfl rfl rfl rfl (by unfold maxLen; omega) (by omega) HBR.out.size ?_; intro a7 c7 w7' h7))
          go_roundw
          case rel =>
            refine ⟨q + 1, a7, c7, by have := HJ.out; omega, by rw [← HJ.out.1]; congr 1; omega, rfl, ?_, HBR.out.trans h7.below⟩
            have q7 := h7.own
            rw [valsF_succ, HZ.out, List.map_append]
            exact q7
          case measure => simp [intOf]; have := HJ.out; omega
        · skip
          obtain rfl : q = nw + 2 * r := by omega
          have j2 : ¬ j < (nw : Int) + (r : Int) := by omega
          have HLL : Hid (RK .i64 wr aL (nw + 2 * r) (valsF (ringF wl) (-(r : Int)) (nw + 2 * r))) := RK.of_own HOW.out
          have HLE : Hid (stepL k r l (valsF (ringF wl) (-(r : Int)) (nw + 2 * r)) = ringL k r l wl) := by
            show _ = _
            rw [← HLW.out]
            exact ring_long
          have hNL : nw + 2 * r - 2 * r = nw := by omega
          have hN4 : nw + 2 * r ≤ 4096 := by omega
          have HSY : Hid (∀ x ∈ valsF (ringF wl) (-(r : Int)) (nw + 2 * r), 0 ≤ x ∧ x < (k : Int)) := valsF_mem (P := fun x => 0 ≤ x ∧ x < (k : Int)) fun i => ringF_range HRU.out.k1 HRG.out.sym i
          generalize nw + 2 * r = NL at *
          clear HOW HBR hlt hj
          generalize wr = v9 at *
          have v_p0 : v9.cell? ⟨W.heap.size, 0, none⟩ = some (.int .i64 k) := T22.out.1.1.1.1.1.1.2.1
          have v_p1 : v9.cell? ⟨W.heap.size, 1, none⟩ = some (.int .i64 r) := T22.out.1.1.1.1.1.1.2.2.1
          have v_p2 : v9.cell? ⟨W.heap.size, 2, none⟩ = some (.slice a n c) := T22.out.1.1.1.1.1.1.2.2.2
          go_wp2_with fail
          refine (rstep_q k r nw a n c l aL NL cL _ [] (ringL k r l wl) v9 T22.out.1.1.1.1.1.1.1.1.2 HLL.out HRU.out hN4 HSY.out hNL HLE.out).mono ?_; rintro e v1 ⟨aX, cX, rfl, hrx, hbv1⟩
          clear v_p0 v_p1 v_p2
          have T23 := T22.up hbv1
          clear T22
          have T24 := T23.add (fun wv => RK .i64 wv aX nw (ringL k r l wl)) (hrx)
          clear T23
          clear hrx
          go_wp2_with fail
          refine (ints_eqB aX a1 nw nw cX c1 (ringL k r l wl) v1 T24.out.2 (T24.out.1.1.1.1.1.1.2).rk (by rw [ringL_len]; have := HLW.out; unfold maxLen; omega)).mono ?_; rintro e v2 ⟨rfl, hbv2⟩
          have T25 := T24.up hbv2
          clear T24
          go_wp2
          go_ret
          exact ⟨rfl, T25.out.1.1.1.1.1.1.1.1.1.1.1.2⟩
  · skip
    have hno : ∀ kn rn : Nat, k = kn → r = rn → IsRule kn rn l → ¬ IsRing kn wl := fun kn rn h1 h2 h3 h4 => hok ⟨kn, rn, h1, h2, h3, h4⟩
    have HNO := Lib.hid hno
    clear hno hok
    have v_p0 : w0.cell? ⟨W.heap.size, 0, none⟩ = some (.int .i64 k) := T7.out.2.1
    have v_p1 : w0.cell? ⟨W.heap.size, 1, none⟩ = some (.int .i64 r) := T7.out.2.2.1
    have v_p2 : w0.cell? ⟨W.heap.size, 2, none⟩ = some (.slice a n c) := T7.out.2.2.2
    go_wp2_with fail
    refine (ringstep_err k r a n c l aw nw cw wl w0 R (T7.out.1.1.1.2).glob T7.out.1.1.2 hnm (T7.out.1.2).rk hmw HNO.out).mono ?_; rintro e w2 ⟨g9, rfl, hbw2⟩
    clear v_p0 v_p1 v_p2
    have T8 := T7.up hbw2
    clear T7
    go_wp2
    go_ret
    exact ⟨rfl, T8.out.1.1.1.1.2⟩
theorem ring_turns_row (k r : Int) (a : Option Addr) (n c : Nat) (l : List Int) (aw : Option Addr) (cw : Nat) (wl : List Int) (n0 t0 : Int) (W : World) (R : Nat → Addr) (hE : Sent W R) (hR : RK .i64 W a n l) (hnc : n ≤ c) (hcm : c ≤ maxLen)
    (hR1 : Rd W aw wl.length 1 (wl.map (Value.int .i64))) (hl1 : wl.length ≤ cw) (hz1 : cw * 8 ≤ 140737488351232) (hn1 : aw = none → cw = 0) (hx1 : ∀ x ∈ wl, -9223372036854775808 ≤ x ∧ x ≤ 9223372036854775807) :
    Calls Tryd.prog 5 #[ruleV k r a n c, .slice aw wl.length cw, .int .i64 n0, .int .i64 t0] W (TrueBelow W) :=
  ring_turns k r n0 t0 a n c l aw wl.length cw wl W R hE hR (Nat.le_trans hnc hcm) ⟨⟨rfl, hR1⟩, hl1, by omega, by unfold maxLen; omega, hn1⟩
end Go.Proofs.YtjgblanpaanglaaDoor
