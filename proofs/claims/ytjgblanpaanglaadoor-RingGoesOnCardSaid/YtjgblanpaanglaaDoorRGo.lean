/- edenlaw06.RingGoesOn returns true. -/
import Derived.Test.YtjgblanpaanglaaDoorAwk06
import Derived.Test.YtjgblanpaanglaaDoorRngE
import Derived.Test.YtjgblanpaanglaaDoorLent
import Derived.Test.YtjgblanpaanglaaDoorErrB
import Derived.Deep.QuietTactic
import Derived.BigQuiet
namespace Go.Proofs.YtjgblanpaanglaaDoor
open Go.RowKit
set_option linter.unusedVariables false
set_option maxRecDepth 100000

instance monoSentR {R : Nat → Addr} : Mono (fun w => Sent w R) := ⟨⟨fun hb h => h.up hb⟩⟩
theorem modR (s : Int) (m : Nat) (hm : 0 < m) : ∃ (r : Int) (X : Nat), s.tmod (m : Int) = r ∧ -(m : Int) < r ∧ r < (m : Int) ∧ (r + m).tmod m = (X : Int) ∧ (r + m) % (m : Int) = (X : Int) ∧ X < m := by
  have h1 := Int.lt_tmod_of_pos s (show (0 : Int) < (m : Int) by omega)
  have h2 := Int.tmod_lt_of_pos s (show (0 : Int) < (m : Int) by omega)
  have h3 := Int.emod_nonneg (s.tmod m + m) (show (m : Int) ≠ 0 by omega)
  have h4 := Int.emod_lt_of_pos (s.tmod m + m) (show (0 : Int) < (m : Int) by omega)
  have e : (s.tmod m + m) % (m : Int) = (((s.tmod m + m) % (m : Int)).toNat : Int) := by omega
  refine ⟨s.tmod m, ((s.tmod m + m) % (m : Int)).toNat, rfl, by omega, h2, ?_, e, by omega⟩
  rw [Int.tmod_eq_emod_of_nonneg (by omega)]
  exact e
section
variable {P : Program} {ops : Array Oper} {Q : Exit → Act → World → Prop} {a : Act} {rest : List Oper} {o : Oper}
theorem apxg {w : World} (hw : Region.wanted o (yielded ops a.tmps) = true) (s x : Operand) (t : TypeId) (hop : o.op = .call { callee := .builtin .append, args := #[s, x], argTypes := #[t, t] })
    (base : Nat) {e : TypeId} {z : Value} {size bytes : Nat} (T : ET P t e z size bytes)
    (v : Value) (n : Nat) (xs : List Value) (hown : w.ownsRow base e size v n xs) (hs : a.eval s = v)
    (ad : Option Addr) (m c : Nat) (news : List Value) (hx : a.eval x = .slice ad m c) (hnil : ad = none → c = 0) (hR : Rd w ad m size news) (h1 : ∀ u ∈ news, u.oneCell' = true)
    (b1 : n + m ≤ maxLen) (b2 : (n + m) * bytes ≤ 140737488355328) (b4 : base ≤ w.heap.size)
    (hK : ∀ a' c' w', Appended base e size w w' v (.slice a' (n + m) c') n m xs news → wpList P ops Q rest (a.put o.dst (.slice a' (n + m) c')) w') :
    wpList P ops Q (o :: rest) a w := by
  obtain ⟨v', w', hrun, happ⟩ := run_append_law (ty := o.type) base T v n xs hown ad m c news hnil hR h1 b1 b2 b4
  obtain ⟨a', c', rfl, _, _⟩ := owns_slice happ.own
  refine wpList_step fun K hK' => ?_
  rw [if_pos hw]
  unfold Oper.wp
  simp [execOp, hop, resolve, invoke, builtin, hs, hx, hrun, Result.andThen]
  exact hK' _ _ (hK _ _ _ happ)
end
set_option maxHeartbeats 16000000 in
theorem ring_goes_on (k r s0 t0 : Int) (a : Option Addr) (n c : Nat) (l : List Int) (aw : Option Addr) (nw cw : Nat) (wl : List Int) (W : World) (R : Nat → Addr) (hE : Sent W R) (hR : RK .i64 W a n l) (hnm : n ≤ maxLen) (hW : SlI W aw nw cw wl) :
    Calls Tryd.prog 3 #[ruleV k r a n c, .slice aw nw cw, .int .i64 s0, .int .i64 t0] W (TrueBelow W) := by
  have hmw := hW.nm
  have h8w := hW.n8
  obtain ⟨rs, S, sx1, sx2, sx3, sx4, sx5, hS⟩ := modR s0 40 (by omega)
  obtain ⟨rt, T, tx1, tx2, tx3, tx4, tx5, hT⟩ := modR t0 40 (by omega)
  have sx1 : s0.tmod 40 = rs := sx1
  have tx1 : t0.tmod 40 = rt := tx1
  have sx4 : (rs + 40).tmod 40 = (S : Int) := sx4
  have tx4 : (rt + 40).tmod 40 = (T : Int) := tx4
  have b1 : IntKind.i64.wrap (rs + 40) = rs + 40 := IntWalk.i64_in _ (by omega)
  have b2 : IntKind.i64.wrap (rt + 40) = rt + 40 := IntWalk.i64_in _ (by omega)
  have b3 : IntKind.i64.wrap ((S : Int) + (T : Int)) = ((S + T : Nat) : Int) := by rw [show ((S + T : Nat) : Int) = (S : Int) + (T : Int) by omega]; exact IntWalk.i64_in _ (by omega)
  clear sx2 sx3 sx5 tx2 tx3 tx5
  have T0 := Tk.nil W
  have T1 := T0.add (fun wv => Below W.heap.size W wv) (bnil W)
  clear T0
  have T2 := T1.add (fun wv => Sent wv R) (hE)
  clear T1
  have T3 := T2.add (fun wv => RK .i64 wv a n l) (hR)
  clear T2
  have T4 := T3.add (fun wv => SlI wv aw nw cw wl) (hW)
  clear T3
  clear hE hR hW
  obtain ⟨Wb, hWb⟩ : ∃ Wb, W.alloc (.cells #[.int .i64 k, .int .i64 r, .slice a n c] 24) = Wb := ⟨_, rfl⟩
  have hbWb : Below W.heap.size W Wb := by rw [← hWb]; exact balloc (bnil W) _
  have T5 := T4.up hbWb
  clear T4
  have T6 := T5.add (fun wv => wv.cell? ⟨W.heap.size, 0, none⟩ = some (.int .i64 k) ∧ wv.cell? ⟨W.heap.size, 1, none⟩ = some (.int .i64 r) ∧ wv.cell? ⟨W.heap.size, 2, none⟩ = some (.slice a n c)) (by rw [← hWb]; exact ⟨cnw (by simp) rfl, cnw (by simp) rfl, cnw (by simp) rfl⟩)
  clear T5
  have HWb := Lib.hid hWb
  clear hWb hbWb
  go_enter Tryd.func3, Tryd.ntmps3
  go_wp2_with fail
  rw [HWb.out]
  refine (awake06_any Wb R (T6.out.1.1.1.2).glob).mono ?_; rintro e w0 ⟨rfl, hbw0⟩
  have T7 := T6.up hbw0
  clear T6
  by_cases q1 : (200 : Int) < (nw : Int)
  · skip
    go_wp2
    go_ret
    exact ⟨rfl, T7.out.1.1.1.1.2⟩
  have n200 : nw ≤ 200 := by omega
  by_cases hok : ∃ kn rn : Nat, k = kn ∧ r = rn ∧ IsRule kn rn l ∧ IsRing kn wl
  · skip
    obtain ⟨k, r, rfl, rfl, hru, hrg⟩ := hok
    have HRU := Lib.hid hru
    have HRG := Lib.hid hrg
    have h40 : ∀ q, q ≤ 78 → q * nw ≤ 262144 := fun q hq => Nat.le_trans (Nat.mul_le_mul hq n200) (by omega)
    have hST := h40 (S + T) (by omega)
    have hSS := h40 S (by omega)
    have hTT := h40 T (by omega)
    have hnp : 0 < nw := by rw [(T7.out.1.2).rk.len]; exact hrg.l1
    clear hru hrg h40
    have v_p0 : w0.cell? ⟨W.heap.size, 0, none⟩ = some (.int .i64 k) := T7.out.2.1
    have v_p1 : w0.cell? ⟨W.heap.size, 1, none⟩ = some (.int .i64 r) := T7.out.2.2.1
    have v_p2 : w0.cell? ⟨W.heap.size, 2, none⟩ = some (.slice a n c) := T7.out.2.2.2
    go_wp2_with fail
    refine (rafter_ok k r S a n c l aw nw cw wl w0 T7.out.1.1.2 T7.out.1.2 HRU.out HRG.out hSS).mono ?_; rintro e w2 ⟨a1, c1, rfl, ho1, hbw2⟩
    clear v_p0 v_p1 v_p2
    have T8 := T7.up hbw2
    clear T7
    have T9 := T8.add (fun wv => SlI wv a1 nw c1 (itR k r l S wl)) (ho1.sl (by omega))
    clear T8
    clear ho1
    have HR1 := Lib.hid (itR_ring HRU.out HRG.out S)
    have v_p0 : w2.cell? ⟨W.heap.size, 0, none⟩ = some (.int .i64 k) := T9.out.1.2.1
    have v_p1 : w2.cell? ⟨W.heap.size, 1, none⟩ = some (.int .i64 r) := T9.out.1.2.2.1
    have v_p2 : w2.cell? ⟨W.heap.size, 2, none⟩ = some (.slice a n c) := T9.out.1.2.2.2
    go_wp2_with fail
    refine (rafter_ok k r T a n c l a1 nw c1 (itR k r l S wl) w2 T9.out.1.1.1.2 T9.out.2 HRU.out HR1.out hTT).mono ?_; rintro e w3 ⟨a2, c2, rfl, ho2, hbw3⟩
    clear v_p0 v_p1 v_p2
    have T10 := T9.up hbw3
    clear T9
    have T11 := T10.add (fun wv => RK .i64 wv a2 nw (itR k r l (S + T) wl)) (by rw [itR_add]; exact ho2.rk)
    clear T10
    clear ho2
    have v_p0 : w3.cell? ⟨W.heap.size, 0, none⟩ = some (.int .i64 k) := T11.out.1.1.2.1
    have v_p1 : w3.cell? ⟨W.heap.size, 1, none⟩ = some (.int .i64 r) := T11.out.1.1.2.2.1
    have v_p2 : w3.cell? ⟨W.heap.size, 2, none⟩ = some (.slice a n c) := T11.out.1.1.2.2.2
    go_wp2_with fail
    refine (rafter_ok k r (S + T) a n c l aw nw cw wl w3 T11.out.1.1.1.1.2 T11.out.1.1.1.2 HRU.out HRG.out hST).mono ?_; rintro e w4 ⟨a3, c3, rfl, ho3, hbw4⟩
    clear v_p0 v_p1 v_p2
    have T12 := T11.up hbw4
    clear T11
    have T13 := T12.add (fun wv => RK .i64 wv a3 nw (itR k r l (S + T) wl)) (ho3.rk)
    clear T12
    clear ho3
    have v_p0 : w4.cell? ⟨W.heap.size, 0, none⟩ = some (.int .i64 k) := T13.out.1.1.1.2.1
    have v_p1 : w4.cell? ⟨W.heap.size, 1, none⟩ = some (.int .i64 r) := T13.out.1.1.1.2.2.1
    have v_p2 : w4.cell? ⟨W.heap.size, 2, none⟩ = some (.slice a n c) := T13.out.1.1.1.2.2.2
    go_wp2_with fail
    refine (rtrace_ok k r (S + T) a n c l aw nw cw wl w4 T13.out.1.1.1.1.1.2 T13.out.1.1.1.1.2 HRU.out HRG.out hST).mono ?_; rintro e w5 ⟨a4, c4, rfl, ho4, hbw5⟩
    clear v_p0 v_p1 v_p2
    have T14 := T13.up hbw5
    clear T13
    have T15 := T14.add (fun wv => RK .i64 wv a4 (S + T) (trR k r l (S + T) wl)) (ho4.rk)
    clear T14
    clear ho4
    have v_p0 : w5.cell? ⟨W.heap.size, 0, none⟩ = some (.int .i64 k) := T15.out.1.1.1.1.2.1
    have v_p1 : w5.cell? ⟨W.heap.size, 1, none⟩ = some (.int .i64 r) := T15.out.1.1.1.1.2.2.1
    have v_p2 : w5.cell? ⟨W.heap.size, 2, none⟩ = some (.slice a n c) := T15.out.1.1.1.1.2.2.2
    go_wp2_with fail
    refine (rtrace_ok k r S a n c l aw nw cw wl w5 T15.out.1.1.1.1.1.1.2 T15.out.1.1.1.1.1.2 HRU.out HRG.out hSS).mono ?_; rintro e w6 ⟨a5, c5, rfl, ho5, hbw6⟩
    clear v_p0 v_p1 v_p2
    have T16 := T15.up hbw6
    clear T15
    have T17 := T16.add (fun wv => SlI wv a5 S c5 (trR k r l S wl)) (ho5.sl (by omega))
    clear T16
    clear ho5
    have v_p0 : w6.cell? ⟨W.heap.size, 0, none⟩ = some (.int .i64 k) := T17.out.1.1.1.1.1.2.1
    have v_p1 : w6.cell? ⟨W.heap.size, 1, none⟩ = some (.int .i64 r) := T17.out.1.1.1.1.1.2.2.1
    have v_p2 : w6.cell? ⟨W.heap.size, 2, none⟩ = some (.slice a n c) := T17.out.1.1.1.1.1.2.2.2
    go_wp2_with fail
    refine (rtrace_ok k r T a n c l a1 nw c1 (itR k r l S wl) w6 T17.out.1.1.1.1.1.1.1.2 T17.out.1.1.1.1.2 HRU.out HR1.out hTT).mono ?_; rintro e w7 ⟨a6, c6, rfl, ho6, hbw7⟩
    clear v_p0 v_p1 v_p2
    have T18 := T17.up hbw7
    clear T17
    have T19 := T18.add (fun wv => SlI wv a6 T c6 (trR k r l T (itR k r l S wl))) (ho6.sl (by omega))
    clear T18
    clear ho6
    go_wp2_with fail
    refine (ints_eqB a2 a3 nw nw c2 c3 (itR k r l (S + T) wl) w7 T19.out.1.1.1.1.2 T19.out.1.1.1.2 (by have := (T19.out.1.1.1.1.2).len; unfold maxLen; omega)).mono ?_; rintro e w8 ⟨rfl, hbw8⟩
    have T20 := T19.up hbw8
    clear T19
    have HW8 := Lib.hid (And.intro (T20.out.1.1.2) (And.intro ((T20.out.2).rk) (And.intro ((T20.out.1.1.1.1.1.2).rk) (T20.out.1.1.1.1.1.1.1.1.1.1.2))))
    go_wp2_with fail
    refine (copy_any a5 S c5 (trR k r l S wl) w8 (T20.out.1.2).rk (T20.out.1.2).n8 (T20.out.1.2).nn).mono ?_; rintro e w9 ⟨a7, c7, rfl, ho7, hbw9⟩
    have T21 := T20.up hbw9
    clear T20
    have HO7 := Lib.hid ho7
    clear ho7
    go_wp2_with (first
      | (at_builtin; refine apxg (by first | rfl | simp [Region.wanted, yielded]) _ _ _ rfl w8.heap.size et_int _ S _ HO7.out rfl a6 T c6 _ rfl (T21.out.2).nn (T21.out.2).rk.2 (nums_one _ _) (by unfold maxLen; omega) (by omega) hbw9.size ?_; intro a8 c8 wa h8))
    have hba : Below w9.heap.size w9 wa ∨ True := .inr trivial
    clear hba
    have HA8 : Hid (RK .i64 wa a8 (S + T) (trR k r l (S + T) wl)) := by
      show RK _ _ _ _ _
      rw [trR_add]
      have q := h8.own
      rw [← List.map_append] at q
      exact RK.of_own q
    have hbz : Below w8.heap.size w8 wa := hbw9.trans h8.below
    have H4a : Hid (RK .i64 wa a4 (S + T) (trR k r l (S + T) wl)) := (HW8.out.1).up hbz
    have H6a : Hid (RK .i64 wa a6 T (trR k r l T (itR k r l S wl))) := (HW8.out.2.1).up hbz
    have H1a : Hid (RK .i64 wa a1 nw (itR k r l S wl)) := (HW8.out.2.2.1).up hbz
    have HBa : Hid (Below W.heap.size W wa) := bstep HW8.out.2.2.2 hbz
    clear h8 hbz
    go_wp2_with fail
    refine (ints_eqB a4 a8 (S + T) (S + T) c4 c8 (trR k r l (S + T) wl) wa H4a.out HA8.out (by rw [trR_len]; unfold maxLen; omega)).mono ?_; rintro e wb ⟨rfl, hbb⟩
    have HBb := Lib.hid (bstep HBa.out hbb)
    by_cases hT0 : T = 0
    · subst hT0
      go_wp2_with fail
      go_quiet (fail)
      go_wp2
      go_ret
      exact ⟨rfl, bdrewN HBb.out _⟩
    · have hTp : 0 < T := by omega
      have tn : ¬ (T : Int) = 0 := by omega
      have tnb : ((T : Int) == 0) = false := by rw [beq_eq_false_iff_ne]; exact tn
      obtain ⟨b6, o6, e6, _, hc6⟩ := (H6a.out.up hbb).addr hTp
      obtain ⟨b7, o7, e7, _, hc7⟩ := (H1a.out.up hbb).addr hnp
      have z6 := hc6 0 hTp
      have z7 := hc7 0 hnp
      rw [trR_zero hTp] at z6
      subst e6 e7
      rw [Nat.add_zero] at z6 z7
      have i6 : (0 : Int) < (T : Int) := by omega
      have i7 : (0 : Int) < (nw : Int) := by omega
      generalize (itR k r l S wl).getD 0 0 = zz at z6 z7
      clear hc6 hc7
      go_wp2_with fail
      go_quiet (fail)
      go_wp2
      go_ret
      exact ⟨rfl, bdrewN HBb.out _⟩
  · skip
    have hno : ∀ kn rn : Nat, k = kn → r = rn → IsRule kn rn l → ¬ IsRing kn wl := fun kn rn h1 h2 h3 h4 => hok ⟨kn, rn, h1, h2, h3, h4⟩
    have HNO := Lib.hid hno
    clear hno hok
    have v_p0 : w0.cell? ⟨W.heap.size, 0, none⟩ = some (.int .i64 k) := T7.out.2.1
    have v_p1 : w0.cell? ⟨W.heap.size, 1, none⟩ = some (.int .i64 r) := T7.out.2.2.1
    have v_p2 : w0.cell? ⟨W.heap.size, 2, none⟩ = some (.slice a n c) := T7.out.2.2.2
    go_wp2_with fail
    refine (rafter_err k r S a n c l aw nw cw wl w0 R (T7.out.1.1.1.2).glob T7.out.1.1.2 hnm (T7.out.1.2).rk hmw HNO.out).mono ?_; rintro e w2 ⟨g9, rfl, hbw2⟩
    clear v_p0 v_p1 v_p2
    have T8 := T7.up hbw2
    clear T7
    go_wp2
    go_ret
    exact ⟨rfl, T8.out.1.1.1.1.2⟩
theorem ring_goes_on_row (k r : Int) (a : Option Addr) (n c : Nat) (l : List Int) (aw : Option Addr) (cw : Nat) (wl : List Int) (s0 t0 : Int) (W : World) (R : Nat → Addr) (hE : Sent W R) (hR : RK .i64 W a n l) (hnc : n ≤ c) (hcm : c ≤ maxLen)
    (hR1 : Rd W aw wl.length 1 (wl.map (Value.int .i64))) (hl1 : wl.length ≤ cw) (hz1 : cw * 8 ≤ 140737488351232) (hn1 : aw = none → cw = 0) (hx1 : ∀ x ∈ wl, -9223372036854775808 ≤ x ∧ x ≤ 9223372036854775807) :
    Calls Tryd.prog 3 #[ruleV k r a n c, .slice aw wl.length cw, .int .i64 s0, .int .i64 t0] W (TrueBelow W) :=
  ring_goes_on k r s0 t0 a n c l aw wl.length cw wl W R hE hR (Nat.le_trans hnc hcm) ⟨⟨rfl, hR1⟩, hl1, by omega, by unfold maxLen; omega, hn1⟩
end Go.Proofs.YtjgblanpaanglaaDoor
