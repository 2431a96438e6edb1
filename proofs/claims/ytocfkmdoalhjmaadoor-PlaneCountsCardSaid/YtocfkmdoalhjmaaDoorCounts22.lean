/- edenlaw22.PlaneCounts returns true. -/
import Derived.Test.YtocfkmdoalhjmaaDoorAwk22
import Derived.Deep.QuietTactic
import Derived.BigQuiet
namespace Go.Proofs.YtocfkmdoalhjmaaDoor
open Go.RowKit
set_option linter.unusedVariables false
set_option maxRecDepth 100000

theorem OwI.lmC {w : World} {B : Nat} {a : Option Addr} {n c : Nat} {l : List Int} (h : OwI w B a n c l) : n ≤ maxLen := by
  have h2 := h.nnc
  omega
theorem life_erQ (s : ByteArray) (W : World) (R : Nat → Addr) (hS : Sent W R) (hd : lifeD s ≠ none) : Calls Tryd.prog 16 #[.string s] W fun e w' => ∃ a n c t p, e = .returned (.tuple #[.slice a n c, .iface t p]) ∧ RK .i64 w' a n (lifeO s) ∧ n ≤ maxLen ∧ Below W.heap.size W w' := by
  refine (life_any s W R hS).mono ?_
  rintro e w' ⟨a, n, c, ev, rfl, ho, he, hb⟩
  cases hq : lifeD s with
  | none => exact absurd hq hd
  | some x =>
    rw [hq] at he
    obtain ⟨t, p, rfl⟩ := Chain.iface he
    exact ⟨a, n, c, t, _, rfl, ho.rk, ho.lmC, hb⟩
theorem life_okQ (s : ByteArray) (b st : Nat) (W : World) (R : Nat → Addr) (hS : Sent W R) (hd : lifeD s = none) (ho : lifeO s = tabOf b st) : Calls Tryd.prog 16 #[.string s] W fun e w' => ∃ a c, e = .returned (.tuple #[.slice a 512 c, .nilIface]) ∧ RK .i64 w' a 512 (tabOf b st) ∧ Below W.heap.size W w' := by
  refine (life_any s W R hS).mono ?_
  rintro e w' ⟨a, n, c, ev, rfl, hw, he, hb⟩
  rw [hd] at he
  rw [ho] at hw
  obtain rfl : n = 512 := hw.rk.len.trans (tabOf_len b st)
  obtain rfl : ev = .nilIface := he
  exact ⟨a, c, rfl, hw.rk, hb⟩
theorem plstep_anyQ (w h : Int) (a aT : Option Addr) (n c nT cT : Nat) (l t : List Int) (W : World) (R : Nat → Addr) (hS : Sent W R) (hR : SlI W a n c l) (hx : I64 l) (hT : RK .i64 W aT nT t) (hmT : nT ≤ maxLen) :
    Calls Tryd.prog 17 #[.slice aT nT cT, patV w h a n c] W fun e w' => ∃ o1 o2 a' n' c' ev, e = .returned (.tuple #[patV o1 o2 a' n' c', ev]) ∧ EC R w' ev (stepD t w h l) ∧ Below W.heap.size W w' := by
  refine (plstep_any w h a aT n c nT cT l t W R hS hR hx hT hmT).mono ?_
  rintro e w' ⟨a', n', c', ev, rfl, ho, he, hb⟩
  exact ⟨_, _, a', n', c', ev, rfl, he, hb⟩
theorem plstep_erQ (w h : Int) (a aT : Option Addr) (n c nT cT : Nat) (l t : List Int) (W : World) (R : Nat → Addr) (hS : Sent W R) (hR : SlI W a n c l) (hx : I64 l) (hT : RK .i64 W aT nT t) (hmT : nT ≤ maxLen) (hd : stepD t w h l ≠ none) :
    Calls Tryd.prog 17 #[.slice aT nT cT, patV w h a n c] W fun e w' => ∃ o1 o2 a' n' c' t p, e = .returned (.tuple #[patV o1 o2 a' n' c', .iface t p]) ∧ Below W.heap.size W w' := by
  refine (plstep_anyQ w h a aT n c nT cT l t W R hS hR hx hT hmT).mono ?_
  rintro e w' ⟨o1, o2, a', n', c', ev, rfl, he, hb⟩
  cases hq : stepD t w h l with
  | none => exact absurd hq hd
  | some x =>
    rw [hq] at he
    obtain ⟨t, p, rfl⟩ := Chain.iface he
    exact ⟨o1, o2, a', n', c', t, _, rfl, hb⟩
theorem plstep_okQ (w h WN HN K : Nat) (a aT : Option Addr) (n c nT cT : Nat) (l t LL : List Int) (W : World) (R : Nat → Addr) (hS : Sent W R) (hR : SlI W a n c l) (hT : RK .i64 W aT nT t) (hmT : nT ≤ maxLen) (ht : IsTab t) (hp : IsPatch w h l) (hw3 : 3 ≤ w) (hh3 : 3 ≤ h) (e1 : w - 2 = WN) (e2 : h - 2 = HN) (e3 : WN * HN = K) (e4 : stepL t w h l = LL) :
    Calls Tryd.prog 17 #[.slice aT nT cT, patV w h a n c] W fun e w' => ∃ a' c', e = .returned (.tuple #[patV WN HN a' K c', .nilIface]) ∧ OwI w' W.heap.size a' K c' LL ∧ Below W.heap.size W w' := by
  refine (plstep_ok w h a aT n c nT cT l t W R hS hR hT hmT ht hp hw3 hh3).mono ?_
  rintro e w' ⟨a', n', c', rfl, ho, hb⟩
  have hn := ho.rk.len
  rw [show (stepL t w h l).length = (w - 2) * (h - 2) from madeL_len _ _ _] at hn
  subst e1 e2 e3 e4 hn
  exact ⟨a', c', rfl, ho, hb⟩
theorem modN (s : Int) (m : Nat) (hm : 0 < m) : ∃ (r : Int) (X : Nat), s.tmod (m : Int) = r ∧ -(m : Int) < r ∧ r < (m : Int) ∧ (r + m).tmod m = (X : Int) ∧ (r + m) % (m : Int) = (X : Int) ∧ X < m := by
  have h1 := Int.lt_tmod_of_pos s (show (0 : Int) < (m : Int) by omega)
  have h2 := Int.tmod_lt_of_pos s (show (0 : Int) < (m : Int) by omega)
  have h3 := Int.emod_nonneg (s.tmod m + m) (show (m : Int) ≠ 0 by omega)
  have h4 := Int.emod_lt_of_pos (s.tmod m + m) (show (0 : Int) < (m : Int) by omega)
  have e : (s.tmod m + m) % (m : Int) = (((s.tmod m + m) % (m : Int)).toNat : Int) := by omega
  refine ⟨s.tmod m, ((s.tmod m + m) % (m : Int)).toNat, rfl, by omega, h2, ?_, e, by omega⟩
  rw [Int.tmod_eq_emod_of_nonneg (by omega)]
  exact e
theorem wr1 {x : Int} (h1 : -100000 ≤ x) (h2 : x ≤ 100000) : IntKind.i64.wrap x = x := IntWalk.i64_in _ (by omega)
theorem mulI {a b Q : Nat} (h : a * b = Q) : (a : Int) * (b : Int) = (Q : Int) := by rw [← h, Int.natCast_mul]
set_option maxHeartbeats 16000000 in
theorem plane_counts (s : ByteArray) (w h : Int) (a : Option Addr) (n c : Nat) (l : List Int) (x y : Int) (W : World) (R : Nat → Addr) (hS : Sent W R) (hsz : s.size ≤ maxLen) (hR : SlI W a n c l) (hx : I64 l) :
    Calls Tryd.prog 3 #[.string s, patV w h a n c, .int .i64 x, .int .i64 y] W (TrueBelow W) := by
  have hnm := hR.nm
  have HI6 := Lib.hid hx
  have hsm : s.size ≤ 9223372036854775807 := hsz
  have T0 := Tk.nil W
  have T1 := T0.add (fun wv => Below W.heap.size W wv) (bnil W)
  clear T0
  have T2 := T1.add (fun wv => Sent wv R) (hS)
  clear T1
  have T3 := T2.add (fun wv => SlI wv a n c l) (hR)
  clear T2
  clear hS hR hx
  obtain ⟨Wb, hWb⟩ : ∃ Wb, W.alloc (.cells #[.int .i64 w, .int .i64 h, .slice a n c] 24) = Wb := ⟨_, rfl⟩
  have hbWb : Below W.heap.size W Wb := by rw [← hWb]; exact balloc (bnil W) _
  have T4 := T3.up hbWb
  clear T3
  have T5 := T4.add (fun wv => wv.cell? ⟨W.heap.size, 0, none⟩ = some (.int .i64 w) ∧ wv.cell? ⟨W.heap.size, 1, none⟩ = some (.int .i64 h) ∧ wv.cell? ⟨W.heap.size, 2, none⟩ = some (.slice a n c)) (by rw [← hWb]; exact ⟨cnw (by simp) rfl, cnw (by simp) rfl, cnw (by simp) rfl⟩)
  clear T4
  have HWb := Lib.hid hWb
  clear hWb hbWb
  go_enter Tryd.func3, Tryd.ntmps3
  go_wp2_with fail
  rw [HWb.out]
  refine (awake22 Wb R T5.out.1.1.2).mono ?_; rintro e w1 ⟨rfl, hbw1⟩
  have T6 := T5.up hbw1
  clear T5
  by_cases hd : lifeD s ≠ none
  · skip
    go_wp2_with fail
    refine (life_erQ s w1 R T6.out.1.1.2 hd).mono ?_; rintro e w2 ⟨a2, n2, c2, t2, p2, rfl, hr2, hm2, hbw2⟩
    have T7 := T6.up hbw2
    clear T6
    have T8 := T7.add (fun wv => RK .i64 wv a2 n2 (lifeO s)) (hr2)
    clear T7
    clear hr2
    have v_p0 : w2.cell? ⟨W.heap.size, 0, none⟩ = some (.int .i64 w) := T8.out.1.2.1
    have v_p1 : w2.cell? ⟨W.heap.size, 1, none⟩ = some (.int .i64 h) := T8.out.1.2.2.1
    have v_p2 : w2.cell? ⟨W.heap.size, 2, none⟩ = some (.slice a n c) := T8.out.1.2.2.2
    go_wp2_with fail
    refine (plstep_anyQ w h a a2 n c n2 c2 l (lifeO s) w2 R T8.out.1.1.1.2 T8.out.1.1.2 HI6.out T8.out.2 hm2).mono ?_; rintro e w3 ⟨o1, o2, a3, n3, c3, ev3, rfl, _, hbw3⟩
    clear v_p0 v_p1 v_p2
    have T9 := T8.up hbw3
    clear T8
    obtain ⟨wa, hwa⟩ : ∃ wa, w3.alloc (.cells #[.int .i64 o1, .int .i64 o2, .slice a3 n3 c3] 24) = wa := ⟨_, rfl⟩
    have hbwa : Below w3.heap.size w3 wa := by rw [← hwa]; exact balloc (bnil w3) _
    have T10 := T9.up hbwa
    clear T9
    have Hwa := Lib.hid hwa
    clear hwa hbwa
    go_wp2
    go_ret
    rw [Hwa.out]
    exact ⟨rfl, T10.out.1.1.1.1.2⟩
  have hd0 : lifeD s = none := Decidable.byContradiction hd
  obtain ⟨b, st, hlr, hlo⟩ := lifeO_ok hd0
  have HLF := Lib.hid (And.intro hd0 (And.intro hlo hlr))
  clear hd hd0 hlo hlr
  go_wp2_with fail
  refine (life_okQ s b st w1 R T6.out.1.1.2 HLF.out.1 HLF.out.2.1).mono ?_; rintro e w2 ⟨a2, c2, rfl, hr2, hbw2⟩
  have T7 := T6.up hbw2
  clear T6
  have T8 := T7.add (fun wv => RK .i64 wv a2 512 (tabOf b st)) (hr2)
  clear T7
  clear hr2
  by_cases hsd : stepD (tabOf b st) w h l ≠ none
  · skip
    have HSD := Lib.hid hsd
    clear hsd
    have v_p0 : w2.cell? ⟨W.heap.size, 0, none⟩ = some (.int .i64 w) := T8.out.1.2.1
    have v_p1 : w2.cell? ⟨W.heap.size, 1, none⟩ = some (.int .i64 h) := T8.out.1.2.2.1
    have v_p2 : w2.cell? ⟨W.heap.size, 2, none⟩ = some (.slice a n c) := T8.out.1.2.2.2
    go_wp2_with fail
    refine (plstep_erQ w h a a2 n c 512 c2 l (tabOf b st) w2 R T8.out.1.1.1.2 T8.out.1.1.2 HI6.out T8.out.2 (by unfold maxLen; omega) HSD.out).mono ?_; rintro e w3 ⟨o1, o2, a3, n3, c3, t3, p3, rfl, hbw3⟩
    clear v_p0 v_p1 v_p2
    have T9 := T8.up hbw3
    clear T8
    obtain ⟨wa, hwa⟩ : ∃ wa, w3.alloc (.cells #[.int .i64 o1, .int .i64 o2, .slice a3 n3 c3] 24) = wa := ⟨_, rfl⟩
    have hbwa : Below w3.heap.size w3 wa := by rw [← hwa]; exact balloc (bnil w3) _
    have T10 := T9.up hbwa
    clear T9
    have Hwa := Lib.hid hwa
    clear hwa hbwa
    go_wp2
    go_ret
    rw [Hwa.out]
    exact ⟨rfl, T10.out.1.1.1.1.2⟩
  obtain ⟨w, h, rfl, rfl, hp, ht, hw3, hh3⟩ := stepD_none (Decidable.byContradiction hsd)
  obtain ⟨WN, hWN⟩ : ∃ WN, w - 2 = WN := ⟨_, rfl⟩
  obtain ⟨HN, hHN⟩ : ∃ HN, h - 2 = HN := ⟨_, rfl⟩
  obtain ⟨K, hK⟩ : ∃ K, WN * HN = K := ⟨_, rfl⟩
  obtain ⟨LL, hLL⟩ : ∃ LL, stepL (tabOf b st) w h l = LL := ⟨_, rfl⟩
  have hw2 := hp.w2
  have hh2 := hp.h2
  have hK4 : K ≤ 4096 := by rw [← hK]; exact Nat.mul_le_mul (show WN ≤ 64 by omega) (show HN ≤ 64 by omega)
  have HPP := Lib.hid hp
  have HTT := Lib.hid ht
  have HEQ := Lib.hid (And.intro hWN (And.intro hHN (And.intro hK hLL)))
  clear hsd hp ht hWN hHN hK hLL
  have v_p0 : w2.cell? ⟨W.heap.size, 0, none⟩ = some (.int .i64 w) := T8.out.1.2.1
  have v_p1 : w2.cell? ⟨W.heap.size, 1, none⟩ = some (.int .i64 h) := T8.out.1.2.2.1
  have v_p2 : w2.cell? ⟨W.heap.size, 2, none⟩ = some (.slice a n c) := T8.out.1.2.2.2
  go_wp2_with fail
  refine (plstep_okQ w h WN HN K a a2 n c 512 c2 l (tabOf b st) LL w2 R T8.out.1.1.1.2 T8.out.1.1.2 T8.out.2 (by unfold maxLen; omega) HTT.out HPP.out hw3 hh3 HEQ.out.1 HEQ.out.2.1 HEQ.out.2.2.1 HEQ.out.2.2.2).mono ?_; rintro e w3 ⟨a3, c3, rfl, ho3, hbw3⟩
  clear v_p0 v_p1 v_p2
  have T9 := T8.up hbw3
  clear T8
  have T10 := T9.add (fun wv => RK .i64 wv a3 K LL) (ho3.rk)
  clear T9
  clear ho3
  obtain ⟨wa, hwa⟩ : ∃ wa, w3.alloc (.cells #[.int .i64 WN, .int .i64 HN, .slice a3 K c3] 24) = wa := ⟨_, rfl⟩
  have hbwa : Below w3.heap.size w3 wa := by rw [← hwa]; exact balloc (bnil w3) _
  have T11 := T10.up hbwa
  clear T10
  have T12 := T11.add (fun wv => wv.cell? ⟨w3.heap.size, 0, none⟩ = some (.int .i64 WN) ∧ wv.cell? ⟨w3.heap.size, 1, none⟩ = some (.int .i64 HN) ∧ wv.cell? ⟨w3.heap.size, 2, none⟩ = some (.slice a3 K c3)) (by rw [← hwa]; exact ⟨cnw (by simp) rfl, cnw (by simp) rfl, cnw (by simp) rfl⟩)
  clear T11
  have Hwa := Lib.hid hwa
  clear hwa hbwa
  have hWN := HEQ.out.1
  have hHN := HEQ.out.2.1
  have hn := (T12.out.1.1.1.1.2).rk.len
  have hwh : w * h = n := by rw [hn]; exact HPP.out.len.symm
  have hn4 : n ≤ 4096 := by rw [← hwh]; exact Nat.mul_le_mul hw2 hh2
  have hwhI := mulI hwh
  have hKI := mulI HEQ.out.2.2.1
  have hnw : IntKind.i64.wrap (n : Int) = (n : Int) := wr1 (by omega) (by omega)
  have hKw : IntKind.i64.wrap (K : Int) = (K : Int) := wr1 (by omega) (by omega)
  have hw2I : (w : Int) - 2 = (WN : Int) := by omega
  have hh2I : (h : Int) - 2 = (HN : Int) := by omega
  have hWw : IntKind.i64.wrap (WN : Int) = (WN : Int) := wr1 (by omega) (by omega)
  have hHw : IntKind.i64.wrap (HN : Int) = (HN : Int) := wr1 (by omega) (by omega)
  have g1 : ¬ (WN : Int) < 1 := by omega
  have g2 : ¬ (HN : Int) < 1 := by omega
  have g1b : decide ((WN : Int) < 1) = false := decide_eq_false g1
  have g2b : decide ((HN : Int) < 1) = false := decide_eq_false g2
  obtain ⟨rx, X, mx1, mx2, mx3, mx4, mx5, hX⟩ := modN x WN (by omega)
  obtain ⟨ry, Y, my1, my2, my3, my4, my5, hY⟩ := modN y HN (by omega)
  have z1 : ((WN : Int) == 0) = false := by rw [beq_eq_false_iff_ne]; omega
  have z2 : ((HN : Int) == 0) = false := by rw [beq_eq_false_iff_ne]; omega
  have z3 : ¬ WN = 0 := by omega
  have z4 : ¬ HN = 0 := by omega
  have ww1 : IntKind.i64.wrap rx = rx := wr1 (by omega) (by omega)
  have ww2 : IntKind.i64.wrap (rx + (WN : Int)) = rx + (WN : Int) := wr1 (by omega) (by omega)
  have ww3 : IntKind.i64.wrap (X : Int) = (X : Int) := wr1 (by omega) (by omega)
  have ww4 : IntKind.i64.wrap ry = ry := wr1 (by omega) (by omega)
  have ww5 : IntKind.i64.wrap (ry + (HN : Int)) = ry + (HN : Int) := wr1 (by omega) (by omega)
  have ww6 : IntKind.i64.wrap (Y : Int) = (Y : Int) := wr1 (by omega) (by omega)
  have hXw : X + 2 < w := by omega
  have hYh : Y + 2 < h := by omega
  obtain ⟨O, NB, hO, hO1, hNB, hNB8, hcell⟩ := count_cell HPP.out hXw hYh HLF.out.2.2
  have HCE := Lib.hid (And.intro hO (And.intro hNB hcell))
  clear hWN hHN hn hO hNB hcell
  have HWH := Lib.hid hwh
  clear hwh
  have v_p0 : (w3.alloc (.cells #[.int .i64 WN, .int .i64 HN, .slice a3 K c3] 24)).cell? ⟨W.heap.size, 0, none⟩ = some (.int .i64 w) := by rw [Hwa.out]; exact T12.out.1.1.1.2.1
  have v_p1 : (w3.alloc (.cells #[.int .i64 WN, .int .i64 HN, .slice a3 K c3] 24)).cell? ⟨W.heap.size, 1, none⟩ = some (.int .i64 h) := by rw [Hwa.out]; exact T12.out.1.1.1.2.2.1
  have v_p2 : (w3.alloc (.cells #[.int .i64 WN, .int .i64 HN, .slice a3 K c3] 24)).cell? ⟨W.heap.size, 2, none⟩ = some (.slice a n c) := by rw [Hwa.out]; exact T12.out.1.1.1.2.2.2
  have v_a0 : (w3.alloc (.cells #[.int .i64 WN, .int .i64 HN, .slice a3 K c3] 24)).cell? ⟨w3.heap.size, 0, none⟩ = some (.int .i64 WN) := by rw [Hwa.out]; exact T12.out.2.1
  have v_a1 : (w3.alloc (.cells #[.int .i64 WN, .int .i64 HN, .slice a3 K c3] 24)).cell? ⟨w3.heap.size, 1, none⟩ = some (.int .i64 HN) := by rw [Hwa.out]; exact T12.out.2.2.1
  have v_a2 : (w3.alloc (.cells #[.int .i64 WN, .int .i64 HN, .slice a3 K c3] 24)).cell? ⟨w3.heap.size, 2, none⟩ = some (.slice a3 K c3) := by rw [Hwa.out]; exact T12.out.2.2.2
  go_upto_region 9 with (fail)
  rw [Hwa.out]
  clear v_p0 v_p1 v_p2 v_a0 v_a1 v_a2
  have v_a0 : wa.cell? ⟨w3.heap.size, 0, none⟩ = some (.int .i64 WN) := T12.out.2.1
  go_quiet (fail)
  go_wp2_with fail
  clear v_a0
  obtain ⟨wc, hwc⟩ : ∃ x, wa.drewN nq = x := ⟨_, rfl⟩
  have hbwc : Below wa.heap.size wa wc := by rw [← hwc]; exact bdrewN (bnil wa) nq
  rw [hwc]
  clear hwc
  have T13 := T12.up hbwc
  clear T12
  have v_a1 : wc.cell? ⟨w3.heap.size, 1, none⟩ = some (.int .i64 HN) := T13.out.2.2.1
  go_quiet (fail)
  go_wp2_with fail
  clear v_a1
  obtain ⟨wd, hwd⟩ : ∃ x, wc.drewN nq = x := ⟨_, rfl⟩
  have hbwd : Below wc.heap.size wc wd := by rw [← hwd]; exact bdrewN (bnil wc) nq
  rw [hwd]
  clear hwd
  have T14 := T13.up hbwd
  clear T13
  clear mx1 mx4 mx5 my1 my4 my5 ww1 ww2 ww4 ww5 z1 z2 z3 z4 g1 g2 g1b g2b hw2I hh2I mx2 mx3 my2 my3
  go_loop [13, 14] (fun nx jx => ∃ p : Nat, p ≤ 3 ∧ jx = .int .i64 ((Y + p : Nat) : Int) ∧ nx = .int .i64 (nbS w l X Y (3 * p) : Nat)) (fun _ jx => Y + 3 - (intOf jx).toNat)
  case atStart => exact ⟨0, by omega, rfl, rfl⟩
  case round =>
    obtain ⟨p, hp3, rfl, rfl⟩ := hrel
    by_cases hpp : p < 3
    · skip
      obtain ⟨J, hJ⟩ : ∃ J, Y + p = J := ⟨_, rfl⟩
      rw [hJ]
      have j1 : (J : Int) < (Y : Int) + 3 := by omega
      go_wp2_with fail
      go_loop [13, 15] (fun nx ix => ∃ q : Nat, q ≤ 3 ∧ ix = .int .i64 ((X + q : Nat) : Int) ∧ nx = .int .i64 (nbS w l X Y (3 * p + q) : Nat)) (fun _ ix => X + 3 - (intOf ix).toNat)
      case atStart => exact ⟨0, by omega, rfl, rfl⟩
      case round =>
        obtain ⟨q, hq3, rfl, rfl⟩ := hrel
        by_cases hqq : q < 3
        · skip
          obtain ⟨cc, ec, hc1⟩ := atL_nat HPP.out (show X + q < w by omega) (show J < h by omega)
          have hns : nbS w l X Y (3 * p + (q + 1)) = nbS w l X Y (3 * p + q) + cc := by
            show nbS w l X Y (3 * p + q) + (atL w l (X + (3 * p + q) % 3) (Y + (3 * p + q) / 3)).toNat = _
            rw [show (3 * p + q) % 3 = q by omega, show (3 * p + q) / 3 = p by omega, hJ, ec, Int.toNat_natCast]
          have hnb := nbS_le HPP.out hXw hYh (3 * p + q) (by omega)
          obtain ⟨ab, ao, hab, _, hcell⟩ := (T14.out.1.1.1.1.2).rk.addr (by have := place_lt (show X + q < w by omega) (show J < h by omega); rw [HWH.out] at this; omega)
          subst hab
          obtain ⟨Q, hQ⟩ : ∃ Q, J * w = Q := ⟨_, rfl⟩
          obtain ⟨I, hI⟩ : ∃ I, X + q = I := ⟨_, rfl⟩
          rw [hI] at ec
          have hQn : Q + I < n := by have h3 := place_lt (show I < w by omega) (show J < h by omega); rw [HWH.out, hQ] at h3; exact h3
          have hQI := mulI hQ
          have z0 := hcell (Q + I) hQn
          rw [show l.getD (Q + I) 0 = (cc : Int) by rw [← ec, ← hQ]; rfl] at z0
          have hQw : IntKind.i64.wrap (Q : Int) = (Q : Int) := wr1 (by omega) (by omega)
          have k0 : (0 : Int) ≤ (Q : Int) + (I : Int) := by omega
          have k1 : (Q : Int) + (I : Int) < (n : Int) := by omega
          have k2 : ((Q : Int) + (I : Int)).toNat = Q + I := by omega
          have i1 : (I : Int) < (X : Int) + 3 := by omega
          generalize nbS w l X Y (3 * p + q) = N at *
          have HNS := Lib.hid hns
          have HII := Lib.hid hI
          rw [hI]
          clear hcell hns ec hQ hI
          have v_p0 : wd.cell? ⟨W.heap.size, 0, none⟩ = some (.int .i64 w) := T14.out.1.1.1.2.1
          have v_p2 : wd.cell? ⟨W.heap.size, 2, none⟩ = some (.slice (some ⟨ab, ao, none⟩) n c) := T14.out.1.1.1.2.2.2
          go_wp2
          go_round
          case rel => exact ⟨q + 1, by omega, by rw [show X + (q + 1) = I + 1 by have := HII.out; omega]; go_num, by rw [HNS.out]; go_num⟩
          case measure => have := HII.out; simp [intOf]; omega
        · skip
          obtain rfl : q = 3 := by omega
          have i1 : ¬ ((X + 3 : Nat) : Int) < (X : Int) + 3 := by omega
          have hnb := nbS_le HPP.out hXw hYh (3 * p + 3) (by omega)
          have HJ := Lib.hid hJ
          clear hJ
          go_wp2
          go_round
          case rel => exact ⟨p + 1, by omega, by rw [show Y + (p + 1) = J + 1 by have := HJ.out; omega]; go_num, rfl⟩
          case measure => have := HJ.out; simp [intOf]; omega
    obtain rfl : p = 3 := by omega
    have j1 : ¬ ((Y + 3 : Nat) : Int) < (Y : Int) + 3 := by omega
    rw [show 3 * 3 = 9 from rfl, HCE.out.2.1]
    obtain ⟨ab, ao, hab, _, hcell⟩ := (T14.out.1.1.1.1.2).rk.addr (by have := place_lt (show X + 1 < w by omega) (show Y + 1 < h by omega); rw [HWH.out] at this; omega)
    subst hab
    obtain ⟨Q, hQ⟩ : ∃ Q, (Y + 1) * w = Q := ⟨_, rfl⟩
    have hQn : Q + X + 1 < n := by have h3 := place_lt (show X + 1 < w by omega) (show Y + 1 < h by omega); rw [HWH.out, hQ] at h3; omega
    have hQI : ((Y : Int) + 1) * (w : Int) = (Q : Int) := mulI hQ
    have z0 := hcell (Q + X + 1) hQn
    rw [show l.getD (Q + X + 1) 0 = (O : Int) by rw [← HCE.out.1, ← hQ, Nat.add_assoc]; rfl] at z0
    have hQw : IntKind.i64.wrap (Q : Int) = (Q : Int) := wr1 (by omega) (by omega)
    have k0 : (0 : Int) ≤ (Q : Int) + (X : Int) + 1 := by omega
    have k1 : (Q : Int) + (X : Int) + 1 < (n : Int) := by omega
    have k2 : ((Q : Int) + (X : Int) + 1).toNat = Q + X + 1 := by omega
    have hsub : ((NB + O : Nat) : Int) - (O : Int) = (NB : Int) := by omega
    have hNw : IntKind.i64.wrap (NB : Int) = (NB : Int) := wr1 (by omega) (by omega)
    clear hcell hQ
    have v_p0 : wd.cell? ⟨W.heap.size, 0, none⟩ = some (.int .i64 w) := T14.out.1.1.1.2.1
    have v_p2 : wd.cell? ⟨W.heap.size, 2, none⟩ = some (.slice (some ⟨ab, ao, none⟩) n c) := T14.out.1.1.1.2.2.2
    go_wp2_with fail
    clear k0 k1 k2 z0 hQI hQw hQn
    clear v_p0 v_p2
    obtain ⟨V, hV⟩ : ∃ V, namedF O NB s.data.toList 0 0 = V := ⟨_, rfl⟩
    have HV := Lib.hid hV
    clear hV
    go_loop [17, 18, 19] (fun mx sx ix => ∃ i side nm : Nat, i ≤ s.size ∧ ix = .int .i64 (i : Nat) ∧ sx = .int .i64 (side : Nat) ∧ mx = .int .i64 (nm : Nat) ∧ namedF O NB (s.data.toList.drop i) side nm = V) (fun _ _ ix => s.size - (intOf ix).toNat)
    case atStart => exact ⟨0, 0, 0, by omega, rfl, rfl, rfl, HV.out⟩
    case round =>
      obtain ⟨i, side, nm, hi, rfl, rfl, rfl, hrun⟩ := hrel
      by_cases his : i < s.size
      · skip
        have hdr : s.data.toList.drop i = s[i] :: s.data.toList.drop (i + 1) := List.drop_eq_getElem_cons (show i < s.data.toList.length by simpa using his)
        rw [hdr] at hrun
        unfold namedF at hrun
        have HRUN := Lib.hid hrun
        have i0 : (0 : Int) ≤ (i : Int) := by omega
        have i1 : (i : Int) < (s.size : Int) := by omega
        have hlt := UInt8.toNat_lt s[i]
        clear hdr hrun
        by_cases h47 : s[i] = 47
        · skip
          have b1 : (((s[i].toNat : Nat) : Int) == 47) = true := by rw [h47]; rfl
          have b2 : ((s[i].toNat : Nat) : Int) = 47 := by rw [h47]; rfl
          by_cases hso : 1 = O
          · skip
            have b3 : ((1 : Int) == (O : Int)) = true := by rw [beq_iff_eq]; omega
            by_cases hdn : ((s[i].toNat : Nat) : Int) - 48 = (NB : Int)
            · skip
              exfalso; omega
            · skip
              have b4 : ((((s[i].toNat : Nat) : Int) - 48) == (NB : Int)) = false := by rw [beq_eq_false_iff_ne]; exact hdn
              have HR2 : Hid (namedF O NB (s.data.toList.drop (i + 1)) 1 nm = V) := by
                have h9 := HRUN.out
                rw [if_pos h47, if_neg (fun h8 => hdn h8.2)] at h9
                exact h9
              clear HRUN
              go_wp2
              go_round
              case rel => exact ⟨i + 1, 1, nm, by omega, by go_num, rfl, rfl, HR2.out⟩
              case measure => simp [intOf]; omega
          · skip
            have b3 : ((1 : Int) == (O : Int)) = false := by rw [beq_eq_false_iff_ne]; omega
            have HR2 : Hid (namedF O NB (s.data.toList.drop (i + 1)) 1 nm = V) := by
              have h9 := HRUN.out
              rw [if_pos h47, if_neg (fun h8 => hso h8.1)] at h9
              exact h9
            clear HRUN
            go_wp2
            go_round
            case rel => exact ⟨i + 1, 1, nm, by omega, by go_num, rfl, rfl, HR2.out⟩
            case measure => simp [intOf]; omega
        · skip
          have b2 : ¬ ((s[i].toNat : Nat) : Int) = 47 := fun h9 => h47 (UInt8.toNat_inj.1 (by show s[i].toNat = 47; omega))
          have b1 : (((s[i].toNat : Nat) : Int) == 47) = false := by rw [beq_eq_false_iff_ne]; exact b2
          by_cases hso : side = O
          · skip
            have b3 : ((side : Int) == (O : Int)) = true := by rw [beq_iff_eq]; omega
            by_cases hdn : ((s[i].toNat : Nat) : Int) - 48 = (NB : Int)
            · skip
              have b4 : ((((s[i].toNat : Nat) : Int) - 48) == (NB : Int)) = true := by rw [beq_iff_eq]; exact hdn
              have HR2 : Hid (namedF O NB (s.data.toList.drop (i + 1)) side 1 = V) := by
                have h9 := HRUN.out
                rw [if_neg h47, if_pos ⟨hso, hdn⟩] at h9
                exact h9
              clear HRUN
              go_wp2
              go_round
              case rel => exact ⟨i + 1, side, 1, by omega, by go_num, rfl, rfl, HR2.out⟩
              case measure => simp [intOf]; omega
            · skip
              have b4 : ((((s[i].toNat : Nat) : Int) - 48) == (NB : Int)) = false := by rw [beq_eq_false_iff_ne]; exact hdn
              have HR2 : Hid (namedF O NB (s.data.toList.drop (i + 1)) side nm = V) := by
                have h9 := HRUN.out
                rw [if_neg h47, if_neg (fun h8 => hdn h8.2)] at h9
                exact h9
              clear HRUN
              go_wp2
              go_round
              case rel => exact ⟨i + 1, side, nm, by omega, by go_num, rfl, rfl, HR2.out⟩
              case measure => simp [intOf]; omega
          · skip
            have b3 : ((side : Int) == (O : Int)) = false := by rw [beq_eq_false_iff_ne]; omega
            have HR2 : Hid (namedF O NB (s.data.toList.drop (i + 1)) side nm = V) := by
              have h9 := HRUN.out
              rw [if_neg h47, if_neg (fun h8 => hso h8.1)] at h9
              exact h9
            clear HRUN
            go_wp2
            go_round
            case rel => exact ⟨i + 1, side, nm, by omega, by go_num, rfl, rfl, HR2.out⟩
            case measure => simp [intOf]; omega
      obtain rfl : i = s.size := by omega
      rw [List.drop_of_length_le (by simp)] at hrun
      unfold namedF at hrun
      subst hrun
      have i1 : ¬ ((s.size : Nat) : Int) < (s.size : Int) := by omega
      obtain ⟨ab2, ao2, hab2, _, hcell⟩ := (T14.out.1.2).addr (by have := place_lt hX hY; rw [HEQ.out.2.2.1] at this; omega)
      subst hab2
      obtain ⟨Q, hQ⟩ : ∃ Q, Y * WN = Q := ⟨_, rfl⟩
      have hQn : Q + X < K := by have h3 := place_lt hX hY; rw [HEQ.out.2.2.1, hQ] at h3; exact h3
      have hQI := mulI hQ
      have z0 := hcell (Q + X) hQn
      rw [show LL.getD (Q + X) 0 = (nm : Int) by rw [← HV.out, ← HCE.out.2.2, ← HEQ.out.2.2.2, ← hQ, ← HEQ.out.1]; exact madeL_getD (by rw [HEQ.out.1]; exact hX) (by rw [HEQ.out.2.1]; exact hY)] at z0
      have hQw : IntKind.i64.wrap (Q : Int) = (Q : Int) := wr1 (by omega) (by omega)
      have k0 : (0 : Int) ≤ (Q : Int) + (X : Int) := by omega
      have k1 : (Q : Int) + (X : Int) < (K : Int) := by omega
      have k2 : ((Q : Int) + (X : Int)).toNat = Q + X := by omega
      clear hcell hQ HV
      have v_a0 : wd.cell? ⟨w3.heap.size, 0, none⟩ = some (.int .i64 WN) := T14.out.2.1
      have v_a2 : wd.cell? ⟨w3.heap.size, 2, none⟩ = some (.slice (some ⟨ab2, ao2, none⟩) K c3) := T14.out.2.2.2
      go_wp2
      go_ret
      exact ⟨rfl, T14.out.1.1.1.1.1.1.2⟩
end Go.Proofs.YtocfkmdoalhjmaaDoor
