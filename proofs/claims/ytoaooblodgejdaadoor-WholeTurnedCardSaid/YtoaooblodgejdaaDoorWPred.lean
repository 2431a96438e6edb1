/- edentop.WholePredecessor returns true. -/
import Derived.Test.YtoaooblodgejdaaDoorSeek
import Derived.Test.YtoaooblodgejdaaDoorRjW
import Derived.Test.YtoaooblodgejdaaDoorEvF
import Derived.Test.YtoaooblodgejdaaDoorPlaI
import Derived.Test.YtoaooblodgejdaaDoorNatD
import Derived.Test.YtoaooblodgejdaaDoorNatE
namespace Go.Proofs.YtoaooblodgejdaaDoor
open Go.RowKit
set_option linter.unusedVariables false
set_option maxRecDepth 100000

theorem wpU64 (n : Nat) (h : n < 18446744073709551616) : IntKind.u64.wrap (n : Int) = (n : Int) := by
  show ((n : Int) % 18446744073709551616) = _
  omega
/-- with so many tries the budget is never used up -/
theorem wp_bound {w h : Nat} (w1 : 1 ≤ w) : w * (4 * 2 ^ h) * (4 * 2 ^ h) * (4 * 2 ^ h) < 2 ^ ((w + 2) * (h + 2) + 1) := by
  have e : 4 * 2 ^ h = 2 ^ (h + 2) := by rw [Nat.pow_add]; omega
  rw [e]
  obtain ⟨k, rfl⟩ : ∃ k, w = k + 1 := ⟨w - 1, by omega⟩
  have e2 : (k + 1 + 2) * (h + 2) + 1 = (h + 2) + (h + 2) + (h + 2) + (k * (h + 2) + 1) := by
    have : (k + 1 + 2) * (h + 2) = k * (h + 2) + 3 * (h + 2) := by rw [← Nat.add_mul]
    omega
  rw [e2, Nat.pow_add 2 (h + 2 + (h + 2) + (h + 2)), Nat.pow_add 2 (h + 2 + (h + 2)), Nat.pow_add 2 (h + 2) (h + 2)]
  have hk : k + 1 < 2 ^ (k * (h + 2) + 1) := by
    have h1 : k + 1 < 2 ^ (k + 1) := Nat.lt_two_pow_self
    have h2 : 2 ^ (k + 1) ≤ 2 ^ (k * (h + 2) + 1) := Nat.pow_le_pow_right (by omega) (by have := Nat.le_mul_of_pos_right k (show 0 < h + 2 by omega); omega)
    omega
  have hp : 0 < 2 ^ (h + 2) := Nat.two_pow_pos _
  generalize 2 ^ (h + 2) = M at hp ⊢
  generalize 2 ^ (k * (h + 2) + 1) = N at hk ⊢
  rw [Nat.mul_comm (M * M * M) N, Nat.mul_assoc, Nat.mul_assoc, ← Nat.mul_assoc M M M]
  exact Nat.mul_lt_mul_of_pos_right hk (Nat.mul_pos (Nat.mul_pos hp hp) hp)
theorem wp_none {V T w h : Nat} (w1 : 1 ≤ w) (w8 : w ≤ 8) (h4 : h ≤ 4) (e : T = granted V) (hl : granted V < w * (4 * 2 ^ h) * (4 * 2 ^ h) * (4 * 2 ^ h)) : cmpN V (2 ^ ((w + 2) * (h + 2) + 1)) < 0 := by
  have h1 := (enough_le w8 h4).2
  have h2 := wp_bound (w := w) (h := h) w1
  unfold granted at hl
  split at hl
  · unfold cmpN
    rw [if_pos (by omega)]
    decide
  · omega
theorem wp_tries {V T : Nat} (h : T ≤ granted V) : ¬ 0 < cmpN T V := by
  unfold granted at h
  unfold cmpN
  split
  · decide
  · have : ¬ V < T := by split at h <;> omega
    rw [if_neg this]; decide
set_option maxHeartbeats 8000000 in
theorem small_any (w h : Int) (a : Option Addr) (n c : Nat) (W : World) : Calls Tryd.prog 47 #[patV w h a n c] W fun e w' => e = .returned (.bool (decide (h < 3 ∨ h = 3 ∧ w < 4))) ∧ Below W.heap.size W w' := by
  have hb : Below W.heap.size W (W.alloc (.cells #[.int .i64 w, .int .i64 h, .slice a n c] 24)) := balloc (bnil W) _
  by_cases h3 : h < 3
  · have hd := decide_eq_true (show h < 3 ∨ h = 3 ∧ w < 4 from .inl h3)
    rw [hd]
    go_enter Tryd.func47, Tryd.ntmps47
    go_wp2
    go_ret
    exact ⟨rfl, hb⟩
  · by_cases h4 : h = 3
    · subst h4
      by_cases h5 : w < 4
      · have hd := decide_eq_true (show (3 : Int) < 3 ∨ (3 : Int) = 3 ∧ w < 4 from .inr ⟨rfl, h5⟩)
        rw [hd]
        go_enter Tryd.func47, Tryd.ntmps47
        go_wp2
        go_ret
        exact ⟨rfl, hb⟩
      · have hd := decide_eq_false (show ¬ ((3 : Int) < 3 ∨ (3 : Int) = 3 ∧ w < 4) by omega)
        rw [hd]
        go_enter Tryd.func47, Tryd.ntmps47
        go_wp2
        go_ret
        exact ⟨rfl, hb⟩
    · have hd := decide_eq_false (show ¬ (h < 3 ∨ h = 3 ∧ w < 4) by omega)
      rw [hd]
      go_enter Tryd.func47, Tryd.ntmps47
      go_wp2
      go_ret
      exact ⟨rfl, hb⟩
set_option maxHeartbeats 32000000 in
theorem whole_pred (w h : Int) (a aT aB : Option Addr) (n c nT cT nB cB : Nat) (l t : List Int) (lb : List Nat) (W : World) (R : Nat → Addr) (hE : Sent W R) (hR : RK .i64 W a n l) (hm : n ≤ maxLen) (hx : I64 l) (hT : RK .i64 W aT nT t) (hmT : nT ≤ maxLen) (hB : NR W aB nB lb) (hBc : nB ≤ cB) (hBm : cB ≤ maxLen) :
    Calls Tryd.prog 11 #[.slice aT nT cT, patV w h a n c, .slice aB nB cB] W (TrueBelow W) := by
  have HI6 := Lib.hid hx
  have HU := Lib.hid hB.2
  have T0 := Tk.nil W
  have T1 := T0.add (fun wv => Below W.heap.size W wv) (bnil W)
  clear T0
  have T2 := T1.add (fun wv => Sent wv R) (hE)
  clear T1
  have T3 := T2.add (fun wv => RK .i64 wv a n l) (hR)
  clear T2
  have T4 := T3.add (fun wv => RK .i64 wv aT nT t) (hT)
  clear T3
  have T5 := T4.add (fun wv => RK .u32 wv aB nB (ofN lb)) (hB.1)
  clear T4
  clear hE hR hx hT hB
  obtain ⟨Wb, hWb⟩ : ∃ Wb, W.alloc (.cells #[.int .i64 w, .int .i64 h, .slice a n c] 24) = Wb := ⟨_, rfl⟩
  have hbWb : Below W.heap.size W Wb := by rw [← hWb]; exact balloc (bnil W) _
  have T6 := T5.up hbWb
  clear T5
  have T7 := T6.add (fun wv => wv.cell? ⟨W.heap.size, 0, none⟩ = some (.int .i64 w) ∧ wv.cell? ⟨W.heap.size, 1, none⟩ = some (.int .i64 h) ∧ wv.cell? ⟨W.heap.size, 2, none⟩ = some (.slice a n c)) (by rw [← hWb]; exact ⟨cnw (by simp) rfl, cnw (by simp) rfl, cnw (by simp) rfl⟩)
  clear T6
  have HWb := Lib.hid hWb
  clear hWb hbWb
  go_enter Tryd.func11, Tryd.ntmps11
  go_wp2_with fail
  rw [HWb.out]
  refine (seeks_any Wb R T7.out.1.1.1.1.2).mono ?_; rintro e w0 ⟨rfl, hbw0⟩
  have T8 := T7.up hbw0
  clear T7
  cases htd : tabD t with
  | some y0 =>
    have hne : tabD t ≠ none := by rw [htd]; exact nofun
    have HNE := Lib.hid hne
    clear hne htd
    go_wp2_with fail
    refine (plcheck_er aT nT cT t w0 R T8.out.1.1.1.1.2 T8.out.1.1.2 hmT HNE.out).mono ?_; rintro e w1 ⟨g0, rfl, he0, hbw1⟩
    have T9 := T8.up hbw1
    clear T8
    clear he0
    go_wp2
    go_ret
    exact ⟨rfl, T9.out.1.1.1.1.1.2⟩
  | none =>
    have HT := Lib.hid (tabD_none htd)
    clear htd
    go_wp2_with fail
    refine (plcheck_ok aT nT cT t w0 R T8.out.1.1.1.1.2 T8.out.1.1.2 hmT HT.out).mono ?_; rintro e w1 ⟨rfl, hbw1⟩
    have T9 := T8.up hbw1
    clear T8
    cases hpe : patchErr w h l with
    | some y0 =>
      have HNE := Lib.hid hpe
      clear hpe
      have v_p0 : w1.cell? ⟨W.heap.size, 0, none⟩ = some (.int .i64 w) := T9.out.2.1
      have v_p1 : w1.cell? ⟨W.heap.size, 1, none⟩ = some (.int .i64 h) := T9.out.2.2.1
      have v_p2 : w1.cell? ⟨W.heap.size, 2, none⟩ = some (.slice a n c) := T9.out.2.2.2
      go_wp2_with fail
      refine (pcheck_er w h a n c l w1 R T9.out.1.1.1.1.2 T9.out.1.1.1.2 hm HI6.out y0 HNE.out).mono ?_; rintro e w2 ⟨g0, rfl, he0, hbw2⟩
      clear v_p0 v_p1 v_p2
      have T10 := T9.up hbw2
      clear T9
      clear he0
      go_wp2
      go_ret
      exact ⟨rfl, T10.out.1.1.1.1.1.2⟩
    | none =>
      obtain ⟨w, h, rfl, rfl, hpp⟩ := patchErr_none hpe
      have HPP := Lib.hid hpp
      have w1' := hpp.w1
      have h1' := hpp.h1
      clear hpe hpp
      obtain rfl : nT = 512 := (T9.out.1.1.2).len.trans HT.out.len
      obtain ⟨bT, oT, hbo, _⟩ := (T9.out.1.1.2).addr (by omega)
      subst hbo
      have v_p0 : w1.cell? ⟨W.heap.size, 0, none⟩ = some (.int .i64 w) := T9.out.2.1
      have v_p1 : w1.cell? ⟨W.heap.size, 1, none⟩ = some (.int .i64 h) := T9.out.2.2.1
      have v_p2 : w1.cell? ⟨W.heap.size, 2, none⟩ = some (.slice a n c) := T9.out.2.2.2
      go_wp2_with fail
      refine (pcheck_ok w h a n c l w1 R T9.out.1.1.1.1.2 T9.out.1.1.1.2 hm HI6.out HPP.out).mono ?_; rintro e w2 ⟨rfl, hbw2⟩
      clear v_p0 v_p1 v_p2
      have T10 := T9.up hbw2
      clear T9
      by_cases q8 : (8 : Int) < (w : Nat)
      · skip
        have v_p0 : w2.cell? ⟨W.heap.size, 0, none⟩ = some (.int .i64 w) := T10.out.2.1
        have v_p1 : w2.cell? ⟨W.heap.size, 1, none⟩ = some (.int .i64 h) := T10.out.2.2.1
        have v_p2 : w2.cell? ⟨W.heap.size, 2, none⟩ = some (.slice a n c) := T10.out.2.2.2
        go_wp2
        go_ret
        exact ⟨rfl, T10.out.1.1.1.1.1.2⟩
      by_cases q4 : (4 : Int) < (h : Nat)
      · skip
        have v_p0 : w2.cell? ⟨W.heap.size, 0, none⟩ = some (.int .i64 w) := T10.out.2.1
        have v_p1 : w2.cell? ⟨W.heap.size, 1, none⟩ = some (.int .i64 h) := T10.out.2.2.1
        have v_p2 : w2.cell? ⟨W.heap.size, 2, none⟩ = some (.slice a n c) := T10.out.2.2.2
        go_wp2
        go_ret
        exact ⟨rfl, T10.out.1.1.1.1.1.2⟩
      have v_p0 : w2.cell? ⟨W.heap.size, 0, none⟩ = some (.int .i64 w) := T10.out.2.1
      have v_p1 : w2.cell? ⟨W.heap.size, 1, none⟩ = some (.int .i64 h) := T10.out.2.2.1
      have v_p2 : w2.cell? ⟨W.heap.size, 2, none⟩ = some (.slice a n c) := T10.out.2.2.2
      go_wp2_with fail
      refine (small_any w h a n c w2).mono ?_; rintro e w3 ⟨rfl, hbw3⟩
      clear v_p0 v_p1 v_p2
      have T11 := T10.up hbw3
      clear T10
      by_cases hv : (h : Int) < 3 ∨ (h : Int) = 3 ∧ (w : Int) < 4
      rotate_left
      · skip
        have hd := decide_eq_false hv
        rw [hd]
        clear hd hv
        go_wp2
        go_ret
        exact ⟨rfl, T11.out.1.1.1.1.1.2⟩
      have hd := decide_eq_true hv
      rw [hd]
      clear hd hv
      by_cases qn : (100 : Int) < (nB : Nat)
      · skip
        go_wp2
        go_ret
        exact ⟨rfl, T11.out.1.1.1.1.1.2⟩
      have hw8 : w ≤ 8 := by omega
      have hh4 : h ≤ 4 := by omega
      have hse := seek_end HT.out HPP.out hw8 hh4 (granted (val lb))
      obtain ⟨X, hX⟩ : ∃ X, seekF t (colL w h l) h (4 * 2 ^ h) w (granted (val lb)) = X := ⟨_, rfl⟩
      rw [hX] at hse
      obtain ⟨V, hV⟩ : ∃ V, val lb = V := ⟨_, rfl⟩
      rw [hV] at hse
      have c_s := fun a n c bT oT cT aL nL cL W R hS hR hm hT hL hLc hLm => evsearch_ok w h a n c bT oT cT l t aL nL cL lb W R hS hR hm HI6.out hT hL hLc hLm HT.out HPP.out hw8 hh4
      simp only [hX] at c_s
      have HCS := Lib.hid c_s
      have HV := Lib.hid hV
      obtain ⟨S, o⟩ := X
      have HSE := Lib.hid hse
      obtain ⟨T, hT⟩ : ∃ T, S.tries = T := ⟨_, rfl⟩
      have htl : T ≤ granted V := by rw [← hT]; exact hse.tl
      have hte : T ≤ 2097152 := by rw [← hT]; exact Nat.le_trans hse.te (enough_le hw8 hh4).2
      have HTT := Lib.hid hT
      have HTL := Lib.hid htl
      have hcmp := wp_tries htl
      have hwT : IntKind.u64.wrap (T : Int) = (T : Int) := wpU64 T (by omega)
      have hT0 : ¬ (T : Int) < 0 := by omega
      have hmx : max (T : Int) 0 = (T : Int) := by omega
      clear c_s hX hV hse hT htl
      have v_p0 : w3.cell? ⟨W.heap.size, 0, none⟩ = some (.int .i64 w) := T11.out.2.1
      have v_p1 : w3.cell? ⟨W.heap.size, 1, none⟩ = some (.int .i64 h) := T11.out.2.2.1
      have v_p2 : w3.cell? ⟨W.heap.size, 2, none⟩ = some (.slice a n c) := T11.out.2.2.2
      go_wp2_with fail
      refine (HCS.out a n c bT oT cT aB nB cB w3 R T11.out.1.1.1.1.2 T11.out.1.1.1.2 hm T11.out.1.1.2 ⟨T11.out.1.2, HU.out⟩ hBc hBm).mono ?_; rintro e w4 ⟨vf, ev, rfl, hbw4, hq⟩
      clear v_p0 v_p1 v_p2
      have T12 := T11.up hbw4
      clear T11
      rw [HTT.out]
      cases o with
      | none =>
        obtain ⟨rfl, he⟩ : vf = fndV 0 0 0 none 0 0 none 0 0 ∧ EC R w4 ev (some ([(opEve, 2)], 5)) := hq
        obtain ⟨t9, p9, rfl⟩ := Chain.iface he
        have T13 := T12.add (fun wv => EC R wv (.iface t9 (.pointer (some p9))) (some ([(opEve, 2)], 5))) (he)
        clear T12
        clear he
        obtain ⟨w5, hw5⟩ : ∃ w5, w4.alloc (.cells #[.int .i64 0, .int .i64 0, .int .i64 0, .slice none 0 0, .slice none 0 0] 28) = w5 := ⟨_, rfl⟩
        have hbw5 : Below w4.heap.size w4 w5 := by rw [← hw5]; exact balloc (bnil w4) _
        have T14 := T13.up hbw5
        clear T13
        have T15 := T14.add (fun wv => wv.cell? ⟨w4.heap.size, 0, none⟩ = some (.int .i64 0) ∧ wv.cell? ⟨w4.heap.size, 1, none⟩ = some (.int .i64 0) ∧ wv.cell? ⟨w4.heap.size, 2, none⟩ = some (.int .i64 0) ∧ wv.cell? ⟨w4.heap.size, 3, none⟩ = some (.slice none 0 0) ∧ wv.cell? ⟨w4.heap.size, 4, none⟩ = some (.slice none 0 0)) (by rw [← hw5]; exact ⟨cnw (by simp) rfl, cnw (by simp) rfl, cnw (by simp) rfl, cnw (by simp) rfl, cnw (by simp) rfl⟩)
        clear T14
        have Hw5 := Lib.hid hw5
        clear hw5 hbw5
        go_wp2_with fail
        rw [Hw5.out]
        refine ((from_any T w5 (by omega) : Calls Tryd.prog 16 #[.int .u64 T] w5 _)).mono ?_; rintro e w6 ⟨nF, rfl, hoF, hnF, hbw6⟩
        have T16 := T15.up hbw6
        clear T15
        have T17 := T16.add (fun wv => NR wv (some ⟨w5.heap.size, 0, none⟩) nF (limbs T)) (hnF.nr)
        clear T16
        have hnFl : nF ≤ 2 := hnF.le
        clear hoF hnF
        go_wp2_with fail
        refine (natCmp_any (some ⟨w5.heap.size, 0, none⟩) aB nF nB 2 cB (limbs T) lb w6 T17.out.2 ⟨T17.out.1.1.1.1.2, HU.out⟩ hnFl hBc (by unfold maxLen; omega) hBm).mono ?_; rintro e w7 ⟨rfl, q7, hw7⟩
        rw [val_limbs, HV.out]
        have hb7 : Below w6.heap.size w6 w7 := by rw [hw7]; exact bdrewN (bnil w6) q7
        clear hw7
        have T18 := T17.up hb7
        clear T17
        clear hb7
        obtain ⟨Q, hQ⟩ : ∃ Q, (w + 2) * (h + 2) + 1 = Q := ⟨_, rfl⟩
        obtain ⟨A, hA⟩ : ∃ A, w + 2 = A := ⟨_, rfl⟩
        obtain ⟨B, hB⟩ : ∃ B, h + 2 = B := ⟨_, rfl⟩
        have hQ60 : Q ≤ 61 := by
          have := Nat.mul_le_mul (show w + 2 ≤ 10 by omega) (show h + 2 ≤ 6 by omega)
          omega
        have hlt : cmpN V (2 ^ Q) < 0 := by
          have hh := HSE.out.err rfl
          rw [← hQ]
          exact wp_none w1' hw8 hh4 hh.1 hh.2
        have HLT := Lib.hid hlt
        have hAI : (w : Int) + 2 = (A : Int) := by omega
        have hBI : (h : Int) + 2 = (B : Int) := by omega
        have hAw : IntKind.i64.wrap (A : Int) = (A : Int) := IntWalk.i64_in _ (by omega)
        have hBw : IntKind.i64.wrap (B : Int) = (B : Int) := IntWalk.i64_in _ (by omega)
        obtain ⟨D, hD⟩ : ∃ D, A * B = D := ⟨_, rfl⟩
        have hDQ : D + 1 = Q := by rw [← hD, ← hA, ← hB]; exact hQ
        have hDI : (A : Int) * (B : Int) = (D : Int) := by rw [← hD]; exact (Int.natCast_mul _ _).symm
        have hDw : IntKind.i64.wrap (D : Int) = (D : Int) := IntWalk.i64_in _ (by omega)
        have hQI : (D : Int) + 1 = (Q : Int) := by omega
        have hQw : IntKind.i64.wrap (Q : Int) = (Q : Int) := IntWalk.i64_in _ (by omega)
        have hpw := fun w => (pow_any 2 Q w (by decide) (by omega) : Calls Tryd.prog 24 #[.int .u32 2, .int .i64 Q] w _)
        have HPW := Lib.hid hpw
        clear hQ hA hB hD hDQ hlt hpw hQ60
        have v_p0 : w7.cell? ⟨W.heap.size, 0, none⟩ = some (.int .i64 w) := T18.out.1.1.1.2.1
        have v_p1 : w7.cell? ⟨W.heap.size, 1, none⟩ = some (.int .i64 h) := T18.out.1.1.1.2.2.1
        have v_p2 : w7.cell? ⟨W.heap.size, 2, none⟩ = some (.slice a n c) := T18.out.1.1.1.2.2.2
        have v_f0 : w7.cell? ⟨w4.heap.size, 0, none⟩ = some (.int .i64 0) := T18.out.1.2.1
        have v_f1 : w7.cell? ⟨w4.heap.size, 1, none⟩ = some (.int .i64 0) := T18.out.1.2.2.1
        have v_f2 : w7.cell? ⟨w4.heap.size, 2, none⟩ = some (.int .i64 0) := T18.out.1.2.2.2.1
        have v_f3 : w7.cell? ⟨w4.heap.size, 3, none⟩ = some (.slice none 0 0) := T18.out.1.2.2.2.2.1
        have v_f4 : w7.cell? ⟨w4.heap.size, 4, none⟩ = some (.slice none 0 0) := T18.out.1.2.2.2.2.2
        go_wp2_with fail
        refine (HPW.out w7).mono ?_; rintro e w8 ⟨aP, nP, cP, rfl, hoP, hnP, hbw8⟩
        clear v_p0 v_p1 v_p2 v_f0 v_f1 v_f2 v_f3 v_f4
        have T19 := T18.up hbw8
        clear T18
        have T20 := T19.add (fun wv => NR wv aP nP (limbs (2 ^ Q))) (hnP.nr)
        clear T19
        have hPle : nP ≤ cP := hnP.le
        have hPmx : cP ≤ maxLen := hnP.cm
        clear hoP hnP
        have gl : w8.cell? ⟨0, 0, none⟩ = some (nbV R) := (T20.out.1.1.1.1.1.1.1.1.2).glob 4 (by omega)
        obtain ⟨cb4, tb4, hrw⟩ := (T20.out.1.1.1.1.1.1.1.1.2).row 4 (by omega)
        have HRW := Lib.hid hrw
        clear hrw
        have v_f0 : w8.cell? ⟨w4.heap.size, 0, none⟩ = some (.int .i64 0) := T20.out.1.1.2.1
        have v_f1 : w8.cell? ⟨w4.heap.size, 1, none⟩ = some (.int .i64 0) := T20.out.1.1.2.2.1
        have v_f2 : w8.cell? ⟨w4.heap.size, 2, none⟩ = some (.int .i64 0) := T20.out.1.1.2.2.2.1
        have v_f3 : w8.cell? ⟨w4.heap.size, 3, none⟩ = some (.slice none 0 0) := T20.out.1.1.2.2.2.2.1
        have v_f4 : w8.cell? ⟨w4.heap.size, 4, none⟩ = some (.slice none 0 0) := T20.out.1.1.2.2.2.2.2
        go_wp2_with fail
        refine (is_any _ [(opEve, 2)] (R 4) (R 4) w8 cb4 tb4 T20.out.1.1.1.2 HRW.out).mono ?_; rintro e w9 ⟨rfl, hw9⟩
        rw [decide_eq_true rfl, ← hw9]
        clear hw9
        go_wp2_with fail
        refine (natCmp_any aB aP nB nP cB cP lb (limbs (2 ^ Q)) w8 ⟨T20.out.1.1.1.1.1.2, HU.out⟩ T20.out.2 hBc hPle hBm hPmx).mono ?_; rintro e w10 ⟨rfl, q10, hw10⟩
        rw [val_limbs, HV.out]
        have hb10 : Below w8.heap.size w8 w10 := by rw [hw10]; exact bdrewN (bnil w8) q10
        clear hw10 gl
        have hlt := HLT.out
        clear v_f0 v_f1 v_f2 v_f3 v_f4
        have T21 := T20.up hb10
        clear T20
        go_wp2
        go_ret
        exact ⟨rfl, T21.out.1.1.1.1.1.1.1.1.1.2⟩
      | some o8 =>
        cases o8 with
        | true =>
          obtain ⟨a8, n8, c8, rfl, rfl, ho8⟩ : ∃ a n c, vf = fndV 1 ((w + 2 : Nat) : Int) ((h + 2 : Nat) : Int) a n c none 0 0 ∧ ev = .nilIface ∧ OwI w4 _ a n c (joinL (h + 2) S.way.reverse) := hq
          obtain ⟨v, hv1, hv2, hv3, hv4, hv5⟩ := HSE.out.patch rfl
          rw [hv1] at ho8
          have hll := hv4.len
          obtain ⟨L, hL⟩ : ∃ L, joinL (h + 2) (colsV v w) = L := ⟨_, rfl⟩
          rw [hL] at ho8 hv4 hv5 hll
          obtain ⟨A, hA⟩ : ∃ A, w + 2 = A := ⟨_, rfl⟩
          obtain ⟨B, hB⟩ : ∃ B, h + 2 = B := ⟨_, rfl⟩
          have hL60 : L.length ≤ 60 := by rw [hll]; exact Nat.mul_le_mul (show w + 2 ≤ 10 by omega) (show h + 2 ≤ 6 by omega)
          have hn8 : n8 * 8 ≤ 140737488351232 := by have := ho8.rk.len; omega
          rw [hA, hB] at hv4 hv5
          rw [hA, hB]
          have HST := Lib.hid (And.intro hv4 hv5)
          have hA2 : A - 2 = w := by omega
          have hB2 : B - 2 = h := by omega
          have T13 := T12.add (fun wv => SlI wv a8 n8 c8 L) (ho8.sl hn8)
          clear T12
          clear ho8 hv1 hv2 hv3 hv4 hv5 hL hll hL60
          obtain ⟨w5, hw5⟩ : ∃ w5, w4.alloc (.cells #[.int .i64 1, .int .i64 (A : Nat), .int .i64 (B : Nat), .slice a8 n8 c8, .slice none 0 0] 28) = w5 := ⟨_, rfl⟩
          have hbw5 : Below w4.heap.size w4 w5 := by rw [← hw5]; exact balloc (bnil w4) _
          have T14 := T13.up hbw5
          clear T13
          have T15 := T14.add (fun wv => wv.cell? ⟨w4.heap.size, 0, none⟩ = some (.int .i64 1) ∧ wv.cell? ⟨w4.heap.size, 1, none⟩ = some (.int .i64 (A : Nat)) ∧ wv.cell? ⟨w4.heap.size, 2, none⟩ = some (.int .i64 (B : Nat)) ∧ wv.cell? ⟨w4.heap.size, 3, none⟩ = some (.slice a8 n8 c8) ∧ wv.cell? ⟨w4.heap.size, 4, none⟩ = some (.slice none 0 0)) (by rw [← hw5]; exact ⟨cnw (by simp) rfl, cnw (by simp) rfl, cnw (by simp) rfl, cnw (by simp) rfl, cnw (by simp) rfl⟩)
          clear T14
          have Hw5 := Lib.hid hw5
          clear hw5 hbw5
          go_wp2_with fail
          rw [Hw5.out]
          refine ((from_any T w5 (by omega) : Calls Tryd.prog 16 #[.int .u64 T] w5 _)).mono ?_; rintro e w6 ⟨nF, rfl, hoF, hnF, hbw6⟩
          have T16 := T15.up hbw6
          clear T15
          have T17 := T16.add (fun wv => NR wv (some ⟨w5.heap.size, 0, none⟩) nF (limbs T)) (hnF.nr)
          clear T16
          have hnFl : nF ≤ 2 := hnF.le
          clear hoF hnF
          go_wp2_with fail
          refine (natCmp_any (some ⟨w5.heap.size, 0, none⟩) aB nF nB 2 cB (limbs T) lb w6 T17.out.2 ⟨T17.out.1.1.1.1.2, HU.out⟩ hnFl hBc (by unfold maxLen; omega) hBm).mono ?_; rintro e w7 ⟨rfl, q7, hw7⟩
          rw [val_limbs, HV.out]
          have hb7 : Below w6.heap.size w6 w7 := by rw [hw7]; exact bdrewN (bnil w6) q7
          clear hw7
          have T18 := T17.up hb7
          clear T17
          clear hb7
          have v_f0 : w7.cell? ⟨w4.heap.size, 0, none⟩ = some (.int .i64 1) := T18.out.1.2.1
          have v_f1 : w7.cell? ⟨w4.heap.size, 1, none⟩ = some (.int .i64 (A : Nat)) := T18.out.1.2.2.1
          have v_f2 : w7.cell? ⟨w4.heap.size, 2, none⟩ = some (.int .i64 (B : Nat)) := T18.out.1.2.2.2.1
          have v_f3 : w7.cell? ⟨w4.heap.size, 3, none⟩ = some (.slice a8 n8 c8) := T18.out.1.2.2.2.2.1
          have v_f4 : w7.cell? ⟨w4.heap.size, 4, none⟩ = some (.slice none 0 0) := T18.out.1.2.2.2.2.2
          go_wp2_with fail
          refine (plstep_ok A B a8 (some ⟨bT, oT, none⟩) n8 c8 512 cT L t w7 R T18.out.1.1.1.1.1.1.1.2 T18.out.1.1.2 T18.out.1.1.1.1.1.2 hmT HT.out HST.out.1 (by omega) (by omega)).mono ?_; rintro e w8 ⟨aq, nq, cq, rfl, hoq, hbw8⟩
          clear v_f0 v_f1 v_f2 v_f3 v_f4
          have T19 := T18.up hbw8
          clear T18
          rw [HST.out.2] at hoq
          rw [hA2, hB2]
          have T20 := T19.add (fun wv => RK .i64 wv aq nq l) (hoq.rk)
          clear T19
          clear hoq
          obtain ⟨w9, hw9⟩ : ∃ w9, w8.alloc (.cells #[.int .i64 (w : Nat), .int .i64 (h : Nat), .slice aq nq cq] 24) = w9 := ⟨_, rfl⟩
          have hbw9 : Below w8.heap.size w8 w9 := by rw [← hw9]; exact balloc (bnil w8) _
          have T21 := T20.up hbw9
          clear T20
          have T22 := T21.add (fun wv => wv.cell? ⟨w8.heap.size, 0, none⟩ = some (.int .i64 (w : Nat)) ∧ wv.cell? ⟨w8.heap.size, 1, none⟩ = some (.int .i64 (h : Nat)) ∧ wv.cell? ⟨w8.heap.size, 2, none⟩ = some (.slice aq nq cq)) (by rw [← hw9]; exact ⟨cnw (by simp) rfl, cnw (by simp) rfl, cnw (by simp) rfl⟩)
          clear T21
          have Hw9 := Lib.hid hw9
          clear hw9 hbw9
          have v_p0 : (w8.alloc (.cells #[.int .i64 (w : Nat), .int .i64 (h : Nat), .slice aq nq cq] 24)).cell? ⟨W.heap.size, 0, none⟩ = some (.int .i64 w) := by rw [Hw9.out]; exact T22.out.1.1.1.1.1.2.1
          have v_p1 : (w8.alloc (.cells #[.int .i64 (w : Nat), .int .i64 (h : Nat), .slice aq nq cq] 24)).cell? ⟨W.heap.size, 1, none⟩ = some (.int .i64 h) := by rw [Hw9.out]; exact T22.out.1.1.1.1.1.2.2.1
          have v_p2 : (w8.alloc (.cells #[.int .i64 (w : Nat), .int .i64 (h : Nat), .slice aq nq cq] 24)).cell? ⟨W.heap.size, 2, none⟩ = some (.slice a n c) := by rw [Hw9.out]; exact T22.out.1.1.1.1.1.2.2.2
          have v_q0 : (w8.alloc (.cells #[.int .i64 (w : Nat), .int .i64 (h : Nat), .slice aq nq cq] 24)).cell? ⟨w8.heap.size, 0, none⟩ = some (.int .i64 (w : Nat)) := by rw [Hw9.out]; exact T22.out.2.1
          have v_q1 : (w8.alloc (.cells #[.int .i64 (w : Nat), .int .i64 (h : Nat), .slice aq nq cq] 24)).cell? ⟨w8.heap.size, 1, none⟩ = some (.int .i64 (h : Nat)) := by rw [Hw9.out]; exact T22.out.2.2.1
          have v_q2 : (w8.alloc (.cells #[.int .i64 (w : Nat), .int .i64 (h : Nat), .slice aq nq cq] 24)).cell? ⟨w8.heap.size, 2, none⟩ = some (.slice aq nq cq) := by rw [Hw9.out]; exact T22.out.2.2.2
          go_wp2_with fail
          rw [Hw9.out]
          refine (patches_eq w h aq a nq n cq c l w9 T22.out.1.2 T22.out.1.1.1.1.1.1.1.1.2 (by have := (T22.out.1.1.1.1.1.1.1.1.2).len; omega)).mono ?_; rintro e w10 ⟨rfl, hbw10⟩
          clear v_p0 v_p1 v_p2 v_q0 v_q1 v_q2
          have T23 := T22.up hbw10
          clear T22
          have v_f0 : w10.cell? ⟨w4.heap.size, 0, none⟩ = some (.int .i64 1) := T23.out.1.1.1.2.1
          have v_f1 : w10.cell? ⟨w4.heap.size, 1, none⟩ = some (.int .i64 (A : Nat)) := T23.out.1.1.1.2.2.1
          have v_f2 : w10.cell? ⟨w4.heap.size, 2, none⟩ = some (.int .i64 (B : Nat)) := T23.out.1.1.1.2.2.2.1
          have v_f3 : w10.cell? ⟨w4.heap.size, 3, none⟩ = some (.slice a8 n8 c8) := T23.out.1.1.1.2.2.2.2.1
          have v_f4 : w10.cell? ⟨w4.heap.size, 4, none⟩ = some (.slice none 0 0) := T23.out.1.1.1.2.2.2.2.2
          go_wp2
          go_ret
          exact ⟨rfl, T23.out.1.1.1.1.1.1.1.1.1.1.2⟩
        | false =>
          obtain ⟨a8, c8, rfl, rfl, ho8⟩ : ∃ a c, vf = fndV 2 0 0 none 0 0 a (4 + 3 * S.order.length) c ∧ ev = .nilIface ∧ w4.ownsRow _ 5 1 (.slice a (4 + 3 * S.order.length) c) (4 + 3 * S.order.length) ((encL (w : Int) (h : Int) S.order).map (Value.int .u8)) := hq
          obtain ⟨hj, hno⟩ := HSE.out.cert rfl
          have hbd := encL_bd HSE.out.enc
          have hle := encL_len (w : Int) (h : Int) S.order
          have hl43 := HSE.out.enc.len
          obtain ⟨bs, hbs⟩ : ∃ bs, encL (w : Int) (h : Int) S.order = bs := ⟨_, rfl⟩
          rw [hbs] at hj hbd hle ho8
          rw [← hle] at ho8 ⊢
          have hz := ways_none (m := 4 * 2 ^ h) (by have := Nat.one_le_two_pow (n := h); omega) hno
          have HZ := Lib.hid hz
          have HBD := Lib.hid hbd
          have hbl : bs.length ≤ maxLen := by unfold maxLen; omega
          obtain ⟨jn, hjn⟩ : ∃ jn, judgeF t (w : Int) (h : Int) l bs = (jn, none) := ⟨_, Prod.ext rfl hj⟩
          have HJ := Lib.hid hjn
          have T13 := T12.add (fun wv => RK .u8 wv a8 bs.length bs) (⟨rfl, (owns_rd ho8).2⟩)
          clear T12
          clear ho8 hz hno hbd hbs hj hjn hle hl43
          obtain ⟨w5, hw5⟩ : ∃ w5, w4.alloc (.cells #[.int .i64 2, .int .i64 0, .int .i64 0, .slice none 0 0, .slice a8 bs.length c8] 28) = w5 := ⟨_, rfl⟩
          have hbw5 : Below w4.heap.size w4 w5 := by rw [← hw5]; exact balloc (bnil w4) _
          have T14 := T13.up hbw5
          clear T13
          have T15 := T14.add (fun wv => wv.cell? ⟨w4.heap.size, 0, none⟩ = some (.int .i64 2) ∧ wv.cell? ⟨w4.heap.size, 1, none⟩ = some (.int .i64 0) ∧ wv.cell? ⟨w4.heap.size, 2, none⟩ = some (.int .i64 0) ∧ wv.cell? ⟨w4.heap.size, 3, none⟩ = some (.slice none 0 0) ∧ wv.cell? ⟨w4.heap.size, 4, none⟩ = some (.slice a8 bs.length c8)) (by rw [← hw5]; exact ⟨cnw (by simp) rfl, cnw (by simp) rfl, cnw (by simp) rfl, cnw (by simp) rfl, cnw (by simp) rfl⟩)
          clear T14
          have Hw5 := Lib.hid hw5
          clear hw5 hbw5
          go_wp2_with fail
          rw [Hw5.out]
          refine ((from_any T w5 (by omega) : Calls Tryd.prog 16 #[.int .u64 T] w5 _)).mono ?_; rintro e w6 ⟨nF, rfl, hoF, hnF, hbw6⟩
          have T16 := T15.up hbw6
          clear T15
          have T17 := T16.add (fun wv => NR wv (some ⟨w5.heap.size, 0, none⟩) nF (limbs T)) (hnF.nr)
          clear T16
          have hnFl : nF ≤ 2 := hnF.le
          clear hoF hnF
          go_wp2_with fail
          refine (natCmp_any (some ⟨w5.heap.size, 0, none⟩) aB nF nB 2 cB (limbs T) lb w6 T17.out.2 ⟨T17.out.1.1.1.1.2, HU.out⟩ hnFl hBc (by unfold maxLen; omega) hBm).mono ?_; rintro e w7 ⟨rfl, q7, hw7⟩
          rw [val_limbs, HV.out]
          have hb7 : Below w6.heap.size w6 w7 := by rw [hw7]; exact bdrewN (bnil w6) q7
          clear hw7
          have T18 := T17.up hb7
          clear T17
          clear hb7
          have v_p0 : w7.cell? ⟨W.heap.size, 0, none⟩ = some (.int .i64 w) := T18.out.1.1.1.2.1
          have v_p1 : w7.cell? ⟨W.heap.size, 1, none⟩ = some (.int .i64 h) := T18.out.1.1.1.2.2.1
          have v_p2 : w7.cell? ⟨W.heap.size, 2, none⟩ = some (.slice a n c) := T18.out.1.1.1.2.2.2
          have v_f0 : w7.cell? ⟨w4.heap.size, 0, none⟩ = some (.int .i64 2) := T18.out.1.2.1
          have v_f1 : w7.cell? ⟨w4.heap.size, 1, none⟩ = some (.int .i64 0) := T18.out.1.2.2.1
          have v_f2 : w7.cell? ⟨w4.heap.size, 2, none⟩ = some (.int .i64 0) := T18.out.1.2.2.2.1
          have v_f3 : w7.cell? ⟨w4.heap.size, 3, none⟩ = some (.slice none 0 0) := T18.out.1.2.2.2.2.1
          have v_f4 : w7.cell? ⟨w4.heap.size, 4, none⟩ = some (.slice a8 bs.length c8) := T18.out.1.2.2.2.2.2
          go_wp2_with fail
          refine (judge_any w h a (some ⟨bT, oT, none⟩) a8 n c 512 cT c8 l t bs w7 R T18.out.1.1.1.1.1.1.1.2 T18.out.1.1.1.1.1.1.2 hm HI6.out T18.out.1.1.1.1.1.2 hmT T18.out.1.1.2 HBD.out hbl).mono ?_; rintro e w8 ⟨ev2, rfl, he2, hbw8⟩
          clear v_p0 v_p1 v_p2 v_f0 v_f1 v_f2 v_f3 v_f4
          have T19 := T18.up hbw8
          clear T18
          rw [HJ.out] at he2 ⊢
          obtain rfl : ev2 = .nilIface := he2
          have v_p0 : w8.cell? ⟨W.heap.size, 0, none⟩ = some (.int .i64 w) := T19.out.1.1.1.2.1
          have v_p1 : w8.cell? ⟨W.heap.size, 1, none⟩ = some (.int .i64 h) := T19.out.1.1.1.2.2.1
          have v_p2 : w8.cell? ⟨W.heap.size, 2, none⟩ = some (.slice a n c) := T19.out.1.1.1.2.2.2
          have v_f0 : w8.cell? ⟨w4.heap.size, 0, none⟩ = some (.int .i64 2) := T19.out.1.2.1
          have v_f1 : w8.cell? ⟨w4.heap.size, 1, none⟩ = some (.int .i64 0) := T19.out.1.2.2.1
          have v_f2 : w8.cell? ⟨w4.heap.size, 2, none⟩ = some (.int .i64 0) := T19.out.1.2.2.2.1
          have v_f3 : w8.cell? ⟨w4.heap.size, 3, none⟩ = some (.slice none 0 0) := T19.out.1.2.2.2.2.1
          have v_f4 : w8.cell? ⟨w4.heap.size, 4, none⟩ = some (.slice a8 bs.length c8) := T19.out.1.2.2.2.2.2
          go_wp2_with fail
          refine (ways24_any w h a (some ⟨bT, oT, none⟩) n c cT l t w8 T19.out.1.1.1.1.1.1.2 hm T19.out.1.1.1.1.1.2 HPP.out hw8 hh4).mono ?_; rintro e w9 ⟨rfl, hbw9⟩
          clear v_p0 v_p1 v_p2 v_f0 v_f1 v_f2 v_f3 v_f4
          have T20 := T19.up hbw9
          clear T19
          rw [HZ.out]
          go_wp2
          go_ret
          exact ⟨rfl, T20.out.1.1.1.1.1.1.1.1.2⟩
theorem ofN_toNat : ∀ {l : List Int}, (∀ x ∈ l, 0 ≤ x ∧ x ≤ 4294967295) → ofN (l.map Int.toNat) = l ∧ U32 (l.map Int.toNat)
  | [], _ => ⟨rfl, nofun⟩
  | x :: r, h => by
    obtain ⟨e, u⟩ := ofN_toNat (l := r) fun y hy => h y (List.mem_cons_of_mem _ hy)
    have hx := h x (List.mem_cons_self ..)
    refine ⟨?_, fun y hy => ?_⟩
    · have e1 : ((x.toNat : Nat) : Int) = x := by omega
      have e2 : ofN ((x :: r).map Int.toNat) = ((x.toNat : Nat) : Int) :: ofN (r.map Int.toNat) := rfl
      rw [e2, e1, e]
    · rw [List.map_cons] at hy
      rcases List.mem_cons.1 hy with rfl | hy
      · show x.toNat < 4294967296
        omega
      · exact u y hy
theorem nr_row {W : World} {aB : Option Addr} {bs : List Int} (hR2 : Rd W aB bs.length 1 (bs.map (Value.int .u32))) (hx2 : ∀ x ∈ bs, 0 ≤ x ∧ x ≤ 4294967295) : NR W aB bs.length (bs.map Int.toNat) := by
  obtain ⟨e, u⟩ := ofN_toNat hx2
  exact ⟨by rw [e]; exact ⟨rfl, hR2⟩, u⟩
theorem whole_pred_row (aT : Option Addr) (cT : Nat) (t : List Int) (w h : Int) (a : Option Addr) (n c : Nat) (l : List Int) (aB : Option Addr) (cB : Nat) (bs : List Int) (W : World) (R : Nat → Addr) (hE : Sent W R)
    (hR0 : Rd W aT t.length 1 (t.map (Value.int .i64))) (hl0 : t.length ≤ cT) (hz0 : cT * 8 ≤ 140737488351232) (hn0 : aT = none → cT = 0) (hx0 : ∀ x ∈ t, -9223372036854775808 ≤ x ∧ x ≤ 9223372036854775807) (hM : SlI W a n c l) (hx : I64 l)
    (hR2 : Rd W aB bs.length 1 (bs.map (Value.int .u32))) (hl2 : bs.length ≤ cB) (hz2 : cB * 4 ≤ 140737488351232) (hn2 : aB = none → cB = 0) (hx2 : ∀ x ∈ bs, 0 ≤ x ∧ x ≤ 4294967295) :
    Calls Tryd.prog 11 #[.slice aT t.length cT, patV w h a n c, .slice aB bs.length cB] W (TrueBelow W) :=
  whole_pred w h a aT aB n c t.length cT bs.length cB l t (bs.map Int.toNat) W R hE hM.rk hM.nm hx ⟨rfl, hR0⟩ (by unfold maxLen; omega) (nr_row hR2 hx2) hl2 (by unfold maxLen; omega)
end Go.Proofs.YtoaooblodgejdaaDoor
