/- edenlaw25.EveSelf returns true. -/
import Derived.Test.YtoaooblodgejdaaDoorAwk25
import Derived.Test.YtoaooblodgejdaaDoorEvE
import Derived.Test.YtoaooblodgejdaaDoorNatE
import Derived.Test.YtoaooblodgejdaaDoorPlaI
namespace Go.Proofs.YtoaooblodgejdaaDoor
open Go.RowKit
set_option linter.unusedVariables false
set_option maxRecDepth 100000

set_option maxHeartbeats 8000000 in
theorem great_any (w h : Int) (a : Option Addr) (n c : Nat) (W : World) : Calls Tryd.prog 29 #[patV w h a n c] W fun e w' => ∃ b, e = .returned (.bool b) ∧ Below W.heap.size W w' := by
  by_cases c1 : 3 < h
  · have c3 : ¬ h = 3 := by omega
    have c3b : (h == 3) = false := by rw [beq_eq_false_iff_ne]; omega
    by_cases c2 : h < 5
    · go_enter Tryd.func29, Tryd.ntmps29
      go_wp2
      go_ret
      first | exact ⟨_, rfl, balloc (bnil W) _⟩ | exact ⟨rfl, balloc (bnil W) _⟩ | exact ⟨.inl rfl, balloc (bnil W) _⟩ | exact ⟨.inr rfl, balloc (bnil W) _⟩
    · go_enter Tryd.func29, Tryd.ntmps29
      go_wp2
      go_ret
      first | exact ⟨_, rfl, balloc (bnil W) _⟩ | exact ⟨rfl, balloc (bnil W) _⟩ | exact ⟨.inl rfl, balloc (bnil W) _⟩ | exact ⟨.inr rfl, balloc (bnil W) _⟩
  · by_cases c3 : h = 3
    · subst c3
      by_cases c4 : 4 < w
      · by_cases c5 : w < 9
        · go_enter Tryd.func29, Tryd.ntmps29
          go_wp2
          go_ret
          first | exact ⟨_, rfl, balloc (bnil W) _⟩ | exact ⟨rfl, balloc (bnil W) _⟩ | exact ⟨.inl rfl, balloc (bnil W) _⟩ | exact ⟨.inr rfl, balloc (bnil W) _⟩
        · go_enter Tryd.func29, Tryd.ntmps29
          go_wp2
          go_ret
          first | exact ⟨_, rfl, balloc (bnil W) _⟩ | exact ⟨rfl, balloc (bnil W) _⟩ | exact ⟨.inl rfl, balloc (bnil W) _⟩ | exact ⟨.inr rfl, balloc (bnil W) _⟩
      · go_enter Tryd.func29, Tryd.ntmps29
        go_wp2
        go_ret
        first | exact ⟨_, rfl, balloc (bnil W) _⟩ | exact ⟨rfl, balloc (bnil W) _⟩ | exact ⟨.inl rfl, balloc (bnil W) _⟩ | exact ⟨.inr rfl, balloc (bnil W) _⟩
    · have c3b : (h == 3) = false := by rw [beq_eq_false_iff_ne]; omega
      go_enter Tryd.func29, Tryd.ntmps29
      go_wp2
      go_ret
      first | exact ⟨_, rfl, balloc (bnil W) _⟩ | exact ⟨rfl, balloc (bnil W) _⟩ | exact ⟨.inl rfl, balloc (bnil W) _⟩ | exact ⟨.inr rfl, balloc (bnil W) _⟩
theorem self_end {t l : List Int} {w h : Nat} (ht : IsTab t) (hp : IsPatch w h l) (w8 : w ≤ 8) (h4 : h ≤ 4) :
    (seekF t (colL w h l) h (4 * 2 ^ h) w (granted (2 ^ 200))).2 ≠ none ∧ ((seekF t (colL w h l) h (4 * 2 ^ h) w (granted (2 ^ 200))).2 = some true → cntN t (colL w h l) h (4 * 2 ^ h) w ≠ 0) ∧ ((seekF t (colL w h l) h (4 * 2 ^ h) w (granted (2 ^ 200))).2 = some false → cntN t (colL w h l) h (4 * 2 ^ h) w = 0) := by
  have hs := seek_end ht hp w8 h4 (granted (2 ^ 200))
  have hb := (enough_le w8 h4).2
  have e1 : granted (2 ^ 200) = 1099511627776 := by decide
  generalize seekF t (colL w h l) h (4 * 2 ^ h) w (granted (2 ^ 200)) = X at hs ⊢
  have hc := cntN_pos (t := t) (cols := colL w h l) (h := h) (m_le h4).2 (m_le h4).1 w8
  refine ⟨fun e => ?_, fun e => ?_, fun e => ?_⟩
  · have := (hs.err e).2; omega
  · obtain ⟨v, _, _, hv, _⟩ := hs.patch e
    exact hc.2 ⟨v, hv⟩
  · exact Decidable.byContradiction fun q => by
      obtain ⟨v, hv⟩ := hc.1 q
      exact (hs.cert e).2 v hv
set_option maxHeartbeats 32000000 in
theorem eve_self (w h : Int) (a aT : Option Addr) (n c nT cT : Nat) (l t : List Int) (W : World) (R : Nat → Addr) (hE : Sent W R) (hR : RK .i64 W a n l) (hm : n ≤ maxLen) (hx : I64 l) (hT : RK .i64 W aT nT t) (hmT : nT ≤ maxLen) :
    Calls Tryd.prog 8 #[.slice aT nT cT, patV w h a n c] W (TrueBelow W) := by
  have HI6 := Lib.hid hx
  have T0 := Tk.nil W
  have T1 := T0.add (fun wv => Below W.heap.size W wv) (bnil W)
  clear T0
  have T2 := T1.add (fun wv => Sent wv R) (hE)
  clear T1
  have T3 := T2.add (fun wv => RK .i64 wv a n l) (hR)
  clear T2
  have T4 := T3.add (fun wv => RK .i64 wv aT nT t) (hT)
  clear T3
  clear hE hR hx hT
  cases hed : evD t w h l with
  | some d =>
    have HED := Lib.hid hed
    clear hed
    obtain ⟨Wb, hWb⟩ : ∃ Wb, W.alloc (.cells #[.int .i64 w, .int .i64 h, .slice a n c] 24) = Wb := ⟨_, rfl⟩
    have hbWb : Below W.heap.size W Wb := by rw [← hWb]; exact balloc (bnil W) _
    have T5 := T4.up hbWb
    clear T4
    have T6 := T5.add (fun wv => wv.cell? ⟨W.heap.size, 0, none⟩ = some (.int .i64 w) ∧ wv.cell? ⟨W.heap.size, 1, none⟩ = some (.int .i64 h) ∧ wv.cell? ⟨W.heap.size, 2, none⟩ = some (.slice a n c)) (by rw [← hWb]; exact ⟨cnw (by simp) rfl, cnw (by simp) rfl, cnw (by simp) rfl⟩)
    clear T5
    have HWb := Lib.hid hWb
    clear hWb hbWb
    go_enter Tryd.func8, Tryd.ntmps8
    go_wp2_with fail
    rw [HWb.out]
    refine (awake25_any Wb R T6.out.1.1.1.2).mono ?_; rintro e w0 ⟨rfl, hbw0⟩
    have T7 := T6.up hbw0
    clear T6
    have v_p0 : w0.cell? ⟨W.heap.size, 0, none⟩ = some (.int .i64 w) := T7.out.2.1
    have v_p1 : w0.cell? ⟨W.heap.size, 1, none⟩ = some (.int .i64 h) := T7.out.2.2.1
    have v_p2 : w0.cell? ⟨W.heap.size, 2, none⟩ = some (.slice a n c) := T7.out.2.2.2
    go_wp2_with fail
    refine (great_any w h a n c w0).mono ?_; rintro e w1 ⟨b, rfl, hbw1⟩
    clear v_p0 v_p1 v_p2
    have T8 := T7.up hbw1
    clear T7
    cases b with
    | true =>
      go_wp2
      go_ret
      exact ⟨rfl, T8.out.1.1.1.1.2⟩
    | false =>
      go_wp2_with fail
      refine ((pow_any 2 200 w1 (by decide) (by omega) : Calls Tryd.prog 24 #[.int .u32 2, .int .i64 200] w1 _)).mono ?_; rintro e w2 ⟨aP, nP, cP, rfl, _, hnP, hbw2⟩
      have T9 := T8.up hbw2
      clear T8
      have T10 := T9.add (fun wv => NR wv aP nP (limbs (2 ^ 200))) (hnP.nr)
      clear T9
      have hPle : nP ≤ cP := hnP.le
      have hPmx : cP ≤ maxLen := hnP.cm
      clear hnP
      have v_p0 : w2.cell? ⟨W.heap.size, 0, none⟩ = some (.int .i64 w) := T10.out.1.2.1
      have v_p1 : w2.cell? ⟨W.heap.size, 1, none⟩ = some (.int .i64 h) := T10.out.1.2.2.1
      have v_p2 : w2.cell? ⟨W.heap.size, 2, none⟩ = some (.slice a n c) := T10.out.1.2.2.2
      go_wp2_with fail
      refine (evsearch_er w h a aT n c nT cT l t w2 R T10.out.1.1.1.1.2 T10.out.1.1.1.2 hm HI6.out T10.out.1.1.2 hmT d HED.out aP nP cP).mono ?_; rintro e w3 ⟨t9, p9, rfl, _, hbw3⟩
      clear v_p0 v_p1 v_p2
      have T11 := T10.up hbw3
      clear T10
      obtain ⟨w4, hw4⟩ : ∃ w4, w3.alloc (.cells #[.int .i64 0, .int .i64 0, .int .i64 0, .slice none 0 0, .slice none 0 0] 28) = w4 := ⟨_, rfl⟩
      have hbw4 : Below w3.heap.size w3 w4 := by rw [← hw4]; exact balloc (bnil w3) _
      have T12 := T11.up hbw4
      clear T11
      have T13 := T12.add (fun wv => wv.cell? ⟨w3.heap.size, 0, none⟩ = some (.int .i64 0) ∧ wv.cell? ⟨w3.heap.size, 1, none⟩ = some (.int .i64 0) ∧ wv.cell? ⟨w3.heap.size, 2, none⟩ = some (.int .i64 0) ∧ wv.cell? ⟨w3.heap.size, 3, none⟩ = some (.slice none 0 0) ∧ wv.cell? ⟨w3.heap.size, 4, none⟩ = some (.slice none 0 0)) (by rw [← hw4]; exact ⟨cnw (by simp) rfl, cnw (by simp) rfl, cnw (by simp) rfl, cnw (by simp) rfl, cnw (by simp) rfl⟩)
      clear T12
      have Hw4 := Lib.hid hw4
      clear hw4 hbw4
      have v_p0 : (w3.alloc (.cells #[.int .i64 0, .int .i64 0, .int .i64 0, .slice none 0 0, .slice none 0 0] 28)).cell? ⟨W.heap.size, 0, none⟩ = some (.int .i64 w) := by rw [Hw4.out]; exact T13.out.1.1.2.1
      have v_p1 : (w3.alloc (.cells #[.int .i64 0, .int .i64 0, .int .i64 0, .slice none 0 0, .slice none 0 0] 28)).cell? ⟨W.heap.size, 1, none⟩ = some (.int .i64 h) := by rw [Hw4.out]; exact T13.out.1.1.2.2.1
      have v_p2 : (w3.alloc (.cells #[.int .i64 0, .int .i64 0, .int .i64 0, .slice none 0 0, .slice none 0 0] 28)).cell? ⟨W.heap.size, 2, none⟩ = some (.slice a n c) := by rw [Hw4.out]; exact T13.out.1.1.2.2.2
      go_wp2_with fail
      rw [Hw4.out]
      refine (evcount_er w h a aT n c nT cT l t w4 R T13.out.1.1.1.1.1.2 T13.out.1.1.1.1.2 hm HI6.out T13.out.1.1.1.2 hmT d HED.out).mono ?_; rintro e w5 ⟨t8, p8, rfl, _, hbw5⟩
      clear v_p0 v_p1 v_p2
      have T14 := T13.up hbw5
      clear T13
      go_wp2
      go_ret
      exact ⟨rfl, T14.out.1.1.1.1.1.1.2⟩
  | none =>
    obtain ⟨w, h, rfl, rfl, hpp, htb, hw8, hh4⟩ := evD_none hed
    have HPP := Lib.hid hpp
    have HT := Lib.hid htb
    have hse := seek_end htb hpp hw8 hh4 (granted (2 ^ 200))
    have hsf := self_end htb hpp hw8 hh4
    have c_s := fun a n c bT oT cT aL nL cL W R hS hR hm hT hL hLc hLm => evsearch_ok w h a n c bT oT cT l t aL nL cL (limbs (2 ^ 200)) W R hS hR hm HI6.out hT hL hLc hLm htb hpp hw8 hh4
    rw [val_limbs] at c_s
    obtain ⟨X, hX⟩ : ∃ X, seekF t (colL w h l) h (4 * 2 ^ h) w (granted (2 ^ 200)) = X := ⟨_, rfl⟩
    obtain ⟨CN, hCN⟩ : ∃ CN, cntN t (colL w h l) h (4 * 2 ^ h) w = CN := ⟨_, rfl⟩
    have c_c := fun a n c bT oT cT W R hS hR hm hT => evcount_ok w h a n c bT oT cT l t W R hS hR hm HI6.out hT htb hpp hw8 hh4
    simp only [hX] at c_s
    simp only [hCN] at c_c
    rw [hX] at hse hsf
    rw [hCN] at hsf
    obtain ⟨S, o⟩ := X
    have HCS := Lib.hid c_s
    have HCC := Lib.hid c_c
    have HSE := Lib.hid hse
    have HSF := Lib.hid hsf
    obtain ⟨T, hT⟩ : ∃ T, S.tries = T := ⟨_, rfl⟩
    have HTT := Lib.hid hT
    clear hpp htb hse hsf c_s c_c hX hCN hed hT
    obtain rfl : nT = 512 := (T4.out.2).len.trans HT.out.len
    obtain ⟨bT, oT, hbo, _⟩ := (T4.out.2).addr (by omega)
    subst hbo
    obtain ⟨Wb, hWb⟩ : ∃ Wb, W.alloc (.cells #[.int .i64 w, .int .i64 h, .slice a n c] 24) = Wb := ⟨_, rfl⟩
    have hbWb : Below W.heap.size W Wb := by rw [← hWb]; exact balloc (bnil W) _
    have T5 := T4.up hbWb
    clear T4
    have T6 := T5.add (fun wv => wv.cell? ⟨W.heap.size, 0, none⟩ = some (.int .i64 w) ∧ wv.cell? ⟨W.heap.size, 1, none⟩ = some (.int .i64 h) ∧ wv.cell? ⟨W.heap.size, 2, none⟩ = some (.slice a n c)) (by rw [← hWb]; exact ⟨cnw (by simp) rfl, cnw (by simp) rfl, cnw (by simp) rfl⟩)
    clear T5
    have HWb := Lib.hid hWb
    clear hWb hbWb
    go_enter Tryd.func8, Tryd.ntmps8
    go_wp2_with fail
    rw [HWb.out]
    refine (awake25_any Wb R T6.out.1.1.1.2).mono ?_; rintro e w0 ⟨rfl, hbw0⟩
    have T7 := T6.up hbw0
    clear T6
    have v_p0 : w0.cell? ⟨W.heap.size, 0, none⟩ = some (.int .i64 w) := T7.out.2.1
    have v_p1 : w0.cell? ⟨W.heap.size, 1, none⟩ = some (.int .i64 h) := T7.out.2.2.1
    have v_p2 : w0.cell? ⟨W.heap.size, 2, none⟩ = some (.slice a n c) := T7.out.2.2.2
    go_wp2_with fail
    refine (great_any w h a n c w0).mono ?_; rintro e w1 ⟨b, rfl, hbw1⟩
    clear v_p0 v_p1 v_p2
    have T8 := T7.up hbw1
    clear T7
    cases b with
    | true =>
      go_wp2
      go_ret
      exact ⟨rfl, T8.out.1.1.1.1.2⟩
    | false =>
      go_wp2_with fail
      refine ((pow_any 2 200 w1 (by decide) (by omega) : Calls Tryd.prog 24 #[.int .u32 2, .int .i64 200] w1 _)).mono ?_; rintro e w2 ⟨aP, nP, cP, rfl, _, hnP, hbw2⟩
      have T9 := T8.up hbw2
      clear T8
      have T10 := T9.add (fun wv => NR wv aP nP (limbs (2 ^ 200))) (hnP.nr)
      clear T9
      have hPle : nP ≤ cP := hnP.le
      have hPmx : cP ≤ maxLen := hnP.cm
      clear hnP
      have v_p0 : w2.cell? ⟨W.heap.size, 0, none⟩ = some (.int .i64 w) := T10.out.1.2.1
      have v_p1 : w2.cell? ⟨W.heap.size, 1, none⟩ = some (.int .i64 h) := T10.out.1.2.2.1
      have v_p2 : w2.cell? ⟨W.heap.size, 2, none⟩ = some (.slice a n c) := T10.out.1.2.2.2
      go_wp2_with fail
      refine (HCS.out a n c bT oT cT aP nP cP w2 R T10.out.1.1.1.1.2 T10.out.1.1.1.2 hm T10.out.1.1.2 T10.out.2 hPle hPmx).mono ?_; rintro e w3 ⟨vf, ev, rfl, hbw3, hq⟩
      clear v_p0 v_p1 v_p2
      have T11 := T10.up hbw3
      clear T10
      rw [HTT.out]
      cases o with
      | none => exact absurd rfl HSF.out.1
      | some o8 =>
        cases o8 with
        | true =>
          obtain ⟨a8, n8, c8, rfl, rfl, ho8⟩ : ∃ a n c, vf = fndV 1 ((w + 2 : Nat) : Int) ((h + 2 : Nat) : Int) a n c none 0 0 ∧ ev = .nilIface ∧ OwI w3 _ a n c (joinL (h + 2) S.way.reverse) := hq
          obtain ⟨v, hv1, hv2, hv3, hv4, hv5⟩ := HSE.out.patch rfl
          rw [hv1] at ho8
          have hll := hv4.len
          obtain ⟨L, hL⟩ : ∃ L, joinL (h + 2) (colsV v w) = L := ⟨_, rfl⟩
          rw [hL] at ho8 hv4 hv5 hll
          obtain ⟨A, hA⟩ : ∃ A, w + 2 = A := ⟨_, rfl⟩
          obtain ⟨B, hB⟩ : ∃ B, h + 2 = B := ⟨_, rfl⟩
          have hL60 : L.length ≤ 60 := by rw [hll]; exact Nat.mul_le_mul (show w + 2 ≤ 10 by omega) (show h + 2 ≤ 6 by omega)
          have hn8 : n8 * 8 ≤ 140737488351232 := by have := ho8.rk.len; omega
          have w1' := HPP.out.w1
          have h1' := HPP.out.h1
          rw [hA, hB] at hv4 hv5
          rw [hA, hB]
          have HST := Lib.hid (And.intro hv4 hv5)
          have hA2 : A - 2 = w := by omega
          have hB2 : B - 2 = h := by omega
          have T12 := T11.add (fun wv => SlI wv a8 n8 c8 L) (ho8.sl hn8)
          clear T11
          clear ho8 hv1 hv2 hv3 hv4 hv5 hL hll hL60
          obtain ⟨w4, hw4⟩ : ∃ w4, w3.alloc (.cells #[.int .i64 1, .int .i64 (A : Nat), .int .i64 (B : Nat), .slice a8 n8 c8, .slice none 0 0] 28) = w4 := ⟨_, rfl⟩
          have hbw4 : Below w3.heap.size w3 w4 := by rw [← hw4]; exact balloc (bnil w3) _
          have T13 := T12.up hbw4
          clear T12
          have T14 := T13.add (fun wv => wv.cell? ⟨w3.heap.size, 0, none⟩ = some (.int .i64 1) ∧ wv.cell? ⟨w3.heap.size, 1, none⟩ = some (.int .i64 (A : Nat)) ∧ wv.cell? ⟨w3.heap.size, 2, none⟩ = some (.int .i64 (B : Nat)) ∧ wv.cell? ⟨w3.heap.size, 3, none⟩ = some (.slice a8 n8 c8) ∧ wv.cell? ⟨w3.heap.size, 4, none⟩ = some (.slice none 0 0)) (by rw [← hw4]; exact ⟨cnw (by simp) rfl, cnw (by simp) rfl, cnw (by simp) rfl, cnw (by simp) rfl, cnw (by simp) rfl⟩)
          clear T13
          have Hw4 := Lib.hid hw4
          clear hw4 hbw4
          have v_p0 : (w3.alloc (.cells #[.int .i64 1, .int .i64 (A : Nat), .int .i64 (B : Nat), .slice a8 n8 c8, .slice none 0 0] 28)).cell? ⟨W.heap.size, 0, none⟩ = some (.int .i64 w) := by rw [Hw4.out]; exact T14.out.1.1.1.2.1
          have v_p1 : (w3.alloc (.cells #[.int .i64 1, .int .i64 (A : Nat), .int .i64 (B : Nat), .slice a8 n8 c8, .slice none 0 0] 28)).cell? ⟨W.heap.size, 1, none⟩ = some (.int .i64 h) := by rw [Hw4.out]; exact T14.out.1.1.1.2.2.1
          have v_p2 : (w3.alloc (.cells #[.int .i64 1, .int .i64 (A : Nat), .int .i64 (B : Nat), .slice a8 n8 c8, .slice none 0 0] 28)).cell? ⟨W.heap.size, 2, none⟩ = some (.slice a n c) := by rw [Hw4.out]; exact T14.out.1.1.1.2.2.2
          go_wp2_with fail
          rw [Hw4.out]
          refine (HCC.out a n c bT oT cT w4 R T14.out.1.1.1.1.1.1.2 T14.out.1.1.1.1.1.2 hm T14.out.1.1.1.1.2).mono ?_; rintro e w5 ⟨gN, nN, rfl, _, hnN, hbw5⟩
          clear v_p0 v_p1 v_p2
          have T15 := T14.up hbw5
          clear T14
          have T16 := T15.add (fun wv => NR wv (some ⟨gN, 0, none⟩) nN (limbs CN)) (hnN.nr)
          clear T15
          have hNle : nN ≤ 2 := hnN.le
          clear hnN
          have v_f0 : w5.cell? ⟨w3.heap.size, 0, none⟩ = some (.int .i64 1) := T16.out.1.2.1
          have v_f1 : w5.cell? ⟨w3.heap.size, 1, none⟩ = some (.int .i64 (A : Nat)) := T16.out.1.2.2.1
          have v_f2 : w5.cell? ⟨w3.heap.size, 2, none⟩ = some (.int .i64 (B : Nat)) := T16.out.1.2.2.2.1
          have v_f3 : w5.cell? ⟨w3.heap.size, 3, none⟩ = some (.slice a8 n8 c8) := T16.out.1.2.2.2.2.1
          have v_f4 : w5.cell? ⟨w3.heap.size, 4, none⟩ = some (.slice none 0 0) := T16.out.1.2.2.2.2.2
          go_wp2_with fail
          refine (plstep_ok A B a8 (some ⟨bT, oT, none⟩) n8 c8 512 cT L t w5 R T16.out.1.1.1.1.1.1.1.2 T16.out.1.1.2 T16.out.1.1.1.1.1.2 hmT HT.out HST.out.1 (by omega) (by omega)).mono ?_; rintro e w8 ⟨aq, nq, cq, rfl, hoq, hbw8⟩
          clear v_f0 v_f1 v_f2 v_f3 v_f4
          have T17 := T16.up hbw8
          clear T16
          rw [HST.out.2] at hoq
          rw [hA2, hB2]
          have T18 := T17.add (fun wv => RK .i64 wv aq nq l) (hoq.rk)
          clear T17
          clear hoq
          obtain ⟨wq, hwq⟩ : ∃ wq, w8.alloc (.cells #[.int .i64 (w : Nat), .int .i64 (h : Nat), .slice aq nq cq] 24) = wq := ⟨_, rfl⟩
          have hbwq : Below w8.heap.size w8 wq := by rw [← hwq]; exact balloc (bnil w8) _
          have T19 := T18.up hbwq
          clear T18
          have T20 := T19.add (fun wv => wv.cell? ⟨w8.heap.size, 0, none⟩ = some (.int .i64 (w : Nat)) ∧ wv.cell? ⟨w8.heap.size, 1, none⟩ = some (.int .i64 (h : Nat)) ∧ wv.cell? ⟨w8.heap.size, 2, none⟩ = some (.slice aq nq cq)) (by rw [← hwq]; exact ⟨cnw (by simp) rfl, cnw (by simp) rfl, cnw (by simp) rfl⟩)
          clear T19
          have Hwq := Lib.hid hwq
          clear hwq hbwq
          have v_p0 : (w8.alloc (.cells #[.int .i64 (w : Nat), .int .i64 (h : Nat), .slice aq nq cq] 24)).cell? ⟨W.heap.size, 0, none⟩ = some (.int .i64 w) := by rw [Hwq.out]; exact T20.out.1.1.1.1.1.1.2.1
          have v_p1 : (w8.alloc (.cells #[.int .i64 (w : Nat), .int .i64 (h : Nat), .slice aq nq cq] 24)).cell? ⟨W.heap.size, 1, none⟩ = some (.int .i64 h) := by rw [Hwq.out]; exact T20.out.1.1.1.1.1.1.2.2.1
          have v_p2 : (w8.alloc (.cells #[.int .i64 (w : Nat), .int .i64 (h : Nat), .slice aq nq cq] 24)).cell? ⟨W.heap.size, 2, none⟩ = some (.slice a n c) := by rw [Hwq.out]; exact T20.out.1.1.1.1.1.1.2.2.2
          have v_q0 : (w8.alloc (.cells #[.int .i64 (w : Nat), .int .i64 (h : Nat), .slice aq nq cq] 24)).cell? ⟨w8.heap.size, 0, none⟩ = some (.int .i64 (w : Nat)) := by rw [Hwq.out]; exact T20.out.2.1
          have v_q1 : (w8.alloc (.cells #[.int .i64 (w : Nat), .int .i64 (h : Nat), .slice aq nq cq] 24)).cell? ⟨w8.heap.size, 1, none⟩ = some (.int .i64 (h : Nat)) := by rw [Hwq.out]; exact T20.out.2.2.1
          have v_q2 : (w8.alloc (.cells #[.int .i64 (w : Nat), .int .i64 (h : Nat), .slice aq nq cq] 24)).cell? ⟨w8.heap.size, 2, none⟩ = some (.slice aq nq cq) := by rw [Hwq.out]; exact T20.out.2.2.2
          go_wp2_with fail
          rw [Hwq.out]
          refine (patches_eq w h aq a nq n cq c l wq T20.out.1.2 T20.out.1.1.1.1.1.1.1.1.2 (by have := (T20.out.1.1.1.1.1.1.1.1.2).len; omega)).mono ?_; rintro e w10 ⟨rfl, hbw10⟩
          clear v_p0 v_p1 v_p2 v_q0 v_q1 v_q2
          have T21 := T20.up hbw10
          clear T20
          have v_f0 : w10.cell? ⟨w3.heap.size, 0, none⟩ = some (.int .i64 1) := T21.out.1.1.1.2.1
          have v_f1 : w10.cell? ⟨w3.heap.size, 1, none⟩ = some (.int .i64 (A : Nat)) := T21.out.1.1.1.2.2.1
          have v_f2 : w10.cell? ⟨w3.heap.size, 2, none⟩ = some (.int .i64 (B : Nat)) := T21.out.1.1.1.2.2.2.1
          have v_f3 : w10.cell? ⟨w3.heap.size, 3, none⟩ = some (.slice a8 n8 c8) := T21.out.1.1.1.2.2.2.2.1
          have v_f4 : w10.cell? ⟨w3.heap.size, 4, none⟩ = some (.slice none 0 0) := T21.out.1.1.1.2.2.2.2.2
          go_wp2_with fail
          refine (bits_any (some ⟨gN, 0, none⟩) nN 2 (limbs CN) w10 T21.out.1.1.2 (by omega) hNle (by unfold maxLen; omega)).mono ?_; rintro e w9 ⟨m, rfl, hmz, hw9⟩
          rw [← hw9]
          rw [val_limbs] at hmz
          have hm1 : (0 : Int) < (m : Int) := by
            have : m ≠ 0 := fun e => HSF.out.2.1 (by first | rfl | trivial) (hmz.1 e)
            omega
          have hm2 : 0 < m := by omega
          clear hmz hw9
          go_wp2
          go_ret
          exact ⟨rfl, T21.out.1.1.1.1.1.1.1.1.1.1.2⟩
        | false =>
          obtain ⟨a8, c8, rfl, rfl, ho8⟩ : ∃ a c, vf = fndV 2 0 0 none 0 0 a (4 + 3 * S.order.length) c ∧ ev = .nilIface ∧ w3.ownsRow _ 5 1 (.slice a (4 + 3 * S.order.length) c) (4 + 3 * S.order.length) ((encL (w : Int) (h : Int) S.order).map (Value.int .u8)) := hq
          obtain ⟨hj, hno⟩ := HSE.out.cert rfl
          have hbd := encL_bd HSE.out.enc
          have hle := encL_len (w : Int) (h : Int) S.order
          have hl43 := HSE.out.enc.len
          obtain ⟨bs, hbs⟩ : ∃ bs, encL (w : Int) (h : Int) S.order = bs := ⟨_, rfl⟩
          rw [hbs] at hj hbd hle ho8
          rw [← hle] at ho8 ⊢
          have HBD := Lib.hid hbd
          have hbl : bs.length ≤ maxLen := by unfold maxLen; omega
          obtain ⟨jn, hjn⟩ : ∃ jn, judgeF t (w : Int) (h : Int) l bs = (jn, none) := ⟨_, Prod.ext rfl hj⟩
          have HJ := Lib.hid hjn
          have T12 := T11.add (fun wv => RK .u8 wv a8 bs.length bs) (⟨rfl, (owns_rd ho8).2⟩)
          clear T11
          clear ho8 hno hbd hbs hj hjn hle hl43
          obtain ⟨w4, hw4⟩ : ∃ w4, w3.alloc (.cells #[.int .i64 2, .int .i64 0, .int .i64 0, .slice none 0 0, .slice a8 bs.length c8] 28) = w4 := ⟨_, rfl⟩
          have hbw4 : Below w3.heap.size w3 w4 := by rw [← hw4]; exact balloc (bnil w3) _
          have T13 := T12.up hbw4
          clear T12
          have T14 := T13.add (fun wv => wv.cell? ⟨w3.heap.size, 0, none⟩ = some (.int .i64 2) ∧ wv.cell? ⟨w3.heap.size, 1, none⟩ = some (.int .i64 0) ∧ wv.cell? ⟨w3.heap.size, 2, none⟩ = some (.int .i64 0) ∧ wv.cell? ⟨w3.heap.size, 3, none⟩ = some (.slice none 0 0) ∧ wv.cell? ⟨w3.heap.size, 4, none⟩ = some (.slice a8 bs.length c8)) (by rw [← hw4]; exact ⟨cnw (by simp) rfl, cnw (by simp) rfl, cnw (by simp) rfl, cnw (by simp) rfl, cnw (by simp) rfl⟩)
          clear T13
          have Hw4 := Lib.hid hw4
          clear hw4 hbw4
          have v_p0 : (w3.alloc (.cells #[.int .i64 2, .int .i64 0, .int .i64 0, .slice none 0 0, .slice a8 bs.length c8] 28)).cell? ⟨W.heap.size, 0, none⟩ = some (.int .i64 w) := by rw [Hw4.out]; exact T14.out.1.1.1.2.1
          have v_p1 : (w3.alloc (.cells #[.int .i64 2, .int .i64 0, .int .i64 0, .slice none 0 0, .slice a8 bs.length c8] 28)).cell? ⟨W.heap.size, 1, none⟩ = some (.int .i64 h) := by rw [Hw4.out]; exact T14.out.1.1.1.2.2.1
          have v_p2 : (w3.alloc (.cells #[.int .i64 2, .int .i64 0, .int .i64 0, .slice none 0 0, .slice a8 bs.length c8] 28)).cell? ⟨W.heap.size, 2, none⟩ = some (.slice a n c) := by rw [Hw4.out]; exact T14.out.1.1.1.2.2.2
          go_wp2_with fail
          rw [Hw4.out]
          refine (HCC.out a n c bT oT cT w4 R T14.out.1.1.1.1.1.1.2 T14.out.1.1.1.1.1.2 hm T14.out.1.1.1.1.2).mono ?_; rintro e w5 ⟨gN, nN, rfl, _, hnN, hbw5⟩
          clear v_p0 v_p1 v_p2
          have T15 := T14.up hbw5
          clear T14
          have T16 := T15.add (fun wv => NR wv (some ⟨gN, 0, none⟩) nN (limbs CN)) (hnN.nr)
          clear T15
          have hNle : nN ≤ 2 := hnN.le
          clear hnN
          have v_p0 : w5.cell? ⟨W.heap.size, 0, none⟩ = some (.int .i64 w) := T16.out.1.1.1.1.2.1
          have v_p1 : w5.cell? ⟨W.heap.size, 1, none⟩ = some (.int .i64 h) := T16.out.1.1.1.1.2.2.1
          have v_p2 : w5.cell? ⟨W.heap.size, 2, none⟩ = some (.slice a n c) := T16.out.1.1.1.1.2.2.2
          have v_f0 : w5.cell? ⟨w3.heap.size, 0, none⟩ = some (.int .i64 2) := T16.out.1.2.1
          have v_f1 : w5.cell? ⟨w3.heap.size, 1, none⟩ = some (.int .i64 0) := T16.out.1.2.2.1
          have v_f2 : w5.cell? ⟨w3.heap.size, 2, none⟩ = some (.int .i64 0) := T16.out.1.2.2.2.1
          have v_f3 : w5.cell? ⟨w3.heap.size, 3, none⟩ = some (.slice none 0 0) := T16.out.1.2.2.2.2.1
          have v_f4 : w5.cell? ⟨w3.heap.size, 4, none⟩ = some (.slice a8 bs.length c8) := T16.out.1.2.2.2.2.2
          go_wp2_with fail
          refine (judge_any w h a (some ⟨bT, oT, none⟩) a8 n c 512 cT c8 l t bs w5 R T16.out.1.1.1.1.1.1.1.2 T16.out.1.1.1.1.1.1.2 hm HI6.out T16.out.1.1.1.1.1.2 hmT T16.out.1.1.2 HBD.out hbl).mono ?_; rintro e w8 ⟨ev2, rfl, he2, hbw8⟩
          clear v_p0 v_p1 v_p2 v_f0 v_f1 v_f2 v_f3 v_f4
          have T17 := T16.up hbw8
          clear T16
          rw [HJ.out] at he2 ⊢
          obtain rfl : ev2 = .nilIface := he2
          have v_f0 : w8.cell? ⟨w3.heap.size, 0, none⟩ = some (.int .i64 2) := T17.out.1.2.1
          have v_f1 : w8.cell? ⟨w3.heap.size, 1, none⟩ = some (.int .i64 0) := T17.out.1.2.2.1
          have v_f2 : w8.cell? ⟨w3.heap.size, 2, none⟩ = some (.int .i64 0) := T17.out.1.2.2.2.1
          have v_f3 : w8.cell? ⟨w3.heap.size, 3, none⟩ = some (.slice none 0 0) := T17.out.1.2.2.2.2.1
          have v_f4 : w8.cell? ⟨w3.heap.size, 4, none⟩ = some (.slice a8 bs.length c8) := T17.out.1.2.2.2.2.2
          go_wp2_with fail
          refine (bits_any (some ⟨gN, 0, none⟩) nN 2 (limbs CN) w8 T17.out.2 (by omega) hNle (by unfold maxLen; omega)).mono ?_; rintro e w9 ⟨m, rfl, hmz, hw9⟩
          rw [← hw9]
          rw [val_limbs] at hmz
          obtain rfl : m = 0 := hmz.2 (HSF.out.2.2 (by first | rfl | trivial))
          clear hmz hw9
          go_wp2
          go_ret
          exact ⟨rfl, T17.out.1.1.1.1.1.1.1.1.2⟩
theorem eve_self_row (aT : Option Addr) (cT : Nat) (t : List Int) (w h : Int) (a : Option Addr) (n c : Nat) (l : List Int) (W : World) (R : Nat → Addr) (hE : Sent W R)
    (hR0 : Rd W aT t.length 1 (t.map (Value.int .i64))) (hl0 : t.length ≤ cT) (hz0 : cT * 8 ≤ 140737488351232) (hn0 : aT = none → cT = 0) (hx0 : ∀ x ∈ t, -9223372036854775808 ≤ x ∧ x ≤ 9223372036854775807) (hM : SlI W a n c l) (hx : I64 l) :
    Calls Tryd.prog 8 #[.slice aT t.length cT, patV w h a n c] W (TrueBelow W) :=
  eve_self w h a aT n c t.length cT l t W R hE hM.rk hM.nm hx ⟨rfl, hR0⟩ (by unfold maxLen; omega)
end Go.Proofs.YtoaooblodgejdaaDoor
