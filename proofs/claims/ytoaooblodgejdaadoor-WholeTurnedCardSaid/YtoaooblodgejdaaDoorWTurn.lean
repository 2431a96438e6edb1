/- edentop.WholeTurned returns true. -/
import Derived.Test.YtoaooblodgejdaaDoorWPred
import Derived.Test.YtoaooblodgejdaaDoorEvn
import Derived.Test.YtoaooblodgejdaaDoorPatE
namespace Go.Proofs.YtoaooblodgejdaaDoor
open Go.RowKit
set_option linter.unusedVariables false
set_option maxRecDepth 100000

theorem turnW2 (w h T : Nat) : turnW (w + 2) (h + 2) T = turnW w h T + 2 := by unfold turnW; split <;> rfl
theorem turnW_le {w h T m : Nat} (hw : w ≤ m) (hh : h ≤ m) : turnW w h T ≤ m := by unfold turnW; split <;> omega
/-- a turned patch has a predecessor if the patch has one -/
theorem turn_predW {t l : List Int} {w h T : Nat} (ht : IsTab t) (he : evB t = true) (hp : IsPatch w h l) (w3 : w ≤ 3) (h3 : h ≤ 3) (hT : T < 8) (hv : ∃ v, Pred t (colL w h l) h (4 * 2 ^ h) w v) :
    ∃ v, Pred t (colL (turnW w h T) (turnW h w T) (turnL w h l T)) (turnW h w T) (4 * 2 ^ turnW h w T) (turnW w h T) v := by
  obtain ⟨v, hv⟩ := hv
  obtain ⟨hB, hs⟩ := pred_step ht hp (by omega) (by omega) hv
  generalize joinL (h + 2) (colsV v w) = B at hB hs
  have w1 := hp.w1
  have h1 := hp.h1
  have hq := turn_patch (t := T) hB
  have hst := step_turn hB ht.len ht.sym (by omega) (by omega) he hT
  rw [hs] at hst
  rw [turnW2, turnW2] at hq hst
  have hpr := step_pred hq ht
  rw [hst] at hpr
  exact ⟨_, hpr⟩
def backT (T : Nat) : Nat := if 4 ≤ T then T else (4 - T) % 4
theorem back_both {T : Nat} (hT : T < 8) : bothT T (backT T) = 0 ∧ backT T < 8 := by
  rcases lt8 hT with rfl | rfl | rfl | rfl | rfl | rfl | rfl | rfl <;> decide
theorem turn_predI {t l : List Int} {w h T : Nat} (ht : IsTab t) (he : evB t = true) (hp : IsPatch w h l) (w3 : w ≤ 3) (h3 : h ≤ 3) (hT : T < 8) :
    (∃ v, Pred t (colL w h l) h (4 * 2 ^ h) w v) ↔ ∃ v, Pred t (colL (turnW w h T) (turnW h w T) (turnL w h l T)) (turnW h w T) (4 * 2 ^ turnW h w T) (turnW w h T) v := by
  refine ⟨turn_predW ht he hp w3 h3 hT, fun hv => ?_⟩
  obtain ⟨hb, hb8⟩ := back_both hT
  have hh := turn_predW ht he (turn_patch (t := T) hp) (turnW_le w3 h3) (turnW_le h3 w3) hb8 hv
  obtain ⟨e1, e2, e3⟩ := turn_turn (l := l) hp.w1 hp.h1 hT hb8
  rw [e1, e2, e3, hb] at hh
  have e4 : turnL w h l 0 = l := made_atL (w := w) (h := h) hp.w1 hp.len
  rw [e4] at hh
  exact hh
/-- which of both is found, with 2^100 tries -/
theorem seek_kind {t l : List Int} {w h : Nat} (ht : IsTab t) (hp : IsPatch w h l) (w8 : w ≤ 8) (h4 : h ≤ 4) :
    ((∃ v, Pred t (colL w h l) h (4 * 2 ^ h) w v) ∧ (seekF t (colL w h l) h (4 * 2 ^ h) w (granted (2 ^ 100))).2 = some true) ∨ ((¬ ∃ v, Pred t (colL w h l) h (4 * 2 ^ h) w v) ∧ (seekF t (colL w h l) h (4 * 2 ^ h) w (granted (2 ^ 100))).2 = some false) := by
  have hs := seek_end ht hp w8 h4 (granted (2 ^ 100))
  have hb := (enough_le w8 h4).2
  have e1 : granted (2 ^ 100) = 1099511627776 := by decide
  generalize seekF t (colL w h l) h (4 * 2 ^ h) w (granted (2 ^ 100)) = X at hs ⊢
  obtain ⟨S, o⟩ := X
  cases o with
  | none => have := (hs.err rfl).2; omega
  | some o => cases o with
    | true => obtain ⟨v, _, _, hv, _⟩ := hs.patch rfl; exact .inl ⟨⟨v, hv⟩, rfl⟩
    | false => exact .inr ⟨fun ⟨v, hv⟩ => (hs.cert rfl).2 v hv, rfl⟩
set_option maxHeartbeats 32000000 in
theorem whole_turn (w h tn : Int) (a aT : Option Addr) (n c nT cT : Nat) (l t : List Int) (W : World) (R : Nat → Addr) (hE : Sent W R) (hR : RK .i64 W a n l) (hm : n ≤ maxLen) (hx : I64 l) (hT : RK .i64 W aT nT t) (hmT : nT ≤ maxLen) :
    Calls Tryd.prog 10 #[.slice aT nT cT, patV w h a n c, .int .i64 tn] W (TrueBelow W) := by
  have HI6 := Lib.hid hx
  have T0 := Tk.nil W
  have T1 := T0.add (fun wv => Below W.heap.size W wv) (bnil W)
  clear T0
  have T2 := T1.add (fun wv => Sent wv R) (hE)
  clear T1
  have T3 := T2.add (fun wv => RK .i64 wv a n l) (hR)
  clear T2
  have T4 := T3.add (fun wv => RK .i64 wv aT nT t) (hT)
  clear T3
  clear hE hR hx hT
  obtain ⟨Wb, hWb⟩ : ∃ Wb, W.alloc (.cells #[.int .i64 w, .int .i64 h, .slice a n c] 24) = Wb := ⟨_, rfl⟩
  have hbWb : Below W.heap.size W Wb := by rw [← hWb]; exact balloc (bnil W) _
  have T5 := T4.up hbWb
  clear T4
  have T6 := T5.add (fun wv => wv.cell? ⟨W.heap.size, 0, none⟩ = some (.int .i64 w) ∧ wv.cell? ⟨W.heap.size, 1, none⟩ = some (.int .i64 h) ∧ wv.cell? ⟨W.heap.size, 2, none⟩ = some (.slice a n c)) (by rw [← hWb]; exact ⟨cnw (by simp) rfl, cnw (by simp) rfl, cnw (by simp) rfl⟩)
  clear T5
  have HWb := Lib.hid hWb
  clear hWb hbWb
  go_enter Tryd.func10, Tryd.ntmps10
  go_wp2_with fail
  rw [HWb.out]
  refine (seeks_any Wb R T6.out.1.1.1.2).mono ?_; rintro e w0 ⟨rfl, hbw0⟩
  have T7 := T6.up hbw0
  clear T6
  go_wp2_with fail
  refine (even_any aT nT cT t w0 R T7.out.1.1.1.2 T7.out.1.2 hmT).mono ?_; rintro e w1 ⟨ev, rfl, he, hbw1⟩
  have T8 := T7.up hbw1
  clear T7
  cases htd : tabD t with
  | some y0 =>
    rw [htd] at he
    obtain ⟨es0, n0⟩ := y0
    obtain ⟨t9, p9, rfl⟩ := Chain.iface he
    clear he htd
    go_wp2
    go_ret
    exact ⟨rfl, T8.out.1.1.1.1.2⟩
  | none =>
    rw [htd] at he
    obtain rfl : ev = .nilIface := he
    rw [evenO_ok htd]
    have HT := Lib.hid (tabD_none htd)
    clear htd
    cases hev : evB t with
    | false =>
      clear hev
      go_wp2
      go_ret
      exact ⟨rfl, T8.out.1.1.1.1.2⟩
    | true =>
      have HEV := Lib.hid hev
      clear hev
      cases hpe : patchErr w h l with
      | some y0 =>
        have HNE := Lib.hid hpe
        clear hpe
        have v_p0 : w1.cell? ⟨W.heap.size, 0, none⟩ = some (.int .i64 w) := T8.out.2.1
        have v_p1 : w1.cell? ⟨W.heap.size, 1, none⟩ = some (.int .i64 h) := T8.out.2.2.1
        have v_p2 : w1.cell? ⟨W.heap.size, 2, none⟩ = some (.slice a n c) := T8.out.2.2.2
        go_wp2_with fail
        refine (pcheck_er w h a n c l w1 R T8.out.1.1.1.2 T8.out.1.1.2 hm HI6.out y0 HNE.out).mono ?_; rintro e w2 ⟨g0, rfl, he0, hbw2⟩
        clear v_p0 v_p1 v_p2
        have T9 := T8.up hbw2
        clear T8
        clear he0
        go_wp2
        go_ret
        exact ⟨rfl, T9.out.1.1.1.1.2⟩
      | none =>
        obtain ⟨w, h, rfl, rfl, hpp⟩ := patchErr_none hpe
        have HPP := Lib.hid hpp
        clear hpe hpp
        obtain rfl : nT = 512 := (T8.out.1.2).len.trans HT.out.len
        obtain ⟨bT, oT, hbo, _⟩ := (T8.out.1.2).addr (by omega)
        subst hbo
        have v_p0 : w1.cell? ⟨W.heap.size, 0, none⟩ = some (.int .i64 w) := T8.out.2.1
        have v_p1 : w1.cell? ⟨W.heap.size, 1, none⟩ = some (.int .i64 h) := T8.out.2.2.1
        have v_p2 : w1.cell? ⟨W.heap.size, 2, none⟩ = some (.slice a n c) := T8.out.2.2.2
        go_wp2_with fail
        refine (pcheck_ok w h a n c l w1 R T8.out.1.1.1.2 T8.out.1.1.2 hm HI6.out HPP.out).mono ?_; rintro e wpc ⟨rfl, hbwpc⟩
        clear v_p0 v_p1 v_p2
        have T9 := T8.up hbwpc
        clear T8
        by_cases q3 : (3 : Int) < (w : Nat)
        · skip
          have v_p0 : wpc.cell? ⟨W.heap.size, 0, none⟩ = some (.int .i64 w) := T9.out.2.1
          have v_p1 : wpc.cell? ⟨W.heap.size, 1, none⟩ = some (.int .i64 h) := T9.out.2.2.1
          have v_p2 : wpc.cell? ⟨W.heap.size, 2, none⟩ = some (.slice a n c) := T9.out.2.2.2
          go_wp2
          go_ret
          exact ⟨rfl, T9.out.1.1.1.1.2⟩
        by_cases q4 : (3 : Int) < (h : Nat)
        · skip
          have v_p0 : wpc.cell? ⟨W.heap.size, 0, none⟩ = some (.int .i64 w) := T9.out.2.1
          have v_p1 : wpc.cell? ⟨W.heap.size, 1, none⟩ = some (.int .i64 h) := T9.out.2.2.1
          have v_p2 : wpc.cell? ⟨W.heap.size, 2, none⟩ = some (.slice a n c) := T9.out.2.2.2
          go_wp2
          go_ret
          exact ⟨rfl, T9.out.1.1.1.1.2⟩
        have w3 : w ≤ 3 := by omega
        have h3 : h ≤ 3 := by omega
        have w1' := HPP.out.w1
        have h1' := HPP.out.h1
        obtain ⟨T, hTn⟩ : ∃ T : Nat, tn % 8 = (T : Int) := ⟨(tn % 8).toNat, by omega⟩
        have hT8 : T < 8 := by omega
        have hti := turn_predI HT.out HEV.out HPP.out w3 h3 hT8
        have hqp := turn_patch (t := T) HPP.out
        have c_t := fun W R hS hR => turn_okP w h tn a n c l W R hS hR hm HI6.out HPP.out T hTn
        obtain ⟨w2, hw2⟩ : ∃ w2, turnW w h T = w2 := ⟨_, rfl⟩
        obtain ⟨h2, hh2⟩ : ∃ h2, turnW h w T = h2 := ⟨_, rfl⟩
        obtain ⟨L2, hL2⟩ : ∃ L2, turnL w h l T = L2 := ⟨_, rfl⟩
        obtain ⟨K, hK⟩ : ∃ K, w2 * h2 = K := ⟨_, rfl⟩
        have hw23 : w2 ≤ 3 := by rw [← hw2]; exact turnW_le w3 h3
        have hh23 : h2 ≤ 3 := by rw [← hh2]; exact turnW_le h3 w3
        have hKm : K ≤ 9 := by rw [← hK]; exact Nat.mul_le_mul hw23 hh23
        simp only [hw2, hh2, hL2, hK] at c_t
        rw [hw2, hh2, hL2] at hti hqp
        have HTW := Lib.hid (And.intro hw2 (And.intro hh2 hL2))
        have hx2 : I64 L2 := by
          intro u hu
          have := hqp.sym u hu
          omega
        have HX2 := Lib.hid hx2
        have HQP := Lib.hid hqp
        have hk1 := seek_kind HT.out HPP.out (by omega) (by omega)
        have hk2 := seek_kind HT.out hqp (by omega) (by omega)
        have hse := seek_end HT.out HPP.out (by omega) (by omega) (granted (2 ^ 100))
        have c_1 := fun aL nL cL W R hS hR hT hL hLc hLm => evsearch_ok w h a n c bT oT cT l t aL nL cL (limbs (2 ^ 100)) W R hS hR hm HI6.out hT hL hLc hLm HT.out HPP.out (by omega) (by omega)
        have c_2 := fun g c7 aL nL cL W R hS hR hT hL hLc hLm => evsearch_ok w2 h2 (some ⟨g, 0, none⟩) K c7 bT oT cT L2 t aL nL cL (limbs (2 ^ 100)) W R hS hR (by unfold maxLen; omega) hx2 hT hL hLc hLm HT.out hqp (by omega) (by omega)
        rw [val_limbs] at c_1 c_2
        rw [← hti] at hk2
        obtain ⟨X, hX⟩ : ∃ X, seekF t (colL w h l) h (4 * 2 ^ h) w (granted (2 ^ 100)) = X := ⟨_, rfl⟩
        obtain ⟨Y, hY⟩ : ∃ Y, seekF t (colL w2 h2 L2) h2 (4 * 2 ^ h2) w2 (granted (2 ^ 100)) = Y := ⟨_, rfl⟩
        simp only [hX] at c_1
        simp only [hY] at c_2
        rw [hX] at hk1 hse
        rw [hY] at hk2
        obtain ⟨S, o⟩ := X
        obtain ⟨S2, o2⟩ := Y
        have hoo : (o = some true ∧ o2 = some true) ∨ (o = some false ∧ o2 = some false) := by
          rcases hk1 with ⟨p1, e1⟩ | ⟨p1, e1⟩
          · rcases hk2 with ⟨p2, e2⟩ | ⟨p2, e2⟩
            · exact .inl ⟨e1, e2⟩
            · exact absurd p1 p2
          · rcases hk2 with ⟨p2, e2⟩ | ⟨p2, e2⟩
            · exact absurd p2 p1
            · exact .inr ⟨e1, e2⟩
        have HC1 := Lib.hid c_1
        have HC2 := Lib.hid c_2
        have HCT := Lib.hid c_t
        have HSE := Lib.hid hse
        have HOO := Lib.hid hoo
        have HTN := Lib.hid (And.intro hTn hT8)
        obtain ⟨T1, hT1⟩ : ∃ T1, S.tries = T1 := ⟨_, rfl⟩
        obtain ⟨T2, hT2⟩ : ∃ T2, S2.tries = T2 := ⟨_, rfl⟩
        have HTR := Lib.hid (And.intro hT1 hT2)
        clear hti hqp c_t hw2 hh2 hL2 hK hx2 hk1 hk2 hse c_1 c_2 hX hY hoo hT1 hT2 hTn hT8
        have v_p0 : wpc.cell? ⟨W.heap.size, 0, none⟩ = some (.int .i64 w) := T9.out.2.1
        have v_p1 : wpc.cell? ⟨W.heap.size, 1, none⟩ = some (.int .i64 h) := T9.out.2.2.1
        have v_p2 : wpc.cell? ⟨W.heap.size, 2, none⟩ = some (.slice a n c) := T9.out.2.2.2
        go_wp2_with fail
        refine (HCT.out wpc R T9.out.1.1.1.2 T9.out.1.1.2).mono ?_; rintro e wa ⟨g, c7, rfl, ho7, hbwa⟩
        clear v_p0 v_p1 v_p2
        have T10 := T9.up hbwa
        clear T9
        have T11 := T10.add (fun wv => RK .i64 wv (some ⟨g, 0, none⟩) K L2) (ho7.rk)
        clear T10
        clear ho7
        obtain ⟨wb, hwb⟩ : ∃ wb, wa.alloc (.cells #[.int .i64 (w2 : Nat), .int .i64 (h2 : Nat), .slice (some ⟨g, 0, none⟩) K c7] 24) = wb := ⟨_, rfl⟩
        have hbwb : Below wa.heap.size wa wb := by rw [← hwb]; exact balloc (bnil wa) _
        have T12 := T11.up hbwb
        clear T11
        have T13 := T12.add (fun wv => wv.cell? ⟨wa.heap.size, 0, none⟩ = some (.int .i64 (w2 : Nat)) ∧ wv.cell? ⟨wa.heap.size, 1, none⟩ = some (.int .i64 (h2 : Nat)) ∧ wv.cell? ⟨wa.heap.size, 2, none⟩ = some (.slice (some ⟨g, 0, none⟩) K c7)) (by rw [← hwb]; exact ⟨cnw (by simp) rfl, cnw (by simp) rfl, cnw (by simp) rfl⟩)
        clear T12
        have Hwb := Lib.hid hwb
        clear hwb hbwb
        go_wp2_with fail
        rw [Hwb.out]
        refine ((pow_any 2 100 wb (by decide) (by omega) : Calls Tryd.prog 24 #[.int .u32 2, .int .i64 100] wb _)).mono ?_; rintro e wc ⟨aP, nP, cP, rfl, _, hnP, hbwc⟩
        have T14 := T13.up hbwc
        clear T13
        have T15 := T14.add (fun wv => NR wv aP nP (limbs (2 ^ 100))) (hnP.nr)
        clear T14
        have hPle : nP ≤ cP := hnP.le
        have hPmx : cP ≤ maxLen := hnP.cm
        clear hnP
        have v_p0 : wc.cell? ⟨W.heap.size, 0, none⟩ = some (.int .i64 w) := T15.out.1.1.1.2.1
        have v_p1 : wc.cell? ⟨W.heap.size, 1, none⟩ = some (.int .i64 h) := T15.out.1.1.1.2.2.1
        have v_p2 : wc.cell? ⟨W.heap.size, 2, none⟩ = some (.slice a n c) := T15.out.1.1.1.2.2.2
        go_wp2_with fail
        refine (HC1.out aP nP cP wc R T15.out.1.1.1.1.1.1.2 T15.out.1.1.1.1.1.2 T15.out.1.1.1.1.2 T15.out.2 hPle hPmx).mono ?_; rintro e wd ⟨vf, ev1, rfl, hbwd, hq⟩
        clear v_p0 v_p1 v_p2
        have T16 := T15.up hbwd
        clear T15
        rw [HTR.out.1]
        rcases HOO.out with ⟨e1, e2⟩ | ⟨e1, e2⟩
        · skip
          subst e1 e2
          obtain ⟨a8, n8, c8, rfl, rfl, ho8⟩ : ∃ a n c, vf = fndV 1 ((w + 2 : Nat) : Int) ((h + 2 : Nat) : Int) a n c none 0 0 ∧ ev1 = .nilIface ∧ OwI wd _ a n c (joinL (h + 2) S.way.reverse) := hq
          obtain ⟨v, hv1, hv2, hv3, hv4, hv5⟩ := HSE.out.patch rfl
          rw [hv1] at ho8
          have hll := hv4.len
          obtain ⟨L, hL⟩ : ∃ L, joinL (h + 2) (colsV v w) = L := ⟨_, rfl⟩
          rw [hL] at ho8 hv4 hv5 hll
          have hL60 : L.length ≤ 60 := by rw [hll]; exact Nat.mul_le_mul (show w + 2 ≤ 10 by omega) (show h + 2 ≤ 6 by omega)
          have hn8 : n8 * 8 ≤ 140737488351232 := by have := ho8.rk.len; omega
          have hn8m : n8 ≤ maxLen := by unfold maxLen; omega
          have hst := step_turn hv4 HT.out.len HT.out.sym (by omega) (by omega) HEV.out HTN.out.2
          rw [hv5, show w + 2 - 2 = w from rfl, show h + 2 - 2 = h from rfl, HTW.out.2.2] at hst
          have htp := turn_patch (t := T) hv4
          have hxL : I64 L := by
            intro u hu
            have := hv4.sym u hu
            omega
          have c_u := fun W R hS hR => turn_okP (w + 2) (h + 2) tn a8 n8 c8 L W R hS hR hn8m hxL hv4 T HTN.out.1
          rw [turnW2, turnW2, HTW.out.1, HTW.out.2.1] at hst htp c_u
          obtain ⟨L3, hL3⟩ : ∃ L3, turnL (w + 2) (h + 2) L T = L3 := ⟨_, rfl⟩
          obtain ⟨K3, hK3⟩ : ∃ K3, (w2 + 2) * (h2 + 2) = K3 := ⟨_, rfl⟩
          have hK3m : K3 ≤ 25 := by rw [← hK3]; exact Nat.mul_le_mul (show w2 + 2 ≤ 5 by omega) (show h2 + 2 ≤ 5 by omega)
          rw [hL3] at hst htp
          simp only [hL3, hK3] at c_u
          obtain ⟨A, hA⟩ : ∃ A, w + 2 = A := ⟨_, rfl⟩
          obtain ⟨B, hB⟩ : ∃ B, h + 2 = B := ⟨_, rfl⟩
          obtain ⟨A2, hA2⟩ : ∃ A2, w2 + 2 = A2 := ⟨_, rfl⟩
          obtain ⟨B2, hB2⟩ : ∃ B2, h2 + 2 = B2 := ⟨_, rfl⟩
          simp only [hA, hB, hA2, hB2] at c_u
          rw [hA2, hB2] at hst htp
          rw [hA, hB]
          have hA2s : A2 - 2 = w2 := by omega
          have hB2s : B2 - 2 = h2 := by omega
          have hA23 : 3 ≤ A2 := by have := HQP.out.w1; omega
          have hB23 : 3 ≤ B2 := by have := HQP.out.h1; omega
          have HST := Lib.hid (And.intro htp hst)
          have HCU := Lib.hid c_u
          have T17 := T16.add (fun wv => RK .i64 wv a8 n8 L) (ho8.rk)
          clear T16
          clear ho8 hv1 hv2 hv3 hv4 hv5 hL hll hL60 hst htp hxL c_u hL3 hK3 hA hB hA2 hB2
          obtain ⟨we, hwe⟩ : ∃ we, wd.alloc (.cells #[.int .i64 1, .int .i64 (A : Nat), .int .i64 (B : Nat), .slice a8 n8 c8, .slice none 0 0] 28) = we := ⟨_, rfl⟩
          have hbwe : Below wd.heap.size wd we := by rw [← hwe]; exact balloc (bnil wd) _
          have T18 := T17.up hbwe
          clear T17
          have T19 := T18.add (fun wv => wv.cell? ⟨wd.heap.size, 0, none⟩ = some (.int .i64 1) ∧ wv.cell? ⟨wd.heap.size, 1, none⟩ = some (.int .i64 (A : Nat)) ∧ wv.cell? ⟨wd.heap.size, 2, none⟩ = some (.int .i64 (B : Nat)) ∧ wv.cell? ⟨wd.heap.size, 3, none⟩ = some (.slice a8 n8 c8) ∧ wv.cell? ⟨wd.heap.size, 4, none⟩ = some (.slice none 0 0)) (by rw [← hwe]; exact ⟨cnw (by simp) rfl, cnw (by simp) rfl, cnw (by simp) rfl, cnw (by simp) rfl, cnw (by simp) rfl⟩)
          clear T18
          have Hwe := Lib.hid hwe
          clear hwe hbwe
          have v_q0 : (wd.alloc (.cells #[.int .i64 1, .int .i64 (A : Nat), .int .i64 (B : Nat), .slice a8 n8 c8, .slice none 0 0] 28)).cell? ⟨wa.heap.size, 0, none⟩ = some (.int .i64 (w2 : Nat)) := by rw [Hwe.out]; exact T19.out.1.1.1.2.1
          have v_q1 : (wd.alloc (.cells #[.int .i64 1, .int .i64 (A : Nat), .int .i64 (B : Nat), .slice a8 n8 c8, .slice none 0 0] 28)).cell? ⟨wa.heap.size, 1, none⟩ = some (.int .i64 (h2 : Nat)) := by rw [Hwe.out]; exact T19.out.1.1.1.2.2.1
          have v_q2 : (wd.alloc (.cells #[.int .i64 1, .int .i64 (A : Nat), .int .i64 (B : Nat), .slice a8 n8 c8, .slice none 0 0] 28)).cell? ⟨wa.heap.size, 2, none⟩ = some (.slice (some ⟨g, 0, none⟩) K c7) := by rw [Hwe.out]; exact T19.out.1.1.1.2.2.2
          go_wp2_with fail
          rw [Hwe.out]
          refine (HC2.out g c7 aP nP cP we R T19.out.1.1.1.1.1.1.1.1.2 T19.out.1.1.1.1.2 T19.out.1.1.1.1.1.1.2 T19.out.1.1.2 hPle hPmx).mono ?_; rintro e wf ⟨vf2, ev2, rfl, hbwf, hq2⟩
          clear v_q0 v_q1 v_q2
          have T20 := T19.up hbwf
          clear T19
          rw [HTR.out.2]
          obtain ⟨a9, n9, c9, rfl, rfl, _⟩ : ∃ a n c, vf2 = fndV 1 ((w2 + 2 : Nat) : Int) ((h2 + 2 : Nat) : Int) a n c none 0 0 ∧ ev2 = .nilIface ∧ _ := hq2
          obtain ⟨A3, hA3⟩ : ∃ A3, w2 + 2 = A3 := ⟨_, rfl⟩
          obtain ⟨B3, hB3⟩ : ∃ B3, h2 + 2 = B3 := ⟨_, rfl⟩
          rw [hA3, hB3]
          obtain ⟨wg, hwg⟩ : ∃ wg, wf.alloc (.cells #[.int .i64 1, .int .i64 (A3 : Nat), .int .i64 (B3 : Nat), .slice a9 n9 c9, .slice none 0 0] 28) = wg := ⟨_, rfl⟩
          have hbwg : Below wf.heap.size wf wg := by rw [← hwg]; exact balloc (bnil wf) _
          have T21 := T20.up hbwg
          clear T20
          have T22 := T21.add (fun wv => wv.cell? ⟨wf.heap.size, 0, none⟩ = some (.int .i64 1) ∧ wv.cell? ⟨wf.heap.size, 1, none⟩ = some (.int .i64 (A3 : Nat)) ∧ wv.cell? ⟨wf.heap.size, 2, none⟩ = some (.int .i64 (B3 : Nat)) ∧ wv.cell? ⟨wf.heap.size, 3, none⟩ = some (.slice a9 n9 c9) ∧ wv.cell? ⟨wf.heap.size, 4, none⟩ = some (.slice none 0 0)) (by rw [← hwg]; exact ⟨cnw (by simp) rfl, cnw (by simp) rfl, cnw (by simp) rfl, cnw (by simp) rfl, cnw (by simp) rfl⟩)
          clear T21
          have Hwg := Lib.hid hwg
          clear hwg hbwg
          have v_f0 : (wf.alloc (.cells #[.int .i64 1, .int .i64 (A3 : Nat), .int .i64 (B3 : Nat), .slice a9 n9 c9, .slice none 0 0] 28)).cell? ⟨wd.heap.size, 0, none⟩ = some (.int .i64 1) := by rw [Hwg.out]; exact T22.out.1.2.1
          have v_f1 : (wf.alloc (.cells #[.int .i64 1, .int .i64 (A3 : Nat), .int .i64 (B3 : Nat), .slice a9 n9 c9, .slice none 0 0] 28)).cell? ⟨wd.heap.size, 1, none⟩ = some (.int .i64 (A : Nat)) := by rw [Hwg.out]; exact T22.out.1.2.2.1
          have v_f2 : (wf.alloc (.cells #[.int .i64 1, .int .i64 (A3 : Nat), .int .i64 (B3 : Nat), .slice a9 n9 c9, .slice none 0 0] 28)).cell? ⟨wd.heap.size, 2, none⟩ = some (.int .i64 (B : Nat)) := by rw [Hwg.out]; exact T22.out.1.2.2.2.1
          have v_f3 : (wf.alloc (.cells #[.int .i64 1, .int .i64 (A3 : Nat), .int .i64 (B3 : Nat), .slice a9 n9 c9, .slice none 0 0] 28)).cell? ⟨wd.heap.size, 3, none⟩ = some (.slice a8 n8 c8) := by rw [Hwg.out]; exact T22.out.1.2.2.2.2.1
          have v_f4 : (wf.alloc (.cells #[.int .i64 1, .int .i64 (A3 : Nat), .int .i64 (B3 : Nat), .slice a9 n9 c9, .slice none 0 0] 28)).cell? ⟨wd.heap.size, 4, none⟩ = some (.slice none 0 0) := by rw [Hwg.out]; exact T22.out.1.2.2.2.2.2
          have v_s0 : (wf.alloc (.cells #[.int .i64 1, .int .i64 (A3 : Nat), .int .i64 (B3 : Nat), .slice a9 n9 c9, .slice none 0 0] 28)).cell? ⟨wf.heap.size, 0, none⟩ = some (.int .i64 1) := by rw [Hwg.out]; exact T22.out.2.1
          have v_s1 : (wf.alloc (.cells #[.int .i64 1, .int .i64 (A3 : Nat), .int .i64 (B3 : Nat), .slice a9 n9 c9, .slice none 0 0] 28)).cell? ⟨wf.heap.size, 1, none⟩ = some (.int .i64 (A3 : Nat)) := by rw [Hwg.out]; exact T22.out.2.2.1
          have v_s2 : (wf.alloc (.cells #[.int .i64 1, .int .i64 (A3 : Nat), .int .i64 (B3 : Nat), .slice a9 n9 c9, .slice none 0 0] 28)).cell? ⟨wf.heap.size, 2, none⟩ = some (.int .i64 (B3 : Nat)) := by rw [Hwg.out]; exact T22.out.2.2.2.1
          have v_s3 : (wf.alloc (.cells #[.int .i64 1, .int .i64 (A3 : Nat), .int .i64 (B3 : Nat), .slice a9 n9 c9, .slice none 0 0] 28)).cell? ⟨wf.heap.size, 3, none⟩ = some (.slice a9 n9 c9) := by rw [Hwg.out]; exact T22.out.2.2.2.2.1
          have v_s4 : (wf.alloc (.cells #[.int .i64 1, .int .i64 (A3 : Nat), .int .i64 (B3 : Nat), .slice a9 n9 c9, .slice none 0 0] 28)).cell? ⟨wf.heap.size, 4, none⟩ = some (.slice none 0 0) := by rw [Hwg.out]; exact T22.out.2.2.2.2.2
          go_wp2_with fail
          rw [Hwg.out]
          refine (HCU.out wg R T22.out.1.1.1.1.1.1.1.1.1.2 T22.out.1.1.2).mono ?_; rintro e wh ⟨gu, cu, rfl, hou, hbwh⟩
          clear v_f0 v_f1 v_f2 v_f3 v_f4 v_s0 v_s1 v_s2 v_s3 v_s4
          have T23 := T22.up hbwh
          clear T22
          have T24 := T23.add (fun wv => SlI wv (some ⟨gu, 0, none⟩) K3 cu L3) (hou.sl (by omega))
          clear T23
          clear hou
          obtain ⟨wi, hwi⟩ : ∃ wi, wh.alloc (.cells #[.int .i64 (A2 : Nat), .int .i64 (B2 : Nat), .slice (some ⟨gu, 0, none⟩) K3 cu] 24) = wi := ⟨_, rfl⟩
          have hbwi : Below wh.heap.size wh wi := by rw [← hwi]; exact balloc (bnil wh) _
          have T25 := T24.up hbwi
          clear T24
          have T26 := T25.add (fun wv => wv.cell? ⟨wh.heap.size, 0, none⟩ = some (.int .i64 (A2 : Nat)) ∧ wv.cell? ⟨wh.heap.size, 1, none⟩ = some (.int .i64 (B2 : Nat)) ∧ wv.cell? ⟨wh.heap.size, 2, none⟩ = some (.slice (some ⟨gu, 0, none⟩) K3 cu)) (by rw [← hwi]; exact ⟨cnw (by simp) rfl, cnw (by simp) rfl, cnw (by simp) rfl⟩)
          clear T25
          have Hwi := Lib.hid hwi
          clear hwi hbwi
          have v_u0 : (wh.alloc (.cells #[.int .i64 (A2 : Nat), .int .i64 (B2 : Nat), .slice (some ⟨gu, 0, none⟩) K3 cu] 24)).cell? ⟨wh.heap.size, 0, none⟩ = some (.int .i64 (A2 : Nat)) := by rw [Hwi.out]; exact T26.out.2.1
          have v_u1 : (wh.alloc (.cells #[.int .i64 (A2 : Nat), .int .i64 (B2 : Nat), .slice (some ⟨gu, 0, none⟩) K3 cu] 24)).cell? ⟨wh.heap.size, 1, none⟩ = some (.int .i64 (B2 : Nat)) := by rw [Hwi.out]; exact T26.out.2.2.1
          have v_u2 : (wh.alloc (.cells #[.int .i64 (A2 : Nat), .int .i64 (B2 : Nat), .slice (some ⟨gu, 0, none⟩) K3 cu] 24)).cell? ⟨wh.heap.size, 2, none⟩ = some (.slice (some ⟨gu, 0, none⟩) K3 cu) := by rw [Hwi.out]; exact T26.out.2.2.2
          go_wp2_with fail
          rw [Hwi.out]
          refine (plstep_ok A2 B2 (some ⟨gu, 0, none⟩) (some ⟨bT, oT, none⟩) K3 cu 512 cT L3 t wi R T26.out.1.1.1.1.1.1.1.1.1.1.1.2 T26.out.1.2 T26.out.1.1.1.1.1.1.1.1.1.2 hmT HT.out HST.out.1 hA23 hB23).mono ?_; rintro e wj ⟨aq, nq, cq, rfl, hoq, hbwj⟩
          clear v_u0 v_u1 v_u2
          have T27 := T26.up hbwj
          clear T26
          rw [HST.out.2] at hoq
          rw [hA2s, hB2s]
          have T28 := T27.add (fun wv => RK .i64 wv aq nq L2) (hoq.rk)
          clear T27
          clear hoq
          obtain ⟨wk, hwk⟩ : ∃ wk, wj.alloc (.cells #[.int .i64 (w2 : Nat), .int .i64 (h2 : Nat), .slice aq nq cq] 24) = wk := ⟨_, rfl⟩
          have hbwk : Below wj.heap.size wj wk := by rw [← hwk]; exact balloc (bnil wj) _
          have T29 := T28.up hbwk
          clear T28
          have T30 := T29.add (fun wv => wv.cell? ⟨wj.heap.size, 0, none⟩ = some (.int .i64 (w2 : Nat)) ∧ wv.cell? ⟨wj.heap.size, 1, none⟩ = some (.int .i64 (h2 : Nat)) ∧ wv.cell? ⟨wj.heap.size, 2, none⟩ = some (.slice aq nq cq)) (by rw [← hwk]; exact ⟨cnw (by simp) rfl, cnw (by simp) rfl, cnw (by simp) rfl⟩)
          clear T29
          have Hwk := Lib.hid hwk
          clear hwk hbwk
          have v_z0 : (wj.alloc (.cells #[.int .i64 (w2 : Nat), .int .i64 (h2 : Nat), .slice aq nq cq] 24)).cell? ⟨wj.heap.size, 0, none⟩ = some (.int .i64 (w2 : Nat)) := by rw [Hwk.out]; exact T30.out.2.1
          have v_z1 : (wj.alloc (.cells #[.int .i64 (w2 : Nat), .int .i64 (h2 : Nat), .slice aq nq cq] 24)).cell? ⟨wj.heap.size, 1, none⟩ = some (.int .i64 (h2 : Nat)) := by rw [Hwk.out]; exact T30.out.2.2.1
          have v_z2 : (wj.alloc (.cells #[.int .i64 (w2 : Nat), .int .i64 (h2 : Nat), .slice aq nq cq] 24)).cell? ⟨wj.heap.size, 2, none⟩ = some (.slice aq nq cq) := by rw [Hwk.out]; exact T30.out.2.2.2
          have v_q0 : (wj.alloc (.cells #[.int .i64 (w2 : Nat), .int .i64 (h2 : Nat), .slice aq nq cq] 24)).cell? ⟨wa.heap.size, 0, none⟩ = some (.int .i64 (w2 : Nat)) := by rw [Hwk.out]; exact T30.out.1.1.1.1.1.1.1.1.2.1
          have v_q1 : (wj.alloc (.cells #[.int .i64 (w2 : Nat), .int .i64 (h2 : Nat), .slice aq nq cq] 24)).cell? ⟨wa.heap.size, 1, none⟩ = some (.int .i64 (h2 : Nat)) := by rw [Hwk.out]; exact T30.out.1.1.1.1.1.1.1.1.2.2.1
          have v_q2 : (wj.alloc (.cells #[.int .i64 (w2 : Nat), .int .i64 (h2 : Nat), .slice aq nq cq] 24)).cell? ⟨wa.heap.size, 2, none⟩ = some (.slice (some ⟨g, 0, none⟩) K c7) := by rw [Hwk.out]; exact T30.out.1.1.1.1.1.1.1.1.2.2.2
          go_wp2_with fail
          rw [Hwk.out]
          refine (patches_eq w2 h2 aq (some ⟨g, 0, none⟩) nq K cq c7 L2 wk T30.out.1.2 T30.out.1.1.1.1.1.1.1.1.1.2 (by have := (T30.out.1.1.1.1.1.1.1.1.1.2).len; unfold maxLen; omega)).mono ?_; rintro e wl ⟨rfl, hbwl⟩
          clear v_z0 v_z1 v_z2 v_q0 v_q1 v_q2
          have T31 := T30.up hbwl
          clear T30
          go_wp2
          go_ret
          exact ⟨rfl, T31.out.1.1.1.1.1.1.1.1.1.1.1.1.1.1.2⟩
        · skip
          subst e1 e2
          obtain ⟨a8, c8, rfl, rfl, _⟩ : ∃ a c, vf = fndV 2 0 0 none 0 0 a (4 + 3 * S.order.length) c ∧ ev1 = .nilIface ∧ _ := hq
          obtain ⟨LN, hLN⟩ : ∃ LN, 4 + 3 * S.order.length = LN := ⟨_, rfl⟩
          rw [hLN]
          clear hLN
          obtain ⟨we, hwe⟩ : ∃ we, wd.alloc (.cells #[.int .i64 2, .int .i64 0, .int .i64 0, .slice none 0 0, .slice a8 LN c8] 28) = we := ⟨_, rfl⟩
          have hbwe : Below wd.heap.size wd we := by rw [← hwe]; exact balloc (bnil wd) _
          have T17 := T16.up hbwe
          clear T16
          have T18 := T17.add (fun wv => wv.cell? ⟨wd.heap.size, 0, none⟩ = some (.int .i64 2) ∧ wv.cell? ⟨wd.heap.size, 1, none⟩ = some (.int .i64 0) ∧ wv.cell? ⟨wd.heap.size, 2, none⟩ = some (.int .i64 0) ∧ wv.cell? ⟨wd.heap.size, 3, none⟩ = some (.slice none 0 0) ∧ wv.cell? ⟨wd.heap.size, 4, none⟩ = some (.slice a8 LN c8)) (by rw [← hwe]; exact ⟨cnw (by simp) rfl, cnw (by simp) rfl, cnw (by simp) rfl, cnw (by simp) rfl, cnw (by simp) rfl⟩)
          clear T17
          have Hwe := Lib.hid hwe
          clear hwe hbwe
          have v_q0 : (wd.alloc (.cells #[.int .i64 2, .int .i64 0, .int .i64 0, .slice none 0 0, .slice a8 LN c8] 28)).cell? ⟨wa.heap.size, 0, none⟩ = some (.int .i64 (w2 : Nat)) := by rw [Hwe.out]; exact T18.out.1.1.2.1
          have v_q1 : (wd.alloc (.cells #[.int .i64 2, .int .i64 0, .int .i64 0, .slice none 0 0, .slice a8 LN c8] 28)).cell? ⟨wa.heap.size, 1, none⟩ = some (.int .i64 (h2 : Nat)) := by rw [Hwe.out]; exact T18.out.1.1.2.2.1
          have v_q2 : (wd.alloc (.cells #[.int .i64 2, .int .i64 0, .int .i64 0, .slice none 0 0, .slice a8 LN c8] 28)).cell? ⟨wa.heap.size, 2, none⟩ = some (.slice (some ⟨g, 0, none⟩) K c7) := by rw [Hwe.out]; exact T18.out.1.1.2.2.2
          go_wp2_with fail
          rw [Hwe.out]
          refine (HC2.out g c7 aP nP cP we R T18.out.1.1.1.1.1.1.1.2 T18.out.1.1.1.2 T18.out.1.1.1.1.1.2 T18.out.1.2 hPle hPmx).mono ?_; rintro e wf ⟨vf2, ev2, rfl, hbwf, hq2⟩
          clear v_q0 v_q1 v_q2
          have T19 := T18.up hbwf
          clear T18
          rw [HTR.out.2]
          obtain ⟨a9, c9, rfl, rfl, _⟩ : ∃ a c, vf2 = fndV 2 0 0 none 0 0 a (4 + 3 * S2.order.length) c ∧ ev2 = .nilIface ∧ _ := hq2
          obtain ⟨LM, hLM⟩ : ∃ LM, 4 + 3 * S2.order.length = LM := ⟨_, rfl⟩
          rw [hLM]
          clear hLM
          obtain ⟨wg, hwg⟩ : ∃ wg, wf.alloc (.cells #[.int .i64 2, .int .i64 0, .int .i64 0, .slice none 0 0, .slice a9 LM c9] 28) = wg := ⟨_, rfl⟩
          have hbwg : Below wf.heap.size wf wg := by rw [← hwg]; exact balloc (bnil wf) _
          have T20 := T19.up hbwg
          clear T19
          have T21 := T20.add (fun wv => wv.cell? ⟨wf.heap.size, 0, none⟩ = some (.int .i64 2) ∧ wv.cell? ⟨wf.heap.size, 1, none⟩ = some (.int .i64 0) ∧ wv.cell? ⟨wf.heap.size, 2, none⟩ = some (.int .i64 0) ∧ wv.cell? ⟨wf.heap.size, 3, none⟩ = some (.slice none 0 0) ∧ wv.cell? ⟨wf.heap.size, 4, none⟩ = some (.slice a9 LM c9)) (by rw [← hwg]; exact ⟨cnw (by simp) rfl, cnw (by simp) rfl, cnw (by simp) rfl, cnw (by simp) rfl, cnw (by simp) rfl⟩)
          clear T20
          have Hwg := Lib.hid hwg
          clear hwg hbwg
          have v_f0 : (wf.alloc (.cells #[.int .i64 2, .int .i64 0, .int .i64 0, .slice none 0 0, .slice a9 LM c9] 28)).cell? ⟨wd.heap.size, 0, none⟩ = some (.int .i64 2) := by rw [Hwg.out]; exact T21.out.1.2.1
          have v_f1 : (wf.alloc (.cells #[.int .i64 2, .int .i64 0, .int .i64 0, .slice none 0 0, .slice a9 LM c9] 28)).cell? ⟨wd.heap.size, 1, none⟩ = some (.int .i64 0) := by rw [Hwg.out]; exact T21.out.1.2.2.1
          have v_f2 : (wf.alloc (.cells #[.int .i64 2, .int .i64 0, .int .i64 0, .slice none 0 0, .slice a9 LM c9] 28)).cell? ⟨wd.heap.size, 2, none⟩ = some (.int .i64 0) := by rw [Hwg.out]; exact T21.out.1.2.2.2.1
          have v_f3 : (wf.alloc (.cells #[.int .i64 2, .int .i64 0, .int .i64 0, .slice none 0 0, .slice a9 LM c9] 28)).cell? ⟨wd.heap.size, 3, none⟩ = some (.slice none 0 0) := by rw [Hwg.out]; exact T21.out.1.2.2.2.2.1
          have v_f4 : (wf.alloc (.cells #[.int .i64 2, .int .i64 0, .int .i64 0, .slice none 0 0, .slice a9 LM c9] 28)).cell? ⟨wd.heap.size, 4, none⟩ = some (.slice a8 LN c8) := by rw [Hwg.out]; exact T21.out.1.2.2.2.2.2
          have v_s0 : (wf.alloc (.cells #[.int .i64 2, .int .i64 0, .int .i64 0, .slice none 0 0, .slice a9 LM c9] 28)).cell? ⟨wf.heap.size, 0, none⟩ = some (.int .i64 2) := by rw [Hwg.out]; exact T21.out.2.1
          have v_s1 : (wf.alloc (.cells #[.int .i64 2, .int .i64 0, .int .i64 0, .slice none 0 0, .slice a9 LM c9] 28)).cell? ⟨wf.heap.size, 1, none⟩ = some (.int .i64 0) := by rw [Hwg.out]; exact T21.out.2.2.1
          have v_s2 : (wf.alloc (.cells #[.int .i64 2, .int .i64 0, .int .i64 0, .slice none 0 0, .slice a9 LM c9] 28)).cell? ⟨wf.heap.size, 2, none⟩ = some (.int .i64 0) := by rw [Hwg.out]; exact T21.out.2.2.2.1
          have v_s3 : (wf.alloc (.cells #[.int .i64 2, .int .i64 0, .int .i64 0, .slice none 0 0, .slice a9 LM c9] 28)).cell? ⟨wf.heap.size, 3, none⟩ = some (.slice none 0 0) := by rw [Hwg.out]; exact T21.out.2.2.2.2.1
          have v_s4 : (wf.alloc (.cells #[.int .i64 2, .int .i64 0, .int .i64 0, .slice none 0 0, .slice a9 LM c9] 28)).cell? ⟨wf.heap.size, 4, none⟩ = some (.slice a9 LM c9) := by rw [Hwg.out]; exact T21.out.2.2.2.2.2
          go_wp2
          rw [Hwg.out]
          go_ret
          exact ⟨rfl, T21.out.1.1.1.1.1.1.1.1.1.2⟩
theorem whole_turn_row (aT : Option Addr) (cT : Nat) (t : List Int) (w h : Int) (a : Option Addr) (n c : Nat) (l : List Int) (tn : Int) (W : World) (R : Nat → Addr) (hE : Sent W R)
    (hR0 : Rd W aT t.length 1 (t.map (Value.int .i64))) (hl0 : t.length ≤ cT) (hz0 : cT * 8 ≤ 140737488351232) (hn0 : aT = none → cT = 0) (hx0 : ∀ x ∈ t, -9223372036854775808 ≤ x ∧ x ≤ 9223372036854775807) (hM : SlI W a n c l) (hx : I64 l) :
    Calls Tryd.prog 10 #[.slice aT t.length cT, patV w h a n c, .int .i64 tn] W (TrueBelow W) :=
  whole_turn w h tn a aT n c t.length cT l t W R hE hM.rk hM.nm hx ⟨rfl, hR0⟩ (by unfold maxLen; omega)
end Go.Proofs.YtoaooblodgejdaaDoor
