/- edenlaw25.EveTurns returns true. -/
import Derived.Test.YtoaooblodgejdaaDoorAwk25
import Derived.Test.YtoaooblodgejdaaDoorEvE
import Derived.Test.YtoaooblodgejdaaDoorEvC
import Derived.Test.YtoaooblodgejdaaDoorEvP
import Derived.Test.YtoaooblodgejdaaDoorNatE
import Derived.Test.YtoaooblodgejdaaDoorPlaI
import Derived.Test.YtoaooblodgejdaaDoorEvn
import Derived.Test.YtoaooblodgejdaaDoorPatE
namespace Go.Proofs.YtoaooblodgejdaaDoor
open Go.RowKit
set_option linter.unusedVariables false
set_option maxRecDepth 100000

/-- patch.Turn of any patch: a patch and an error or none -/
theorem turn_wk (w h tn : Int) (a : Option Addr) (n c : Nat) (l : List Int) (W : World) (R : Nat → Addr) (hS : Sent W R) (hR : RK .i64 W a n l) (hm : n ≤ maxLen) (hx : I64 l) :
    Calls Tryd.prog 26 #[patV w h a n c, .int .i64 tn] W fun e w' => ∃ x y b k d ev, e = .returned (.tuple #[patV x y b k d, ev]) ∧ (ev = .nilIface ∨ ∃ t p, ev = .iface t p) ∧ Below W.heap.size W w' := by
  cases hpe : patchErr w h l with
  | some y =>
    refine (turn_errP w h tn a n c l W R hS hR hm hx y hpe).mono ?_
    rintro e w' ⟨g, rfl, _, hb⟩
    exact ⟨0, 0, none, 0, 0, _, rfl, .inr ⟨_, _, rfl⟩, hb⟩
  | none =>
    obtain ⟨w, h, rfl, rfl, hpp⟩ := patchErr_none hpe
    refine (turn_okP w h tn a n c l W R hS hR hm hx hpp (tn % 8).toNat (by omega)).mono ?_
    rintro e w' ⟨g, c', rfl, _, hb⟩
    exact ⟨_, _, _, _, _, _, rfl, .inl rfl, hb⟩
theorem even_wk (a : Option Addr) (n c : Nat) (t : List Int) (W : World) (R : Nat → Addr) (hS : Sent W R) (hT : RK .i64 W a n t) (hm : n ≤ maxLen) :
    Calls Tryd.prog 25 #[.slice a n c] W fun e w' => ∃ b ev, e = .returned (.tuple #[.bool b, ev]) ∧ (ev = .nilIface ∨ ∃ t p, ev = .iface t p) ∧ Below W.heap.size W w' := by
  refine (even_any a n c t W R hS hT hm).mono ?_
  rintro e w' ⟨ev, rfl, he, hb⟩
  refine ⟨_, ev, rfl, ?_, hb⟩
  cases htd : tabD t with
  | none => rw [htd] at he; exact .inl he
  | some y =>
    rw [htd] at he
    obtain ⟨es, n0⟩ := y
    obtain ⟨t9, p9, rfl⟩ := Chain.iface he
    exact .inr ⟨_, _, rfl⟩
/-- an image has a predecessor -/
theorem image_cnt {t l : List Int} {w h : Nat} (ht : IsTab t) (hp : IsPatch (w + 2) (h + 2) l) (w1 : 1 ≤ w) (w8 : w ≤ 8) (h1 : 1 ≤ h) (h4 : h ≤ 4) : cntN t (colL w h (stepL t (w + 2) (h + 2) l)) h (4 * 2 ^ h) w ≠ 0 :=
  (cntN_pos (m_le h4).2 (m_le h4).1 w8).2 ⟨_, step_pred hp ht⟩
theorem i64_patch {w h : Nat} {l : List Int} (hp : IsPatch w h l) : I64 l := by
  intro u hu
  have := hp.sym u hu
  omega
theorem plstep_okQ3 (a aT : Option Addr) (n c nT cT : Nat) (l t : List Int) (W : World) (R : Nat → Addr) (hS : Sent W R) (hR : SlI W a n c l) (hT : RK .i64 W aT nT t) (hmT : nT ≤ maxLen) (ht : IsTab t) (hp : IsPatch 3 3 l) :
    Calls Tryd.prog 27 #[.slice aT nT cT, patV 3 3 a n c] W fun e w' => ∃ a' c', e = .returned (.tuple #[patV 1 1 a' 1 c', .nilIface]) ∧ OwI w' W.heap.size a' 1 c' (stepL t 3 3 l) ∧ Below W.heap.size W w' := by
  refine (plstep_ok 3 3 a aT n c nT cT l t W R hS hR hT hmT ht hp (by omega) (by omega)).mono ?_
  rintro e w' ⟨a', n', c', rfl, ho, hb⟩
  have hn := ho.rk.len
  have hq := (stepL_patch hp ht.len ht.sym (by omega) (by omega)).len
  obtain rfl : n' = 1 := hn.trans hq
  exact ⟨a', c', rfl, ho, hb⟩
set_option maxHeartbeats 32000000 in
theorem eve_turns (w h tn : Int) (a aT : Option Addr) (n c nT cT : Nat) (l t : List Int) (W : World) (R : Nat → Addr) (hE : Sent W R) (hM : SlI W a n c l) (hx : I64 l) (hT : RK .i64 W aT nT t) (hmT : nT ≤ maxLen) :
    Calls Tryd.prog 5 #[.slice aT nT cT, patV w h a n c, .int .i64 tn] W (TrueBelow W) := by
  have HI6 := Lib.hid hx
  have hm : n ≤ maxLen := hM.nm
  have T0 := Tk.nil W
  have T1 := T0.add (fun wv => Below W.heap.size W wv) (bnil W)
  clear T0
  have T2 := T1.add (fun wv => Sent wv R) (hE)
  clear T1
  have T3 := T2.add (fun wv => SlI wv a n c l) (hM)
  clear T2
  have T4 := T3.add (fun wv => RK .i64 wv a n l) (hM.rk)
  clear T3
  have T5 := T4.add (fun wv => RK .i64 wv aT nT t) (hT)
  clear T4
  clear hE hM hx hT
  obtain ⟨Wb, hWb⟩ : ∃ Wb, W.alloc (.cells #[.int .i64 w, .int .i64 h, .slice a n c] 24) = Wb := ⟨_, rfl⟩
  have hbWb : Below W.heap.size W Wb := by rw [← hWb]; exact balloc (bnil W) _
  have T6 := T5.up hbWb
  clear T5
  have T7 := T6.add (fun wv => wv.cell? ⟨W.heap.size, 0, none⟩ = some (.int .i64 w) ∧ wv.cell? ⟨W.heap.size, 1, none⟩ = some (.int .i64 h) ∧ wv.cell? ⟨W.heap.size, 2, none⟩ = some (.slice a n c)) (by rw [← hWb]; exact ⟨cnw (by simp) rfl, cnw (by simp) rfl, cnw (by simp) rfl⟩)
  clear T6
  have HWb := Lib.hid hWb
  clear hWb hbWb
  go_enter Tryd.func5, Tryd.ntmps5
  go_wp2_with fail
  rw [HWb.out]
  refine (awake25_any Wb R T7.out.1.1.1.1.2).mono ?_; rintro e w0 ⟨rfl, hbw0⟩
  have T8 := T7.up hbw0
  clear T7
  by_cases q3 : (3 : Int) < w
  · skip
    have v_p0 : w0.cell? ⟨W.heap.size, 0, none⟩ = some (.int .i64 w) := T8.out.2.1
    have v_p1 : w0.cell? ⟨W.heap.size, 1, none⟩ = some (.int .i64 h) := T8.out.2.2.1
    have v_p2 : w0.cell? ⟨W.heap.size, 2, none⟩ = some (.slice a n c) := T8.out.2.2.2
    go_wp2
    go_ret
    exact ⟨rfl, T8.out.1.1.1.1.1.2⟩
  by_cases q4 : (3 : Int) < h
  · skip
    have v_p0 : w0.cell? ⟨W.heap.size, 0, none⟩ = some (.int .i64 w) := T8.out.2.1
    have v_p1 : w0.cell? ⟨W.heap.size, 1, none⟩ = some (.int .i64 h) := T8.out.2.2.1
    have v_p2 : w0.cell? ⟨W.heap.size, 2, none⟩ = some (.slice a n c) := T8.out.2.2.2
    go_wp2
    go_ret
    exact ⟨rfl, T8.out.1.1.1.1.1.2⟩
  cases hed : evD t w h l with
  | some d =>
    have HED := Lib.hid hed
    clear hed
    have v_p0 : w0.cell? ⟨W.heap.size, 0, none⟩ = some (.int .i64 w) := T8.out.2.1
    have v_p1 : w0.cell? ⟨W.heap.size, 1, none⟩ = some (.int .i64 h) := T8.out.2.2.1
    have v_p2 : w0.cell? ⟨W.heap.size, 2, none⟩ = some (.slice a n c) := T8.out.2.2.2
    go_wp2_with fail
    refine (even_wk aT nT cT t w0 R T8.out.1.1.1.1.2 T8.out.1.2 hmT).mono ?_; rintro e we ⟨ev, e1, rfl, he1, hbwe⟩
    clear v_p0 v_p1 v_p2
    have T9 := T8.up hbwe
    clear T8
    have v_p0 : we.cell? ⟨W.heap.size, 0, none⟩ = some (.int .i64 w) := T9.out.2.1
    have v_p1 : we.cell? ⟨W.heap.size, 1, none⟩ = some (.int .i64 h) := T9.out.2.2.1
    have v_p2 : we.cell? ⟨W.heap.size, 2, none⟩ = some (.slice a n c) := T9.out.2.2.2
    go_wp2_with fail
    refine (turn_wk w h tn a n c l we R T9.out.1.1.1.1.2 T9.out.1.1.2 hm HI6.out).mono ?_; rintro e wa ⟨x2, y2, b2, k2, d2, e2, rfl, he2, hbwa⟩
    clear v_p0 v_p1 v_p2
    have T10 := T9.up hbwa
    clear T9
    obtain ⟨wb, hwb⟩ : ∃ wb, wa.alloc (.cells #[.int .i64 x2, .int .i64 y2, .slice b2 k2 d2] 24) = wb := ⟨_, rfl⟩
    have hbwb : Below wa.heap.size wa wb := by rw [← hwb]; exact balloc (bnil wa) _
    have T11 := T10.up hbwb
    clear T10
    have T12 := T11.add (fun wv => wv.cell? ⟨wa.heap.size, 0, none⟩ = some (.int .i64 x2) ∧ wv.cell? ⟨wa.heap.size, 1, none⟩ = some (.int .i64 y2) ∧ wv.cell? ⟨wa.heap.size, 2, none⟩ = some (.slice b2 k2 d2)) (by rw [← hwb]; exact ⟨cnw (by simp) rfl, cnw (by simp) rfl, cnw (by simp) rfl⟩)
    clear T11
    have Hwb := Lib.hid hwb
    clear hwb hbwb
    have v_p0 : (wa.alloc (.cells #[.int .i64 x2, .int .i64 y2, .slice b2 k2 d2] 24)).cell? ⟨W.heap.size, 0, none⟩ = some (.int .i64 w) := by rw [Hwb.out]; exact T12.out.1.2.1
    have v_p1 : (wa.alloc (.cells #[.int .i64 x2, .int .i64 y2, .slice b2 k2 d2] 24)).cell? ⟨W.heap.size, 1, none⟩ = some (.int .i64 h) := by rw [Hwb.out]; exact T12.out.1.2.2.1
    have v_p2 : (wa.alloc (.cells #[.int .i64 x2, .int .i64 y2, .slice b2 k2 d2] 24)).cell? ⟨W.heap.size, 2, none⟩ = some (.slice a n c) := by rw [Hwb.out]; exact T12.out.1.2.2.2
    go_wp2_with fail
    rw [Hwb.out]
    refine (evcount_er w h a aT n c nT cT l t wb R T12.out.1.1.1.1.1.2 T12.out.1.1.1.2 hm HI6.out T12.out.1.1.2 hmT d HED.out).mono ?_; rintro e wc ⟨t8, p8, rfl, _, hbwc⟩
    clear v_p0 v_p1 v_p2
    have T13 := T12.up hbwc
    clear T12
    rcases he1 with rfl | ⟨t1, p1, rfl⟩
    · skip
      rcases he2 with rfl | ⟨t2, p2, rfl⟩
      · skip
        go_wp2
        go_ret
        exact ⟨rfl, T13.out.1.1.1.1.1.1.2⟩
      · skip
        go_wp2
        go_ret
        exact ⟨rfl, T13.out.1.1.1.1.1.1.2⟩
    · skip
      rcases he2 with rfl | ⟨t2, p2, rfl⟩
      · skip
        go_wp2
        go_ret
        exact ⟨rfl, T13.out.1.1.1.1.1.1.2⟩
      · skip
        go_wp2
        go_ret
        exact ⟨rfl, T13.out.1.1.1.1.1.1.2⟩
  | none =>
    obtain ⟨w, h, rfl, rfl, hpp, htb, _, _⟩ := evD_none hed
    have HPP := Lib.hid hpp
    have HT := Lib.hid htb
    clear hed
    have w3 : w ≤ 3 := by omega
    have h3 : h ≤ 3 := by omega
    have w1' := hpp.w1
    have h1' := hpp.h1
    obtain rfl : nT = 512 := (T8.out.1.2).len.trans HT.out.len
    obtain ⟨bT, oT, hbo, _⟩ := (T8.out.1.2).addr (by omega)
    subst hbo
    obtain ⟨T, hTn⟩ : ∃ T : Nat, tn % 8 = (T : Int) := ⟨(tn % 8).toNat, by omega⟩
    have hT8 : T < 8 := by omega
    have hqp := turn_patch (t := T) hpp
    have hcnt := fun he => turn_cnt htb he hpp (by omega) (by omega) hT8
    have c_t := fun W R hS hR => turn_okP w h tn a n c l W R hS hR hm HI6.out hpp T hTn
    obtain ⟨w2, hw2⟩ : ∃ w2, turnW w h T = w2 := ⟨_, rfl⟩
    obtain ⟨h2, hh2⟩ : ∃ h2, turnW h w T = h2 := ⟨_, rfl⟩
    obtain ⟨L2, hL2⟩ : ∃ L2, turnL w h l T = L2 := ⟨_, rfl⟩
    obtain ⟨K, hK⟩ : ∃ K, w2 * h2 = K := ⟨_, rfl⟩
    have hw23 : w2 ≤ 3 := by rw [← hw2]; exact turnX_le w3 h3
    have hh23 : h2 ≤ 3 := by rw [← hh2]; exact turnX_le h3 w3
    have hKm : K ≤ 9 := by rw [← hK]; exact Nat.mul_le_mul hw23 hh23
    simp only [hw2, hh2, hL2, hK] at c_t
    rw [hw2, hh2, hL2] at hqp
    simp only [hw2, hh2, hL2] at hcnt
    have hx2 : I64 L2 := by
      intro u hu
      have := hqp.sym u hu
      omega
    have c_1 := fun W R hS hR hT => evcount_ok w h a n c bT oT cT l t W R hS hR hm HI6.out hT htb hpp (by omega) (by omega)
    have c_2 := fun g c7 W R hS hR hT => evcount_ok w2 h2 (some ⟨g, 0, none⟩) K c7 bT oT cT L2 t W R hS hR (by unfold maxLen; omega) hx2 hT htb hqp (by omega) (by omega)
    obtain ⟨CN, hCN⟩ : ∃ CN, cntN t (colL w h l) h (4 * 2 ^ h) w = CN := ⟨_, rfl⟩
    obtain ⟨CM, hCM⟩ : ∃ CM, cntN t (colL w2 h2 L2) h2 (4 * 2 ^ h2) w2 = CM := ⟨_, rfl⟩
    simp only [hCN] at c_1
    simp only [hCM] at c_2
    simp only [hCN, hCM] at hcnt
    have HC1 := Lib.hid c_1
    have HC2 := Lib.hid c_2
    have HCT := Lib.hid c_t
    have HCNT := Lib.hid hcnt
    clear hqp hcnt c_t hw2 hh2 hL2 hK hx2 c_1 c_2 hCN hCM hTn hT8 hpp htb
    have v_p0 : w0.cell? ⟨W.heap.size, 0, none⟩ = some (.int .i64 w) := T8.out.2.1
    have v_p1 : w0.cell? ⟨W.heap.size, 1, none⟩ = some (.int .i64 h) := T8.out.2.2.1
    have v_p2 : w0.cell? ⟨W.heap.size, 2, none⟩ = some (.slice a n c) := T8.out.2.2.2
    go_wp2_with fail
    refine (even_any (some ⟨bT, oT, none⟩) 512 cT t w0 R T8.out.1.1.1.1.2 T8.out.1.2 hmT).mono ?_; rintro e we ⟨ev, rfl, he, hbwe⟩
    clear v_p0 v_p1 v_p2
    have T9 := T8.up hbwe
    clear T8
    rw [tabD_of HT.out] at he
    obtain rfl : ev = .nilIface := he
    rw [evenO_ok (tabD_of HT.out)]
    have v_p0 : we.cell? ⟨W.heap.size, 0, none⟩ = some (.int .i64 w) := T9.out.2.1
    have v_p1 : we.cell? ⟨W.heap.size, 1, none⟩ = some (.int .i64 h) := T9.out.2.2.1
    have v_p2 : we.cell? ⟨W.heap.size, 2, none⟩ = some (.slice a n c) := T9.out.2.2.2
    go_wp2_with fail
    refine (HCT.out we R T9.out.1.1.1.1.2 T9.out.1.1.2).mono ?_; rintro e wa ⟨g, c7, rfl, ho7, hbwa⟩
    clear v_p0 v_p1 v_p2
    have T10 := T9.up hbwa
    clear T9
    have T11 := T10.add (fun wv => RK .i64 wv (some ⟨g, 0, none⟩) K L2) (ho7.rk)
    clear T10
    clear ho7
    obtain ⟨wb, hwb⟩ : ∃ wb, wa.alloc (.cells #[.int .i64 (w2 : Nat), .int .i64 (h2 : Nat), .slice (some ⟨g, 0, none⟩) K c7] 24) = wb := ⟨_, rfl⟩
    have hbwb : Below wa.heap.size wa wb := by rw [← hwb]; exact balloc (bnil wa) _
    have T12 := T11.up hbwb
    clear T11
    have T13 := T12.add (fun wv => wv.cell? ⟨wa.heap.size, 0, none⟩ = some (.int .i64 (w2 : Nat)) ∧ wv.cell? ⟨wa.heap.size, 1, none⟩ = some (.int .i64 (h2 : Nat)) ∧ wv.cell? ⟨wa.heap.size, 2, none⟩ = some (.slice (some ⟨g, 0, none⟩) K c7)) (by rw [← hwb]; exact ⟨cnw (by simp) rfl, cnw (by simp) rfl, cnw (by simp) rfl⟩)
    clear T12
    have Hwb := Lib.hid hwb
    clear hwb hbwb
    have v_p0 : (wa.alloc (.cells #[.int .i64 (w2 : Nat), .int .i64 (h2 : Nat), .slice (some ⟨g, 0, none⟩) K c7] 24)).cell? ⟨W.heap.size, 0, none⟩ = some (.int .i64 w) := by rw [Hwb.out]; exact T13.out.1.1.2.1
    have v_p1 : (wa.alloc (.cells #[.int .i64 (w2 : Nat), .int .i64 (h2 : Nat), .slice (some ⟨g, 0, none⟩) K c7] 24)).cell? ⟨W.heap.size, 1, none⟩ = some (.int .i64 h) := by rw [Hwb.out]; exact T13.out.1.1.2.2.1
    have v_p2 : (wa.alloc (.cells #[.int .i64 (w2 : Nat), .int .i64 (h2 : Nat), .slice (some ⟨g, 0, none⟩) K c7] 24)).cell? ⟨W.heap.size, 2, none⟩ = some (.slice a n c) := by rw [Hwb.out]; exact T13.out.1.1.2.2.2
    go_wp2_with fail
    rw [Hwb.out]
    refine (HC1.out wb R T13.out.1.1.1.1.1.1.2 T13.out.1.1.1.1.2 T13.out.1.1.1.2).mono ?_; rintro e wc ⟨g1, n1, rfl, _, hn1, hbwc⟩
    clear v_p0 v_p1 v_p2
    have T14 := T13.up hbwc
    clear T13
    have T15 := T14.add (fun wv => NR wv (some ⟨g1, 0, none⟩) n1 (limbs CN)) (hn1.nr)
    clear T14
    have hn1le : n1 ≤ 2 := hn1.le
    clear hn1
    have v_q0 : wc.cell? ⟨wa.heap.size, 0, none⟩ = some (.int .i64 (w2 : Nat)) := T15.out.1.2.1
    have v_q1 : wc.cell? ⟨wa.heap.size, 1, none⟩ = some (.int .i64 (h2 : Nat)) := T15.out.1.2.2.1
    have v_q2 : wc.cell? ⟨wa.heap.size, 2, none⟩ = some (.slice (some ⟨g, 0, none⟩) K c7) := T15.out.1.2.2.2
    go_wp2_with fail
    refine (HC2.out g c7 wc R T15.out.1.1.1.1.1.1.1.2 T15.out.1.1.2 T15.out.1.1.1.1.2).mono ?_; rintro e wd ⟨g2, n2, rfl, _, hn2, hbwd⟩
    clear v_q0 v_q1 v_q2
    have T16 := T15.up hbwd
    clear T15
    have T17 := T16.add (fun wv => NR wv (some ⟨g2, 0, none⟩) n2 (limbs CM)) (hn2.nr)
    clear T16
    have hn2le : n2 ≤ 2 := hn2.le
    clear hn2
    cases hev : evB t with
    | false =>
      clear hev
      by_cases q5 : (w : Int) < 3
      · skip
        have v_p0 : wd.cell? ⟨W.heap.size, 0, none⟩ = some (.int .i64 w) := T17.out.1.1.1.1.2.1
        have v_p1 : wd.cell? ⟨W.heap.size, 1, none⟩ = some (.int .i64 h) := T17.out.1.1.1.1.2.2.1
        have v_p2 : wd.cell? ⟨W.heap.size, 2, none⟩ = some (.slice a n c) := T17.out.1.1.1.1.2.2.2
        go_wp2
        go_ret
        exact ⟨rfl, T17.out.1.1.1.1.1.1.1.1.1.2⟩
      by_cases q6 : (h : Int) < 3
      · skip
        have v_p0 : wd.cell? ⟨W.heap.size, 0, none⟩ = some (.int .i64 w) := T17.out.1.1.1.1.2.1
        have v_p1 : wd.cell? ⟨W.heap.size, 1, none⟩ = some (.int .i64 h) := T17.out.1.1.1.1.2.2.1
        have v_p2 : wd.cell? ⟨W.heap.size, 2, none⟩ = some (.slice a n c) := T17.out.1.1.1.1.2.2.2
        go_wp2
        go_ret
        exact ⟨rfl, T17.out.1.1.1.1.1.1.1.1.1.2⟩
      obtain rfl : w = 3 := by omega
      obtain rfl : h = 3 := by omega
      have hst := stepL_patch HPP.out HT.out.len HT.out.sym (by omega) (by omega)
      have hnz := image_cnt (w := 1) (h := 1) HT.out HPP.out (by omega) (by omega) (by omega) (by omega)
      have HSI := Lib.hid hst
      have HNZ := Lib.hid hnz
      clear hst hnz
      have v_p0 : wd.cell? ⟨W.heap.size, 0, none⟩ = some (.int .i64 3) := T17.out.1.1.1.1.2.1
      have v_p1 : wd.cell? ⟨W.heap.size, 1, none⟩ = some (.int .i64 3) := T17.out.1.1.1.1.2.2.1
      have v_p2 : wd.cell? ⟨W.heap.size, 2, none⟩ = some (.slice a n c) := T17.out.1.1.1.1.2.2.2
      go_wp2_with fail
      refine (plstep_okQ3 a (some ⟨bT, oT, none⟩) n c 512 cT l t wd R T17.out.1.1.1.1.1.1.1.1.2 T17.out.1.1.1.1.1.1.1.2 T17.out.1.1.1.1.1.2 hmT HT.out HPP.out).mono ?_; rintro e wf ⟨aq, cq, rfl, hoq, hbwf⟩
      clear v_p0 v_p1 v_p2
      have T18 := T17.up hbwf
      clear T17
      have T19 := T18.add (fun wv => RK .i64 wv aq 1 (stepL t 3 3 l)) (hoq.rk)
      clear T18
      clear hoq
      obtain ⟨wg, hwg⟩ : ∃ wg, wf.alloc (.cells #[.int .i64 1, .int .i64 1, .slice aq 1 cq] 24) = wg := ⟨_, rfl⟩
      have hbwg : Below wf.heap.size wf wg := by rw [← hwg]; exact balloc (bnil wf) _
      have T20 := T19.up hbwg
      clear T19
      have T21 := T20.add (fun wv => wv.cell? ⟨wf.heap.size, 0, none⟩ = some (.int .i64 1) ∧ wv.cell? ⟨wf.heap.size, 1, none⟩ = some (.int .i64 1) ∧ wv.cell? ⟨wf.heap.size, 2, none⟩ = some (.slice aq 1 cq)) (by rw [← hwg]; exact ⟨cnw (by simp) rfl, cnw (by simp) rfl, cnw (by simp) rfl⟩)
      clear T20
      have Hwg := Lib.hid hwg
      clear hwg hbwg
      have v_i0 : (wf.alloc (.cells #[.int .i64 1, .int .i64 1, .slice aq 1 cq] 24)).cell? ⟨wf.heap.size, 0, none⟩ = some (.int .i64 1) := by rw [Hwg.out]; exact T21.out.2.1
      have v_i1 : (wf.alloc (.cells #[.int .i64 1, .int .i64 1, .slice aq 1 cq] 24)).cell? ⟨wf.heap.size, 1, none⟩ = some (.int .i64 1) := by rw [Hwg.out]; exact T21.out.2.2.1
      have v_i2 : (wf.alloc (.cells #[.int .i64 1, .int .i64 1, .slice aq 1 cq] 24)).cell? ⟨wf.heap.size, 2, none⟩ = some (.slice aq 1 cq) := by rw [Hwg.out]; exact T21.out.2.2.2
      go_wp2_with fail
      rw [Hwg.out]
      refine (evcount_ok 1 1 aq 1 cq bT oT cT (stepL t 3 3 l) t wg R T21.out.1.1.1.1.1.1.1.1.1.1.2 T21.out.1.2 (by decide) (i64_patch HSI.out) T21.out.1.1.1.1.1.1.1.2 HT.out HSI.out (by omega) (by omega)).mono ?_; rintro e wh ⟨g3, n3, rfl, _, hn3, hbwh⟩
      clear v_i0 v_i1 v_i2
      have T22 := T21.up hbwh
      clear T21
      have T23 := T22.add (fun wv => NR wv (some ⟨g3, 0, none⟩) n3 (limbs (cntN t (colL 1 1 (stepL t 3 3 l)) 1 (4 * 2 ^ 1) 1))) (hn3.nr)
      clear T22
      have hn3le : n3 ≤ 2 := hn3.le
      clear hn3
      go_wp2_with fail
      refine (bits_any (some ⟨g3, 0, none⟩) n3 2 _ wh T23.out.2 (by omega) hn3le (by unfold maxLen; omega)).mono ?_; rintro e w9 ⟨m, rfl, hmz, hw9⟩
      rw [← hw9]
      rw [val_limbs] at hmz
      have hm1 : (0 : Int) < (m : Int) := by
        have : m ≠ 0 := fun e => HNZ.out (hmz.1 e)
        omega
      have hm2 : 0 < m := by omega
      clear hmz hw9
      go_wp2
      go_ret
      exact ⟨rfl, T23.out.1.1.1.1.1.1.1.1.1.1.1.1.2⟩
    | true =>
      obtain rfl : CM = CN := HCNT.out hev
      clear hev
      have v_p0 : wd.cell? ⟨W.heap.size, 0, none⟩ = some (.int .i64 w) := T17.out.1.1.1.1.2.1
      have v_p1 : wd.cell? ⟨W.heap.size, 1, none⟩ = some (.int .i64 h) := T17.out.1.1.1.1.2.2.1
      have v_p2 : wd.cell? ⟨W.heap.size, 2, none⟩ = some (.slice a n c) := T17.out.1.1.1.1.2.2.2
      go_wp2_with fail
      refine (nats_eqW (some ⟨g1, 0, none⟩) (some ⟨g2, 0, none⟩) n1 n2 2 2 (limbs CM) wd T17.out.1.2 T17.out.2 (by unfold maxLen; omega)).mono ?_; rintro e wz ⟨rfl, hbwz⟩
      clear v_p0 v_p1 v_p2
      have T18 := T17.up hbwz
      clear T17
      by_cases q5 : (w : Int) < 3
      · skip
        have v_p0 : wz.cell? ⟨W.heap.size, 0, none⟩ = some (.int .i64 w) := T18.out.1.1.1.1.2.1
        have v_p1 : wz.cell? ⟨W.heap.size, 1, none⟩ = some (.int .i64 h) := T18.out.1.1.1.1.2.2.1
        have v_p2 : wz.cell? ⟨W.heap.size, 2, none⟩ = some (.slice a n c) := T18.out.1.1.1.1.2.2.2
        go_wp2
        go_ret
        exact ⟨rfl, T18.out.1.1.1.1.1.1.1.1.1.2⟩
      by_cases q6 : (h : Int) < 3
      · skip
        have v_p0 : wz.cell? ⟨W.heap.size, 0, none⟩ = some (.int .i64 w) := T18.out.1.1.1.1.2.1
        have v_p1 : wz.cell? ⟨W.heap.size, 1, none⟩ = some (.int .i64 h) := T18.out.1.1.1.1.2.2.1
        have v_p2 : wz.cell? ⟨W.heap.size, 2, none⟩ = some (.slice a n c) := T18.out.1.1.1.1.2.2.2
        go_wp2
        go_ret
        exact ⟨rfl, T18.out.1.1.1.1.1.1.1.1.1.2⟩
      obtain rfl : w = 3 := by omega
      obtain rfl : h = 3 := by omega
      have hst := stepL_patch HPP.out HT.out.len HT.out.sym (by omega) (by omega)
      have hnz := image_cnt (w := 1) (h := 1) HT.out HPP.out (by omega) (by omega) (by omega) (by omega)
      have HSI := Lib.hid hst
      have HNZ := Lib.hid hnz
      clear hst hnz
      have v_p0 : wz.cell? ⟨W.heap.size, 0, none⟩ = some (.int .i64 3) := T18.out.1.1.1.1.2.1
      have v_p1 : wz.cell? ⟨W.heap.size, 1, none⟩ = some (.int .i64 3) := T18.out.1.1.1.1.2.2.1
      have v_p2 : wz.cell? ⟨W.heap.size, 2, none⟩ = some (.slice a n c) := T18.out.1.1.1.1.2.2.2
      go_wp2_with fail
      refine (plstep_okQ3 a (some ⟨bT, oT, none⟩) n c 512 cT l t wz R T18.out.1.1.1.1.1.1.1.1.2 T18.out.1.1.1.1.1.1.1.2 T18.out.1.1.1.1.1.2 hmT HT.out HPP.out).mono ?_; rintro e wf ⟨aq, cq, rfl, hoq, hbwf⟩
      clear v_p0 v_p1 v_p2
      have T19 := T18.up hbwf
      clear T18
      have T20 := T19.add (fun wv => RK .i64 wv aq 1 (stepL t 3 3 l)) (hoq.rk)
      clear T19
      clear hoq
      obtain ⟨wg, hwg⟩ : ∃ wg, wf.alloc (.cells #[.int .i64 1, .int .i64 1, .slice aq 1 cq] 24) = wg := ⟨_, rfl⟩
      have hbwg : Below wf.heap.size wf wg := by rw [← hwg]; exact balloc (bnil wf) _
      have T21 := T20.up hbwg
      clear T20
      have T22 := T21.add (fun wv => wv.cell? ⟨wf.heap.size, 0, none⟩ = some (.int .i64 1) ∧ wv.cell? ⟨wf.heap.size, 1, none⟩ = some (.int .i64 1) ∧ wv.cell? ⟨wf.heap.size, 2, none⟩ = some (.slice aq 1 cq)) (by rw [← hwg]; exact ⟨cnw (by simp) rfl, cnw (by simp) rfl, cnw (by simp) rfl⟩)
      clear T21
      have Hwg := Lib.hid hwg
      clear hwg hbwg
      have v_i0 : (wf.alloc (.cells #[.int .i64 1, .int .i64 1, .slice aq 1 cq] 24)).cell? ⟨wf.heap.size, 0, none⟩ = some (.int .i64 1) := by rw [Hwg.out]; exact T22.out.2.1
      have v_i1 : (wf.alloc (.cells #[.int .i64 1, .int .i64 1, .slice aq 1 cq] 24)).cell? ⟨wf.heap.size, 1, none⟩ = some (.int .i64 1) := by rw [Hwg.out]; exact T22.out.2.2.1
      have v_i2 : (wf.alloc (.cells #[.int .i64 1, .int .i64 1, .slice aq 1 cq] 24)).cell? ⟨wf.heap.size, 2, none⟩ = some (.slice aq 1 cq) := by rw [Hwg.out]; exact T22.out.2.2.2
      go_wp2_with fail
      rw [Hwg.out]
      refine (evcount_ok 1 1 aq 1 cq bT oT cT (stepL t 3 3 l) t wg R T22.out.1.1.1.1.1.1.1.1.1.1.2 T22.out.1.2 (by decide) (i64_patch HSI.out) T22.out.1.1.1.1.1.1.1.2 HT.out HSI.out (by omega) (by omega)).mono ?_; rintro e wh ⟨g3, n3, rfl, _, hn3, hbwh⟩
      clear v_i0 v_i1 v_i2
      have T23 := T22.up hbwh
      clear T22
      have T24 := T23.add (fun wv => NR wv (some ⟨g3, 0, none⟩) n3 (limbs (cntN t (colL 1 1 (stepL t 3 3 l)) 1 (4 * 2 ^ 1) 1))) (hn3.nr)
      clear T23
      have hn3le : n3 ≤ 2 := hn3.le
      clear hn3
      go_wp2_with fail
      refine (bits_any (some ⟨g3, 0, none⟩) n3 2 _ wh T24.out.2 (by omega) hn3le (by unfold maxLen; omega)).mono ?_; rintro e w9 ⟨m, rfl, hmz, hw9⟩
      rw [← hw9]
      rw [val_limbs] at hmz
      have hm1 : (0 : Int) < (m : Int) := by
        have : m ≠ 0 := fun e => HNZ.out (hmz.1 e)
        omega
      have hm2 : 0 < m := by omega
      clear hmz hw9
      go_wp2
      go_ret
      exact ⟨rfl, T24.out.1.1.1.1.1.1.1.1.1.1.1.1.2⟩
theorem eve_turns_row (aT : Option Addr) (cT : Nat) (t : List Int) (w h : Int) (a : Option Addr) (n c : Nat) (l : List Int) (tn : Int) (W : World) (R : Nat → Addr) (hE : Sent W R)
    (hR0 : Rd W aT t.length 1 (t.map (Value.int .i64))) (hl0 : t.length ≤ cT) (hz0 : cT * 8 ≤ 140737488351232) (hn0 : aT = none → cT = 0) (hx0 : ∀ x ∈ t, -9223372036854775808 ≤ x ∧ x ≤ 9223372036854775807) (hM : SlI W a n c l) (hx : I64 l) :
    Calls Tryd.prog 5 #[.slice aT t.length cT, patV w h a n c, .int .i64 tn] W (TrueBelow W) :=
  eve_turns w h tn a aT n c t.length cT l t W R hE hM hx ⟨rfl, hR0⟩ (by unfold maxLen; omega)
end Go.Proofs.YtoaooblodgejdaaDoor
