/- edenlaw24.JudgeShown returns true. -/
import Derived.Test.YtocfkmdoalhjmaaDoorJdgH
import Derived.Test.YtocfkmdoalhjmaaDoorJdgX
import Derived.Test.YtocfkmdoalhjmaaDoorSl
import Derived.Test.YtocfkmdoalhjmaaDoorPlaI
namespace Go.Proofs.YtocfkmdoalhjmaaDoor
open Go.RowKit
set_option linter.unusedVariables false
set_option maxRecDepth 100000

/-- no certificate holds for an image -/
theorem shown_ne {t : List Int} {w h : Int} {l bs : List Int} (hd : stepD t w h l = none) : (judgeF t (w - 2) (h - 2) (stepL t w.toNat h.toNat l) bs).2 ≠ none := by
  intro hj
  obtain ⟨w', h', rfl, rfl, hp, ht, hw3, hh3⟩ := stepD_none hd
  obtain ⟨w2, h2, e1, e2, _, _, _, _, hno⟩ := judge_sound hj
  obtain rfl : w' = w2 + 2 := by omega
  obtain rfl : h' = h2 + 2 := by omega
  rw [Int.toNat_natCast, Int.toNat_natCast] at hno
  exact hno _ (step_pred hp ht)
theorem stepL_i64 {t : List Int} {w h : Int} {l : List Int} (hd : stepD t w h l = none) : I64 (stepL t w.toNat h.toNat l) := by
  obtain ⟨w', h', rfl, rfl, hp, ht, hw3, hh3⟩ := stepD_none hd
  rw [Int.toNat_natCast, Int.toNat_natCast]
  have hq := stepL_patch hp ht.len ht.sym hw3 hh3
  intro x hx
  rcases hq.sym x hx with h | h <;> omega
set_option maxHeartbeats 16000000 in
theorem judge_shown (w h : Int) (a aT aB : Option Addr) (n c nT cT cB : Nat) (l t bs : List Int) (W : World) (R : Nat → Addr) (hE : Env W R) (hR : SlI W a n c l) (hx : I64 l) (hT : RK .i64 W aT nT t) (hmT : nT ≤ maxLen) (hBs : RK .u8 W aB bs.length bs) (hBr : ∀ x ∈ bs, 0 ≤ x ∧ x ≤ 255) (hBl : bs.length ≤ maxLen) :
    Calls Tryd.prog 12 #[.slice aT nT cT, patV w h a n c, .slice aB bs.length cB] W (TrueBelow W) := by
  have T0 := Tk.nil W
  have T1 := T0.add (fun wv => Below W.heap.size W wv) (bnil W)
  clear T0
  have T2 := T1.add (fun wv => Env wv R) (hE)
  clear T1
  have T3 := T2.add (fun wv => SlI wv a n c l) (hR)
  clear T2
  have T4 := T3.add (fun wv => RK .i64 wv aT nT t) (hT)
  clear T3
  have T5 := T4.add (fun wv => RK .u8 wv aB bs.length bs) (hBs)
  clear T4
  have HI6 := Lib.hid hx
  have HBR := Lib.hid hBr
  clear hE hR hT hBs hx hBr
  obtain ⟨Wb, hWb⟩ : ∃ Wb, W.alloc (.cells #[.int .i64 w, .int .i64 h, .slice a n c] 24) = Wb := ⟨_, rfl⟩
  have hbWb : Below W.heap.size W Wb := by rw [← hWb]; exact balloc (bnil W) _
  have T6 := T5.up hbWb
  clear T5
  have T7 := T6.add (fun wv => wv.cell? ⟨W.heap.size, 0, none⟩ = some (.int .i64 w) ∧ wv.cell? ⟨W.heap.size, 1, none⟩ = some (.int .i64 h) ∧ wv.cell? ⟨W.heap.size, 2, none⟩ = some (.slice a n c)) (by rw [← hWb]; exact ⟨cnw (by simp) rfl, cnw (by simp) rfl, cnw (by simp) rfl⟩)
  clear T6
  have HWb := Lib.hid hWb
  clear hWb hbWb
  obtain ⟨D, hD⟩ : ∃ D, stepD t w h l = D := ⟨_, rfl⟩
  obtain ⟨o1, o2, o3, ho⟩ : ∃ o1 o2 o3, stepO t w h l = (o1, o2, o3) := ⟨_, _, _, rfl⟩
  have c_st := fun W a c nT aT cT S (hS : Sent W S) (hR : SlI W a n c l) (hT : RK .i64 W aT nT t) (hm : nT ≤ maxLen) => plstep_any w h a aT n c nT cT l t W S hS hR HI6.out hT hm
  simp only [ho, hD] at c_st
  have HC := Lib.hid c_st
  have HD := Lib.hid hD
  have HO := Lib.hid ho
  clear c_st hD ho
  go_enter Tryd.func12, Tryd.ntmps12
  go_wp2_with fail
  rw [HWb.out]
  refine (awake24_any Wb R T7.out.1.1.1.1.2).mono ?_; rintro e w1 ⟨rfl, hbw1⟩
  have T8 := T7.up hbw1
  clear T7
  have v_p0 : w1.cell? ⟨W.heap.size, 0, none⟩ = some (.int .i64 w) := T8.out.2.1
  have v_p1 : w1.cell? ⟨W.heap.size, 1, none⟩ = some (.int .i64 h) := T8.out.2.2.1
  have v_p2 : w1.cell? ⟨W.heap.size, 2, none⟩ = some (.slice a n c) := T8.out.2.2.2
  go_wp2_with fail
  refine (HC.out w1 a c nT aT cT R (T8.out.1.1.1.1.2).sent T8.out.1.1.1.2 T8.out.1.1.2 hmT).mono ?_; rintro e w2 ⟨a5, n5, c5, ev, rfl, ho5, he5, hbw2⟩
  clear v_p0 v_p1 v_p2
  have T9 := T8.up hbw2
  clear T8
  have T10 := T9.add (fun wv => OwI wv w1.heap.size a5 n5 c5 o3) (ho5)
  clear T9
  clear ho5 HC
  cases D with
  | some x =>
    obtain ⟨w3, hw3⟩ : ∃ w3, w2.alloc (.cells #[.int .i64 o1, .int .i64 o2, .slice a5 n5 c5] 24) = w3 := ⟨_, rfl⟩
    have hbw3 : Below w2.heap.size w2 w3 := by rw [← hw3]; exact balloc (bnil w2) _
    have T11 := T10.up hbw3
    clear T10
    have T12 := T11.add (fun wv => wv.cell? ⟨w2.heap.size, 0, none⟩ = some (.int .i64 o1) ∧ wv.cell? ⟨w2.heap.size, 1, none⟩ = some (.int .i64 o2) ∧ wv.cell? ⟨w2.heap.size, 2, none⟩ = some (.slice a5 n5 c5)) (by rw [← hw3]; exact ⟨cnw (by simp) rfl, cnw (by simp) rfl, cnw (by simp) rfl⟩)
    clear T11
    have Hw3 := Lib.hid hw3
    clear hw3 hbw3
    obtain ⟨t9, p9, rfl⟩ := Chain.iface he5
    clear he5
    go_wp2_with fail
    go_ret
    refine ⟨rfl, ?_⟩
    rw [Hw3.out]
    exact T12.out.1.1.1.1.1.1.1.2
  | none =>
    obtain rfl : ev = .nilIface := he5
    have hoo := HO.out
    unfold stepO at hoo
    rw [if_pos HD.out] at hoo
    cases hoo
    have hne := @shown_ne t w h l bs HD.out
    have HI5 := Lib.hid (stepL_i64 HD.out)
    clear HO
    obtain ⟨w3, hw3⟩ : ∃ w3, w2.alloc (.cells #[.int .i64 (w - 2), .int .i64 (h - 2), .slice a5 n5 c5] 24) = w3 := ⟨_, rfl⟩
    have hbw3 : Below w2.heap.size w2 w3 := by rw [← hw3]; exact balloc (bnil w2) _
    have T11 := T10.up hbw3
    clear T10
    have T12 := T11.add (fun wv => wv.cell? ⟨w2.heap.size, 0, none⟩ = some (.int .i64 (w - 2)) ∧ wv.cell? ⟨w2.heap.size, 1, none⟩ = some (.int .i64 (h - 2)) ∧ wv.cell? ⟨w2.heap.size, 2, none⟩ = some (.slice a5 n5 c5)) (by rw [← hw3]; exact ⟨cnw (by simp) rfl, cnw (by simp) rfl, cnw (by simp) rfl⟩)
    clear T11
    have Hw3 := Lib.hid hw3
    clear hw3 hbw3
    obtain ⟨LL, hLL⟩ : ∃ LL, stepL t w.toNat h.toNat l = LL := ⟨_, rfl⟩
    have T99 := True.intro
    rw [hLL] at hne HI5
    obtain ⟨jn, je, hj⟩ : ∃ jn je, judgeF t (w - 2) (h - 2) LL bs = (jn, je) := ⟨_, _, rfl⟩
    rw [hj] at hne
    obtain ⟨x6, rfl⟩ : ∃ x6, je = some x6 := by
      cases je with
      | none => exact absurd rfl hne
      | some x => exact ⟨x, rfl⟩
    have hC := fun W a n c aT cT aB cB S (hS : Sent W S) (hR : RK .i64 W a n LL) hm (hT : RK .i64 W aT nT t) (hBs : RK .u8 W aB bs.length bs) hBl => judge_any (w - 2) (h - 2) a aT aB n c nT cT cB LL t bs W S hS hR hm HI5.out hT hmT hBs HBR.out hBl
    simp only [hj] at hC
    have HCJ := Lib.hid hC
    have hrk5 := (T12.out.1.2).rk
    have hn5 : n5 ≤ maxLen := Nat.le_trans (T12.out.1.2).nnc.1 (T12.out.1.2).nnc.2.1
    rw [hLL] at hrk5
    have T13 := T12.add (fun wv => RK .i64 wv a5 n5 LL) (hrk5)
    clear T12
    clear hC hj hne hLL hrk5 T99
    have v_p0 : (w2.alloc (.cells #[.int .i64 (w - 2), .int .i64 (h - 2), .slice a5 n5 c5] 24)).cell? ⟨W.heap.size, 0, none⟩ = some (.int .i64 w) := by rw [Hw3.out]; exact T13.out.1.1.1.2.1
    have v_p1 : (w2.alloc (.cells #[.int .i64 (w - 2), .int .i64 (h - 2), .slice a5 n5 c5] 24)).cell? ⟨W.heap.size, 1, none⟩ = some (.int .i64 h) := by rw [Hw3.out]; exact T13.out.1.1.1.2.2.1
    have v_p2 : (w2.alloc (.cells #[.int .i64 (w - 2), .int .i64 (h - 2), .slice a5 n5 c5] 24)).cell? ⟨W.heap.size, 2, none⟩ = some (.slice a n c) := by rw [Hw3.out]; exact T13.out.1.1.1.2.2.2
    have v_q0 : (w2.alloc (.cells #[.int .i64 (w - 2), .int .i64 (h - 2), .slice a5 n5 c5] 24)).cell? ⟨w2.heap.size, 0, none⟩ = some (.int .i64 (w - 2)) := by rw [Hw3.out]; exact T13.out.1.2.1
    have v_q1 : (w2.alloc (.cells #[.int .i64 (w - 2), .int .i64 (h - 2), .slice a5 n5 c5] 24)).cell? ⟨w2.heap.size, 1, none⟩ = some (.int .i64 (h - 2)) := by rw [Hw3.out]; exact T13.out.1.2.2.1
    have v_q2 : (w2.alloc (.cells #[.int .i64 (w - 2), .int .i64 (h - 2), .slice a5 n5 c5] 24)).cell? ⟨w2.heap.size, 2, none⟩ = some (.slice a5 n5 c5) := by rw [Hw3.out]; exact T13.out.1.2.2.2
    go_wp2_with fail
    rw [Hw3.out]
    refine (heavy24_any (w - 2) (h - 2) a5 aB n5 c5 bs.length cB hn5 w3).mono ?_; rintro e w4 ⟨rfl, hbw4⟩
    clear v_p0 v_p1 v_p2 v_q0 v_q1 v_q2
    have T14 := T13.up hbw4
    clear T13
    by_cases hv : 40000 < bs.length ∨ 5000 < n5
    · skip
      have hd := decide_eq_true hv
      rw [hd]
      clear hd hv
      go_wp2
      go_ret
      exact ⟨rfl, T14.out.1.1.1.1.1.1.1.1.2⟩
    · skip
      have hd := decide_eq_false hv
      rw [hd]
      clear hd hv
      have v_p0 : w4.cell? ⟨W.heap.size, 0, none⟩ = some (.int .i64 w) := T14.out.1.1.1.2.1
      have v_p1 : w4.cell? ⟨W.heap.size, 1, none⟩ = some (.int .i64 h) := T14.out.1.1.1.2.2.1
      have v_p2 : w4.cell? ⟨W.heap.size, 2, none⟩ = some (.slice a n c) := T14.out.1.1.1.2.2.2
      have v_q0 : w4.cell? ⟨w2.heap.size, 0, none⟩ = some (.int .i64 (w - 2)) := T14.out.1.2.1
      have v_q1 : w4.cell? ⟨w2.heap.size, 1, none⟩ = some (.int .i64 (h - 2)) := T14.out.1.2.2.1
      have v_q2 : w4.cell? ⟨w2.heap.size, 2, none⟩ = some (.slice a5 n5 c5) := T14.out.1.2.2.2
      go_wp2_with fail
      refine (HCJ.out w4 a5 n5 c5 aT cT aB cB R (T14.out.1.1.1.1.1.1.1.2).sent T14.out.2 hn5 T14.out.1.1.1.1.1.2 T14.out.1.1.1.1.2 hBl).mono ?_; rintro e w5 ⟨ev, rfl, he, hbw5⟩
      clear v_p0 v_p1 v_p2 v_q0 v_q1 v_q2
      have T15 := T14.up hbw5
      clear T14
      obtain ⟨t9, p9, rfl⟩ := Chain.iface he
      clear he
      go_wp2
      go_ret
      exact ⟨rfl, T15.out.1.1.1.1.1.1.1.1.2⟩
theorem judge_shown_row (aT : Option Addr) (cT : Nat) (t : List Int) (w h : Int) (a : Option Addr) (n c : Nat) (l : List Int) (aB : Option Addr) (cB : Nat) (bs : List Int) (W : World) (R : Nat → Addr) (hE : Env W R)
    (hR0 : Rd W aT t.length 1 (t.map (Value.int .i64))) (hl0 : t.length ≤ cT) (hz0 : cT * 8 ≤ 140737488351232) (hn0 : aT = none → cT = 0) (hx0 : ∀ x ∈ t, -9223372036854775808 ≤ x ∧ x ≤ 9223372036854775807) (hM : SlI W a n c l) (hx : I64 l)
    (hR2 : Rd W aB bs.length 1 (bs.map (Value.int .u8))) (hl2 : bs.length ≤ cB) (hz2 : cB * 1 ≤ 140737488351232) (hn2 : aB = none → cB = 0) (hx2 : ∀ x ∈ bs, 0 ≤ x ∧ x ≤ 255) :
    Calls Tryd.prog 12 #[.slice aT t.length cT, patV w h a n c, .slice aB bs.length cB] W (TrueBelow W) :=
  judge_shown w h a aT aB n c t.length cT cB l t bs W R hE hM hx ⟨rfl, hR0⟩ (by unfold maxLen; omega) ⟨rfl, hR2⟩ hx2 (by unfold maxLen; omega)
end Go.Proofs.YtocfkmdoalhjmaaDoor
