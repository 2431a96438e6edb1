/- edenlaw24.JudgeSound returns true. -/
import Derived.Test.YtocfkmdoalhjmaaDoorJdgH
import Derived.Test.YtocfkmdoalhjmaaDoorRjW
namespace Go.Proofs.YtocfkmdoalhjmaaDoor
open Go.RowKit
set_option linter.unusedVariables false
set_option maxRecDepth 100000

set_option maxHeartbeats 16000000 in
theorem judge_snd (w h : Int) (a aT aB : Option Addr) (n c nT cT cB : Nat) (l t bs : List Int) (W : World) (R : Nat → Addr) (hE : Env W R) (hR : RK .i64 W a n l) (hm : n ≤ maxLen) (hx : I64 l) (hT : RK .i64 W aT nT t) (hmT : nT ≤ maxLen) (hBs : RK .u8 W aB bs.length bs) (hBr : ∀ x ∈ bs, 0 ≤ x ∧ x ≤ 255) (hBl : bs.length ≤ maxLen) :
    Calls Tryd.prog 10 #[.slice aT nT cT, patV w h a n c, .slice aB bs.length cB] W (TrueBelow W) := by
  obtain ⟨jn, je, hj⟩ : ∃ jn je, judgeF t w h l bs = (jn, je) := ⟨_, _, rfl⟩
  have c_j := fun W aT S (hS : Sent W S) (hR : RK .i64 W a n l) (hT : RK .i64 W aT nT t) (hBs : RK .u8 W aB bs.length bs) => judge_any w h a aT aB n c nT cT cB l t bs W S hS hR hm hx hT hmT hBs hBr hBl
  simp only [hj] at c_j
  have HC := Lib.hid c_j
  clear c_j
  have T0 := Tk.nil W
  have T1 := T0.add (fun wv => Below W.heap.size W wv) (bnil W)
  clear T0
  have T2 := T1.add (fun wv => Env wv R) (hE)
  clear T1
  have T3 := T2.add (fun wv => RK .i64 wv a n l) (hR)
  clear T2
  have T4 := T3.add (fun wv => RK .i64 wv aT nT t) (hT)
  clear T3
  have T5 := T4.add (fun wv => RK .u8 wv aB bs.length bs) (hBs)
  clear T4
  clear hE hR hx hT hBs hBr
  cases je with
  | some x =>
    clear hj
    obtain ⟨Wb, hWb⟩ : ∃ Wb, W.alloc (.cells #[.int .i64 w, .int .i64 h, .slice a n c] 24) = Wb := ⟨_, rfl⟩
    have hbWb : Below W.heap.size W Wb := by rw [← hWb]; exact balloc (bnil W) _
    have T6 := T5.up hbWb
    clear T5
    have T7 := T6.add (fun wv => wv.cell? ⟨W.heap.size, 0, none⟩ = some (.int .i64 w) ∧ wv.cell? ⟨W.heap.size, 1, none⟩ = some (.int .i64 h) ∧ wv.cell? ⟨W.heap.size, 2, none⟩ = some (.slice a n c)) (by rw [← hWb]; exact ⟨cnw (by simp) rfl, cnw (by simp) rfl, cnw (by simp) rfl⟩)
    clear T6
    have HWb := Lib.hid hWb
    clear hWb hbWb
    go_enter Tryd.func10, Tryd.ntmps10
    go_wp2_with fail
    rw [HWb.out]
    refine (awake24_any Wb R T7.out.1.1.1.1.2).mono ?_; rintro e w0 ⟨rfl, hbw0⟩
    have T8 := T7.up hbw0
    clear T7
    have v_p0 : w0.cell? ⟨W.heap.size, 0, none⟩ = some (.int .i64 w) := T8.out.2.1
    have v_p1 : w0.cell? ⟨W.heap.size, 1, none⟩ = some (.int .i64 h) := T8.out.2.2.1
    have v_p2 : w0.cell? ⟨W.heap.size, 2, none⟩ = some (.slice a n c) := T8.out.2.2.2
    go_wp2_with fail
    refine (heavy24_any w h a aB n c bs.length cB hm w0).mono ?_; rintro e w1 ⟨rfl, hbw1⟩
    clear v_p0 v_p1 v_p2
    have T9 := T8.up hbw1
    clear T8
    by_cases hv : 40000 < bs.length ∨ 5000 < n
    · skip
      have hd := decide_eq_true hv
      rw [hd]
      clear hd hv
      go_wp2
      go_ret
      exact ⟨rfl, T9.out.1.1.1.1.1.2⟩
    have hd := decide_eq_false hv
    rw [hd]
    clear hd hv
    have v_p0 : w1.cell? ⟨W.heap.size, 0, none⟩ = some (.int .i64 w) := T9.out.2.1
    have v_p1 : w1.cell? ⟨W.heap.size, 1, none⟩ = some (.int .i64 h) := T9.out.2.2.1
    have v_p2 : w1.cell? ⟨W.heap.size, 2, none⟩ = some (.slice a n c) := T9.out.2.2.2
    go_wp2_with fail
    refine (HC.out w1 aT R (T9.out.1.1.1.1.2).sent T9.out.1.1.1.2 T9.out.1.1.2 T9.out.1.2).mono ?_; rintro e w2 ⟨ev, rfl, he, hbw2⟩
    clear v_p0 v_p1 v_p2
    have T10 := T9.up hbw2
    clear T9
    obtain ⟨t9, p9, rfl⟩ := Chain.iface he
    clear he
    go_wp2
    go_ret
    exact ⟨rfl, T10.out.1.1.1.1.1.2⟩
  | none =>
    obtain ⟨w, h, rfl, rfl, hp, ht, hw8, hh4, hno⟩ := judge_sound (t := t) (w := w) (h := h) (l := l) (bs := bs) (by rw [hj])
    have HPP := Lib.hid hp
    have hz := ways_none (m := 4 * 2 ^ h) (by have := Nat.one_le_two_pow (n := h); omega) hno
    have HZ := Lib.hid hz
    obtain rfl : nT = 512 := (T5.out.1.2).len.trans ht.len
    clear hz hno hp ht hj
    obtain ⟨Wb, hWb⟩ : ∃ Wb, W.alloc (.cells #[.int .i64 w, .int .i64 h, .slice a n c] 24) = Wb := ⟨_, rfl⟩
    have hbWb : Below W.heap.size W Wb := by rw [← hWb]; exact balloc (bnil W) _
    have T6 := T5.up hbWb
    clear T5
    have T7 := T6.add (fun wv => wv.cell? ⟨W.heap.size, 0, none⟩ = some (.int .i64 w) ∧ wv.cell? ⟨W.heap.size, 1, none⟩ = some (.int .i64 h) ∧ wv.cell? ⟨W.heap.size, 2, none⟩ = some (.slice a n c)) (by rw [← hWb]; exact ⟨cnw (by simp) rfl, cnw (by simp) rfl, cnw (by simp) rfl⟩)
    clear T6
    have HWb := Lib.hid hWb
    clear hWb hbWb
    go_enter Tryd.func10, Tryd.ntmps10
    go_wp2_with fail
    rw [HWb.out]
    refine (awake24_any Wb R T7.out.1.1.1.1.2).mono ?_; rintro e w0 ⟨rfl, hbw0⟩
    have T8 := T7.up hbw0
    clear T7
    have v_p0 : w0.cell? ⟨W.heap.size, 0, none⟩ = some (.int .i64 w) := T8.out.2.1
    have v_p1 : w0.cell? ⟨W.heap.size, 1, none⟩ = some (.int .i64 h) := T8.out.2.2.1
    have v_p2 : w0.cell? ⟨W.heap.size, 2, none⟩ = some (.slice a n c) := T8.out.2.2.2
    go_wp2_with fail
    refine (heavy24_any w h a aB n c bs.length cB hm w0).mono ?_; rintro e w1 ⟨rfl, hbw1⟩
    clear v_p0 v_p1 v_p2
    have T9 := T8.up hbw1
    clear T8
    by_cases hv : 40000 < bs.length ∨ 5000 < n
    · skip
      have hd := decide_eq_true hv
      rw [hd]
      clear hd hv
      go_wp2
      go_ret
      exact ⟨rfl, T9.out.1.1.1.1.1.2⟩
    have hd := decide_eq_false hv
    rw [hd]
    clear hd hv
    have v_p0 : w1.cell? ⟨W.heap.size, 0, none⟩ = some (.int .i64 w) := T9.out.2.1
    have v_p1 : w1.cell? ⟨W.heap.size, 1, none⟩ = some (.int .i64 h) := T9.out.2.2.1
    have v_p2 : w1.cell? ⟨W.heap.size, 2, none⟩ = some (.slice a n c) := T9.out.2.2.2
    go_wp2_with fail
    refine (HC.out w1 aT R (T9.out.1.1.1.1.2).sent T9.out.1.1.1.2 T9.out.1.1.2 T9.out.1.2).mono ?_; rintro e w2 ⟨ev, rfl, he, hbw2⟩
    clear v_p0 v_p1 v_p2
    have T10 := T9.up hbw2
    clear T9
    obtain rfl : ev = .nilIface := he
    have v_p0 : w2.cell? ⟨W.heap.size, 0, none⟩ = some (.int .i64 w) := T10.out.2.1
    have v_p1 : w2.cell? ⟨W.heap.size, 1, none⟩ = some (.int .i64 h) := T10.out.2.2.1
    have v_p2 : w2.cell? ⟨W.heap.size, 2, none⟩ = some (.slice a n c) := T10.out.2.2.2
    go_wp2_with fail
    refine (ways24_any w h a aT n c cT l t w2 T10.out.1.1.1.2 hm T10.out.1.1.2 HPP.out hw8 hh4).mono ?_; rintro e w3 ⟨rfl, hbw3⟩
    clear v_p0 v_p1 v_p2
    have T11 := T10.up hbw3
    clear T10
    rw [HZ.out]
    go_wp2
    go_ret
    exact ⟨rfl, T11.out.1.1.1.1.1.2⟩
theorem judge_snd_row (aT : Option Addr) (cT : Nat) (t : List Int) (w h : Int) (a : Option Addr) (n c : Nat) (l : List Int) (aB : Option Addr) (cB : Nat) (bs : List Int) (W : World) (R : Nat → Addr) (hE : Env W R)
    (hR0 : Rd W aT t.length 1 (t.map (Value.int .i64))) (hl0 : t.length ≤ cT) (hz0 : cT * 8 ≤ 140737488351232) (hn0 : aT = none → cT = 0) (hx0 : ∀ x ∈ t, -9223372036854775808 ≤ x ∧ x ≤ 9223372036854775807) (hM : SlI W a n c l) (hx : I64 l)
    (hR2 : Rd W aB bs.length 1 (bs.map (Value.int .u8))) (hl2 : bs.length ≤ cB) (hz2 : cB * 1 ≤ 140737488351232) (hn2 : aB = none → cB = 0) (hx2 : ∀ x ∈ bs, 0 ≤ x ∧ x ≤ 255) :
    Calls Tryd.prog 10 #[.slice aT t.length cT, patV w h a n c, .slice aB bs.length cB] W (TrueBelow W) :=
  judge_snd w h a aT aB n c t.length cT cB l t bs W R hE hM.rk hM.nm hx ⟨rfl, hR0⟩ (by unfold maxLen; omega) ⟨rfl, hR2⟩ hx2 (by unfold maxLen; omega)
end Go.Proofs.YtocfkmdoalhjmaaDoor
