/- edenref02.Cmp over any limbs. -/
import Derived.Test.YtnmegpplfbkpcaaDoorR02C
import Derived.Test.YtnmegpplfbkpcaaDoorHlvC
namespace Go.Proofs.YtnmegpplfbkpcaaDoor
open Go.RowKit
set_option linter.unusedVariables false
set_option maxRecDepth 100000

set_option maxHeartbeats 8000000 in
theorem cmp16 (a1 a2 : Option Addr) (n1 n2 c1 c2 : Nat) (l1 l2 : List Nat) (W : World) (h1 : NR W a1 n1 l1) (h2 : NR W a2 n2 l2) (hm1 : n1 ≤ 200000) (hm2 : n2 ≤ 200000) :
    Calls Tryd.prog 91 #[.slice a1 n1 c1, .slice a2 n2 c2] W fun e w' => e = .returned (.int .i64 (cmpN (val l1) (val l2))) ∧ Below W.heap.size W w' := by
  have H1 := Lib.hid (half16 a1 n1 c1 l1 W h1 (by omega))
  have H2 : Hid (∀ w', Below W.heap.size W w' → Calls Tryd.prog 107 #[.slice a2 n2 c2] w' _) := fun w' hb => half16 a2 n2 c2 l2 w' (h2.up hb) (by omega)
  clear h1 h2
  obtain ⟨x, hx⟩ : ∃ x, val l1 = x := ⟨_, rfl⟩
  obtain ⟨y, hy⟩ : ∃ y, val l2 = y := ⟨_, rfl⟩
  rw [hx] at H1 ⊢
  rw [hy] at H2 ⊢
  clear hx hy
  go_enter Tryd.func91, Tryd.ntmps91
  go_wp2_with fail
  refine H1.out.mono ?_; rintro e w1 ⟨ax, nx, cx, rfl, hox, hnx, hb1⟩
  have HB1 := Lib.hid hb1
  have HOX := Lib.hid hox
  clear hb1 hox H1
  go_wp2_with fail
  refine (H2.out _ HB1.out).mono ?_; rintro e w2 ⟨ay, ny, cy, rfl, hoy, hny, hb2⟩
  have hrx := rk16 HOX.out hb2
  have hry := RK.of_own hoy
  have HB2 := Lib.hid (HB1.out.trans (hb2.mono HB1.out.size))
  have HLX : Hid (nx = (hlv x).length) := by show nx = _; rw [hrx.len, ofN_len]
  have HLY : Hid (ny = (hlv y).length) := by show ny = _; rw [hry.len, ofN_len]
  have HX := Lib.hid hrx
  have HY := Lib.hid hry
  clear hrx hry hb2 hoy HOX HB1 H2
  by_cases hlen : nx = ny
  · have hne : ((nx : Int) != (ny : Int)) = false := by simp; omega
    have he1 : nx ≤ ny := by omega
    have he2 : ny ≤ nx := by omega
    clear hlen
    go_wp2_with fail
    go_loopw [7] (fun ix wr => ∃ j q : Nat, j ≤ nx ∧ ix = .int .i64 ((j : Int) - 1) ∧ (hlv x).drop j = (hlv y).drop j ∧ wr = w2.drewN q) (fun ix _ => (intOf ix + 1).toNat)
    case atStart => exact ⟨nx, 0, Nat.le_refl _, rfl, by rw [List.drop_of_length_le (by have := HLX.out; omega), List.drop_of_length_le (by have := HLY.out; omega)], rfl⟩
    case round =>
      obtain ⟨j, q, hj, rfl, hd, rfl⟩ := hrel
      have HD := Lib.hid hd; clear hd
      cases j with
      | zero =>
        have HF : Hid (cmpN x y = 0) := by
          have := HD.out
          simp only [List.drop_zero] at this
          have e : x = y := by rw [← v16_hlv x, this, v16_hlv]
          show _ = _
          unfold cmpN
          rw [e, if_neg (by omega), if_neg (by omega)]
        have e0 : ((0 : Nat) : Int) - 1 = -1 := by omega
        rw [e0]
        go_wp2
        go_ret
        exact ⟨by rw [HF.out]; rfl, bdrewN HB2.out q⟩
      | succ j =>
        have ej : ((j + 1 : Nat) : Int) - 1 = (j : Int) := by omega
        rw [ej]
        obtain ⟨b1, o1, rfl, hb1, hx1⟩ := HX.out.addr (by omega)
        obtain ⟨b2, o2, rfl, hb2, hx2⟩ := HY.out.addr (by omega)
        have c0 := hx1 j (by omega)
        have d0 := hx2 j (by omega)
        rw [ofN_at] at c0 d0
        clear hx1 hx2 ej
        have i0 : (0 : Int) ≤ (j : Int) := by omega
        have i1 : (j : Int) < (nx : Int) := by omega
        have i2 : (j : Int) < (ny : Int) := by omega
        have hl1 := HLX.out
        have hl2 := HLY.out
        have HLT : Hid ((hlv x).getD j 0 < (hlv y).getD j 0 → cmpN x y = -1) := fun hlt => by
          have := v16_cmp_top (hlv_h16 x) (hlv_h16 y) (by omega) (k := j) (by omega) HD.out hlt
          rw [v16_hlv, v16_hlv] at this
          unfold cmpN; rw [if_pos this]
        have HGT : Hid ((hlv y).getD j 0 < (hlv x).getD j 0 → cmpN x y = 1) := fun hlt => by
          have := v16_cmp_top (hlv_h16 y) (hlv_h16 x) (by omega) (k := j) (by omega) HD.out.symm hlt
          rw [v16_hlv, v16_hlv] at this
          unfold cmpN; rw [if_neg (by omega), if_pos this]
        have HEQ : Hid ((hlv x).getD j 0 = (hlv y).getD j 0 → (hlv x).drop j = (hlv y).drop j) := fun he => by
          have g1 : j < (hlv x).length := by omega
          have g2 : j < (hlv y).length := by omega
          rw [List.drop_eq_getElem_cons g1, List.drop_eq_getElem_cons g2, HD.out]
          simp [g1, g2] at he
          rw [he]
        clear hl1 hl2
        generalize (hlv x).getD j 0 = z1 at *
        generalize (hlv y).getD j 0 = z2 at *
        rcases Nat.lt_trichotomy z1 z2 with hz | hz | hz
        · have HF := Lib.hid (HLT.out hz)
          have d1 : (decide ((z1 : Int) < (z2 : Int))) = true := by simpa using hz
          have d1' : (decide (z1 < z2)) = true := by simpa using hz
          clear HLT HGT HEQ
          go_wp2_with fail
          go_quiet (fail)
          go_wp2
          go_ret
          exact ⟨by rw [HF.out]; rfl, by rw [World.drewN_drewN]; exact bdrewN HB2.out _⟩
        · have HF := Lib.hid (HEQ.out hz)
          have d1 : (decide ((z1 : Int) < (z2 : Int))) = false := by simp; omega
          have d2 : (decide ((z2 : Int) < (z1 : Int))) = false := by simp; omega
          have d1' : (decide (z1 < z2)) = false := by simp; omega
          have d2' : (decide (z2 < z1)) = false := by simp; omega
          clear HLT HGT HEQ hz
          go_wp2_with fail
          go_quiet (fail)
          generalize nq = q1 at *
          go_wp2_with fail
          go_quiet (fail)
          go_wp2
          go_roundw
          case rel => exact ⟨j, q + q1 + nq, by omega, by go_num, HF.out, by simp⟩
          case measure => first | (simp [intOf]; done) | (simp [intOf]; omega)
        · have HF := Lib.hid (HGT.out hz)
          have d1 : (decide ((z1 : Int) < (z2 : Int))) = false := by simp; omega
          have d1' : (decide (z1 < z2)) = false := by simp; omega
          clear HLT HGT HEQ
          go_wp2_with fail
          go_quiet (fail)
          generalize nq = q1 at *
          go_wp2_with fail
          go_quiet (fail)
          go_wp2
          go_ret
          exact ⟨by rw [HF.out]; rfl, bdrewN (bdrewN (bdrewN HB2.out q) q1) nq⟩
  · have hne : ((nx : Int) != (ny : Int)) = true := by simp; omega
    by_cases hlt : nx < ny
    · have HF : Hid (cmpN x y = -1) := by
        have := hlv_len_lt (x := x) (y := y) (by rw [← HLX.out, ← HLY.out]; exact hlt)
        show _ = _
        unfold cmpN; rw [if_pos this]
      clear hlen
      go_wp2
      go_ret
      exact ⟨by rw [HF.out]; rfl, HB2.out⟩
    · have HF : Hid (cmpN x y = 1) := by
        have := hlv_len_lt (x := y) (y := x) (by rw [← HLX.out, ← HLY.out]; omega)
        show _ = _
        unfold cmpN; rw [if_neg (by omega), if_pos this]
      have hge : ny < nx := by omega
      clear hlen
      go_wp2
      go_ret
      exact ⟨by rw [HF.out]; rfl, HB2.out⟩
end Go.Proofs.YtnmegpplfbkpcaaDoor
