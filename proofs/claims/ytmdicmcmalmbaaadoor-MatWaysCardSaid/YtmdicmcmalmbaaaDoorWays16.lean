/- The walk of edenlaw16.MatWays. -/
import Derived.Test.YtmdicmcmalmbaaaDoorMatE
import Derived.Test.YtmdicmcmalmbaaaDoorRawIs
namespace Go.Proofs.YtmdicmcmalmbaaaDoor
open Go.RowKit
set_option linter.unusedVariables false
set_option maxRecDepth 100000

theorem row_pow {n k I : Nat} {A : Mat} : thr (vN fun j => limbs (mpow n A k I j)) A n = fun j => mpow n A (k + 1) I j := by
  funext j
  show sumTo n (fun q => val (limbs (mpow n A k I q)) * A q j) = sumTo n (fun q => mpow n A k I q * A q j)
  exact sumTo_congr fun q _ => by rw [val_limbs]

theorem ways_out (am : Option Addr) (n c : Nat) (g : Nat → Nat) (F : Nat → Nat → List Nat) (i k : Int) (W : World) (R : Nat → Addr) (hG : Glob W R) (hM : MsR W am n g F) (hn : n ≤ maxLen) (hb : ¬ (Light n g F ∧ Square n g ∧ 0 < n)) :
    Calls Tryd.prog 3 #[.slice am n c, .int .i64 i, .int .i64 k] W (TrueBelow W) := by
  have hnn : n ≤ 9223372036854775807 := hn
  have HB := Lib.hid hb; clear hb
  have HG := Lib.hid hG; clear hG
  have HM := Lib.hid hM; clear hM
  go_enter Tryd.func3, Tryd.ntmps3
  go_wp2_with fail
  refine (awake16 _).mono ?_; rintro e w1 ⟨rfl, hb1⟩
  go_wp2_with fail
  refine (heavy_any am n c g F _ (HM.out.up hb1) hn).mono ?_; rintro e w2 ⟨b, rfl, hL, rfl⟩
  cases b with
  | true =>
    clear hL
    go_wp2
    go_ret
    exact ⟨rfl, hb1⟩
  | false =>
    have HL := Lib.hid (hL rfl); clear hL
    go_wp2_with fail
    rcases matBad_or n g with hs | ⟨x, hx⟩
    · refine (mcheck_ok am n c g F _ (HM.out.up hb1) hs).mono ?_; rintro e w3 ⟨rfl, rfl⟩
      obtain rfl : n = 0 := by
        rcases Nat.eq_zero_or_pos n with h | h
        · exact h
        · exact absurd ⟨HL.out, hs, h⟩ HB.out
      clear hs
      go_wp2
      go_ret
      exact ⟨rfl, hb1⟩
    · refine (mcheck_err am n c g F _ R (HG.out.up hb1) (HM.out.up hb1) hn x hx).mono ?_; rintro e w3 ⟨q, rfl, he3, hb3⟩
      clear he3 hx
      go_wp2
      go_ret
      exact ⟨rfl, bstep hb1 hb3⟩

set_option maxHeartbeats 4000000 in
theorem ways_ok (am : Option Addr) (n c : Nat) (g : Nat → Nat) (F : Nat → Nat → List Nat) (i k : Int) (W : World) (hM : MsR W am n g F) (hl : Light n g F) (hs : Square n g) (h0 : 0 < n) :
    Calls Tryd.prog 3 #[.slice am n c, .int .i64 i, .int .i64 k] W (TrueBelow W) := by
  have hn := hl.1
  have hlen : ∀ p q, p < n → q < n → (F p q).length ≤ 8 := fun p q hp hq => (hl.2 p hp).2 q (by rw [hs.2 p hp]; exact hq)
  have HLEN := Lib.hid hlen; clear hlen
  have hM2 := hM.square hs.2
  have HM := Lib.hid hM2; clear hM2
  have HM0 := Lib.hid hM; clear hM
  have HL := Lib.hid hl; clear hl
  have HSQ := Lib.hid hs; clear hs
  have q1 := Int.lt_tmod_of_pos k (show (0 : Int) < 8 by omega)
  have q2 := Int.tmod_lt_of_pos k (show (0 : Int) < 8 by omega)
  have q3 := Int.lt_tmod_of_pos i (show (0 : Int) < (n : Int) by omega)
  have q4 := Int.tmod_lt_of_pos i (show (0 : Int) < (n : Int) by omega)
  obtain ⟨N, hN, hN8⟩ : ∃ N : Nat, (k.tmod 8 + 8) % 8 = (N : Int) ∧ N < 8 := ⟨((k.tmod 8 + 8) % 8).toNat, by omega, by omega⟩
  obtain ⟨I, hI, hIn⟩ : ∃ I : Nat, (i.tmod n + n) % n = (I : Int) ∧ I < n := by
    have h1 := Int.emod_nonneg (i.tmod n + n) (show (n : Int) ≠ 0 by omega)
    have h2 := Int.emod_lt_of_pos (i.tmod n + n) (show (0 : Int) < (n : Int) by omega)
    exact ⟨((i.tmod n + n) % n).toNat, by omega, by omega⟩
  have hn0 : ((n : Int) == 0) = false := by rw [beq_eq_false_iff_ne]; omega
  go_enter Tryd.func3, Tryd.ntmps3
  go_wp2_with fail
  refine (awake16 _).mono ?_; rintro e w1 ⟨rfl, hb1⟩
  go_wp2_with fail
  refine (heavy_any am n c g F _ (HM0.out.up hb1) (by unfold maxLen; omega)).mono ?_; rintro e w2 ⟨b, rfl, hL, rfl⟩
  cases b with
  | true =>
    clear hL
    go_wp2
    go_ret
    exact ⟨rfl, hb1⟩
  | false =>
    clear hL
    go_wp2_with fail
    refine (mcheck_ok am n c g F _ (HM0.out.up hb1) HSQ.out).mono ?_; rintro e w3 ⟨rfl, rfl⟩
    have HM1 := Lib.hid (HM.out.up hb1)
    go_wp2_with fail
    refine (one_any n _ (by omega)).mono ?_; rintro e w4 ⟨a4, c4, rows4, its4, rfl, ho4, hb4⟩
    have HM4 := Lib.hid (HM1.out.up hb4)
    have hb4W := bstep hb1 hb4
    go_wp2_with fail
    refine (matPow_ok am n c N F 8 _ HM4.out (by omega) HLEN.out (by decide) (by omega)).mono ?_; rintro e w5 ⟨a5, c5, rows5, its5, rfl, ho5, hb5⟩
    have hm4 := MsR.up ho4.msR hb5
    obtain ⟨bo, oo, rfl, hbo, hco⟩ := hm4.addr (by omega)
    obtain ⟨a6, c6, x0, hle6, hcm6, _, hr6⟩ := hco I hIn
    obtain ⟨bp, op, rfl, hbp, hcp⟩ := ho5.msR.addr (by omega)
    obtain ⟨a7, c7, y0, hle7, hcm7, _, hr7⟩ := hcp I hIn
    have HR6 := Lib.hid hr6
    have HR7 := Lib.hid hr7
    have HM5 := Lib.hid (HM4.out.up hb5)
    have hb5W := bstep hb4W hb5
    clear ho4 ho5 hm4 hco hcp hr6 hr7 hb5 hb4 HM4 HM1 hb4W
    have I0 : (0 : Int) ≤ (I : Int) := by omega
    have I1 : (I : Int) < (n : Int) := by omega
    clear hN hI
    go_wp2_with fail
    go_loopw [11, 12] (fun vx kx wr => ∃ (t : Nat) (av : Option Addr) (cv : Nat), t ≤ N ∧ kx = .int .i64 t ∧ vx = .slice av n cv ∧ NsR wr av n (fun j => limbs (mpow n (vM F) t I j)) ∧ Below w5.heap.size w5 wr) (fun _ kx _ => N - (intOf kx).toNat)
    case atStart => exact ⟨0, a6, c6, by omega, rfl, rfl, HR6.out, bnil _⟩
    case round =>
      clear HR6
      obtain ⟨t, av, cv, ht, rfl, rfl, hv, hb⟩ := hrel
      have HV := Lib.hid hv
      have HB := Lib.hid hb
      have y1 := (hb.cell (p := ⟨bp, op + I, none⟩) hbp).trans y0
      clear hv hb
      by_cases htN : t < N
      · have hbd : BdM n 8 (vM F) := fun i j hi hj => Nat.lt_of_lt_of_le (val_lt (HM5.out.u32 i j hi hj)) (Nat.pow_le_pow_right (by decide) (HLEN.out i j hi hj))
        have hlv : ∀ j, j < n → (limbs (mpow n (vM F) t I j)).length ≤ 100 := fun j hj => by
          have := limbs_bd (bdM_pow (by omega) hbd t) I j hIn hj
          omega
        have HLV := Lib.hid hlv
        clear hbd hlv
        go_wp2_with fail
        refine (mgo_ok av am n cv c _ F 100 _ HV.out (HM5.out.up HB.out) (by omega) HLV.out (fun i j hi hj => Nat.le_trans (HLEN.out i j hi hj) (by decide)) (by decide)).mono ?_; rintro e w6 ⟨a8, c8, its8, rfl, ho8, hb8⟩
        rw [row_pow] at ho8
        have HV8 := Lib.hid ho8.nsR
        have HB8 := Lib.hid (HB.out.trans (hb8.mono HB.out.size))
        clear ho8 hb8
        go_wp2
        go_roundw
        case rel => exact ⟨t + 1, _, _, by omega, by go_num, rfl, HV8.out, HB8.out⟩
        case measure => simp [intOf]; omega
      · obtain rfl : t = N := by omega
        go_wp2_with fail
        refine (line_eq av a7 n cv c7 _ _ HV.out (NsR.up HR7.out HB.out) (by omega)).mono ?_; rintro e w6 ⟨rfl, hb6⟩
        go_wp2
        go_ret
        exact ⟨rfl, bstep (bstep hb5W HB.out) hb6⟩

theorem ways_row (am : Option Addr) (n c : Nat) (g : Nat → Nat) (F : Nat → Nat → List Nat) (i k : Int) (W : World) (R : Nat → Addr) (hS : Sent W R) (hM : MsR W am n g F) (hl : n ≤ c) (hc : c * 24 ≤ 140737488351232) (hn : am = none → c = 0) :
    Calls Tryd.prog 3 #[.slice am n c, .int .i64 i, .int .i64 k] W (TrueBelow W) := by
  by_cases h : Light n g F ∧ Square n g ∧ 0 < n
  · exact ways_ok am n c g F i k W hM h.1 h.2.1 h.2.2
  · exact ways_out am n c g F i k W R hS.glob hM (by unfold maxLen; omega) h
end Go.Proofs.YtmdicmcmalmbaaaDoor
