/- eve.made: the column that three make. -/
import Derived.Test.YtoaooblodgejdaaDoorJdgX
import Derived.Test.YtoaooblodgejdaaDoorRjQ
import Derived.Test.YtoaooblodgejdaaDoorBitI
import Derived.Deep.QuietTactic
import Derived.BigQuiet
namespace Go.Proofs.YtoaooblodgejdaaDoor
open Go.RowKit
set_option linter.unusedVariables false
set_option maxRecDepth 100000

theorem symF_bit2 {t : List Int} (ht : IsTab t) (a b c y : Nat) : ∃ s : Nat, symF t a b c y = (s : Int) ∧ s ≤ 1 := by
  have hs : symF t a b c y = 0 ∨ symF t a b c y = 1 := by
    unfold symF
    have h9 := wixT_lt a b c y 3
    have h2 : (2 : Nat) ^ (3 * 3) = 512 := by decide
    refine ht.sym _ ?_
    rw [List.getD_eq_getElem?_getD, List.getElem?_eq_getElem (by rw [ht.len]; omega)]
    exact List.getElem_mem _
  rcases hs with h | h
  · exact ⟨0, h, by omega⟩
  · exact ⟨1, h, by omega⟩
theorem made_or2 {o s y : Nat} (ho : o < 2 ^ y) : o ||| s * 2 ^ y = o + s * 2 ^ y := by
  have h := Nat.two_pow_add_eq_or_of_lt ho s
  rw [Nat.or_comm, Nat.mul_comm s, Nat.add_comm]
  exact h.symm
set_option maxHeartbeats 8000000 in
theorem evmade_any (ab ao cT : Nat) (t : List Int) (h a b c : Nat) (W : World) (hT : RK .i64 W (some ⟨ab, ao, none⟩) 512 t) (ht : IsTab t) (hh : h ≤ 4) (ha : a < 1024) (hb : b < 1024) (hc : c < 1024) :
    Calls Tryd.prog 62 #[.slice (some ⟨ab, ao, none⟩) 512 cT, .int .i64 (h : Nat), .int .i64 (a : Nat), .int .i64 (b : Nat), .int .i64 (c : Nat)] W fun e w' => e = .returned (.int .i64 ((madeV t a b c h : Nat) : Int)) ∧ ∃ n, w' = W.drewN n := by
  have HT := Lib.hid hT
  have HIT := Lib.hid ht
  obtain ⟨ab2, ao2, hab0, _, hcell⟩ := hT.addr (by omega)
  cases hab0
  have HC := Lib.hid hcell
  clear hT ht hcell
  go_enter Tryd.func62, Tryd.ntmps62
  go_wp2_with fail
  go_loopw [11, 16] (fun ox yx wr => ∃ y m : Nat, y ≤ h ∧ yx = .int .i64 (y : Nat) ∧ ox = .int .i64 ((madeV t a b c y : Nat) : Int) ∧ wr = W.drewN m) (fun _ yx _ => h - (intOf yx).toNat)
  case atStart => exact ⟨0, 0, by omega, rfl, rfl, rfl⟩
  case round =>
    obtain ⟨y, m, hyh0, rfl, rfl, hwm⟩ := hrel
    have HWM := Lib.hid hwm
    clear hwm
    by_cases hyh : y < h
    · have hy : y ≤ 8 := by omega
      have hyI : (y : Int) < (h : Int) := by omega
      have hml := madeV_lt HIT.out a b c y
      obtain ⟨ov, hov⟩ : ∃ ov, madeV t a b c y = ov := ⟨_, rfl⟩
      rw [hov] at hml ⊢
      have HOV := Lib.hid hov
      have HML := Lib.hid hml
      clear hov hml
      go_wp2_with fail
      go_loopw [13, 19] (fun nx ix wr => ∃ i m2 : Nat, i ≤ 3 ∧ ix = .int .i64 (i : Nat) ∧ nx = .int .i64 (wixT a b c y i : Nat) ∧ wr = W.drewN m2) (fun _ ix _ => 3 - (intOf ix).toNat)
      case atStart => exact ⟨0, m, by omega, rfl, rfl, HWM.out⟩
      case round =>
        obtain ⟨i, m2, hi, rfl, rfl, hwm2⟩ := hrel
        have HWM2 := Lib.hid hwm2
        clear hwm2
        have hwl := wixT_lt a b c y i
        by_cases hi3 : i < 3
        · have hw64 : wixT a b c y i < 512 := by
            have h1 : 2 ^ (3 * i) ≤ 2 ^ 9 := Nat.pow_le_pow_right (by omega) (by omega)
            have h2 : (2 : Nat) ^ 9 = 512 := by decide
            omega
          have HN : Hid (wixT a b c y (i + 1) = (wixT a b c y i * 8 ||| cb a (y + i) * 4) ||| cb b (y + i) * 2 ||| cb c (y + i)) := rfl
          generalize wixT a b c y i = n at *
          obtain ⟨k2, hk2⟩ : ∃ k2, y + i = k2 := ⟨_, rfl⟩
          rw [hk2] at HN
          have hkI2 : (y : Int) + (i : Int) = (k2 : Int) := by omega
          have hkw : IntKind.i64.wrap (k2 : Int) = (k2 : Int) := IntWalk.i64_in _ (by omega)
          have k0 : (0 : Int) ≤ (k2 : Int) := by omega
          have k64 : (k2 : Int) ≤ 64 := by omega
          obtain ⟨A1, hA1⟩ : ∃ A1, a / 2 ^ k2 = A1 := ⟨_, rfl⟩
          obtain ⟨B1, hB1⟩ : ∃ B1, b / 2 ^ k2 = B1 := ⟨_, rfl⟩
          obtain ⟨C1, hC1⟩ : ∃ C1, c / 2 ^ k2 = C1 := ⟨_, rfl⟩
          have hAI : (a : Int) / 2 ^ k2 = (A1 : Int) := by rw [← hA1, Int.natCast_ediv, Int.natCast_pow]; rfl
          have hBI : (b : Int) / 2 ^ k2 = (B1 : Int) := by rw [← hB1, Int.natCast_ediv, Int.natCast_pow]; rfl
          have hCI : (c : Int) / 2 ^ k2 = (C1 : Int) := by rw [← hC1, Int.natCast_ediv, Int.natCast_pow]; rfl
          have hA2 : A1 < 1024 := by rw [← hA1]; exact Nat.lt_of_le_of_lt (Nat.div_le_self _ _) ha
          have hB2 : B1 < 1024 := by rw [← hB1]; exact Nat.lt_of_le_of_lt (Nat.div_le_self _ _) hb
          have hC2 : C1 < 1024 := by rw [← hC1]; exact Nat.lt_of_le_of_lt (Nat.div_le_self _ _) hc
          have haa := and1_i64 (a := A1) (by omega)
          have hbb := and1_i64 (a := B1) (by omega)
          have hcc := and1_i64 (a := C1) (by omega)
          have ep : cb a k2 = A1 % 2 := by unfold cb; rw [hA1]
          have eq : cb b k2 = B1 % 2 := by unfold cb; rw [hB1]
          have er : cb c k2 = C1 % 2 := by unfold cb; rw [hC1]
          rw [ep, eq, er] at HN
          have lp : A1 % 2 ≤ 1 := by omega
          have lq : B1 % 2 ≤ 1 := by omega
          have lr : C1 % 2 ≤ 1 := by omega
          generalize A1 % 2 = p at *
          generalize B1 % 2 = q at *
          generalize C1 % 2 = r at *
          obtain ⟨N8, hN8⟩ : ∃ N8, n * 8 = N8 := ⟨_, rfl⟩
          obtain ⟨P4, hP4⟩ : ∃ P4, p * 4 = P4 := ⟨_, rfl⟩
          obtain ⟨Q2, hQ2⟩ : ∃ Q2, q * 2 = Q2 := ⟨_, rfl⟩
          rw [hN8, hP4, hQ2] at HN
          have n8 : (n : Int) * 8 = (N8 : Int) := by omega
          have n8b : (n : Int) * 2 ^ 3 = (N8 : Int) := n8
          have p4 : (p : Int) * 4 = (P4 : Int) := by omega
          have p4b : (p : Int) * 2 ^ 2 = (P4 : Int) := p4
          have q2 : (q : Int) * 2 = (Q2 : Int) := by omega
          have q2b : (q : Int) * 2 ^ 1 = (Q2 : Int) := q2
          have wN : IntKind.i64.wrap (N8 : Int) = (N8 : Int) := IntWalk.i64_in _ (by omega)
          have wP : IntKind.i64.wrap (P4 : Int) = (P4 : Int) := IntWalk.i64_in _ (by omega)
          have wQ : IntKind.i64.wrap (Q2 : Int) = (Q2 : Int) := IntWalk.i64_in _ (by omega)
          have bN : N8 < 2 ^ 12 := by have : (2 : Nat) ^ 12 = 4096 := by decide
                                      omega
          have bP : P4 < 2 ^ 12 := by have : (2 : Nat) ^ 12 = 4096 := by decide
                                      omega
          have bQ : Q2 < 2 ^ 12 := by have : (2 : Nat) ^ 12 = 4096 := by decide
                                      omega
          have o1 := or_i64 (a := N8) (b := P4) (by omega) (by omega)
          have l1 := Nat.or_lt_two_pow bN bP
          obtain ⟨M1, hM1⟩ : ∃ M1, N8 ||| P4 = M1 := ⟨_, rfl⟩
          rw [hM1] at o1 l1 HN
          have o2 := or_i64 (a := M1) (b := Q2) (by omega) (by omega)
          have l2 := Nat.or_lt_two_pow l1 bQ
          obtain ⟨M2, hM2⟩ : ∃ M2, M1 ||| Q2 = M2 := ⟨_, rfl⟩
          rw [hM2] at o2 l2 HN
          have o3 := or_i64 (a := M2) (b := r) (by omega) (by omega)
          obtain ⟨M3, hM3⟩ : ∃ M3, M2 ||| r = M3 := ⟨_, rfl⟩
          rw [hM3] at o3 HN
          clear hk2 hA1 hB1 hC1 ep eq er hN8 hP4 hQ2 hM1 hM2 hM3 hwl hw64 bN bP bQ l1 l2 lp lq lr
          have iwq : IntKind.i64.wrap ((i : Int) + 1) = (i : Int) + 1 := IntWalk.i64_in _ (by omega)
          go_wp2_with fail
          go_quiet (fail)
          go_wp2
          go_roundw
          case rel => exact ⟨i + 1, m2 + nq, by omega, by go_num, by rw [HN.out], by rw [HWM2.out]; exact World.drewN_drewN _ _ _⟩
          case measure => simp [intOf]; omega
        · obtain rfl : i = 3 := by omega
          have h9 : wixT a b c y 3 < 512 := hwl
          obtain ⟨s, hs, hs1⟩ := symF_bit2 HIT.out a b c y
          have hy0 : t.getD (wixT a b c y 3) 0 = (s : Int) := hs
          have z0 : wr.cell? ⟨ab, ao + wixT a b c y 3, none⟩ = some (.int .i64 (s : Nat)) := by rw [HWM2.out, ← hy0]; exact HC.out _ h9
          have hm1 : madeV t a b c (y + 1) = ov ||| s * 2 ^ y := by
            rw [made_or2 HML.out, ← HOV.out]
            show _ + (symF t a b c y).toNat * 2 ^ y = _
            rw [hs, Int.toNat_natCast]
          have hp16 : 2 ^ y ≤ 16 := by
            have := Nat.pow_le_pow_right (n := 2) (by omega) (show y ≤ 4 by omega)
            have h2 : (2 : Nat) ^ 4 = 16 := by decide
            omega
          obtain ⟨sv, hsv⟩ : ∃ sv, s * 2 ^ y = sv := ⟨_, rfl⟩
          have hsvb : sv ≤ 16 := by rw [← hsv]; exact Nat.le_trans (Nat.mul_le_mul hs1 hp16) (by omega)
          have hsvI : (s : Int) * 2 ^ y = (sv : Int) := by rw [← hsv, Int.natCast_mul, Int.natCast_pow]; rfl
          have hsvw : IntKind.i64.wrap (sv : Int) = (sv : Int) := IntWalk.i64_in _ (by omega)
          rw [hsv] at hm1
          have hor := or_i64 (a := ov) (b := sv) (by have := HML.out; omega) (by omega)
          have HM1 := Lib.hid hm1
          generalize wixT a b c y 3 = n at *
          have n0 : (0 : Int) ≤ (n : Int) := by omega
          have n1 : (n : Int) < 512 := by omega
          have y0 : (0 : Int) ≤ (y : Int) := by omega
          have y64 : (y : Int) ≤ 64 := by omega
          have yw : IntKind.i64.wrap ((y : Int) + 1) = (y : Int) + 1 := IntWalk.i64_in _ (by omega)
          clear hy0 hs hm1 hsv hwl
          go_wp2
          go_roundw
          case rel => exact ⟨y + 1, m2, by omega, by go_num, by rw [HM1.out], HWM2.out⟩
          case measure => simp [intOf]; omega
    · obtain rfl : y = h := by omega
      have hyI : ¬ (y : Int) < (y : Int) := by omega
      go_wp2
      go_ret
      exact ⟨rfl, _, HWM.out⟩
end Go.Proofs.YtoaooblodgejdaaDoor
