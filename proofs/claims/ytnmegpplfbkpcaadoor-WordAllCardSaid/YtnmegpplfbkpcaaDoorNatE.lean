/- The contracts of math/bits.Len32, nat.Bits. -/
import Derived.Test.YtnmegpplfbkpcaaDoorNatD
import Derived.Deep.CutRange
import Derived.Laws.MathBits
namespace Go.Proofs.YtnmegpplfbkpcaaDoor
open Go.RowKit
set_option linter.unusedVariables false
set_option maxRecDepth 10000000

set_option maxHeartbeats 4000000 in
theorem len32_any (x : Nat) (W : World) (hx : x < B32) (h0 : 0 < x) :
    Calls Tryd.prog 110 #[.int .u32 x] W fun e w' => ∃ m : Nat, e = .returned (.int .i64 m) ∧ 1 ≤ m ∧ m ≤ 32 ∧ W = w' := by
  have hx' : x < 4294967296 := hx
  clear hx
  go_enter Tryd.func110, Tryd.ntmps110
  go_upto_if 4 with fail
  go_cut [0, 2] from 3 to 6 (fun a c wx => ∃ y m : Nat, a = .int .u32 y ∧ c = .int .i64 m ∧ 0 < y ∧ y < 65536 ∧ m ≤ 16 ∧ wx = W)
  case first =>
    by_cases h1 : 65536 ≤ x
    · have e1 : (x : Int).fdiv (2 ^ min (Int.toNat 16) IntKind.u32.bits) = ((x / 65536 : Nat) : Int) := by
        rw [show (2 ^ min (Int.toNat 16) IntKind.u32.bits : Int) = 65536 by rfl, Int.fdiv_eq_ediv_of_nonneg _ (by omega)]; simp
      go_wp2_with fail
      go_meet
      exact ⟨x / 65536, 16, by simp, rfl, by omega, by omega, by omega, rfl⟩
    · go_wp2_with fail
      go_meet
      exact ⟨x, 0, rfl, rfl, by omega, by omega, by omega, rfl⟩
  case rest =>
    obtain ⟨y, m, rfl, rfl, hy0, hy, hm, rfl⟩ := hcut
    go_upto_if 8 with fail
    go_cut [0, 2] from 7 to 12 (fun a c wx => ∃ z q : Nat, a = .int .u32 z ∧ c = .int .i64 q ∧ 0 < z ∧ z < 256 ∧ q ≤ 24 ∧ wx = wc)
    case first =>
      by_cases h1 : 256 ≤ y
      · have e1 : (y : Int).fdiv (2 ^ min (Int.toNat 8) IntKind.u32.bits) = ((y / 256 : Nat) : Int) := by
          rw [show (2 ^ min (Int.toNat 8) IntKind.u32.bits : Int) = 256 by rfl, Int.fdiv_eq_ediv_of_nonneg _ (by omega)]; simp
        go_wp2_with fail
        go_meet
        exact ⟨y / 256, m + 8, rfl, by simp, by omega, by omega, by omega, rfl⟩
      · go_wp2_with fail
        go_meet
        exact ⟨y, m, rfl, rfl, by omega, by omega, by omega, rfl⟩
    case rest =>
      obtain ⟨z, q, rfl, rfl, hz0, hz, hq, rfl⟩ := hcut
      have hb1 : 1 ≤ bitLen z := by unfold bitLen; rw [if_neg (by omega)]; omega
      have hb2 := bitLen_le8 z hz
      have hzm : (z : Int) % 256 = (z : Int) := Int.emod_eq_of_lt (by omega) (by omega)
      go_wp2
      go_ret
      rw [len8tab_get z]
      refine ⟨q + bitLen z, ?_, by omega, by omega, rfl⟩
      rw [wrap64_in ((bitLen z : Nat) : Int) ⟨by omega, by omega⟩, wrap64_in _ ⟨by omega, by omega⟩]
      simp

theorem limbs_top {x : Nat} (hx : x ≠ 0) : 0 < (limbs x).length ∧ 0 < (limbs x).getD ((limbs x).length - 1) 0 := by
  have hu := limbs_u32 x
  have hpos : 0 < (limbs x).length := by rw [limbs_pos hx]; simp
  refine ⟨hpos, ?_⟩
  rcases Nat.eq_zero_or_pos ((limbs x).getD ((limbs x).length - 1) 0) with h0 | h0
  · exfalso
    have e1 := trim_take_zero (l := limbs x) (k := (limbs x).length - 1) (by omega) h0
    rw [List.take_of_length_le (by omega)] at e1
    have e2 := limbs_val hu
    rw [val_limbs] at e2
    have e3 : (trim ((limbs x).take ((limbs x).length - 1))).length ≤ (limbs x).length - 1 := by
      have e4 := limbs_val (u32_take hu ((limbs x).length - 1))
      rw [← e4]
      refine limbs_len_le ?_
      have := val_lt (u32_take hu ((limbs x).length - 1))
      rw [List.length_take, Nat.min_eq_left (by omega)] at this
      exact this
    rw [← e1, ← e2] at e3
    omega
  · exact h0
/-- Bits is 0 just for the number 0 -/
theorem bits_any (a : Option Addr) (n c : Nat) (l : List Nat) (W : World) (h : NR W a n l) (hm : n ≤ 1000000) (hnc : n ≤ c) (hcm : c ≤ maxLen) :
    Calls Tryd.prog 89 #[.slice a n c] W fun e w' => ∃ m : Nat, e = .returned (.int .i64 m) ∧ (m = 0 ↔ val l = 0) ∧ W = w' := by
  have HH := Lib.hid h; clear h
  obtain ⟨x, hx⟩ : ∃ x, val l = x := ⟨_, rfl⟩
  rw [hx]
  have HX := Lib.hid hx; clear hx
  go_enter Tryd.func89, Tryd.ntmps89
  go_wp2_with fail
  refine (norm_nr a n c l _ HH.out (by unfold maxLen; omega) hnc hcm).mono ?_; rintro e w' ⟨k, rfl, hk, _, hn, rfl⟩
  rw [HX.out] at hn
  have HL := Lib.hid hn.len
  have HN := Lib.hid hn; clear hn
  by_cases hx0 : x = 0
  · have hk0 : k = 0 := by rw [HL.out, hx0]; rfl
    subst hk0
    have HX0 := Lib.hid hx0; clear hx0
    go_wp2
    go_ret
    exact ⟨0, rfl, by simp [HX0.out], rfl⟩
  · have htop := limbs_top hx0
    rw [← HL.out] at htop
    have hlt := u32_at (limbs_u32 x) (k - 1)
    have hpos := htop.1
    have HTOP := Lib.hid htop.2
    have HLT := Lib.hid hlt
    have HX0 := Lib.hid hx0
    clear htop hlt hx0
    obtain ⟨b, o, rfl, hbl, hc⟩ := HN.out.addr (by omega)
    have x0 := hc (k - 1) (by omega)
    clear hc
    obtain ⟨t, rfl⟩ : ∃ t, k = t + 1 := ⟨k - 1, by omega⟩
    simp only [Nat.add_sub_cancel] at x0 HTOP HLT
    generalize (limbs x).getD t 0 = z at *
    have i0 : ((t + 1 : Nat) : Int) - 1 = (t : Int) := by omega
    have i1 : (((t + 1 : Nat) : Int) == 0) = false := by rw [beq_eq_false_iff_ne]; omega
    have i2 : (t : Int) < ((t + 1 : Nat) : Int) := by omega
    go_wp2_with fail
    refine (len32_any z _ HLT.out HTOP.out).mono ?_; rintro e w' ⟨m, rfl, hm1, hm2, rfl⟩
    go_wp2
    go_ret
    exact ⟨32 * t + m, by simp, by have := HX0.out; omega, rfl⟩
end Go.Proofs.YtnmegpplfbkpcaaDoor
