/- nat.Low: the number modulo 2^64. -/
import Derived.Test.YteneiianpghalaaDoorNatA
import Derived.Test.YteneiianpghalaaDoorBitI
namespace Go.Proofs.YteneiianpghalaaDoor
open Go.RowKit
set_option linter.unusedVariables false
set_option maxRecDepth 100000

/-- the first two limbs -/
theorem val_two (l : List Nat) (hu : U32 l) : val (l.take 2) = val l % 18446744073709551616 := by
  have h1 := val_append (l.take 2) (l.drop 2)
  rw [List.take_append_drop] at h1
  have h2 := val_lt (u32_take hu 2)
  rcases Nat.lt_or_ge l.length 2 with h | h
  · have e : l.drop 2 = [] := List.drop_eq_nil_of_le (by omega)
    rw [e] at h1
    have h3 : val l = val (l.take 2) := by rw [h1]; show val (l.take 2) + _ * 0 = _; omega
    have h4 : (l.take 2).length ≤ 2 := by rw [List.length_take]; omega
    have h5 : B32 ^ (l.take 2).length ≤ B32 ^ 2 := Nat.pow_le_pow_right (by decide) h4
    have h6 : B32 ^ 2 = 18446744073709551616 := by decide
    rw [h3, Nat.mod_eq_of_lt (by omega)]
  · have h4 : (l.take 2).length = 2 := by rw [List.length_take]; omega
    have h6 : B32 ^ 2 = 18446744073709551616 := by decide
    rw [h4, h6] at h1 h2
    rw [h1, Nat.add_mul_mod_self_left, Nat.mod_eq_of_lt h2]
theorem or_u64 {a b : Nat} (ha : a < 18446744073709551616) (hb : b < 18446744073709551616) : bits .or .u64 (a : Int) (b : Int) = ((a ||| b : Nat) : Int) := by
  have hlt : a ||| b < 2 ^ 64 := Nat.or_lt_two_pow ha hb
  have e1 : (BitVec.ofInt 64 (a : Int)).toNat = a := by
    rw [BitVec.toNat_ofInt]
    show ((a : Int) % ((2 ^ 64 : Nat) : Int)).toNat = a
    have : ((2 ^ 64 : Nat) : Int) = 18446744073709551616 := by decide
    rw [this]
    omega
  have e2 : (BitVec.ofInt 64 (b : Int)).toNat = b := by
    rw [BitVec.toNat_ofInt]
    show ((b : Int) % ((2 ^ 64 : Nat) : Int)).toNat = b
    have : ((2 ^ 64 : Nat) : Int) = 18446744073709551616 := by decide
    rw [this]
    omega
  show IntKind.u64.wrap ((BitVec.ofInt 64 (a : Int) ||| BitVec.ofInt 64 (b : Int)).toNat : Int) = _
  rw [BitVec.toNat_or, e1, e2]
  have h2 : IntKind.u64.wrap ((a ||| b : Nat) : Int) = ((a ||| b : Nat) : Int) % 18446744073709551616 := rfl
  have h3 : (2 : Nat) ^ 64 = 18446744073709551616 := by decide
  rw [h2]
  omega
set_option maxHeartbeats 8000000 in
theorem low_short (a : Option Addr) (n c : Nat) (l : List Nat) (W : World) (h : NR W a n l) (hnc : n ≤ c) (hcm : c ≤ maxLen) (hn2 : n < 2) :
    Calls Tryd.prog 20 #[.slice a n c] W fun e w' => e = .returned (.int .u64 ((val (l.take n) : Nat) : Int)) ∧ w' = W := by
  have hlen := h.len
  have hcm' : c ≤ 9223372036854775807 := hcm
  have HR := Lib.hid h
  have hle : ¬ (2 : Int) ≤ (n : Int) := by omega
  have hle2 : (n : Int) < 2 := by omega
  have k0 : (0 : Int) ≤ (n : Int) := by omega
  have k1 : (n : Int) ≤ (c : Int) := by omega
  clear h hlen
  go_enter Tryd.func20, Tryd.ntmps20
  go_wp2_with fail
  go_loopw [3, 12] (fun xx ix wr => ∃ i : Nat, i ≤ n ∧ ix = .int .i64 (i : Nat) ∧ xx = .int .u64 ((val (l.take i) : Nat) : Int) ∧ wr = W) (fun _ ix _ => n - (intOf ix).toNat)
  case atStart => exact ⟨0, by omega, rfl, rfl, rfl⟩
  case round =>
    obtain ⟨i, hi, rfl, rfl, hwr⟩ := hrel
    rw [hwr]
    clear hwr
    by_cases hiK : i < n
    · obtain ⟨bw, ow, haw, _, hcw⟩ := HR.out.addr (by omega)
      subst haw
      have z1 := hcw i (by omega)
      obtain ⟨x, hx⟩ : ∃ x, l.getD i 0 = x := ⟨_, rfl⟩
      have hxb := u32_at HR.out.2 i
      have hvs := val_take_succ l i
      have hvl := val_lt (u32_take HR.out.2 i)
      rw [hx] at z1 hxb hvs
      have htl : (l.take i).length ≤ i := by rw [List.length_take]; omega
      have hvb : val (l.take i) < B32 ^ i := Nat.lt_of_lt_of_le hvl (Nat.pow_le_pow_right (by decide) htl)
      obtain ⟨v, hv⟩ : ∃ v, val (l.take i) = v := ⟨_, rfl⟩
      rw [hv] at hvb hvs ⊢
      obtain ⟨sN, hsN⟩ : ∃ sN, 32 * i = sN := ⟨_, rfl⟩
      have hp : B32 ^ i = 2 ^ sN := by
        rw [← hsN, Nat.pow_mul, show B32 = 2 ^ 32 from by decide]
      rw [hp] at hvb hvs
      have hi1 : i ≤ 1 := by omega
      have hsb : sN ≤ 32 := by omega
      have hpp : 2 ^ sN ≤ 2 ^ 32 := Nat.pow_le_pow_right (by omega) hsb
      have h32 : (2 : Nat) ^ 32 = 4294967296 := by decide
      obtain ⟨sv, hsv⟩ : ∃ sv, x * 2 ^ sN = sv := ⟨_, rfl⟩
      have hxB : x < 4294967296 := hxb
      have hsvb : sv < 18446744073709551616 := by
        rw [← hsv]
        have := Nat.mul_le_mul (show x ≤ 4294967295 by omega) hpp
        omega
      have hor0 : v ||| sv = v + sv := by
        have h := Nat.two_pow_add_eq_or_of_lt hvb x
        rw [← hsv, Nat.or_comm, Nat.mul_comm x, Nat.add_comm]
        exact h.symm
      rw [hsv, ← hor0] at hvs
      have hor := or_u64 (a := v) (b := sv) (by omega) hsvb
      have HVS := Lib.hid hvs
      have hsvI : (x : Int) * 2 ^ sN = (sv : Int) := by rw [← hsv, Int.natCast_mul, Int.natCast_pow]; rfl
      have hsvw : IntKind.u64.wrap (sv : Int) = (sv : Int) := by
        have h2 : IntKind.u64.wrap (sv : Int) = (sv : Int) % 18446744073709551616 := rfl
        rw [h2]; omega
      have hxw : IntKind.u64.wrap (x : Int) = (x : Int) := by
        have h2 : IntKind.u64.wrap (x : Int) = (x : Int) % 18446744073709551616 := rfl
        rw [h2]; omega
      have hsI : (32 : Int) * (i : Int) = (sN : Int) := by omega
      have hsW : IntKind.i64.wrap (sN : Int) = (sN : Int) := IntWalk.i64_in _ (by omega)
      have s0 : (0 : Int) ≤ (sN : Int) := by omega
      have s1 : (sN : Int) ≤ 64 := by omega
      have i0 : (0 : Int) ≤ (i : Int) := by omega
      have i1 : (i : Int) < (n : Int) := by omega
      have iW : IntKind.i64.wrap ((i : Int) + 1) = (i : Int) + 1 := IntWalk.i64_in _ (by omega)
      clear hcw hx hxb hvs hvl htl hvb hv hsN hp hpp h32 hsv hor0
      go_wp2
      go_roundw
      case rel => exact ⟨i + 1, by omega, by go_num, by rw [HVS.out], by first | rfl | trivial⟩
      case measure => simp [intOf]; omega
    · obtain rfl : i = n := by omega
      have i1 : ¬ (i : Int) < (i : Int) := by omega
      go_wp2
      go_ret
      exact ⟨rfl, rfl⟩
set_option maxHeartbeats 8000000 in
theorem low_long (a : Option Addr) (n c : Nat) (l : List Nat) (W : World) (h : NR W a n l) (hnc : n ≤ c) (hcm : c ≤ maxLen) (hn2 : ¬ n < 2) :
    Calls Tryd.prog 20 #[.slice a n c] W fun e w' => e = .returned (.int .u64 ((val (l.take 2) : Nat) : Int)) ∧ w' = W := by
  have hlen := h.len
  have hcm' : c ≤ 9223372036854775807 := hcm
  have HR := Lib.hid h
  have hle : (2 : Int) ≤ (n : Int) := by omega
  have hle2 : ¬ (n : Int) < 2 := by omega
  have k1 : (2 : Int) ≤ (c : Int) := by omega
  clear h hlen
  go_enter Tryd.func20, Tryd.ntmps20
  go_wp2_with fail
  go_loopw [3, 12] (fun xx ix wr => ∃ i : Nat, i ≤ 2 ∧ ix = .int .i64 (i : Nat) ∧ xx = .int .u64 ((val (l.take i) : Nat) : Int) ∧ wr = W) (fun _ ix _ => 2 - (intOf ix).toNat)
  case atStart => exact ⟨0, by omega, rfl, rfl, rfl⟩
  case round =>
    obtain ⟨i, hi, rfl, rfl, hwr⟩ := hrel
    rw [hwr]
    clear hwr
    by_cases hiK : i < 2
    · obtain ⟨bw, ow, haw, _, hcw⟩ := HR.out.addr (by omega)
      subst haw
      have z1 := hcw i (by omega)
      obtain ⟨x, hx⟩ : ∃ x, l.getD i 0 = x := ⟨_, rfl⟩
      have hxb := u32_at HR.out.2 i
      have hvs := val_take_succ l i
      have hvl := val_lt (u32_take HR.out.2 i)
      rw [hx] at z1 hxb hvs
      have htl : (l.take i).length ≤ i := by rw [List.length_take]; omega
      have hvb : val (l.take i) < B32 ^ i := Nat.lt_of_lt_of_le hvl (Nat.pow_le_pow_right (by decide) htl)
      obtain ⟨v, hv⟩ : ∃ v, val (l.take i) = v := ⟨_, rfl⟩
      rw [hv] at hvb hvs ⊢
      obtain ⟨sN, hsN⟩ : ∃ sN, 32 * i = sN := ⟨_, rfl⟩
      have hp : B32 ^ i = 2 ^ sN := by
        rw [← hsN, Nat.pow_mul, show B32 = 2 ^ 32 from by decide]
      rw [hp] at hvb hvs
      have hi1 : i ≤ 1 := by omega
      have hsb : sN ≤ 32 := by omega
      have hpp : 2 ^ sN ≤ 2 ^ 32 := Nat.pow_le_pow_right (by omega) hsb
      have h32 : (2 : Nat) ^ 32 = 4294967296 := by decide
      obtain ⟨sv, hsv⟩ : ∃ sv, x * 2 ^ sN = sv := ⟨_, rfl⟩
      have hxB : x < 4294967296 := hxb
      have hsvb : sv < 18446744073709551616 := by
        rw [← hsv]
        have := Nat.mul_le_mul (show x ≤ 4294967295 by omega) hpp
        omega
      have hor0 : v ||| sv = v + sv := by
        have h := Nat.two_pow_add_eq_or_of_lt hvb x
        rw [← hsv, Nat.or_comm, Nat.mul_comm x, Nat.add_comm]
        exact h.symm
      rw [hsv, ← hor0] at hvs
      have hor := or_u64 (a := v) (b := sv) (by omega) hsvb
      have HVS := Lib.hid hvs
      have hsvI : (x : Int) * 2 ^ sN = (sv : Int) := by rw [← hsv, Int.natCast_mul, Int.natCast_pow]; rfl
      have hsvw : IntKind.u64.wrap (sv : Int) = (sv : Int) := by
        have h2 : IntKind.u64.wrap (sv : Int) = (sv : Int) % 18446744073709551616 := rfl
        rw [h2]; omega
      have hxw : IntKind.u64.wrap (x : Int) = (x : Int) := by
        have h2 : IntKind.u64.wrap (x : Int) = (x : Int) % 18446744073709551616 := rfl
        rw [h2]; omega
      have hsI : (32 : Int) * (i : Int) = (sN : Int) := by omega
      have hsW : IntKind.i64.wrap (sN : Int) = (sN : Int) := IntWalk.i64_in _ (by omega)
      have s0 : (0 : Int) ≤ (sN : Int) := by omega
      have s1 : (sN : Int) ≤ 64 := by omega
      have i0 : (0 : Int) ≤ (i : Int) := by omega
      have i1 : (i : Int) < 2 := by omega
      have iW : IntKind.i64.wrap ((i : Int) + 1) = (i : Int) + 1 := IntWalk.i64_in _ (by omega)
      clear hcw hx hxb hvs hvl htl hvb hv hsN hp hpp h32 hsv hor0
      go_wp2
      go_roundw
      case rel => exact ⟨i + 1, by omega, by go_num, by rw [HVS.out], by first | rfl | trivial⟩
      case measure => simp [intOf]; omega
    · obtain rfl : i = 2 := by omega
      have i1 : ¬ (2 : Int) < 2 := by omega
      go_wp2
      go_ret
      exact ⟨rfl, rfl⟩
theorem low_any (a : Option Addr) (n c : Nat) (l : List Nat) (W : World) (h : NR W a n l) (hnc : n ≤ c) (hcm : c ≤ maxLen) :
    Calls Tryd.prog 20 #[.slice a n c] W fun e w' => e = .returned (.int .u64 ((val l % 18446744073709551616 : Nat) : Int)) ∧ w' = W := by
  rw [← val_two l h.2]
  have hlen := h.len
  by_cases hn2 : n < 2
  · have := low_short a n c l W h hnc hcm hn2
    rwa [List.take_of_length_le (show l.length ≤ n by omega), ← List.take_of_length_le (show l.length ≤ 2 by omega)] at this
  · exact low_long a n c l W h hnc hcm hn2
end Go.Proofs.YteneiianpghalaaDoor
