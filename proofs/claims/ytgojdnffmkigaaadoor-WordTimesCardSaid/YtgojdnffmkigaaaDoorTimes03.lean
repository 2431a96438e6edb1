/- The walk of edenlaw03.WordTimes. -/
import Derived.Test.YtgojdnffmkigaaaDoorAwake03
import Derived.Test.YtgojdnffmkigaaaDoorWordR
import Derived.WalkKit
import Derived.Deep.QuietTactic
import Derived.BigQuiet
import Derived.Lib.Hide
namespace Go.Proofs.YtgojdnffmkigaaaDoor
open Go.RowKit
set_option linter.unusedVariables false
set_option maxRecDepth 100000

theorem repL_self (l : List Int) : repL l l.length = l := by
  refine ext_getD (repL_len l _) fun j hj => ?_
  rw [repL_len] at hj
  rw [repL_at l _ j hj, Nat.mod_eq_of_lt hj]
/-- a word again and again has the word's own period -/
theorem isPer_rep {l : List Int} {t p q : Nat} (hl : 0 < l.length) (ht : 1 ≤ t) (hp : IsPer (repL l (l.length * t)) p) (hq : IsPer l q) : p = q := by
  have hq1 := hq.pos hl
  have hqd := hq.dvd hl
  have hqn := dvd_le hl hqd
  have hM : (repL l (l.length * t)).length = l.length * t := repL_len _ _
  have hMn : l.length ≤ l.length * t := Nat.le_mul_of_pos_right _ (by omega)
  have hM0 : 0 < (repL l (l.length * t)).length := by omega
  have hp1 := hp.pos hM0
  have at_q : ∀ j, j < l.length * t → (repL l (l.length * t)).getD j 0 = l.getD (j % q) 0 := by
    intro j hj
    rw [repL_at _ _ _ hj, per_mod hq.per hq1 _ (Nat.mod_lt _ hl), Nat.mod_mod_of_dvd _ (Nat.dvd_of_mod_eq_zero hqd)]
  have hper_q : Per (repL l (l.length * t)) q := by
    intro j hj
    rw [hM] at hj
    rw [at_q j (by omega), at_q (j + q) hj]
    congr 1
    simp
  have hdq : (repL l (l.length * t)).length % q = 0 := by
    rw [hM, Nat.mul_mod, hqd]; simp
  have hpq : p ≤ q := hp.least q hq1 hdq hper_q
  by_cases h1 : t = 1
  · subst h1
    rw [Nat.mul_one, repL_self] at hp
    exact hp.uniq hq
  · have hper_n : Per (repL l (l.length * t)) l.length := by
      intro j hj
      rw [hM] at hj
      rw [repL_at _ _ _ (by omega), repL_at _ _ _ hj]
      congr 1
      simp
    have h2n : 2 * l.length ≤ l.length * t := by
      rw [Nat.mul_comm]; exact Nat.mul_le_mul_left _ (by omega)
    have hg := per_gcd _ _ p l.length (Nat.le_refl _) hp1 hl (by omega) hp.per hper_n
    have hgd : Nat.gcd p l.length ∣ l.length := Nat.gcd_dvd_right _ _
    have hg1 : 1 ≤ Nat.gcd p l.length := Nat.gcd_pos_of_pos_right _ hl
    have hgl : Per l (Nat.gcd p l.length) := by
      intro j hj
      have e := hg j (by omega)
      rw [repL_at _ _ _ (by omega), repL_at _ _ _ (by omega), Nat.mod_eq_of_lt (by omega), Nat.mod_eq_of_lt hj] at e
      exact e
    have hqg := hq.least _ hg1 (Nat.mod_eq_zero_of_dvd hgd) hgl
    have hgp : Nat.gcd p l.length ≤ p := Nat.gcd_le_left _ (by omega)
    omega

set_option maxHeartbeats 2000000 in
theorem times_errs (a : Option Addr) (c : Nat) (l : List Int) (t : Int) (W : World) (R : Nat → Addr) (hG : Glob W R) (hR : RK .i64 W a l.length l) (hn8 : l.length * 8 ≤ 140737488351232) (h : t < 0 ∨ (0 ≤ t ∧ 0 < l.length ∧ 4096 < t * l.length)) :
    Calls Tryd.prog 4 #[.slice a l.length c, .int .i64 t] W (TrueBelow W) := by
  have HG := Lib.hid hG; clear hG
  have HR := Lib.hid hR; clear hR
  rcases h with h | ⟨h0, h1, h2⟩
  · go_enter Tryd.func4, Tryd.ntmps4
    go_wp2_with fail
    refine (awake03 _ R HG.out).mono ?_; rintro e w1 ⟨rfl, hb1⟩
    go_wp2_with fail
    refine (times_err a _ c l t _ R (HG.out.up hb1) (HR.out.up hb1) hn8 0 3 (.inl ⟨h, rfl, rfl⟩)).mono ?_; rintro e w2 ⟨g2, rfl, he2, hb2⟩
    clear he2
    go_wp2
    go_ret
    exact ⟨rfl, bstep hb1 hb2⟩
  · have H2 := Lib.hid h2; clear h2
    by_cases hbig : 4096 < t
    · go_enter Tryd.func4, Tryd.ntmps4
      go_wp2_with fail
      refine (awake03 _ R HG.out).mono ?_; rintro e w1 ⟨rfl, hb1⟩
      go_wp2_with fail
      refine (times_err a _ c l t _ R (HG.out.up hb1) (HR.out.up hb1) hn8 0 4 (.inr ⟨h0, h1, H2.out, rfl, rfl⟩)).mono ?_; rintro e w2 ⟨g2, rfl, he2, hb2⟩
      clear he2
      go_wp2
      go_ret
      exact ⟨rfl, bstep hb1 hb2⟩
    · obtain ⟨t, rfl⟩ := Int.eq_ofNat_of_zero_le h0
      obtain ⟨M, hM⟩ : ∃ M : Nat, t * l.length = M := ⟨_, rfl⟩
      have hMi : (t : Int) * (l.length : Int) = (M : Int) := by rw [← hM]; simp
      have hM1 : (4096 : Int) < (M : Int) := by rw [← hMi]; exact H2.out
      have hM2 : M ≤ 4096 * l.length := by rw [← hM]; exact Nat.mul_le_mul_right _ (by omega)
      have hM3 : (M : Int) ≤ 9223372036854775807 := by omega
      clear hM
      go_enter Tryd.func4, Tryd.ntmps4
      go_wp2_with fail
      refine (awake03 _ R HG.out).mono ?_; rintro e w1 ⟨rfl, hb1⟩
      go_wp2_with fail
      refine (times_err a _ c l _ _ R (HG.out.up hb1) (HR.out.up hb1) hn8 0 4 (.inr ⟨h0, h1, H2.out, rfl, rfl⟩)).mono ?_; rintro e w2 ⟨g2, rfl, he2, hb2⟩
      clear he2
      go_wp2
      go_ret
      exact ⟨rfl, bstep hb1 hb2⟩

theorem times_empty (a : Option Addr) (c : Nat) (t : Int) (W : World) (R : Nat → Addr) (hG : Glob W R) (ht : 0 ≤ t) :
    Calls Tryd.prog 4 #[.slice a 0 c, .int .i64 t] W (TrueBelow W) := by
  have HG := Lib.hid hG; clear hG
  go_enter Tryd.func4, Tryd.ntmps4
  go_wp2_with fail
  refine (awake03 _ R HG.out).mono ?_; rintro e w1 ⟨rfl, hb1⟩
  go_wp2_with fail
  refine (times_nil a c t _ ht).mono ?_; rintro e w2 ⟨rfl, rfl⟩
  go_wp2
  go_ret
  exact ⟨rfl, hb1⟩

theorem least_nat {P : Nat → Prop} : ∀ n, P n → ∃ m, P m ∧ ∀ k, P k → m ≤ k := by
  intro n
  induction n using Nat.strongRecOn with
  | ind n ih =>
    intro hn
    by_cases h : ∃ k, k < n ∧ P k
    · obtain ⟨k, h1, h2⟩ := h
      exact ih k h1 h2
    · exact ⟨n, hn, fun k hk => by
        by_cases hlt : n ≤ k
        · exact hlt
        · exact absurd ⟨k, by omega, hk⟩ h⟩
theorem isPer_ex (l : List Int) (hl : 0 < l.length) : ∃ q, IsPer l q := by
  obtain ⟨q, ⟨h1, h2, h3⟩, h4⟩ := least_nat (P := fun q => 1 ≤ q ∧ l.length % q = 0 ∧ Per l q) l.length ⟨by omega, Nat.mod_self _, per_len l⟩
  exact ⟨q, fun e => by omega, fun _ => h1, fun _ => h2, h3, fun k a b c => h4 k ⟨a, b, c⟩⟩

set_option maxHeartbeats 4000000 in
theorem times_good (a : Option Addr) (c t : Nat) (l : List Int) (W : World) (R : Nat → Addr) (hG : Glob W R) (hR : RK .i64 W a l.length l) (hn : 0 < l.length) (hn8 : l.length * 8 ≤ 140737488351232) (hM : l.length * t ≤ 4096) :
    Calls Tryd.prog 4 #[.slice a l.length c, .int .i64 t] W (TrueBelow W) := by
  have hcnt : t ≤ 4096 := Nat.le_trans (Nat.le_mul_of_pos_left t hn) hM
  have HG := Lib.hid hG; clear hG
  have HR := Lib.hid hR; clear hR
  obtain ⟨M, hMe⟩ : ∃ M : Nat, l.length * t = M := ⟨_, rfl⟩
  have hMi : (t : Int) * (l.length : Int) = (M : Int) := by rw [← hMe, Int.natCast_mul, Int.mul_comm]
  have HM4 := Lib.hid hM
  have HME := Lib.hid hMe
  rw [hMe] at hM
  have hpos : t = 0 ∨ 0 < M := by
    by_cases h : t = 0
    · exact .inl h
    · exact .inr (by rw [← hMe]; exact Nat.mul_pos hn (by omega))
  clear hMe
  have hnz : ((l.length : Int) == 0) = false := by rw [beq_eq_false_iff_ne]; omega
  go_enter Tryd.func4, Tryd.ntmps4
  go_wp2_with fail
  refine (awake03 _ R HG.out).mono ?_; rintro e w1 ⟨rfl, hb1⟩
  go_wp2_with fail
  refine (times_ok a _ c t l _ (HR.out.up hb1) hn hn8 HM4.out).mono ?_; rintro e w2 ⟨a2, c2, rfl, hown2, hb2⟩
  rw [HME.out] at hown2
  rw [HME.out]
  have hX : RK .i64 w2 a2 M (repL l M) := RK.of_own hown2
  have hb2W := bstep hb1 hb2
  have HX := Lib.hid hX; clear hX hown2
  have HR2 := Lib.hid (HR.out.up hb2W)
  go_wp2_with fail
  go_loopw [7] (fun i wr => ∃ (k m : Nat), k ≤ M ∧ i = .int .i64 k ∧ wr = w2.drewN m) (fun i _ => M - (intOf i).toNat)
  case atStart => exact ⟨0, 0, by omega, rfl, rfl⟩
  case round =>
    obtain ⟨k, m, hk, rfl, rfl⟩ := hrel
    by_cases hlt : k < M
    · obtain ⟨b1, o1, rfl, hbo1, hc1⟩ := HX.out.addr (by omega)
      have x0 := hc1 k hlt
      rw [repL_at _ _ _ hlt] at x0
      obtain ⟨r, hr⟩ : ∃ r : Nat, k % l.length = r := ⟨_, rfl⟩
      have hr1 : r < l.length := by rw [← hr]; exact Nat.mod_lt _ hn
      have hri : (k : Int) % (l.length : Int) = (r : Int) := by rw [← hr]; simp
      obtain ⟨b2, o2, rfl, hbo2, hc2⟩ := HR2.out.addr (by omega)
      have y0 := hc2 r hr1
      rw [hr] at x0
      clear hc1 hc2 hr
      have i0 : (0 : Int) ≤ (k : Int) := by omega
      have i1 : (k : Int) < (M : Int) := by omega
      have i2 : (0 : Int) ≤ (r : Int) := by omega
      have i3 : (r : Int) < (l.length : Int) := by omega
      have i4 : (0 : Int) < (l.length : Int) := by omega
      generalize l.getD r 0 = z at *
      have hzz : (z != z) = false := by simp
      go_wp2_with fail
      go_quiet (fail)
      go_wp2
      go_roundw
      case rel => exact ⟨k + 1, _, by omega, by go_num, rfl⟩
      case measure => simp [intOf]; omega
    · have hX2 := HX.out.dr m
      have hR3 := HR2.out.dr m
      have HX2 := Lib.hid hX2
      have HR3 := Lib.hid hR3
      have hbm := bdrewN hb2W m
      clear hX2 hR3
      generalize w2.drewN m = w3 at *
      by_cases h0 : t = 0
      · have ht0 : ((t : Int) == 0) = true := by simp; omega
        go_wp2
        go_ret
        exact ⟨rfl, hbm⟩
      · have ht0 : ((t : Int) == 0) = false := by simp; omega
        by_cases h400 : 400 < M
        · go_wp2
          go_ret
          exact ⟨rfl, hbm⟩
        · clear hnz
          go_wp2_with fail
          refine (period_any _ _ _ _ _ HX2.out (by omega)).mono ?_; rintro e w4 ⟨p, hp, rfl, hb4⟩
          have hp1 : 1 ≤ p := hp.pos (by rw [repL_len]; omega)
          have hpi : (0 : Int) < (p : Int) := by omega
          have HP := Lib.hid hp; clear hp
          have hmod : ∀ q, IsPer l q → p = q ∧ l.length % q = 0 := fun q hq => ⟨isPer_rep hn (t := t) (by omega) (by rw [HME.out]; exact HP.out) hq, hq.dvd hn⟩
          have HMOD := Lib.hid hmod; clear hmod
          obtain ⟨r, hr⟩ : ∃ r : Nat, l.length % p = r := ⟨_, rfl⟩
          have hri : (l.length : Int) % (p : Int) = (r : Int) := by rw [← hr]; simp
          have HRR := Lib.hid hr; clear hr
          by_cases hr0 : r = 0
          · have hrz : ((r : Int) == 0) = true := by simp; omega
            go_wp2_with fail
            refine (period_any _ _ _ _ _ (HX2.out.up hb4) (by omega)).mono ?_; rintro e w5 ⟨p2, hp2, rfl, hb5⟩
            have HP2 := Lib.hid hp2; clear hp2
            go_wp2_with fail
            refine (period_any _ _ _ _ _ (HR3.out.up (bstep hb4 hb5)) hn8).mono ?_; rintro e w6 ⟨q, hq, rfl, hb6⟩
            have h1 := (HMOD.out q hq).1
            have h2 := HP2.out.uniq HP.out
            have hpq : ((p2 : Int) == (q : Int)) = true := by simp; omega
            clear h1 h2 hq
            go_wp2
            go_ret
            exact ⟨rfl, bstep (bstep (bstep hbm hb4) hb5) hb6⟩
          · exfalso
            obtain ⟨q, hq⟩ := isPer_ex l hn
            obtain ⟨h1, h2⟩ := HMOD.out q hq
            have h3 := HRR.out
            rw [h1, h2] at h3
            omega

theorem times_row (a : Option Addr) (c : Nat) (l : List Int) (t : Int) (W : World) (R : Nat → Addr) (hS : Sent W R) (hR : Rd W a l.length 1 (l.map (Value.int .i64))) (hl : l.length ≤ c) (hc : c * 8 ≤ 140737488351232) (hn : a = none → c = 0) (hx : ∀ x ∈ l, -9223372036854775808 ≤ x ∧ x ≤ 9223372036854775807) :
    Calls Tryd.prog 4 #[.slice a l.length c, .int .i64 t] W (TrueBelow W) := by
  by_cases h0 : t < 0
  · exact times_errs a c l t W R hS.glob ⟨rfl, hR⟩ (by omega) (.inl h0)
  · by_cases h1 : l.length = 0
    · rw [h1]
      exact times_empty a c t W R hS.glob (by omega)
    · by_cases h2 : 4096 < t * l.length
      · exact times_errs a c l t W R hS.glob ⟨rfl, hR⟩ (by omega) (.inr ⟨by omega, by omega, h2⟩)
      · obtain ⟨t, rfl⟩ := Int.eq_ofNat_of_zero_le (show 0 ≤ t by omega)
        refine times_good a c t l W R hS.glob ⟨rfl, hR⟩ (by omega) (by omega) ?_
        have : ((t * l.length : Nat) : Int) ≤ 4096 := by rw [Int.natCast_mul]; omega
        rw [Nat.mul_comm]; omega
end Go.Proofs.YtgojdnffmkigaaaDoor
