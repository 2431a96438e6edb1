/- edenref24.symbol, edenref24.looks. -/
import Derived.Test.YtoaooblodgejdaaDoorJdgX
import Derived.Test.YtoaooblodgejdaaDoorPlaX
namespace Go.Proofs.YtoaooblodgejdaaDoor
open Go.RowKit
set_option linter.unusedVariables false
set_option maxRecDepth 100000

theorem cb_one (a k : Nat) : cb a k ≤ 1 := by unfold cb; omega
theorem wixT_sum (a b c y : Nat) {i : Nat} (hi : i < 3) : wixT a b c y (i + 1) = 8 * wixT a b c y i + 4 * cb a (y + i) + 2 * cb b (y + i) + cb c (y + i) ∧ wixT a b c y i < 64 := by
  have hl := wixT_lt a b c y i
  have h1 : 2 ^ (3 * i) ≤ 2 ^ 6 := Nat.pow_le_pow_right (by omega) (by omega)
  have h2 : (2 : Nat) ^ 6 = 64 := by decide
  have h64 : wixT a b c y i < 64 := by omega
  have c1 := cb_one a (y + i)
  have c2 := cb_one b (y + i)
  have c3 := cb_one c (y + i)
  exact ⟨(or_line ⟨_, h64⟩ ⟨_, show _ < 2 by omega⟩ ⟨_, show _ < 2 by omega⟩ ⟨_, show _ < 2 by omega⟩).1, h64⟩
set_option maxHeartbeats 8000000 in
theorem sym24_any (ab ao cT : Nat) (t : List Int) (y a b c : Nat) (W : World) (hT : RK .i64 W (some ⟨ab, ao, none⟩) 512 t) (hy : y ≤ 8) (ha : a < 1024) (hb : b < 1024) (hc : c < 1024) :
    Calls Tryd.prog 110 #[.slice (some ⟨ab, ao, none⟩) 512 cT, .int .i64 (a : Nat), .int .i64 (b : Nat), .int .i64 (c : Nat), .int .i64 (y : Nat)] W fun e w' => e = .returned (.int .i64 (symF t a b c y)) ∧ ∃ n, w' = W.drewN n := by
  obtain ⟨ab2, ao2, hab0, _, hcell⟩ := hT.addr (by omega)
  cases hab0
  have HC := Lib.hid hcell
  clear hcell hT
  have hy3 : IntKind.i64.wrap ((y : Int) + 3) = (y : Int) + 3 := IntWalk.i64_in _ (by omega)
  go_enter Tryd.func110, Tryd.ntmps110
  go_wp2_with fail
  go_loopw [11, 12] (fun nx ix wr => ∃ i : Nat, i ≤ 3 ∧ ix = .int .i64 ((y + i : Nat) : Int) ∧ nx = .int .i64 (wixT a b c y i : Nat) ∧ ∃ m, wr = W.drewN m) (fun _ ix _ => y + 3 - (intOf ix).toNat)
  case atStart => exact ⟨0, by omega, rfl, rfl, 0, rfl⟩
  case round =>
    obtain ⟨i, hi, rfl, rfl, m, rfl⟩ := hrel
    by_cases hi3 : i < 3
    · obtain ⟨hsum, h64⟩ := wixT_sum a b c y hi3
      obtain ⟨k2, hk2⟩ : ∃ k2, y + i = k2 := ⟨_, rfl⟩
      have HK2 := Lib.hid hk2
      rw [hk2] at hsum ⊢
      have k3 : (k2 : Int) < (y : Int) + 3 := by omega
      have k0 : (0 : Int) ≤ (k2 : Int) := by omega
      have k64 : (k2 : Int) ≤ 64 := by omega
      obtain ⟨A1, hA1⟩ : ∃ A1, a / 2 ^ k2 = A1 := ⟨_, rfl⟩
      obtain ⟨B1, hB1⟩ : ∃ B1, b / 2 ^ k2 = B1 := ⟨_, rfl⟩
      obtain ⟨C1, hC1⟩ : ∃ C1, c / 2 ^ k2 = C1 := ⟨_, rfl⟩
      have hAI : (a : Int) / 2 ^ k2 = (A1 : Int) := by rw [← hA1, Int.natCast_ediv, Int.natCast_pow]; rfl
      have hBI : (b : Int) / 2 ^ k2 = (B1 : Int) := by rw [← hB1, Int.natCast_ediv, Int.natCast_pow]; rfl
      have hCI : (c : Int) / 2 ^ k2 = (C1 : Int) := by rw [← hC1, Int.natCast_ediv, Int.natCast_pow]; rfl
      have hA2 : A1 < 1024 := by rw [← hA1]; exact Nat.lt_of_le_of_lt (Nat.div_le_self _ _) ha
      have hB2 : B1 < 1024 := by rw [← hB1]; exact Nat.lt_of_le_of_lt (Nat.div_le_self _ _) hb
      have hC2 : C1 < 1024 := by rw [← hC1]; exact Nat.lt_of_le_of_lt (Nat.div_le_self _ _) hc
      have haa := and1_i64 (a := A1) (by omega)
      have hbb := and1_i64 (a := B1) (by omega)
      have hcc := and1_i64 (a := C1) (by omega)
      have ep : cb a k2 = A1 % 2 := by unfold cb; rw [hA1]
      have eq : cb b k2 = B1 % 2 := by unfold cb; rw [hB1]
      have er : cb c k2 = C1 % 2 := by unfold cb; rw [hC1]
      rw [ep, eq, er] at hsum
      have lp : A1 % 2 ≤ 1 := by omega
      have lq : B1 % 2 ≤ 1 := by omega
      have lr : C1 % 2 ≤ 1 := by omega
      generalize A1 % 2 = p at *
      generalize B1 % 2 = q at *
      generalize C1 % 2 = r at *
      obtain ⟨nn, hnn⟩ : ∃ nn, wixT a b c y i = nn := ⟨_, rfl⟩
      rw [hnn] at hsum h64 ⊢
      obtain ⟨s1, hs1⟩ : ∃ s1, 8 * nn = s1 := ⟨_, rfl⟩
      obtain ⟨s2, hs2⟩ : ∃ s2, 4 * p = s2 := ⟨_, rfl⟩
      obtain ⟨s3, hs3⟩ : ∃ s3, s1 + s2 = s3 := ⟨_, rfl⟩
      obtain ⟨s4, hs4⟩ : ∃ s4, 2 * q = s4 := ⟨_, rfl⟩
      obtain ⟨s5, hs5⟩ : ∃ s5, s3 + s4 = s5 := ⟨_, rfl⟩
      obtain ⟨s6, hs6⟩ : ∃ s6, s5 + r = s6 := ⟨_, rfl⟩
      rw [hs1, hs2, hs3, hs4, hs5, hs6] at hsum
      have HSUM := Lib.hid hsum
      have t1 : (8 : Int) * (nn : Int) = (s1 : Int) := by omega
      have t2 : (4 : Int) * (p : Int) = (s2 : Int) := by omega
      have t3 : (s1 : Int) + (s2 : Int) = (s3 : Int) := by omega
      have t4 : (2 : Int) * (q : Int) = (s4 : Int) := by omega
      have t5 : (s3 : Int) + (s4 : Int) = (s5 : Int) := by omega
      have t6 : (s5 : Int) + (r : Int) = (s6 : Int) := by omega
      have w1 : IntKind.i64.wrap (s1 : Int) = (s1 : Int) := IntWalk.i64_in _ (by omega)
      have w2 : IntKind.i64.wrap (s2 : Int) = (s2 : Int) := IntWalk.i64_in _ (by omega)
      have w3 : IntKind.i64.wrap (s3 : Int) = (s3 : Int) := IntWalk.i64_in _ (by omega)
      have w4 : IntKind.i64.wrap (s4 : Int) = (s4 : Int) := IntWalk.i64_in _ (by omega)
      have w5 : IntKind.i64.wrap (s5 : Int) = (s5 : Int) := IntWalk.i64_in _ (by omega)
      have w6 : IntKind.i64.wrap (s6 : Int) = (s6 : Int) := IntWalk.i64_in _ (by omega)
      have w7 : IntKind.i64.wrap ((k2 : Int) + 1) = (k2 : Int) + 1 := IntWalk.i64_in _ (by omega)
      clear hk2 hA1 hB1 hC1 ep eq er hnn hs1 hs2 hs3 hs4 hs5 hs6 hsum lp lq lr
      go_wp2_with fail
      go_quiet (fail)
      go_wp2
      go_roundw
      case rel => exact ⟨i + 1, by omega, by have := HK2.out; go_num, by rw [HSUM.out], _, rfl⟩
      case measure => have := HK2.out; simp [intOf]; omega
    · obtain rfl : i = 3 := by omega
      have h9 : wixT a b c y 3 < 512 := wixT_lt a b c y 3
      have hy0 : symF t a b c y = t.getD (wixT a b c y 3) 0 := rfl
      have z0 : (W.drewN m).cell? ⟨ab, ao + wixT a b c y 3, none⟩ = _ := HC.out _ h9
      have HY := Lib.hid hy0
      generalize wixT a b c y 3 = n at *
      have n0 : (0 : Int) ≤ (n : Int) := by omega
      have n1 : (n : Int) < 512 := by omega
      have hlt : ¬ ((y + 3 : Nat) : Int) < (y : Int) + 3 := by omega
      clear hy0
      go_wp2
      go_ret
      rw [HY.out]
      exact ⟨rfl, _, rfl⟩
set_option maxHeartbeats 8000000 in
theorem looks24_any (ab ao cT : Nat) (t : List Int) (h a b c want : Nat) (W : World) (hT : RK .i64 W (some ⟨ab, ao, none⟩) 512 t) (hh : h ≤ 4) (ha : a < 1024) (hb : b < 1024) (hc : c < 1024) (hw : want < 1024) :
    Calls Tryd.prog 85 #[.slice (some ⟨ab, ao, none⟩) 512 cT, .int .i64 (h : Nat), .int .i64 (a : Nat), .int .i64 (b : Nat), .int .i64 (c : Nat), .int .i64 (want : Nat)] W fun e w' => e = .returned (.tuple #[.int .i64 ((looksF t a b c want h 0).1 : Nat), .bool (looksF t a b c want h 0).2]) ∧ ∃ n, w' = W.drewN n := by
  obtain ⟨LK, hLK⟩ : ∃ LK, looksF t a b c want h 0 = LK := ⟨_, rfl⟩
  rw [hLK]
  have HLK := Lib.hid hLK
  have HT := Lib.hid hT
  clear hLK hT
  go_enter Tryd.func85, Tryd.ntmps85
  go_wp2_with fail
  go_loopw [14] (fun ix wr => ∃ y : Nat, y ≤ h ∧ ix = .int .i64 (y : Nat) ∧ looksF t a b c want (h - y) y = LK ∧ ∃ m, wr = W.drewN m) (fun ix _ => h - (intOf ix).toNat)
  case atStart => exact ⟨0, by omega, rfl, HLK.out, 0, rfl⟩
  case round =>
    obtain ⟨y, hy, rfl, hrun, m0, hwm⟩ := hrel
    have HWM := Lib.hid hwm
    have HTW : Hid (RK .i64 wr (some ⟨ab, ao, none⟩) 512 t) := by show RK _ _ _ _ _; rw [hwm]; exact HT.out.dr m0
    clear hwm
    by_cases hyh : y < h
    · obtain ⟨m, hm⟩ : ∃ m, h - y = m + 1 := ⟨h - y - 1, by omega⟩
      have hm2 : h - (y + 1) = m := by omega
      rw [hm] at hrun
      unfold looksF at hrun
      rw [← hm2] at hrun
      have y1 : (y : Int) < (h : Int) := by omega
      have y0 : (0 : Int) ≤ (y : Int) := by omega
      have y64 : (y : Int) ≤ 64 := by omega
      have yw : IntKind.i64.wrap ((y : Int) + 1) = (y : Int) + 1 := IntWalk.i64_in _ (by omega)
      obtain ⟨V, hV⟩ : ∃ V, want / 2 ^ y = V := ⟨_, rfl⟩
      have hVI : (want : Int) / 2 ^ y = (V : Int) := by rw [← hV, Int.natCast_ediv, Int.natCast_pow]; rfl
      have hV2 : V < 1024 := by rw [← hV]; exact Nat.lt_of_le_of_lt (Nat.div_le_self _ _) hw
      have hvv := and1_i64 (a := V) (by omega)
      have eu : cb want y = V % 2 := by unfold cb; rw [hV]
      rw [eu] at hrun
      have hC := fun q => sym24_any ab ao cT t y a b c (wr.drewN q) (HTW.out.dr q) (by omega) ha hb hc
      obtain ⟨sy, hsy⟩ : ∃ sy, symF t a b c y = sy := ⟨_, rfl⟩
      rw [hsy] at hrun
      simp only [hsy] at hC
      have HCQ := Lib.hid hC
      clear hV eu hC hsy hm hm2
      generalize V % 2 = u at *
      by_cases heq : sy = (u : Int)
      · rw [if_pos heq] at hrun
        have HRUN := Lib.hid hrun
        have hne : (sy != (u : Int)) = false := by rw [heq]; simp
        clear hrun
        go_wp2_with fail
        go_quiet ((go_at_call 110; exact Calls.quiet_of (HCQ.out _)))
        go_wp2
        go_roundw
        case rel => exact ⟨y + 1, by omega, by go_num, HRUN.out, by rw [HWM.out]; exact ⟨_, World.drewN_drewN _ _ _⟩⟩
        case measure => simp [intOf]; omega
      · rw [if_neg heq] at hrun
        have HRUN := Lib.hid hrun
        have hne : (sy != (u : Int)) = true := by rw [bne_iff_ne]; exact heq
        clear hrun
        go_wp2_with fail
        go_quiet ((go_at_call 110; exact Calls.quiet_of (HCQ.out _)))
        go_wp2
        go_ret2
        rw [← HRUN.out]
        exact ⟨rfl, by rw [HWM.out]; exact ⟨_, World.drewN_drewN _ _ _⟩⟩
    · obtain rfl : y = h := by omega
      rw [Nat.sub_self] at hrun
      unfold looksF at hrun
      have HRUN := Lib.hid hrun
      clear hrun
      go_wp2
      go_ret2
      rw [← HRUN.out]
      exact ⟨rfl, _, HWM.out⟩
end Go.Proofs.YtoaooblodgejdaaDoor
