/- The contracts of edenref04.Power, Check. -/
import Derived.Test.YteneiianpghalaaDoorRuleA
import Derived.Test.YteneiianpghalaaDoorRefBad
import Derived.Test.YteneiianpghalaaDoorErrB
import Derived.Deep.QuietTactic
import Derived.BigQuiet
import Derived.IntWalk
namespace Go.Proofs.YteneiianpghalaaDoor
open Go.RowKit
set_option linter.unusedVariables false
set_option maxRecDepth 100000

theorem cup2 {w w' : World} {a : Addr} {v : Value} (hb : Below w.heap.size w w') (h : w.cell? a = some v) : w'.cell? a = some v := (hb.cell (World.block_lt_of_cell? _ _ h)).trans h
set_option maxHeartbeats 2000000 in
theorem refPower_any (k n : Nat) (x : Int) (W : World) (hx : x = (n : Int)) (k1 : 1 ≤ k) (k4 : k ≤ 1000) (hn : n ≤ 1000000) (hb : k ^ n ≤ 1000000000000) :
    Calls Tryd.prog 84 #[.int .i64 k, .int .i64 x] W fun e w' => e = .returned (.int .i64 ((k ^ n : Nat) : Int)) ∧ W = w' := by
  subst hx
  obtain ⟨y, hy⟩ : ∃ y, k ^ n = y := ⟨_, rfl⟩
  rw [hy]
  have HY := Lib.hid hy
  have HB := Lib.hid hb
  clear hy hb
  go_enter Tryd.func84, Tryd.ntmps84
  go_wp2_with fail
  go_loop [5, 6] (fun nx ix => ∃ i p : Nat, i ≤ n ∧ ix = .int .i64 i ∧ nx = .int .i64 p ∧ Hid (p = k ^ i)) (fun _ ix => n - (intOf ix).toNat)
  case atStart => exact ⟨0, 1, by omega, rfl, rfl, (Nat.pow_zero k).symm⟩
  case round =>
    obtain ⟨i, p, hi, rfl, rfl, HP⟩ := hrel
    by_cases hlt : i < n
    · have hp : p * k ≤ 1000000000000 := by
        have := Nat.pow_le_pow_right k1 (show i + 1 ≤ n by omega)
        rw [HP.out, ← Nat.pow_succ]
        exact Nat.le_trans this HB.out
      have q0 : (0 : Int) ≤ (p : Int) * (k : Int) := by rw [← Int.natCast_mul]; omega
      have q1 : (p : Int) * (k : Int) ≤ 1000000000000 := by rw [← Int.natCast_mul]; omega
      go_wp2
      go_round
      case rel => exact ⟨i + 1, p * k, by omega, by go_num, by go_num, by show _ = _; rw [HP.out, ← Nat.pow_succ]⟩
      case measure => simp [intOf]; omega
    · obtain rfl : i = n := by omega
      obtain rfl : y = p := HY.out.symm.trans HP.out.symm
      go_wp2
      go_ret
      exact ⟨rfl, rfl⟩
theorem idxI_bd (p : Int → Bool) (l : List Int) : -1 ≤ idxI p l ∧ idxI p l ≤ (l.length : Int) := by
  unfold idxI
  cases h : l.findIdx? p with
  | none => simp only; omega
  | some i =>
    have := (List.findIdx?_eq_some_iff_getElem.1 h).1
    simp only; omega
/-- a rule's fault -/
def ruleD (k r : Int) (l : List Int) : ErrD := (ruleErr k r l).map fun a => ([(opRule, a)], 1)

set_option maxHeartbeats 8000000 in
theorem refRule_any (k r : Int) (aT : Option Addr) (nT cT : Nat) (tb : List Int) (W : World) (hR : RK .i64 W aT nT tb) (hm : nT ≤ maxLen) :
    Calls Tryd.prog 163 #[ruleV k r aT nT cT] W (RefRet W (ruleD k r tb)) := by
  have HL := Lib.hid hR.len
  have hmx : nT ≤ 9223372036854775807 := hm
  obtain ⟨Wb, hWb⟩ : ∃ Wb, (W.alloc (.cells #[.int .i64 k, .int .i64 r, .slice aT nT cT] 24)).alloc (.cells #[.int .i64 0, .slice none 0 0, .slice none 0 0] 53) = Wb := ⟨_, rfl⟩
  have HX : Hid (Wb.cell? ⟨W.heap.size, 0, none⟩ = some (.int .i64 k) ∧ Wb.cell? ⟨W.heap.size, 1, none⟩ = some (.int .i64 r) ∧ Wb.cell? ⟨W.heap.size, 2, none⟩ = some (.slice aT nT cT)) := by rw [← hWb]; exact ⟨cup2 (balloc (bnil _) _) (by simp), cup2 (balloc (bnil _) _) (by simp), cup2 (balloc (bnil _) _) (by simp)⟩
  have HSZ : Hid (Wb.heap.size = W.heap.size + 2) := by show _ = _; rw [← hWb]; simp
  have HBX : Hid (Below W.heap.size W Wb) := by rw [← hWb]; exact balloc (balloc (bnil W) _) _
  have HBX1 := Lib.hid (balloc (bnil W) (.cells #[.int .i64 k, .int .i64 r, .slice aT nT cT] 24))
  have HR := Lib.hid hR; clear hR
  have HWB := Lib.hid hWb; clear hWb
  by_cases c0 : k < 1
  · have hc : ruleD k r tb = some ([(opRule, 0)], 1) := by unfold ruleD ruleErr; simp [c0]
    have HC := Lib.hid hc
    clear hc
    go_enter Tryd.func163, Tryd.ntmps163
    go_wp2_with fail
    rw [HWB.out]
    refine (rawNew_fresh _ _ _ _ rfl).mono ?_; rintro e w8 ⟨b1, b2, rfl, lb1, lb2, hw8, hb8⟩
    have hz := (bnil Wb).trans (hb8.mono (bnil Wb).size)
    have l1 : Wb.heap.size ≤ b1 := lb1
    have l2 : Wb.heap.size ≤ b2 := lb2
    have LB := Lib.hid (show W.heap.size + 1 < b1 ∧ W.heap.size + 1 < b2 by have := HSZ.out; omega)
    rw [← HWB.out] at hz
    obtain ⟨⟨q0, q1, q2⟩, f0, f1, f2⟩ := res3 (g := W.heap.size + 1) (by simp) hz
    go_wp2
    obtain ⟨w9, e9, ⟨r0, r1, r2⟩, hb9, hk9, hs9⟩ := res3_set (g := W.heap.size + 1) (u0 := .int .i64 1) (u1 := .slice (some ⟨b1, 0, none⟩) 1 1) (u2 := .slice (some ⟨b2, 0, none⟩) 1 1) (by simp) hz
    rw [e9]
    refine bodyPost_ret (v := .agg #[.int .i64 1, .slice (some ⟨b1, 0, none⟩) 1 1, .slice (some ⟨b2, 0, none⟩) 1 1]) (by simp [results, Tryd.results163, go_sem, r0, r1, r2]) rfl ?_
    have hw9 := hw8.other hk9 hs9 (by have := LB.out; omega) (by have := LB.out; omega)
    rw [HC.out]
    exact ⟨_, _, _, _, _, _, _, rfl, wc_want hw9, fr_some (by have := LB.out; omega), fr_some (by have := LB.out; omega), rfl, (fun h => by cases h), HBX1.out.trans (hb9.mono HBX1.out.size)⟩
  by_cases c1 : 4 < k
  · have hc : ruleD k r tb = some ([(opRule, 0)], 1) := by unfold ruleD ruleErr; simp [c1]
    have HC := Lib.hid hc
    clear hc
    go_enter Tryd.func163, Tryd.ntmps163
    go_wp2_with fail
    rw [HWB.out]
    refine (rawNew_fresh _ _ _ _ rfl).mono ?_; rintro e w8 ⟨b1, b2, rfl, lb1, lb2, hw8, hb8⟩
    have hz := (bnil Wb).trans (hb8.mono (bnil Wb).size)
    have l1 : Wb.heap.size ≤ b1 := lb1
    have l2 : Wb.heap.size ≤ b2 := lb2
    have LB := Lib.hid (show W.heap.size + 1 < b1 ∧ W.heap.size + 1 < b2 by have := HSZ.out; omega)
    rw [← HWB.out] at hz
    obtain ⟨⟨q0, q1, q2⟩, f0, f1, f2⟩ := res3 (g := W.heap.size + 1) (by simp) hz
    go_wp2
    obtain ⟨w9, e9, ⟨r0, r1, r2⟩, hb9, hk9, hs9⟩ := res3_set (g := W.heap.size + 1) (u0 := .int .i64 1) (u1 := .slice (some ⟨b1, 0, none⟩) 1 1) (u2 := .slice (some ⟨b2, 0, none⟩) 1 1) (by simp) hz
    rw [e9]
    refine bodyPost_ret (v := .agg #[.int .i64 1, .slice (some ⟨b1, 0, none⟩) 1 1, .slice (some ⟨b2, 0, none⟩) 1 1]) (by simp [results, Tryd.results163, go_sem, r0, r1, r2]) rfl ?_
    have hw9 := hw8.other hk9 hs9 (by have := LB.out; omega) (by have := LB.out; omega)
    rw [HC.out]
    exact ⟨_, _, _, _, _, _, _, rfl, wc_want hw9, fr_some (by have := LB.out; omega), fr_some (by have := LB.out; omega), rfl, (fun h => by cases h), HBX1.out.trans (hb9.mono HBX1.out.size)⟩
  by_cases c2 : r < 0
  · have hc : ruleD k r tb = some ([(opRule, 1)], 1) := by unfold ruleD ruleErr; simp [c0, c1, c2]
    have HC := Lib.hid hc
    clear hc
    go_enter Tryd.func163, Tryd.ntmps163
    go_wp2_with fail
    rw [HWB.out]
    refine (rawNew_fresh _ _ _ _ rfl).mono ?_; rintro e w8 ⟨b1, b2, rfl, lb1, lb2, hw8, hb8⟩
    have hz := (bnil Wb).trans (hb8.mono (bnil Wb).size)
    have l1 : Wb.heap.size ≤ b1 := lb1
    have l2 : Wb.heap.size ≤ b2 := lb2
    have LB := Lib.hid (show W.heap.size + 1 < b1 ∧ W.heap.size + 1 < b2 by have := HSZ.out; omega)
    rw [← HWB.out] at hz
    obtain ⟨⟨q0, q1, q2⟩, f0, f1, f2⟩ := res3 (g := W.heap.size + 1) (by simp) hz
    go_wp2
    obtain ⟨w9, e9, ⟨r0, r1, r2⟩, hb9, hk9, hs9⟩ := res3_set (g := W.heap.size + 1) (u0 := .int .i64 1) (u1 := .slice (some ⟨b1, 0, none⟩) 1 1) (u2 := .slice (some ⟨b2, 0, none⟩) 1 1) (by simp) hz
    rw [e9]
    refine bodyPost_ret (v := .agg #[.int .i64 1, .slice (some ⟨b1, 0, none⟩) 1 1, .slice (some ⟨b2, 0, none⟩) 1 1]) (by simp [results, Tryd.results163, go_sem, r0, r1, r2]) rfl ?_
    have hw9 := hw8.other hk9 hs9 (by have := LB.out; omega) (by have := LB.out; omega)
    rw [HC.out]
    exact ⟨_, _, _, _, _, _, _, rfl, wc_want hw9, fr_some (by have := LB.out; omega), fr_some (by have := LB.out; omega), rfl, (fun h => by cases h), HBX1.out.trans (hb9.mono HBX1.out.size)⟩
  by_cases c3 : 3 < r
  · have hc : ruleD k r tb = some ([(opRule, 1)], 1) := by unfold ruleD ruleErr; simp [c0, c1, c3]
    have HC := Lib.hid hc
    clear hc
    go_enter Tryd.func163, Tryd.ntmps163
    go_wp2_with fail
    rw [HWB.out]
    refine (rawNew_fresh _ _ _ _ rfl).mono ?_; rintro e w8 ⟨b1, b2, rfl, lb1, lb2, hw8, hb8⟩
    have hz := (bnil Wb).trans (hb8.mono (bnil Wb).size)
    have l1 : Wb.heap.size ≤ b1 := lb1
    have l2 : Wb.heap.size ≤ b2 := lb2
    have LB := Lib.hid (show W.heap.size + 1 < b1 ∧ W.heap.size + 1 < b2 by have := HSZ.out; omega)
    rw [← HWB.out] at hz
    obtain ⟨⟨q0, q1, q2⟩, f0, f1, f2⟩ := res3 (g := W.heap.size + 1) (by simp) hz
    go_wp2
    obtain ⟨w9, e9, ⟨r0, r1, r2⟩, hb9, hk9, hs9⟩ := res3_set (g := W.heap.size + 1) (u0 := .int .i64 1) (u1 := .slice (some ⟨b1, 0, none⟩) 1 1) (u2 := .slice (some ⟨b2, 0, none⟩) 1 1) (by simp) hz
    rw [e9]
    refine bodyPost_ret (v := .agg #[.int .i64 1, .slice (some ⟨b1, 0, none⟩) 1 1, .slice (some ⟨b2, 0, none⟩) 1 1]) (by simp [results, Tryd.results163, go_sem, r0, r1, r2]) rfl ?_
    have hw9 := hw8.other hk9 hs9 (by have := LB.out; omega) (by have := LB.out; omega)
    rw [HC.out]
    exact ⟨_, _, _, _, _, _, _, rfl, wc_want hw9, fr_some (by have := LB.out; omega), fr_some (by have := LB.out; omega), rfl, (fun h => by cases h), HBX1.out.trans (hb9.mono HBX1.out.size)⟩
  obtain ⟨k, rfl⟩ : ∃ kn : Nat, k = (kn : Int) := ⟨k.toNat, by omega⟩
  obtain ⟨r, rfl⟩ : ∃ rn : Nat, r = (rn : Int) := ⟨r.toNat, by omega⟩
  have k1 : 1 ≤ k := by omega
  have k4 : k ≤ 4 := by omega
  have r3 : r ≤ 3 := by omega
  have hpw := rpow_le k4 (show 2 * r + 1 ≤ 7 by omega)
  obtain ⟨T, hT⟩ : ∃ T, k ^ (2 * r + 1) = T := ⟨_, rfl⟩
  have HT := Lib.hid hT
  rw [hT] at hpw
  clear hT
  have hd : ruleD (k : Int) (r : Int) tb = if nT ≠ T then some ([(opRule, 2)], 1) else if 0 ≤ idxI (badB k) tb then some ([(opRule, 3 + idxI (badB k) tb)], 1) else none := by
    unfold ruleD ruleErr
    rw [if_neg (by omega), if_neg (by omega)]
    simp only [Int.toNat_natCast, HT.out, ← HL.out]
    split
    · rfl
    · split <;> rfl
  have w1 : IntKind.i64.wrap (2 * (r : Int)) = 2 * (r : Int) := IntWalk.i64_in _ (by omega)
  have w2 : IntKind.i64.wrap (2 * (r : Int) + 1) = 2 * (r : Int) + 1 := IntWalk.i64_in _ (by omega)
  have HD := Lib.hid hd
  clear hd
  have hP : ∀ w, Calls Tryd.prog 84 #[.int .i64 (k : Int), .int .i64 (2 * (r : Int) + 1)] w fun e w' => e = .returned (.int .i64 (T : Int)) ∧ w' = w := fun w => by
    have := refPower_any k (2 * r + 1) (2 * (r : Int) + 1) w (by omega) k1 (by omega) (by omega) (by rw [HT.out]; omega)
    rw [HT.out] at this
    exact this.mono fun e w' h => ⟨h.1, h.2.symm⟩
  have HP := Lib.hid hP
  clear hP
  have x0 := HX.out.1
  have x1 := HX.out.2.1
  have x2 := HX.out.2.2
  by_cases hnT : nT ≠ T
  · have hc : ruleD (k : Int) (r : Int) tb = some ([(opRule, 2)], 1) := by rw [HD.out, if_pos hnT]
    have HC := Lib.hid hc
    have hne : ((nT : Int) != (T : Int)) = true := by rw [bne_iff_ne]; omega
    have hne2 : ((nT : Int) == (T : Int)) = false := by rw [beq_eq_false_iff_ne]; omega
    clear hc hnT
    go_enter Tryd.func163, Tryd.ntmps163
    go_wp2_with fail
    rw [HWB.out]
    go_quiet ((go_at_call 84; exact Calls.quiet_of_same (HP.out _)))
    clear x0 x1 x2
    go_wp2_with fail
    refine (rawNew_fresh _ _ _ _ rfl).mono ?_; rintro e w8 ⟨b1, b2, rfl, lb1, lb2, hw8, hb8⟩
    have hz := (bdrewN (bnil Wb) _).trans (hb8.mono (bdrewN (bnil Wb) _).size)
    have l1 : Wb.heap.size ≤ b1 := lb1
    have l2 : Wb.heap.size ≤ b2 := lb2
    have LB := Lib.hid (show W.heap.size + 1 < b1 ∧ W.heap.size + 1 < b2 by have := HSZ.out; omega)
    rw [← HWB.out] at hz
    obtain ⟨⟨q0, q1, q2⟩, f0, f1, f2⟩ := res3 (g := W.heap.size + 1) (by simp) hz
    go_wp2
    obtain ⟨w9, e9, ⟨r0, r1, r2⟩, hb9, hk9, hs9⟩ := res3_set (g := W.heap.size + 1) (u0 := .int .i64 1) (u1 := .slice (some ⟨b1, 0, none⟩) 1 1) (u2 := .slice (some ⟨b2, 0, none⟩) 1 1) (by simp) hz
    rw [e9]
    refine bodyPost_ret (v := .agg #[.int .i64 1, .slice (some ⟨b1, 0, none⟩) 1 1, .slice (some ⟨b2, 0, none⟩) 1 1]) (by simp [results, Tryd.results163, go_sem, r0, r1, r2]) rfl ?_
    have hw9 := hw8.other hk9 hs9 (by have := LB.out; omega) (by have := LB.out; omega)
    rw [HC.out]
    exact ⟨_, _, _, _, _, _, _, rfl, wc_want hw9, fr_some (by have := LB.out; omega), fr_some (by have := LB.out; omega), rfl, (fun h => by cases h), HBX1.out.trans (hb9.mono HBX1.out.size)⟩
  obtain rfl : T = nT := by omega
  have hi : ruleD (k : Int) (r : Int) tb = if 0 ≤ idxI (badB k) tb then some ([(opRule, 3 + idxI (badB k) tb)], 1) else none := by rw [HD.out, if_neg (by omega)]
  have HD2 := Lib.hid hi
  clear hi
  have hbd := idxI_bd (badB (k : Int)) tb
  obtain ⟨i, hi⟩ : ∃ i, idxI (badB (k : Int)) tb = i := ⟨_, rfl⟩
  rw [hi, ← HL.out] at hbd
  obtain ⟨hb1, hb2⟩ := hbd
  have HI := Lib.hid hi
  clear hi
  go_enter Tryd.func163, Tryd.ntmps163
  go_wp2_with fail
  rw [HWB.out]
  go_quiet ((go_at_call 84; exact Calls.quiet_of_same (HP.out _)))
  go_wp2_with fail
  refine (refBad_any k aT T cT tb _ (HR.out.up (bdrewN HBX.out _)) hm).mono ?_; rintro e w' ⟨rfl, rfl⟩
  rw [HI.out]
  by_cases h0 : 0 ≤ i
  · have hc : ruleD (k : Int) (r : Int) tb = some ([(opRule, 3 + i)], 1) := by rw [HD2.out, HI.out, if_pos h0]
    have HC := Lib.hid hc
    clear hc x0 x1 x2
    go_wp2_with fail
    refine (rawNew_fresh _ _ _ _ rfl).mono ?_; rintro e w8 ⟨b1, b2, rfl, lb1, lb2, hw8, hb8⟩
    have hz := (bdrewN (bnil Wb) _).trans (hb8.mono (bdrewN (bnil Wb) _).size)
    have l1 : Wb.heap.size ≤ b1 := lb1
    have l2 : Wb.heap.size ≤ b2 := lb2
    have LB := Lib.hid (show W.heap.size + 1 < b1 ∧ W.heap.size + 1 < b2 by have := HSZ.out; omega)
    rw [← HWB.out] at hz
    obtain ⟨⟨q0, q1, q2⟩, f0, f1, f2⟩ := res3 (g := W.heap.size + 1) (by simp) hz
    go_wp2
    obtain ⟨w9, e9, ⟨r0, r1, r2⟩, hb9, hk9, hs9⟩ := res3_set (g := W.heap.size + 1) (u0 := .int .i64 1) (u1 := .slice (some ⟨b1, 0, none⟩) 1 1) (u2 := .slice (some ⟨b2, 0, none⟩) 1 1) (by simp) hz
    rw [e9]
    refine bodyPost_ret (v := .agg #[.int .i64 1, .slice (some ⟨b1, 0, none⟩) 1 1, .slice (some ⟨b2, 0, none⟩) 1 1]) (by simp [results, Tryd.results163, go_sem, r0, r1, r2]) rfl ?_
    have hw9 := hw8.other hk9 hs9 (by have := LB.out; omega) (by have := LB.out; omega)
    rw [HC.out]
    exact ⟨_, _, _, _, _, _, _, rfl, wc_want hw9, fr_some (by have := LB.out; omega), fr_some (by have := LB.out; omega), rfl, (fun h => by cases h), HBX1.out.trans (hb9.mono HBX1.out.size)⟩
  · have hc : ruleD (k : Int) (r : Int) tb = none := by rw [HD2.out, HI.out, if_neg h0]
    have HC := Lib.hid hc
    obtain ⟨wn, hwn⟩ : ∃ wn, Wb.drewN nq = wn := ⟨_, rfl⟩
    have hz : Below Wb.heap.size Wb wn := by rw [← hwn]; exact bdrewN (bnil Wb) nq
    rw [hwn]
    clear hwn
    rw [← HWB.out] at hz
    obtain ⟨⟨q0, q1, q2⟩, f0, f1, f2⟩ := res3 (g := W.heap.size + 1) (by simp) hz
    clear hc x0 x1 x2
    go_wp2
    obtain ⟨w9, e9, ⟨r0, r1, r2⟩, hb9, hk9, hs9⟩ := res3_set (g := W.heap.size + 1) (u0 := .int .i64 0) (u1 := .slice none 0 0) (u2 := .slice none 0 0) (by simp) hz
    rw [e9]
    refine bodyPost_ret (v := .agg #[.int .i64 0, .slice none 0 0, .slice none 0 0]) (by simp [results, Tryd.results163, go_sem, r0, r1, r2]) rfl ?_
    rw [HC.out]
    exact ⟨_, _, _, _, _, _, _, rfl, wc_none _, fr_none, fr_none, rfl, (fun _ => ⟨rfl, rfl, rfl, rfl, rfl, rfl, rfl⟩), HBX1.out.trans (hb9.mono HBX1.out.size)⟩
end Go.Proofs.YteneiianpghalaaDoor
