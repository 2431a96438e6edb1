/- edenlaw21.PatchTurns returns true. -/
import Derived.Test.YtnlpobkmjhajcaaDoorPatI
import Derived.Test.YtnlpobkmjhajcaaDoorPatJ
import Derived.Test.YtnlpobkmjhajcaaDoorPatK
namespace Go.Proofs.YtnlpobkmjhajcaaDoor
open Go.RowKit
set_option linter.unusedVariables false
set_option maxRecDepth 100000

theorem take_sum_succ {l : List Int} {i : Nat} (h : i < l.length) : (l.take (i + 1)).sum = (l.take i).sum + l.getD i 0 := by
  rw [List.take_succ_eq_append_getElem h, List.sum_append]
  simp [h]
theorem take_sum_bd {l : List Int} (hs : ∀ x ∈ l, x = 0 ∨ x = 1) (i : Nat) : 0 ≤ (l.take i).sum ∧ (l.take i).sum ≤ (i : Int) := by
  induction i with
  | zero => simp
  | succ i ih =>
    by_cases h : i < l.length
    · rw [take_sum_succ h]
      have := hs l[i] (List.getElem_mem h)
      rw [show l.getD i 0 = l[i] by simp [h]]
      omega
    · rw [List.take_of_length_le (by omega)]
      rw [List.take_of_length_le (by omega)] at ih
      omega
theorem mod8 (s : Int) (S : Nat) (h : s % 8 = (S : Int)) : -8 < s.tmod 8 ∧ s.tmod 8 < 8 ∧ (s.tmod 8 + 8).tmod 8 = (S : Int) ∧ (s.tmod 8 + 8) % 8 = (S : Int) := by
  have key : -8 < s.tmod 8 ∧ s.tmod 8 < 8 ∧ (s.tmod 8 + 8) % 8 = (S : Int) := by
    rcases Int.le_total 0 s with h0 | h0
    · rw [Int.tmod_eq_emod_of_nonneg h0]; omega
    · obtain ⟨k, rfl⟩ : ∃ k, s = -k := ⟨-s, by omega⟩
      rw [Int.neg_tmod, Int.tmod_eq_emod_of_nonneg (by omega)]; omega
  refine ⟨key.1, key.2.1, ?_, key.2.2⟩
  rw [Int.tmod_eq_emod_of_nonneg (by omega)]; exact key.2.2
theorem turns_n (S T : Nat) (hS : S < 8) (hT : T < 8) : ∃ U1 U2 : Nat, (S + T) % 4 = U1 ∧ (S + 8 - T) % 4 = U2 ∧ U1 < 4 ∧ U2 < 4 ∧ ((S : Int) + (T : Int)).tmod 4 = (U1 : Int) ∧ ((S : Int) + (T : Int)) % 4 = (U1 : Int) ∧ ((S : Int) - (T : Int) + 8).tmod 4 = (U2 : Int) ∧ ((S : Int) - (T : Int) + 8) % 4 = (U2 : Int) := by
  have e1 : ((S : Int) + (T : Int)) % 4 = (((S + T) % 4 : Nat) : Int) := by omega
  have e2 : ((S : Int) - (T : Int) + 8) % 4 = (((S + 8 - T) % 4 : Nat) : Int) := by omega
  exact ⟨_, _, rfl, rfl, by omega, by omega, by rw [Int.tmod_eq_emod_of_nonneg (by omega)]; exact e1, e1, by rw [Int.tmod_eq_emod_of_nonneg (by omega)]; exact e2, e2⟩
theorem wrS {x : Int} (h1 : -100 ≤ x) (h2 : x ≤ 100) : IntKind.i64.wrap x = x := IntWalk.i64_in _ (by omega)
theorem mod8w {r : Int} (h1 : -8 < r) (h2 : r < 8) : IntKind.i64.wrap r = r ∧ IntKind.i64.wrap (r + 8) = r + 8 := ⟨wrS (by omega) (by omega), wrS (by omega) (by omega)⟩
theorem turns_w {S T U1 U2 : Nat} (hS : S < 8) (hT : T < 8) (h1 : U1 < 4) (h2 : U2 < 4) : IntKind.i64.wrap (S : Int) = (S : Int) ∧ IntKind.i64.wrap (T : Int) = (T : Int) ∧ IntKind.i64.wrap ((S : Int) + (T : Int)) = (S : Int) + (T : Int) ∧ IntKind.i64.wrap ((S : Int) - (T : Int)) = (S : Int) - (T : Int) ∧ IntKind.i64.wrap ((S : Int) - (T : Int) + 8) = (S : Int) - (T : Int) + 8 ∧ IntKind.i64.wrap (U1 : Int) = (U1 : Int) ∧ IntKind.i64.wrap (U2 : Int) = (U2 : Int) ∧ IntKind.i64.wrap ((U1 : Int) + 4) = (U1 : Int) + 4 ∧ IntKind.i64.wrap ((U2 : Int) + 4) = (U2 : Int) + 4 := by
  refine ⟨wrS (by omega) (by omega), wrS (by omega) (by omega), wrS (by omega) (by omega), wrS (by omega) (by omega), wrS (by omega) (by omega), wrS (by omega) (by omega), wrS (by omega) (by omega), wrS (by omega) (by omega), wrS (by omega) (by omega)⟩
theorem m8a {U : Nat} (h : U < 4) : (U : Int) % 8 = (U : Int) := by omega
theorem m8b {U : Nat} (h : U < 4) : ((U : Int) + 4) % 8 = ((U + 4 : Nat) : Int) := by omega
theorem ge4 {S : Nat} (h : 4 ≤ S) : (4 : Int) ≤ (S : Int) := by omega
theorem lt4 {S : Nat} (h : ¬ 4 ≤ S) : (S : Int) < 4 := by omega
theorem lt4d {S : Nat} (h : ¬ 4 ≤ S) : decide ((4 : Int) ≤ (S : Int)) = false := decide_eq_false (by omega)
theorem turnW_mul (w h S : Nat) : turnW w h S * turnW h w S = w * h := by
  unfold turnW; split
  · exact Nat.mul_comm h w
  · rfl

set_option maxHeartbeats 16000000 in
theorem patch_turns (w h : Int) (a : Option Addr) (n c : Nat) (l : List Int) (s t : Int) (W : World) (R : Nat → Addr) (hS : Sent W R) (m : Int) (hm : W.cell? ⟨13, 0, none⟩ = some (.int .i64 m)) (hR : RK .i64 W a n l) (hnm : n ≤ maxLen) (hx : I64 l) :
    Calls Tryd.prog 3 #[patV w h a n c, .int .i64 s, .int .i64 t] W fun e w' => e = .returned (.bool true) ∧ Below W.heap.size W w' := by
  obtain ⟨Wb, hWb⟩ : ∃ Wb, W.alloc (.cells #[.int .i64 w, .int .i64 h, .slice a n c] 24) = Wb := ⟨_, rfl⟩
  have HX : Hid (Wb.cell? ⟨W.heap.size, 0, none⟩ = some (.int .i64 w) ∧ Wb.cell? ⟨W.heap.size, 1, none⟩ = some (.int .i64 h) ∧ Wb.cell? ⟨W.heap.size, 2, none⟩ = some (.slice a n c)) := by rw [← hWb]; exact ⟨cnw rfl rfl, cnw rfl rfl, cnw rfl rfl⟩
  have HBX : Hid (Below W.heap.size W Wb) := by rw [← hWb]; exact balloc (bnil W) _
  have HSN := Lib.hid (hS.up HBX.out)
  have HR := Lib.hid (hR.up HBX.out)
  have HM := Lib.hid (cpa HBX.out hm)
  have HI6 := Lib.hid hx
  clear hS hR hx hm
  have HWB := Lib.hid hWb; clear hWb
  go_enter Tryd.func3, Tryd.ntmps3
  go_wp2_with fail
  rw [HWB.out]
  refine (awake21 _ R HSN.out m HM.out).mono ?_; rintro e w1 ⟨rfl, hb1⟩
  have HB1 := Lib.hid hb1
  have x0 := cpa hb1 HX.out.1
  have x1 := cpa hb1 HX.out.2.1
  have x2 := cpa hb1 HX.out.2.2
  clear hb1
  cases he : patchErr w h l with
  | some y0 =>
    have HE := Lib.hid he
    clear he
    go_wp2_with fail
    refine (pcheck_er w h a n c l _ R (HSN.out.up HB1.out) (HR.out.up HB1.out) hnm HI6.out y0 HE.out).mono ?_; rintro e w2 ⟨g, rfl, he2, hb2⟩
    have HB2 := Lib.hid hb2
    clear he2 hb2
    go_wp2
    go_ret
    exact ⟨rfl, HBX.out.trans ((HB1.out.trans (HB2.out.mono HB1.out.size)).mono HBX.out.size)⟩
  | none =>
    obtain ⟨w, h, rfl, rfl, hp⟩ := patchErr_none he
    have hw1 := hp.w1
    have hw2 := hp.w2
    have hh1 := hp.h1
    have hh2 := hp.h2
    have HPP := Lib.hid hp
    clear he hp
    obtain ⟨P, hP⟩ : ∃ P, w * h = P := ⟨_, rfl⟩
    have hP4 : P ≤ 4096 := by rw [← hP]; exact Nat.mul_le_mul hw2 hh2
    have hPI : (w : Int) * (h : Int) = (P : Int) := by rw [← hP, Int.natCast_mul]
    have hPw : IntKind.i64.wrap (P : Int) = (P : Int) := IntWalk.i64_in _ (by omega)
    have HPE := Lib.hid hP
    clear hP
    go_wp2_with fail
    refine (pcheck_ok w h a n c l _ R (HSN.out.up HB1.out) (HR.out.up HB1.out) hnm HI6.out HPP.out).mono ?_; rintro e w2 ⟨rfl, hb2⟩
    have HB2 := Lib.hid (bstep HB1.out hb2)
    have y0 := cpa hb2 x0
    have y1 := cpa hb2 x1
    have y2 := cpa hb2 x2
    clear x0 x1 x2 hb2
    by_cases hbig : 400 < P
    · have hbI : (400 : Int) < (P : Int) := by omega
      go_wp2
      go_ret
      exact ⟨rfl, HBX.out.trans (HB2.out.mono HBX.out.size)⟩
    have hbI : (P : Int) ≤ 400 := by omega
    obtain ⟨S, hSs⟩ : ∃ S : Nat, s % 8 = (S : Int) := ⟨(s % 8).toNat, by omega⟩
    obtain ⟨T, hTt⟩ : ∃ T : Nat, t % 8 = (T : Int) := ⟨(t % 8).toNat, by omega⟩
    have hS8 : S < 8 := by omega
    have hT8 : T < 8 := by omega
    have HSS := Lib.hid hSs
    have HTT := Lib.hid hTt
    have HXP := Lib.hid (And.intro y0 (And.intro y1 y2))
    go_wp2_with fail
    refine (turn_okP w h s a n c l _ R (HSN.out.up HB2.out) (HR.out.up HB2.out) hnm HI6.out HPP.out S HSS.out).mono ?_; rintro e w3 ⟨g3, c3, rfl, ho3, hb3⟩
    have hp1 := turn_patch (t := S) HPP.out
    have htt := turn_turn (l := l) hw1 hh1 hS8 hT8
    have hs1 := turn_sum HPP.out hS8
    have hmul := turnW_mul w h S
    rw [HPE.out] at hmul
    rw [hmul] at ho3 ⊢
    generalize hA1 : turnW w h S = A1 at ho3 hp1 htt hmul ⊢
    generalize hB1 : turnW h w S = B1 at ho3 hp1 htt hmul ⊢
    generalize hl1 : turnL w h l S = l1 at ho3 hp1 htt hs1 ⊢
    have hp2 := turn_patch (t := T) hp1
    have hs2 := turn_sum hp1 hT8
    have hmul2 := turnW_mul A1 B1 T
    rw [hmul] at hmul2
    generalize hA2 : turnW A1 B1 T = A2 at hp2 htt hmul2
    generalize hB2 : turnW B1 A1 T = B2 at hp2 htt hmul2
    generalize hl2 : turnL A1 B1 l1 T = l2 at hp2 htt hs2
    rw [hs1] at hs2
    have HHA := Lib.hid (And.intro hA2 (And.intro hB2 hl2))
    have HTU := Lib.hid htt
    have HP1 := Lib.hid hp1
    have HP2 := Lib.hid hp2
    have HSM := Lib.hid hs2
    have hA64 : A1 ≤ 64 := hp1.w2
    have hB64 : B1 ≤ 64 := hp1.h2
    have HM1 := Lib.hid hmul
    have HM2 := Lib.hid hmul2
    have hMI : (A1 : Int) * (B1 : Int) = (P : Int) := by rw [← HM1.out, Int.natCast_mul]
    clear hA1 hB1 hl1 hA2 hB2 hl2 htt hs1 hs2 hp1 hp2 hSs hTt hmul hmul2
    obtain ⟨w4, hw4⟩ : ∃ w4, w3.alloc (.cells #[.int .i64 A1, .int .i64 B1, .slice (some ⟨g3, 0, none⟩) P c3] 24) = w4 := ⟨_, rfl⟩
    have HC4 : Hid (w4.cell? ⟨w3.heap.size, 0, none⟩ = some (.int .i64 A1) ∧ w4.cell? ⟨w3.heap.size, 1, none⟩ = some (.int .i64 B1)) := by rw [← hw4]; exact ⟨cnw rfl rfl, cnw rfl rfl⟩
    have hb4 : Below w2.heap.size w2 w4 := by rw [← hw4]; exact balloc hb3 _
    have HB4 := Lib.hid (bstep HB2.out hb4)
    have HXP4 := Lib.hid (And.intro (cpa hb4 HXP.out.1) (And.intro (cpa hb4 HXP.out.2.1) (cpa hb4 HXP.out.2.2)))
    have HR4 : Hid (RK .i64 w4 (some ⟨g3, 0, none⟩) P l1) := by rw [← hw4]; exact ho3.rk.al _
    have HW4 := Lib.hid hw4
    clear hw4 hb3 hb4 ho3 y0 y1 y2
    go_wp2_with fail
    rw [HW4.out]
    refine (turn_okP A1 B1 t (some ⟨g3, 0, none⟩) P c3 l1 w4 R (HSN.out.up HB4.out) HR4.out (by unfold maxLen; omega) HP1.out.i64 HP1.out T HTT.out).mono ?_; rintro e w5 ⟨g5, c5, rfl, ho5, hb5⟩
    rw [HHA.out.1, HHA.out.2.1, HHA.out.2.2, HM2.out] at ho5
    rw [HHA.out.1, HHA.out.2.1, HM2.out]
    obtain ⟨w6, hw6⟩ : ∃ w6, w5.alloc (.cells #[.int .i64 A2, .int .i64 B2, .slice (some ⟨g5, 0, none⟩) P c5] 24) = w6 := ⟨_, rfl⟩
    have HC6 : Hid (w6.cell? ⟨w5.heap.size, 0, none⟩ = some (.int .i64 A2) ∧ w6.cell? ⟨w5.heap.size, 1, none⟩ = some (.int .i64 B2) ∧ w6.cell? ⟨w5.heap.size, 2, none⟩ = some (.slice (some ⟨g5, 0, none⟩) P c5)) := by rw [← hw6]; exact ⟨cnw rfl rfl, cnw rfl rfl, cnw rfl rfl⟩
    have hb6 : Below w4.heap.size w4 w6 := by rw [← hw6]; exact balloc hb5 _
    have HB6 := Lib.hid (bstep HB4.out hb6)
    have HXP6 := Lib.hid (And.intro (cpa hb6 HXP4.out.1) (And.intro (cpa hb6 HXP4.out.2.1) (cpa hb6 HXP4.out.2.2)))
    have HCA6 := Lib.hid (And.intro (cpa hb6 HC4.out.1) (cpa hb6 HC4.out.2))
    have HR6 : Hid (RK .i64 w6 (some ⟨g5, 0, none⟩) P l2) := by rw [← hw6]; exact ho5.rk.al _
    have HW6 := Lib.hid hw6
    have z0 : (w5.alloc (.cells #[.int .i64 A2, .int .i64 B2, .slice (some ⟨g5, 0, none⟩) P c5] 24)).cell? ⟨W.heap.size, 0, none⟩ = some (.int .i64 w) := by rw [hw6]; exact HXP6.out.1
    have z1 : (w5.alloc (.cells #[.int .i64 A2, .int .i64 B2, .slice (some ⟨g5, 0, none⟩) P c5] 24)).cell? ⟨W.heap.size, 1, none⟩ = some (.int .i64 h) := by rw [hw6]; exact HXP6.out.2.1
    have z2 : (w5.alloc (.cells #[.int .i64 A2, .int .i64 B2, .slice (some ⟨g5, 0, none⟩) P c5] 24)).cell? ⟨W.heap.size, 2, none⟩ = some (.slice a n c) := by rw [hw6]; exact HXP6.out.2.2
    clear hw6 hb5 hb6 ho5
    obtain ⟨hr1, hr2, hr3, hr4⟩ := mod8 s S HSS.out
    obtain ⟨hq1, hq2, hq3, hq4⟩ := mod8 t T HTT.out
    obtain ⟨r, hr⟩ : ∃ r, s.tmod 8 = r := ⟨_, rfl⟩
    obtain ⟨q, hq⟩ : ∃ q, t.tmod 8 = q := ⟨_, rfl⟩
    rw [hr] at hr1 hr2 hr3 hr4
    rw [hq] at hq1 hq2 hq3 hq4
    obtain ⟨U1, U2, hU1, hU2, hu1, hu2, u1m, u1e, u2m, u2e⟩ := turns_n S T hS8 hT8
    obtain ⟨rw1, rw2⟩ := mod8w hr1 hr2
    obtain ⟨qw1, qw2⟩ := mod8w hq1 hq2
    obtain ⟨Sw, Tw, STw, SDw, SD8w, U1w, U2w, U14w, U24w⟩ := turns_w hS8 hT8 hu1 hu2
    have HM8 := Lib.hid (And.intro (m8a hu1) (And.intro (m8b hu1) (And.intro (m8a hu2) (m8b hu2))))
    clear hr1 hr2 hq1 hq2 hu1 hu2 hS8 hT8
    have HU1 := Lib.hid hU1
    have HU2 := Lib.hid hU2
    have HR0 := Lib.hid hr
    have HQ0 := Lib.hid hq
    clear hU1 hU2
    by_cases hs4 : 4 ≤ S <;> by_cases ht4 : 4 ≤ T
    · have sI := ge4 hs4
      have tI := ge4 ht4
      have HBT : Hid (bothT S T = U2) := by
        show _ = _
        unfold bothT
        rw [if_pos hs4, HU2.out]
        simp [hs4, ht4]
      go_wp2_with fail
      rw [HW6.out]
      refine (turn_okP w h ((U2 : Int)) a n c l w6 R (HSN.out.up HB6.out) (HR.out.up HB6.out) hnm HI6.out HPP.out (U2) HM8.out.2.2.1).mono ?_; rintro e w7 ⟨g7, c7, rfl, ho7, hb7⟩
      have htu := HTU.out
      rw [HBT.out] at htu
      rw [← htu.1, ← htu.2.1] at ho7 ⊢
      rw [← htu.2.2, HM2.out] at ho7
      rw [HM2.out]
      obtain ⟨w8, hw8⟩ : ∃ w8, w7.alloc (.cells #[.int .i64 A2, .int .i64 B2, .slice (some ⟨g7, 0, none⟩) P c7] 24) = w8 := ⟨_, rfl⟩
      have hb8 : Below w6.heap.size w6 w8 := by rw [← hw8]; exact balloc hb7 _
      have HB68 := Lib.hid hb8
      have HB8 := Lib.hid (bstep HB6.out hb8)
      have HXP8 := Lib.hid (And.intro (cpa hb8 HXP6.out.1) (And.intro (cpa hb8 HXP6.out.2.1) (cpa hb8 HXP6.out.2.2)))
      have HCA8 := Lib.hid (And.intro (cpa hb8 HCA6.out.1) (cpa hb8 HCA6.out.2))
      have HC8 := Lib.hid (And.intro (cpa hb8 HC6.out.1) (And.intro (cpa hb8 HC6.out.2.1) (cpa hb8 HC6.out.2.2)))
      have HR8 : Hid (RK .i64 w8 (some ⟨g7, 0, none⟩) P l2) := by rw [← hw8]; exact ho7.rk.al _
      have HW8 := Lib.hid hw8
      have k0 : (w7.alloc (.cells #[.int .i64 A2, .int .i64 B2, .slice (some ⟨g7, 0, none⟩) P c7] 24)).cell? ⟨w5.heap.size, 0, none⟩ = some (.int .i64 A2) := by rw [hw8]; exact HC8.out.1
      have k1 : (w7.alloc (.cells #[.int .i64 A2, .int .i64 B2, .slice (some ⟨g7, 0, none⟩) P c7] 24)).cell? ⟨w5.heap.size, 1, none⟩ = some (.int .i64 B2) := by rw [hw8]; exact HC8.out.2.1
      have k2 : (w7.alloc (.cells #[.int .i64 A2, .int .i64 B2, .slice (some ⟨g7, 0, none⟩) P c7] 24)).cell? ⟨w5.heap.size, 2, none⟩ = some (.slice (some ⟨g5, 0, none⟩) P c5) := by rw [hw8]; exact HC8.out.2.2
      clear hw8 hb8 hb7 ho7 htu rw1 rw2 qw1 qw2 Sw Tw STw SDw SD8w U1w U2w U14w U24w hr hq u1m u1e u2m u2e z0 z1 z2
      go_wp2_with fail
      rw [HW8.out]
      refine (patches_eq A2 B2 (some ⟨g5, 0, none⟩) (some ⟨g7, 0, none⟩) P P c5 c7 l2 w8 (HR6.out.up HB68.out) HR8.out (by rw [← HR8.out.len]; unfold maxLen; omega)).mono ?_; rintro e w9 ⟨rfl, hb9⟩
      have HB9 := Lib.hid (bstep HB8.out hb9)
      have HB89 := Lib.hid hb9
      have HXP9 := Lib.hid (And.intro (cpa hb9 HXP8.out.1) (And.intro (cpa hb9 HXP8.out.2.1) (cpa hb9 HXP8.out.2.2)))
      have HCA9 := Lib.hid (And.intro (cpa hb9 HCA8.out.1) (cpa hb9 HCA8.out.2))
      have HC9 := Lib.hid (And.intro (cpa hb9 HC8.out.1) (And.intro (cpa hb9 HC8.out.2.1) (cpa hb9 HC8.out.2.2)))
      clear hb9 k0 k1 k2
      have v2 := HXP9.out.2.2
      have u2 := HC9.out.2.2
      have hnP : n = P := by have := (HR.out).len; have := HPP.out.len; have := HPE.out; omega
      have hP0 : P ≤ 400 := by omega
      have hn0 : n ≤ 400 := by omega
      have HNP := Lib.hid hnP
      clear hnP
      have HR9 := Lib.hid (HR.out.up HB9.out)
      go_wp2
      go_loop [14, 15] (fun ox ix => ∃ i : Nat, i ≤ n ∧ ix = .int .i64 i ∧ ox = .int .i64 (l.take i).sum) (fun _ ix => n - (intOf ix).toNat)
      case atStart => exact ⟨0, by omega, rfl, rfl⟩
      case round =>
        obtain ⟨i, hi, rfl, rfl⟩ := hrel
        by_cases hin : i < n
        · obtain ⟨ab, ao, rfl, hab, hcell⟩ := HR9.out.addr (by omega)
          have z0 := hcell i hin
          have hbd := take_sum_bd HPP.out.sym i
          have hbd2 := take_sum_bd HPP.out.sym (i + 1)
          have hsu := take_sum_succ (l := l) (i := i) (by rw [← HR.out.len]; exact hin)
          have i0 : (0 : Int) ≤ (i : Int) := by omega
          have i1 : (i : Int) < (n : Int) := by omega
          have iw : IntKind.i64.wrap ((i : Int) + 1) = (i : Int) + 1 := IntWalk.i64_in _ (by omega)
          have sw : IntKind.i64.wrap ((l.take i).sum + l.getD i 0) = (l.take i).sum + l.getD i 0 := IntWalk.i64_in _ (by omega)
          have HSU := Lib.hid hsu
          clear hcell hbd hbd2 hsu
          generalize l.getD i 0 = u at z0 sw HSU
          go_wp2
          go_round
          case rel => exact ⟨i + 1, by omega, by go_num, by rw [HSU.out]⟩
          case measure => simp [intOf]; omega
        · obtain rfl : n = i := by omega
          have et : l.take n = l := List.take_of_length_le (by rw [← HR.out.len]; exact Nat.le_refl _)
          rw [et]
          have HSB := Lib.hid (take_sum_bd HPP.out.sym n)
          rw [et] at HSB
          have HR9B := Lib.hid (HR6.out.up (Below.trans HB68.out ((HB89.out).mono HB68.out.size)))
          clear et
          go_wp2
          go_loop [14, 16] (fun ox ix => ∃ i : Nat, i ≤ P ∧ ix = .int .i64 i ∧ ox = .int .i64 (l.sum - (l2.take i).sum)) (fun _ ix => P - (intOf ix).toNat)
          case atStart => exact ⟨0, by omega, rfl, by simp⟩
          case round =>
            obtain ⟨i, hi, rfl, rfl⟩ := hrel
            by_cases hin : i < P
            · obtain ⟨ab, ao, hab0, hab, hcell⟩ := HR9B.out.addr (by omega)
              cases hab0
              have z0 := hcell i hin
              rw [Nat.zero_add] at z0
              have hbd := take_sum_bd HP2.out.sym i
              have hbd2 := take_sum_bd HP2.out.sym (i + 1)
              have hsb := HSB.out
              have hsu := take_sum_succ (l := l2) (i := i) (by rw [← HR9B.out.len]; exact hin)
              have i0 : (0 : Int) ≤ (i : Int) := by omega
              have i1 : (i : Int) < (P : Int) := by omega
              have iw : IntKind.i64.wrap ((i : Int) + 1) = (i : Int) + 1 := IntWalk.i64_in _ (by omega)
              have sw : IntKind.i64.wrap (l.sum - (l2.take i).sum - l2.getD i 0) = l.sum - (l2.take i).sum - l2.getD i 0 := IntWalk.i64_in _ (by omega)
              have HSU := Lib.hid hsu
              clear hcell hbd hbd2 hsu hsb
              generalize l2.getD i 0 = u at z0 sw HSU
              go_wp2
              go_round
              case rel => exact ⟨i + 1, by omega, by go_num, by rw [HSU.out]; congr 1; omega⟩
              case measure => simp [intOf]; omega
            · obtain rfl : P = i := by omega
              have et2 : l2.take P = l2 := List.take_of_length_le (by rw [← HR9B.out.len]; exact Nat.le_refl _)
              have e0 : l.sum - l2.sum = 0 := by rw [HSM.out]; omega
              rw [et2, e0]
              have x0 := HXP9.out.1
              have x1 := HXP9.out.2.1
              clear et2 e0
              go_wp2_with fail
              refine (turn_okP w h 0 a n c l w9 R (HSN.out.up HB9.out) HR9.out hnm HI6.out HPP.out 0 (by decide)).mono ?_; rintro e w10 ⟨g10, c10, rfl, ho10, hb10⟩
              rw [show turnL w h l 0 = l from made_atL (w := w) (h := h) (show 0 < w by omega) HPP.out.len, show turnW w h 0 = w from rfl, show turnW h w 0 = h from rfl, HPE.out] at ho10
              rw [show turnW w h 0 = w from rfl, show turnW h w 0 = h from rfl, HPE.out]
              obtain ⟨w11, hw11⟩ : ∃ w11, w10.alloc (.cells #[.int .i64 w, .int .i64 h, .slice (some ⟨g10, 0, none⟩) P c10] 24) = w11 := ⟨_, rfl⟩
              have hb11 : Below w9.heap.size w9 w11 := by rw [← hw11]; exact balloc hb10 _
              have HB11 := Lib.hid (bstep HB9.out hb11)
              have HXP11 := Lib.hid (And.intro (cpa hb11 HXP9.out.1) (And.intro (cpa hb11 HXP9.out.2.1) (cpa hb11 HXP9.out.2.2)))
              have HCA11 := Lib.hid (And.intro (cpa hb11 HCA9.out.1) (cpa hb11 HCA9.out.2))
              have HR11 : Hid (RK .i64 w11 (some ⟨g10, 0, none⟩) P l) := by rw [← hw11]; exact ho10.rk.al _
              have HRP11 := Lib.hid (HR9.out.up hb11)
              have HW11 := Lib.hid hw11
              have k0 : (w10.alloc (.cells #[.int .i64 w, .int .i64 h, .slice (some ⟨g10, 0, none⟩) P c10] 24)).cell? ⟨W.heap.size, 0, none⟩ = some (.int .i64 w) := by rw [hw11]; exact HXP11.out.1
              have k1 : (w10.alloc (.cells #[.int .i64 w, .int .i64 h, .slice (some ⟨g10, 0, none⟩) P c10] 24)).cell? ⟨W.heap.size, 1, none⟩ = some (.int .i64 h) := by rw [hw11]; exact HXP11.out.2.1
              have k2 : (w10.alloc (.cells #[.int .i64 w, .int .i64 h, .slice (some ⟨g10, 0, none⟩) P c10] 24)).cell? ⟨W.heap.size, 2, none⟩ = some (.slice a n c) := by rw [hw11]; exact HXP11.out.2.2
              clear hw11 hb10 hb11 ho10 x0 x1 v2 u2
              go_wp2_with fail
              rw [HW11.out]
              refine (patches_eq w h (some ⟨g10, 0, none⟩) a P n c10 c l w11 HR11.out HRP11.out (by rw [← HR11.out.len]; unfold maxLen; omega)).mono ?_; rintro e w12 ⟨rfl, hb12⟩
              have y0 := cpa hb12 HXP11.out.1
              have y1 := cpa hb12 HXP11.out.2.1
              have a0 := cpa hb12 HCA11.out.1
              have a1 := cpa hb12 HCA11.out.2
              have HB12 := Lib.hid (bstep HB11.out hb12)
              clear hb12 k0 k1 k2
              go_wp2
              go_ret
              exact ⟨rfl, HBX.out.trans (HB12.out.mono HBX.out.size)⟩
    · have sI := ge4 hs4
      have tI := lt4 ht4
      have tD := lt4d ht4
      have HBT : Hid (bothT S T = U2 + 4) := by
        show _ = _
        unfold bothT
        rw [if_pos hs4, HU2.out]
        simp [hs4, ht4]
      go_wp2_with fail
      rw [HW6.out]
      refine (turn_okP w h ((U2 : Int) + 4) a n c l w6 R (HSN.out.up HB6.out) (HR.out.up HB6.out) hnm HI6.out HPP.out (U2 + 4) HM8.out.2.2.2).mono ?_; rintro e w7 ⟨g7, c7, rfl, ho7, hb7⟩
      have htu := HTU.out
      rw [HBT.out] at htu
      rw [← htu.1, ← htu.2.1] at ho7 ⊢
      rw [← htu.2.2, HM2.out] at ho7
      rw [HM2.out]
      obtain ⟨w8, hw8⟩ : ∃ w8, w7.alloc (.cells #[.int .i64 A2, .int .i64 B2, .slice (some ⟨g7, 0, none⟩) P c7] 24) = w8 := ⟨_, rfl⟩
      have hb8 : Below w6.heap.size w6 w8 := by rw [← hw8]; exact balloc hb7 _
      have HB68 := Lib.hid hb8
      have HB8 := Lib.hid (bstep HB6.out hb8)
      have HXP8 := Lib.hid (And.intro (cpa hb8 HXP6.out.1) (And.intro (cpa hb8 HXP6.out.2.1) (cpa hb8 HXP6.out.2.2)))
      have HCA8 := Lib.hid (And.intro (cpa hb8 HCA6.out.1) (cpa hb8 HCA6.out.2))
      have HC8 := Lib.hid (And.intro (cpa hb8 HC6.out.1) (And.intro (cpa hb8 HC6.out.2.1) (cpa hb8 HC6.out.2.2)))
      have HR8 : Hid (RK .i64 w8 (some ⟨g7, 0, none⟩) P l2) := by rw [← hw8]; exact ho7.rk.al _
      have HW8 := Lib.hid hw8
      have k0 : (w7.alloc (.cells #[.int .i64 A2, .int .i64 B2, .slice (some ⟨g7, 0, none⟩) P c7] 24)).cell? ⟨w5.heap.size, 0, none⟩ = some (.int .i64 A2) := by rw [hw8]; exact HC8.out.1
      have k1 : (w7.alloc (.cells #[.int .i64 A2, .int .i64 B2, .slice (some ⟨g7, 0, none⟩) P c7] 24)).cell? ⟨w5.heap.size, 1, none⟩ = some (.int .i64 B2) := by rw [hw8]; exact HC8.out.2.1
      have k2 : (w7.alloc (.cells #[.int .i64 A2, .int .i64 B2, .slice (some ⟨g7, 0, none⟩) P c7] 24)).cell? ⟨w5.heap.size, 2, none⟩ = some (.slice (some ⟨g5, 0, none⟩) P c5) := by rw [hw8]; exact HC8.out.2.2
      clear hw8 hb8 hb7 ho7 htu rw1 rw2 qw1 qw2 Sw Tw STw SDw SD8w U1w U2w U14w U24w hr hq u1m u1e u2m u2e z0 z1 z2
      go_wp2_with fail
      rw [HW8.out]
      refine (patches_eq A2 B2 (some ⟨g5, 0, none⟩) (some ⟨g7, 0, none⟩) P P c5 c7 l2 w8 (HR6.out.up HB68.out) HR8.out (by rw [← HR8.out.len]; unfold maxLen; omega)).mono ?_; rintro e w9 ⟨rfl, hb9⟩
      have HB9 := Lib.hid (bstep HB8.out hb9)
      have HB89 := Lib.hid hb9
      have HXP9 := Lib.hid (And.intro (cpa hb9 HXP8.out.1) (And.intro (cpa hb9 HXP8.out.2.1) (cpa hb9 HXP8.out.2.2)))
      have HCA9 := Lib.hid (And.intro (cpa hb9 HCA8.out.1) (cpa hb9 HCA8.out.2))
      have HC9 := Lib.hid (And.intro (cpa hb9 HC8.out.1) (And.intro (cpa hb9 HC8.out.2.1) (cpa hb9 HC8.out.2.2)))
      clear hb9 k0 k1 k2
      have v2 := HXP9.out.2.2
      have u2 := HC9.out.2.2
      have hnP : n = P := by have := (HR.out).len; have := HPP.out.len; have := HPE.out; omega
      have hP0 : P ≤ 400 := by omega
      have hn0 : n ≤ 400 := by omega
      have HNP := Lib.hid hnP
      clear hnP
      have HR9 := Lib.hid (HR.out.up HB9.out)
      go_wp2
      go_loop [14, 15] (fun ox ix => ∃ i : Nat, i ≤ n ∧ ix = .int .i64 i ∧ ox = .int .i64 (l.take i).sum) (fun _ ix => n - (intOf ix).toNat)
      case atStart => exact ⟨0, by omega, rfl, rfl⟩
      case round =>
        obtain ⟨i, hi, rfl, rfl⟩ := hrel
        by_cases hin : i < n
        · obtain ⟨ab, ao, rfl, hab, hcell⟩ := HR9.out.addr (by omega)
          have z0 := hcell i hin
          have hbd := take_sum_bd HPP.out.sym i
          have hbd2 := take_sum_bd HPP.out.sym (i + 1)
          have hsu := take_sum_succ (l := l) (i := i) (by rw [← HR.out.len]; exact hin)
          have i0 : (0 : Int) ≤ (i : Int) := by omega
          have i1 : (i : Int) < (n : Int) := by omega
          have iw : IntKind.i64.wrap ((i : Int) + 1) = (i : Int) + 1 := IntWalk.i64_in _ (by omega)
          have sw : IntKind.i64.wrap ((l.take i).sum + l.getD i 0) = (l.take i).sum + l.getD i 0 := IntWalk.i64_in _ (by omega)
          have HSU := Lib.hid hsu
          clear hcell hbd hbd2 hsu
          generalize l.getD i 0 = u at z0 sw HSU
          go_wp2
          go_round
          case rel => exact ⟨i + 1, by omega, by go_num, by rw [HSU.out]⟩
          case measure => simp [intOf]; omega
        · obtain rfl : n = i := by omega
          have et : l.take n = l := List.take_of_length_le (by rw [← HR.out.len]; exact Nat.le_refl _)
          rw [et]
          have HSB := Lib.hid (take_sum_bd HPP.out.sym n)
          rw [et] at HSB
          have HR9B := Lib.hid (HR6.out.up (Below.trans HB68.out ((HB89.out).mono HB68.out.size)))
          clear et
          go_wp2
          go_loop [14, 16] (fun ox ix => ∃ i : Nat, i ≤ P ∧ ix = .int .i64 i ∧ ox = .int .i64 (l.sum - (l2.take i).sum)) (fun _ ix => P - (intOf ix).toNat)
          case atStart => exact ⟨0, by omega, rfl, by simp⟩
          case round =>
            obtain ⟨i, hi, rfl, rfl⟩ := hrel
            by_cases hin : i < P
            · obtain ⟨ab, ao, hab0, hab, hcell⟩ := HR9B.out.addr (by omega)
              cases hab0
              have z0 := hcell i hin
              rw [Nat.zero_add] at z0
              have hbd := take_sum_bd HP2.out.sym i
              have hbd2 := take_sum_bd HP2.out.sym (i + 1)
              have hsb := HSB.out
              have hsu := take_sum_succ (l := l2) (i := i) (by rw [← HR9B.out.len]; exact hin)
              have i0 : (0 : Int) ≤ (i : Int) := by omega
              have i1 : (i : Int) < (P : Int) := by omega
              have iw : IntKind.i64.wrap ((i : Int) + 1) = (i : Int) + 1 := IntWalk.i64_in _ (by omega)
              have sw : IntKind.i64.wrap (l.sum - (l2.take i).sum - l2.getD i 0) = l.sum - (l2.take i).sum - l2.getD i 0 := IntWalk.i64_in _ (by omega)
              have HSU := Lib.hid hsu
              clear hcell hbd hbd2 hsu hsb
              generalize l2.getD i 0 = u at z0 sw HSU
              go_wp2
              go_round
              case rel => exact ⟨i + 1, by omega, by go_num, by rw [HSU.out]; congr 1; omega⟩
              case measure => simp [intOf]; omega
            · obtain rfl : P = i := by omega
              have et2 : l2.take P = l2 := List.take_of_length_le (by rw [← HR9B.out.len]; exact Nat.le_refl _)
              have e0 : l.sum - l2.sum = 0 := by rw [HSM.out]; omega
              rw [et2, e0]
              have x0 := HXP9.out.1
              have x1 := HXP9.out.2.1
              clear et2 e0
              go_wp2_with fail
              refine (turn_okP w h 0 a n c l w9 R (HSN.out.up HB9.out) HR9.out hnm HI6.out HPP.out 0 (by decide)).mono ?_; rintro e w10 ⟨g10, c10, rfl, ho10, hb10⟩
              rw [show turnL w h l 0 = l from made_atL (w := w) (h := h) (show 0 < w by omega) HPP.out.len, show turnW w h 0 = w from rfl, show turnW h w 0 = h from rfl, HPE.out] at ho10
              rw [show turnW w h 0 = w from rfl, show turnW h w 0 = h from rfl, HPE.out]
              obtain ⟨w11, hw11⟩ : ∃ w11, w10.alloc (.cells #[.int .i64 w, .int .i64 h, .slice (some ⟨g10, 0, none⟩) P c10] 24) = w11 := ⟨_, rfl⟩
              have hb11 : Below w9.heap.size w9 w11 := by rw [← hw11]; exact balloc hb10 _
              have HB11 := Lib.hid (bstep HB9.out hb11)
              have HXP11 := Lib.hid (And.intro (cpa hb11 HXP9.out.1) (And.intro (cpa hb11 HXP9.out.2.1) (cpa hb11 HXP9.out.2.2)))
              have HCA11 := Lib.hid (And.intro (cpa hb11 HCA9.out.1) (cpa hb11 HCA9.out.2))
              have HR11 : Hid (RK .i64 w11 (some ⟨g10, 0, none⟩) P l) := by rw [← hw11]; exact ho10.rk.al _
              have HRP11 := Lib.hid (HR9.out.up hb11)
              have HW11 := Lib.hid hw11
              have k0 : (w10.alloc (.cells #[.int .i64 w, .int .i64 h, .slice (some ⟨g10, 0, none⟩) P c10] 24)).cell? ⟨W.heap.size, 0, none⟩ = some (.int .i64 w) := by rw [hw11]; exact HXP11.out.1
              have k1 : (w10.alloc (.cells #[.int .i64 w, .int .i64 h, .slice (some ⟨g10, 0, none⟩) P c10] 24)).cell? ⟨W.heap.size, 1, none⟩ = some (.int .i64 h) := by rw [hw11]; exact HXP11.out.2.1
              have k2 : (w10.alloc (.cells #[.int .i64 w, .int .i64 h, .slice (some ⟨g10, 0, none⟩) P c10] 24)).cell? ⟨W.heap.size, 2, none⟩ = some (.slice a n c) := by rw [hw11]; exact HXP11.out.2.2
              clear hw11 hb10 hb11 ho10 x0 x1 v2 u2
              go_wp2_with fail
              rw [HW11.out]
              refine (patches_eq w h (some ⟨g10, 0, none⟩) a P n c10 c l w11 HR11.out HRP11.out (by rw [← HR11.out.len]; unfold maxLen; omega)).mono ?_; rintro e w12 ⟨rfl, hb12⟩
              have y0 := cpa hb12 HXP11.out.1
              have y1 := cpa hb12 HXP11.out.2.1
              have a0 := cpa hb12 HCA11.out.1
              have a1 := cpa hb12 HCA11.out.2
              have HB12 := Lib.hid (bstep HB11.out hb12)
              clear hb12 k0 k1 k2
              go_wp2
              go_ret
              exact ⟨rfl, HBX.out.trans (HB12.out.mono HBX.out.size)⟩
    · have sI := lt4 hs4
      have tI := ge4 ht4
      have sD := lt4d hs4
      have HBT : Hid (bothT S T = U1 + 4) := by
        show _ = _
        unfold bothT
        rw [if_neg hs4, HU1.out]
        simp [hs4, ht4]
      go_wp2_with fail
      rw [HW6.out]
      refine (turn_okP w h ((U1 : Int) + 4) a n c l w6 R (HSN.out.up HB6.out) (HR.out.up HB6.out) hnm HI6.out HPP.out (U1 + 4) HM8.out.2.1).mono ?_; rintro e w7 ⟨g7, c7, rfl, ho7, hb7⟩
      have htu := HTU.out
      rw [HBT.out] at htu
      rw [← htu.1, ← htu.2.1] at ho7 ⊢
      rw [← htu.2.2, HM2.out] at ho7
      rw [HM2.out]
      obtain ⟨w8, hw8⟩ : ∃ w8, w7.alloc (.cells #[.int .i64 A2, .int .i64 B2, .slice (some ⟨g7, 0, none⟩) P c7] 24) = w8 := ⟨_, rfl⟩
      have hb8 : Below w6.heap.size w6 w8 := by rw [← hw8]; exact balloc hb7 _
      have HB68 := Lib.hid hb8
      have HB8 := Lib.hid (bstep HB6.out hb8)
      have HXP8 := Lib.hid (And.intro (cpa hb8 HXP6.out.1) (And.intro (cpa hb8 HXP6.out.2.1) (cpa hb8 HXP6.out.2.2)))
      have HCA8 := Lib.hid (And.intro (cpa hb8 HCA6.out.1) (cpa hb8 HCA6.out.2))
      have HC8 := Lib.hid (And.intro (cpa hb8 HC6.out.1) (And.intro (cpa hb8 HC6.out.2.1) (cpa hb8 HC6.out.2.2)))
      have HR8 : Hid (RK .i64 w8 (some ⟨g7, 0, none⟩) P l2) := by rw [← hw8]; exact ho7.rk.al _
      have HW8 := Lib.hid hw8
      have k0 : (w7.alloc (.cells #[.int .i64 A2, .int .i64 B2, .slice (some ⟨g7, 0, none⟩) P c7] 24)).cell? ⟨w5.heap.size, 0, none⟩ = some (.int .i64 A2) := by rw [hw8]; exact HC8.out.1
      have k1 : (w7.alloc (.cells #[.int .i64 A2, .int .i64 B2, .slice (some ⟨g7, 0, none⟩) P c7] 24)).cell? ⟨w5.heap.size, 1, none⟩ = some (.int .i64 B2) := by rw [hw8]; exact HC8.out.2.1
      have k2 : (w7.alloc (.cells #[.int .i64 A2, .int .i64 B2, .slice (some ⟨g7, 0, none⟩) P c7] 24)).cell? ⟨w5.heap.size, 2, none⟩ = some (.slice (some ⟨g5, 0, none⟩) P c5) := by rw [hw8]; exact HC8.out.2.2
      clear hw8 hb8 hb7 ho7 htu rw1 rw2 qw1 qw2 Sw Tw STw SDw SD8w U1w U2w U14w U24w hr hq u1m u1e u2m u2e z0 z1 z2
      go_wp2_with fail
      rw [HW8.out]
      refine (patches_eq A2 B2 (some ⟨g5, 0, none⟩) (some ⟨g7, 0, none⟩) P P c5 c7 l2 w8 (HR6.out.up HB68.out) HR8.out (by rw [← HR8.out.len]; unfold maxLen; omega)).mono ?_; rintro e w9 ⟨rfl, hb9⟩
      have HB9 := Lib.hid (bstep HB8.out hb9)
      have HB89 := Lib.hid hb9
      have HXP9 := Lib.hid (And.intro (cpa hb9 HXP8.out.1) (And.intro (cpa hb9 HXP8.out.2.1) (cpa hb9 HXP8.out.2.2)))
      have HCA9 := Lib.hid (And.intro (cpa hb9 HCA8.out.1) (cpa hb9 HCA8.out.2))
      have HC9 := Lib.hid (And.intro (cpa hb9 HC8.out.1) (And.intro (cpa hb9 HC8.out.2.1) (cpa hb9 HC8.out.2.2)))
      clear hb9 k0 k1 k2
      have v2 := HXP9.out.2.2
      have u2 := HC9.out.2.2
      have hnP : n = P := by have := (HR.out).len; have := HPP.out.len; have := HPE.out; omega
      have hP0 : P ≤ 400 := by omega
      have hn0 : n ≤ 400 := by omega
      have HNP := Lib.hid hnP
      clear hnP
      have HR9 := Lib.hid (HR.out.up HB9.out)
      go_wp2
      go_loop [14, 15] (fun ox ix => ∃ i : Nat, i ≤ n ∧ ix = .int .i64 i ∧ ox = .int .i64 (l.take i).sum) (fun _ ix => n - (intOf ix).toNat)
      case atStart => exact ⟨0, by omega, rfl, rfl⟩
      case round =>
        obtain ⟨i, hi, rfl, rfl⟩ := hrel
        by_cases hin : i < n
        · obtain ⟨ab, ao, rfl, hab, hcell⟩ := HR9.out.addr (by omega)
          have z0 := hcell i hin
          have hbd := take_sum_bd HPP.out.sym i
          have hbd2 := take_sum_bd HPP.out.sym (i + 1)
          have hsu := take_sum_succ (l := l) (i := i) (by rw [← HR.out.len]; exact hin)
          have i0 : (0 : Int) ≤ (i : Int) := by omega
          have i1 : (i : Int) < (n : Int) := by omega
          have iw : IntKind.i64.wrap ((i : Int) + 1) = (i : Int) + 1 := IntWalk.i64_in _ (by omega)
          have sw : IntKind.i64.wrap ((l.take i).sum + l.getD i 0) = (l.take i).sum + l.getD i 0 := IntWalk.i64_in _ (by omega)
          have HSU := Lib.hid hsu
          clear hcell hbd hbd2 hsu
          generalize l.getD i 0 = u at z0 sw HSU
          go_wp2
          go_round
          case rel => exact ⟨i + 1, by omega, by go_num, by rw [HSU.out]⟩
          case measure => simp [intOf]; omega
        · obtain rfl : n = i := by omega
          have et : l.take n = l := List.take_of_length_le (by rw [← HR.out.len]; exact Nat.le_refl _)
          rw [et]
          have HSB := Lib.hid (take_sum_bd HPP.out.sym n)
          rw [et] at HSB
          have HR9B := Lib.hid (HR6.out.up (Below.trans HB68.out ((HB89.out).mono HB68.out.size)))
          clear et
          go_wp2
          go_loop [14, 16] (fun ox ix => ∃ i : Nat, i ≤ P ∧ ix = .int .i64 i ∧ ox = .int .i64 (l.sum - (l2.take i).sum)) (fun _ ix => P - (intOf ix).toNat)
          case atStart => exact ⟨0, by omega, rfl, by simp⟩
          case round =>
            obtain ⟨i, hi, rfl, rfl⟩ := hrel
            by_cases hin : i < P
            · obtain ⟨ab, ao, hab0, hab, hcell⟩ := HR9B.out.addr (by omega)
              cases hab0
              have z0 := hcell i hin
              rw [Nat.zero_add] at z0
              have hbd := take_sum_bd HP2.out.sym i
              have hbd2 := take_sum_bd HP2.out.sym (i + 1)
              have hsb := HSB.out
              have hsu := take_sum_succ (l := l2) (i := i) (by rw [← HR9B.out.len]; exact hin)
              have i0 : (0 : Int) ≤ (i : Int) := by omega
              have i1 : (i : Int) < (P : Int) := by omega
              have iw : IntKind.i64.wrap ((i : Int) + 1) = (i : Int) + 1 := IntWalk.i64_in _ (by omega)
              have sw : IntKind.i64.wrap (l.sum - (l2.take i).sum - l2.getD i 0) = l.sum - (l2.take i).sum - l2.getD i 0 := IntWalk.i64_in _ (by omega)
              have HSU := Lib.hid hsu
              clear hcell hbd hbd2 hsu hsb
              generalize l2.getD i 0 = u at z0 sw HSU
              go_wp2
              go_round
              case rel => exact ⟨i + 1, by omega, by go_num, by rw [HSU.out]; congr 1; omega⟩
              case measure => simp [intOf]; omega
            · obtain rfl : P = i := by omega
              have et2 : l2.take P = l2 := List.take_of_length_le (by rw [← HR9B.out.len]; exact Nat.le_refl _)
              have e0 : l.sum - l2.sum = 0 := by rw [HSM.out]; omega
              rw [et2, e0]
              have x0 := HXP9.out.1
              have x1 := HXP9.out.2.1
              clear et2 e0
              go_wp2_with fail
              refine (turn_okP w h 0 a n c l w9 R (HSN.out.up HB9.out) HR9.out hnm HI6.out HPP.out 0 (by decide)).mono ?_; rintro e w10 ⟨g10, c10, rfl, ho10, hb10⟩
              rw [show turnL w h l 0 = l from made_atL (w := w) (h := h) (show 0 < w by omega) HPP.out.len, show turnW w h 0 = w from rfl, show turnW h w 0 = h from rfl, HPE.out] at ho10
              rw [show turnW w h 0 = w from rfl, show turnW h w 0 = h from rfl, HPE.out]
              obtain ⟨w11, hw11⟩ : ∃ w11, w10.alloc (.cells #[.int .i64 w, .int .i64 h, .slice (some ⟨g10, 0, none⟩) P c10] 24) = w11 := ⟨_, rfl⟩
              have hb11 : Below w9.heap.size w9 w11 := by rw [← hw11]; exact balloc hb10 _
              have HB11 := Lib.hid (bstep HB9.out hb11)
              have HXP11 := Lib.hid (And.intro (cpa hb11 HXP9.out.1) (And.intro (cpa hb11 HXP9.out.2.1) (cpa hb11 HXP9.out.2.2)))
              have HCA11 := Lib.hid (And.intro (cpa hb11 HCA9.out.1) (cpa hb11 HCA9.out.2))
              have HR11 : Hid (RK .i64 w11 (some ⟨g10, 0, none⟩) P l) := by rw [← hw11]; exact ho10.rk.al _
              have HRP11 := Lib.hid (HR9.out.up hb11)
              have HW11 := Lib.hid hw11
              have k0 : (w10.alloc (.cells #[.int .i64 w, .int .i64 h, .slice (some ⟨g10, 0, none⟩) P c10] 24)).cell? ⟨W.heap.size, 0, none⟩ = some (.int .i64 w) := by rw [hw11]; exact HXP11.out.1
              have k1 : (w10.alloc (.cells #[.int .i64 w, .int .i64 h, .slice (some ⟨g10, 0, none⟩) P c10] 24)).cell? ⟨W.heap.size, 1, none⟩ = some (.int .i64 h) := by rw [hw11]; exact HXP11.out.2.1
              have k2 : (w10.alloc (.cells #[.int .i64 w, .int .i64 h, .slice (some ⟨g10, 0, none⟩) P c10] 24)).cell? ⟨W.heap.size, 2, none⟩ = some (.slice a n c) := by rw [hw11]; exact HXP11.out.2.2
              clear hw11 hb10 hb11 ho10 x0 x1 v2 u2
              go_wp2_with fail
              rw [HW11.out]
              refine (patches_eq w h (some ⟨g10, 0, none⟩) a P n c10 c l w11 HR11.out HRP11.out (by rw [← HR11.out.len]; unfold maxLen; omega)).mono ?_; rintro e w12 ⟨rfl, hb12⟩
              have y0 := cpa hb12 HXP11.out.1
              have y1 := cpa hb12 HXP11.out.2.1
              have a0 := cpa hb12 HCA11.out.1
              have a1 := cpa hb12 HCA11.out.2
              have HB12 := Lib.hid (bstep HB11.out hb12)
              clear hb12 k0 k1 k2
              go_wp2
              go_ret
              exact ⟨rfl, HBX.out.trans (HB12.out.mono HBX.out.size)⟩
    · have sI := lt4 hs4
      have tI := lt4 ht4
      have sD := lt4d hs4
      have tD := lt4d ht4
      have HBT : Hid (bothT S T = U1) := by
        show _ = _
        unfold bothT
        rw [if_neg hs4, HU1.out]
        simp [hs4, ht4]
      go_wp2_with fail
      rw [HW6.out]
      refine (turn_okP w h ((U1 : Int)) a n c l w6 R (HSN.out.up HB6.out) (HR.out.up HB6.out) hnm HI6.out HPP.out (U1) HM8.out.1).mono ?_; rintro e w7 ⟨g7, c7, rfl, ho7, hb7⟩
      have htu := HTU.out
      rw [HBT.out] at htu
      rw [← htu.1, ← htu.2.1] at ho7 ⊢
      rw [← htu.2.2, HM2.out] at ho7
      rw [HM2.out]
      obtain ⟨w8, hw8⟩ : ∃ w8, w7.alloc (.cells #[.int .i64 A2, .int .i64 B2, .slice (some ⟨g7, 0, none⟩) P c7] 24) = w8 := ⟨_, rfl⟩
      have hb8 : Below w6.heap.size w6 w8 := by rw [← hw8]; exact balloc hb7 _
      have HB68 := Lib.hid hb8
      have HB8 := Lib.hid (bstep HB6.out hb8)
      have HXP8 := Lib.hid (And.intro (cpa hb8 HXP6.out.1) (And.intro (cpa hb8 HXP6.out.2.1) (cpa hb8 HXP6.out.2.2)))
      have HCA8 := Lib.hid (And.intro (cpa hb8 HCA6.out.1) (cpa hb8 HCA6.out.2))
      have HC8 := Lib.hid (And.intro (cpa hb8 HC6.out.1) (And.intro (cpa hb8 HC6.out.2.1) (cpa hb8 HC6.out.2.2)))
      have HR8 : Hid (RK .i64 w8 (some ⟨g7, 0, none⟩) P l2) := by rw [← hw8]; exact ho7.rk.al _
      have HW8 := Lib.hid hw8
      have k0 : (w7.alloc (.cells #[.int .i64 A2, .int .i64 B2, .slice (some ⟨g7, 0, none⟩) P c7] 24)).cell? ⟨w5.heap.size, 0, none⟩ = some (.int .i64 A2) := by rw [hw8]; exact HC8.out.1
      have k1 : (w7.alloc (.cells #[.int .i64 A2, .int .i64 B2, .slice (some ⟨g7, 0, none⟩) P c7] 24)).cell? ⟨w5.heap.size, 1, none⟩ = some (.int .i64 B2) := by rw [hw8]; exact HC8.out.2.1
      have k2 : (w7.alloc (.cells #[.int .i64 A2, .int .i64 B2, .slice (some ⟨g7, 0, none⟩) P c7] 24)).cell? ⟨w5.heap.size, 2, none⟩ = some (.slice (some ⟨g5, 0, none⟩) P c5) := by rw [hw8]; exact HC8.out.2.2
      clear hw8 hb8 hb7 ho7 htu rw1 rw2 qw1 qw2 Sw Tw STw SDw SD8w U1w U2w U14w U24w hr hq u1m u1e u2m u2e z0 z1 z2
      go_wp2_with fail
      rw [HW8.out]
      refine (patches_eq A2 B2 (some ⟨g5, 0, none⟩) (some ⟨g7, 0, none⟩) P P c5 c7 l2 w8 (HR6.out.up HB68.out) HR8.out (by rw [← HR8.out.len]; unfold maxLen; omega)).mono ?_; rintro e w9 ⟨rfl, hb9⟩
      have HB9 := Lib.hid (bstep HB8.out hb9)
      have HB89 := Lib.hid hb9
      have HXP9 := Lib.hid (And.intro (cpa hb9 HXP8.out.1) (And.intro (cpa hb9 HXP8.out.2.1) (cpa hb9 HXP8.out.2.2)))
      have HCA9 := Lib.hid (And.intro (cpa hb9 HCA8.out.1) (cpa hb9 HCA8.out.2))
      have HC9 := Lib.hid (And.intro (cpa hb9 HC8.out.1) (And.intro (cpa hb9 HC8.out.2.1) (cpa hb9 HC8.out.2.2)))
      clear hb9 k0 k1 k2
      have v2 := HXP9.out.2.2
      have u2 := HC9.out.2.2
      have hnP : n = P := by have := (HR.out).len; have := HPP.out.len; have := HPE.out; omega
      have hP0 : P ≤ 400 := by omega
      have hn0 : n ≤ 400 := by omega
      have HNP := Lib.hid hnP
      clear hnP
      have HR9 := Lib.hid (HR.out.up HB9.out)
      go_wp2
      go_loop [14, 15] (fun ox ix => ∃ i : Nat, i ≤ n ∧ ix = .int .i64 i ∧ ox = .int .i64 (l.take i).sum) (fun _ ix => n - (intOf ix).toNat)
      case atStart => exact ⟨0, by omega, rfl, rfl⟩
      case round =>
        obtain ⟨i, hi, rfl, rfl⟩ := hrel
        by_cases hin : i < n
        · obtain ⟨ab, ao, rfl, hab, hcell⟩ := HR9.out.addr (by omega)
          have z0 := hcell i hin
          have hbd := take_sum_bd HPP.out.sym i
          have hbd2 := take_sum_bd HPP.out.sym (i + 1)
          have hsu := take_sum_succ (l := l) (i := i) (by rw [← HR.out.len]; exact hin)
          have i0 : (0 : Int) ≤ (i : Int) := by omega
          have i1 : (i : Int) < (n : Int) := by omega
          have iw : IntKind.i64.wrap ((i : Int) + 1) = (i : Int) + 1 := IntWalk.i64_in _ (by omega)
          have sw : IntKind.i64.wrap ((l.take i).sum + l.getD i 0) = (l.take i).sum + l.getD i 0 := IntWalk.i64_in _ (by omega)
          have HSU := Lib.hid hsu
          clear hcell hbd hbd2 hsu
          generalize l.getD i 0 = u at z0 sw HSU
          go_wp2
          go_round
          case rel => exact ⟨i + 1, by omega, by go_num, by rw [HSU.out]⟩
          case measure => simp [intOf]; omega
        · obtain rfl : n = i := by omega
          have et : l.take n = l := List.take_of_length_le (by rw [← HR.out.len]; exact Nat.le_refl _)
          rw [et]
          have HSB := Lib.hid (take_sum_bd HPP.out.sym n)
          rw [et] at HSB
          have HR9B := Lib.hid (HR6.out.up (Below.trans HB68.out ((HB89.out).mono HB68.out.size)))
          clear et
          go_wp2
          go_loop [14, 16] (fun ox ix => ∃ i : Nat, i ≤ P ∧ ix = .int .i64 i ∧ ox = .int .i64 (l.sum - (l2.take i).sum)) (fun _ ix => P - (intOf ix).toNat)
          case atStart => exact ⟨0, by omega, rfl, by simp⟩
          case round =>
            obtain ⟨i, hi, rfl, rfl⟩ := hrel
            by_cases hin : i < P
            · obtain ⟨ab, ao, hab0, hab, hcell⟩ := HR9B.out.addr (by omega)
              cases hab0
              have z0 := hcell i hin
              rw [Nat.zero_add] at z0
              have hbd := take_sum_bd HP2.out.sym i
              have hbd2 := take_sum_bd HP2.out.sym (i + 1)
              have hsb := HSB.out
              have hsu := take_sum_succ (l := l2) (i := i) (by rw [← HR9B.out.len]; exact hin)
              have i0 : (0 : Int) ≤ (i : Int) := by omega
              have i1 : (i : Int) < (P : Int) := by omega
              have iw : IntKind.i64.wrap ((i : Int) + 1) = (i : Int) + 1 := IntWalk.i64_in _ (by omega)
              have sw : IntKind.i64.wrap (l.sum - (l2.take i).sum - l2.getD i 0) = l.sum - (l2.take i).sum - l2.getD i 0 := IntWalk.i64_in _ (by omega)
              have HSU := Lib.hid hsu
              clear hcell hbd hbd2 hsu hsb
              generalize l2.getD i 0 = u at z0 sw HSU
              go_wp2
              go_round
              case rel => exact ⟨i + 1, by omega, by go_num, by rw [HSU.out]; congr 1; omega⟩
              case measure => simp [intOf]; omega
            · obtain rfl : P = i := by omega
              have et2 : l2.take P = l2 := List.take_of_length_le (by rw [← HR9B.out.len]; exact Nat.le_refl _)
              have e0 : l.sum - l2.sum = 0 := by rw [HSM.out]; omega
              rw [et2, e0]
              have x0 := HXP9.out.1
              have x1 := HXP9.out.2.1
              clear et2 e0
              go_wp2_with fail
              refine (turn_okP w h 0 a n c l w9 R (HSN.out.up HB9.out) HR9.out hnm HI6.out HPP.out 0 (by decide)).mono ?_; rintro e w10 ⟨g10, c10, rfl, ho10, hb10⟩
              rw [show turnL w h l 0 = l from made_atL (w := w) (h := h) (show 0 < w by omega) HPP.out.len, show turnW w h 0 = w from rfl, show turnW h w 0 = h from rfl, HPE.out] at ho10
              rw [show turnW w h 0 = w from rfl, show turnW h w 0 = h from rfl, HPE.out]
              obtain ⟨w11, hw11⟩ : ∃ w11, w10.alloc (.cells #[.int .i64 w, .int .i64 h, .slice (some ⟨g10, 0, none⟩) P c10] 24) = w11 := ⟨_, rfl⟩
              have hb11 : Below w9.heap.size w9 w11 := by rw [← hw11]; exact balloc hb10 _
              have HB11 := Lib.hid (bstep HB9.out hb11)
              have HXP11 := Lib.hid (And.intro (cpa hb11 HXP9.out.1) (And.intro (cpa hb11 HXP9.out.2.1) (cpa hb11 HXP9.out.2.2)))
              have HCA11 := Lib.hid (And.intro (cpa hb11 HCA9.out.1) (cpa hb11 HCA9.out.2))
              have HR11 : Hid (RK .i64 w11 (some ⟨g10, 0, none⟩) P l) := by rw [← hw11]; exact ho10.rk.al _
              have HRP11 := Lib.hid (HR9.out.up hb11)
              have HW11 := Lib.hid hw11
              have k0 : (w10.alloc (.cells #[.int .i64 w, .int .i64 h, .slice (some ⟨g10, 0, none⟩) P c10] 24)).cell? ⟨W.heap.size, 0, none⟩ = some (.int .i64 w) := by rw [hw11]; exact HXP11.out.1
              have k1 : (w10.alloc (.cells #[.int .i64 w, .int .i64 h, .slice (some ⟨g10, 0, none⟩) P c10] 24)).cell? ⟨W.heap.size, 1, none⟩ = some (.int .i64 h) := by rw [hw11]; exact HXP11.out.2.1
              have k2 : (w10.alloc (.cells #[.int .i64 w, .int .i64 h, .slice (some ⟨g10, 0, none⟩) P c10] 24)).cell? ⟨W.heap.size, 2, none⟩ = some (.slice a n c) := by rw [hw11]; exact HXP11.out.2.2
              clear hw11 hb10 hb11 ho10 x0 x1 v2 u2
              go_wp2_with fail
              rw [HW11.out]
              refine (patches_eq w h (some ⟨g10, 0, none⟩) a P n c10 c l w11 HR11.out HRP11.out (by rw [← HR11.out.len]; unfold maxLen; omega)).mono ?_; rintro e w12 ⟨rfl, hb12⟩
              have y0 := cpa hb12 HXP11.out.1
              have y1 := cpa hb12 HXP11.out.2.1
              have a0 := cpa hb12 HCA11.out.1
              have a1 := cpa hb12 HCA11.out.2
              have HB12 := Lib.hid (bstep HB11.out hb12)
              clear hb12 k0 k1 k2
              go_wp2
              go_ret
              exact ⟨rfl, HBX.out.trans (HB12.out.mono HBX.out.size)⟩
end Go.Proofs.YtnlpobkmjhajcaaDoor
