/- The walk of edenlaw16.MatOnes. -/
import Derived.Test.YtmdicmcmalmbaaaDoorMatG
namespace Go.Proofs.YtmdicmcmalmbaaaDoor
open Go.RowKit
set_option linter.unusedVariables false
set_option maxRecDepth 100000

theorem one_err (n k : Int) (W : World) (R : Nat → Addr) (hG : Glob W R) (h : (n < 0 ∧ k = 3) ∨ (96 < n ∧ k = 4)) :
    Calls Tryd.prog 18 #[.int .i64 n] W fun e w' => ∃ g, e = .returned (.tuple #[.slice none 0 0, .iface 108 (.pointer (some ⟨g, 0, none⟩))]) ∧ IsErr W.heap.size R w' (.iface 108 (.pointer (some ⟨g, 0, none⟩))) opMat 0 k ∧ Below W.heap.size W w' := by
  have HG := Lib.hid hG; clear hG
  rcases h with ⟨h1, rfl⟩ | ⟨h1, rfl⟩
  all_goals
    go_enter Tryd.func18, Tryd.ntmps18
    go_wp2_with fail
    refine (mat_wrong _ _ _ R HG.out rfl).mono ?_; rintro e w' ⟨rfl, rfl⟩
    go_wp2
    go_ret2
    exact ⟨_, rfl, isErr_new (Nat.le_refl _), balloc (bnil W) _⟩
theorem long_ms {w : World} {base n c : Nat} {a : Option Addr} (h : w.ownsRow base 31 1 (.slice a n c) n ((List.range n).map fun _ => IV (none, 0, 0))) : MsR w a n (fun _ => 0) (fun _ _ => []) := by
  rcases Nat.eq_zero_or_pos n with h0 | h0
  · exact .inl h0
  · obtain ⟨g, rfl, _, hg⟩ := own_form h h0
    refine .inr ⟨g, 0, rfl, hg, fun i hi => ⟨IV (none, 0, 0), ?_, none, 0, rfl, Nat.le_refl _, Nat.zero_le _, fun _ => rfl, .inl rfl⟩⟩
    rw [Nat.zero_add, h.cellAt i (by omega), range_at _ hi]

set_option maxHeartbeats 4000000 in
theorem ones_err (n k : Int) (W : World) (R : Nat → Addr) (hE : Env W R) (h : (n < 0 ∧ k = 3) ∨ (96 < n ∧ k = 4)) :
    Calls Tryd.prog 6 #[.int .i64 n] W (TrueBelow W) := by
  have HE := Lib.hid hE; clear hE
  have HH := Lib.hid h; clear h
  go_enter Tryd.func6, Tryd.ntmps6
  go_wp2_with fail
  refine (awake16 _).mono ?_; rintro e w1 ⟨rfl, hb1⟩
  go_wp2_with fail
  refine (one_err n k _ R (HE.out.up hb1).sent.glob HH.out).mono ?_; rintro e w2 ⟨g2, rfl, he2, hb2⟩
  have HE2 := Lib.hid he2; clear he2
  have hb2W := bstep hb1 hb2
  go_wp2_with fail
  refine (refOne_err n k _ HH.out).mono ?_; rintro e w3 ⟨b1, b2, rfl, hw3, hb3⟩
  have HW3 := Lib.hid hw3; clear hw3
  have hb3W := bstep hb2W hb3
  go_wp2_with (first
    | (at_make; refine mk_full rfl _ _ _ rfl _ et_natss .i64 .i64 _ _ 97 rfl rfl rfl rfl (by omega) (by unfold maxLen; omega) (Nat.le_refl _) ?_; intro w4 hown4 hb4 hsz4; rw [made_natss] at hown4; have hl4 : MsR w4 (some ⟨w3.heap.size + 1, 0, none⟩) 97 (fun _ => 0) (fun _ _ => []) := (by have h := long_ms hown4; simpa using h); have HL := Lib.hid hl4; clear hl4; have HB4 := Lib.hid hb4; clear hown4 hb4))
  go_wp2_with fail
  refine (same_eq none none 0 0 0 (fun _ => 0) (fun _ _ => []) _ (.inl rfl) (.inl rfl) (by decide) (fun _ _ => by decide)).mono ?_; rintro e w5 ⟨rfl, hb5⟩
  have hb45 := HB4.out.trans (hb5.mono HB4.out.size)
  obtain ⟨⟨q0, q1, q2⟩, f0, f1, f2⟩ := res3 rfl hb45
  have hb25 := bstep (balloc hb3 (.cells #[.int .i64 k, .slice (some ⟨b1, 0, none⟩) 1 1, .slice (some ⟨b2, 0, none⟩) 1 1] 50)) hb45
  have hb35 := bstep (balloc (bnil w3) (.cells #[.int .i64 k, .slice (some ⟨b1, 0, none⟩) 1 1, .slice (some ⟨b2, 0, none⟩) 1 1] 50)) hb45
  have hb5W := bstep hb2W hb25
  have HL5 := Lib.hid (HL.out.up hb5)
  have HB25 := Lib.hid hb25
  have HB35 := Lib.hid hb35
  clear hb5 hb45 hb25 hb35 HL HB4 hb3
  go_wp2_with fail
  refine (rawIs_same w1.heap.size _ _ (some (opMat, 0, k)) _ R (HE.out.up hb5W) (ErrIs.up (show ErrIs w1.heap.size R w2 _ (some (opMat, 0, k)) from HE2.out) HB25.out) (WantIs.up HW3.out HB35.out)).mono ?_; rintro e w6 ⟨rfl, hb6⟩
  have hb6W := bstep hb5W hb6
  go_wp2_with fail
  refine (mcheck_err _ 97 97 (fun _ => 0) (fun _ _ => []) _ R (HE.out.up hb6W).sent.glob (HL5.out.up hb6) (by decide) (0, 4) (.inl ⟨by decide, rfl⟩)).mono ?_; rintro e w7 ⟨g7, rfl, he7, hb7⟩
  have HE7 := Lib.hid he7; clear he7
  have hb7W := bstep hb6W hb7
  go_wp2_with fail
  refine (rawNew_want _ _ _ _ rfl).mono ?_; rintro e w8 ⟨ao, aa, co, ca, rfl, hw8, hb8⟩
  have HW8 := Lib.hid hw8; clear hw8
  have hb8W := bstep hb7W hb8
  go_wp2_with fail
  refine (rawIs_same w6.heap.size _ _ (some (opMat, 0, 4)) _ R (HE.out.up hb8W) (ErrIs.up (show ErrIs w6.heap.size R w7 _ (some (opMat, 0, 4)) from HE7.out) hb8) HW8.out).mono ?_; rintro e w9 ⟨rfl, hb9⟩
  go_wp2
  go_ret
  exact ⟨rfl, bstep hb8W hb9⟩

set_option maxHeartbeats 4000000 in
theorem ones_ok (n : Nat) (W : World) (R : Nat → Addr) (hE : Env W R) (hn : n ≤ 96) :
    Calls Tryd.prog 6 #[.int .i64 n] W (TrueBelow W) := by
  have HE := Lib.hid hE; clear hE
  go_enter Tryd.func6, Tryd.ntmps6
  go_wp2_with fail
  refine (awake16 _).mono ?_; rintro e w1 ⟨rfl, hb1⟩
  go_wp2_with fail
  refine (one_any n _ hn).mono ?_; rintro e w2 ⟨a2, c2, rows2, its2, rfl, ho2, hb2⟩
  have HM2 := Lib.hid ho2.msR; clear ho2
  have hb2W := bstep hb1 hb2
  go_wp2_with fail
  refine (refOne_ok n _ hn).mono ?_; rintro e w3 ⟨a3, c3, rows3, its3, rfl, ho3, hb3⟩
  have HM3 := Lib.hid ho3.msR; clear ho3
  have hb3W := bstep hb2W hb3
  go_wp2_with (first
    | (at_make; refine mk_full rfl _ _ _ rfl _ et_natss .i64 .i64 _ _ 97 rfl rfl rfl rfl (by omega) (by unfold maxLen; omega) (Nat.le_refl _) ?_; intro w4 hown4 hb4 hsz4; rw [made_natss] at hown4; have hl4 : MsR w4 (some ⟨w3.heap.size + 1, 0, none⟩) 97 (fun _ => 0) (fun _ _ => []) := (by have h := long_ms hown4; simpa using h); have HL := Lib.hid hl4; clear hl4; have HB4 := Lib.hid hb4; clear hown4 hb4))
  go_wp2_with fail
  have hb34 := bstep (balloc (bnil w3) (.cells #[.int .i64 0, .slice none 0 0, .slice none 0 0] 50)) HB4.out
  refine (same_eq a2 a3 n c2 c3 (fun _ => n) (fun i j => limbs (oneM i j)) _ (HM2.out.up (bstep hb3 hb34)) (HM3.out.up hb34) (by omega) (fun _ _ => by omega)).mono ?_; rintro e w5 ⟨rfl, hb5⟩
  have hb45 := HB4.out.trans (hb5.mono HB4.out.size)
  obtain ⟨⟨q0, q1, q2⟩, f0, f1, f2⟩ := res3 rfl hb45
  have hb25 := bstep (balloc hb3 (.cells #[.int .i64 0, .slice none 0 0, .slice none 0 0] 50)) hb45
  have hb5W := bstep hb2W hb25
  have HL5 := Lib.hid (HL.out.up hb5)
  have HM5 := Lib.hid (HM2.out.up hb25)
  clear hb5 hb45 hb25 hb34 HL HB4 hb3 HM2 HM3
  go_wp2_with fail
  refine (rawIs_same w1.heap.size _ _ none _ R (HE.out.up hb5W) rfl (errVal_none _)).mono ?_; rintro e w6 ⟨rfl, hb6⟩
  have hb6W := bstep hb5W hb6
  go_wp2_with fail
  refine (mcheck_err _ 97 97 (fun _ => 0) (fun _ _ => []) _ R (HE.out.up hb6W).sent.glob (HL5.out.up hb6) (by decide) (0, 4) (.inl ⟨by decide, rfl⟩)).mono ?_; rintro e w7 ⟨g7, rfl, he7, hb7⟩
  have HE7 := Lib.hid he7; clear he7
  have hb7W := bstep hb6W hb7
  go_wp2_with fail
  refine (rawNew_want _ _ _ _ rfl).mono ?_; rintro e w8 ⟨ao, aa, co, ca, rfl, hw8, hb8⟩
  have HW8 := Lib.hid hw8; clear hw8
  have hb8W := bstep hb7W hb8
  go_wp2_with fail
  refine (rawIs_same w6.heap.size _ _ (some (opMat, 0, 4)) _ R (HE.out.up hb8W) (ErrIs.up (show ErrIs w6.heap.size R w7 _ (some (opMat, 0, 4)) from HE7.out) hb8) HW8.out).mono ?_; rintro e w9 ⟨rfl, hb9⟩
  have hb9W := bstep hb8W hb9
  go_wp2_with fail
  refine (mcheck_ok a2 n c2 _ _ _ (HM5.out.up (bstep (bstep (bstep hb6 hb7) hb8) hb9)) ⟨hn, fun _ _ => rfl⟩).mono ?_; rintro e w10 ⟨rfl, rfl⟩
  go_wp2
  go_ret
  exact ⟨rfl, hb9W⟩

theorem ones_row (n : Int) (W : World) (R : Nat → Addr) (hE : Env W R) :
    Calls Tryd.prog 6 #[.int .i64 n] W (TrueBelow W) := by
  by_cases h1 : n < 0
  · exact ones_err n 3 W R hE (.inl ⟨h1, rfl⟩)
  · by_cases h2 : 96 < n
    · exact ones_err n 4 W R hE (.inr ⟨h2, rfl⟩)
    · obtain ⟨m, rfl⟩ : ∃ m : Nat, n = (m : Int) := ⟨n.toNat, by omega⟩
      exact ones_ok m W R hE (by omega)
end Go.Proofs.YtmdicmcmalmbaaaDoor
