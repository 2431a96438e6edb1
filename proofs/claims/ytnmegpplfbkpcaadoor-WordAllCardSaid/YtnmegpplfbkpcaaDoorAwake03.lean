/- The contract of edenlaw03.awake. -/
import Derived.Test.YtnmegpplfbkpcaaDoorWordE
import Derived.WalkKit
import Derived.Lib.Hide
namespace Go.Proofs.YtnmegpplfbkpcaaDoor
open Go.RowKit
set_option linter.unusedVariables false
set_option maxRecDepth 100000

theorem per_0101 {p : Nat} (h : IsPer [0, 1, 0, 1] p) : p = 2 := by
  refine h.uniq ⟨fun e => by simp at e, fun _ => by omega, fun _ => by decide, fun j hj => ?_, fun q h1 h2 h3 => ?_⟩
  · have : j = 0 ∨ j = 1 := by simp at hj; omega
    rcases this with rfl | rfl <;> rfl
  · by_cases e : q = 1
    · subst e
      have := h3 0 (by simp)
      simp at this
    · omega
theorem str_031 : parL ⟨#[48, 51, 49]⟩ = [0, 3, 1] := by rfl
theorem par_031 : parErr 4 ⟨#[48, 51, 49]⟩ = none := by
  have e : sB ⟨#[48, 51, 49]⟩ = [48, 51, 49] := by rfl
  unfold parErr
  rw [e]
  decide

set_option maxHeartbeats 4000000 in
theorem awake03 (W : World) (R : Nat → Addr) (hG : Glob W R) :
    Calls Tryd.prog 14 #[] W fun e w' => e = .returned (.bool true) ∧ Below W.heap.size W w' := by
  have HG := Lib.hid hG; clear hG
  have hu : LastUp 2 [0, 1, 1] 0 := ⟨by decide, by decide, fun j h1 h2 => by
    have : j = 1 ∨ j = 2 := by simp at h2; omega
    rcases this with rfl | rfl <;> decide⟩
  have HU := Lib.hid hu; clear hu
  have hbump : bump [0, 1, 1] 0 = [1, 0, 0] := by rfl
  have HBM := Lib.hid hbump; clear hbump
  have hchk : chkErr 2 [0, 1, 1] = none := by decide
  have HC := Lib.hid hchk; clear hchk
  go_enter Tryd.func14, Tryd.ntmps14
  go_wp2_with fail
  refine (next_up 2 _ 3 _ [0, 1, 1] _ R (HG.out.alloc _) (rk_new rfl rfl rfl) (by omega) (by omega) (fun e => by cases e) HC.out 0 HU.out).mono ?_; rintro e w1 ⟨a1, c1, rfl, hown1, hb1⟩
  rw [HBM.out] at hown1
  have hr1 : RK .i64 w1 a1 3 [1, 0, 0] := RK.of_own hown1
  have hb1W := bstep (balloc (bnil W) _) hb1
  have HR1 := Lib.hid hr1; clear hr1 hown1
  go_wp2_with fail
  refine (parse_ok 4 ⟨#[48, 51, 49]⟩ _ R par_031).mono ?_; rintro e w2 ⟨a2, c2, rfl, hown2, hb2⟩
  rw [str_031] at hown2
  have hr2 : RK .i64 w2 a2 3 [0, 3, 1] := RK.of_own hown2
  have HR2 := Lib.hid hr2; clear hr2 hown2
  have hb2W := bstep hb1W hb2
  go_wp2_with fail
  refine (ints_eqB _ _ _ _ _ _ [1, 0, 0] _ ((HR1.out.up hb2).al _) (rk_new (by simp) rfl rfl) (by decide)).mono ?_; rintro e w3 ⟨rfl, hb3⟩
  go_wp2_with fail
  refine (ints_eqB _ _ _ _ _ _ [0, 3, 1] _ ((HR2.out.up ((balloc (bnil _) _).trans (hb3.mono (by simp)))).al _) (rk_new (by simp) rfl rfl) (by decide)).mono ?_; rintro e w4 ⟨rfl, hb4⟩
  have hb4W := bstep (balloc (bstep (balloc hb2W _) hb3) _) hb4
  go_wp2_with fail
  refine (wordCmp_any _ _ _ _ _ _ [0, 1] [0, 0] _ ((rk_new (by simp) rfl rfl).al _) (rk_new (by simp) rfl rfl) (by decide) (by decide)).mono ?_; rintro e w5 ⟨rfl, hb5⟩
  have e5 : cmpW [0, 1] [0, 0] = 1 := by decide
  rw [e5]
  clear e5
  go_wp2_with fail
  refine (period_any _ _ _ [0, 1, 0, 1] _ (rk_new (by simp) rfl rfl) (by decide)).mono ?_; rintro e w6 ⟨p, hp, rfl, hb6⟩
  obtain rfl := per_0101 hp
  go_wp2
  go_ret
  exact ⟨rfl, bstep (balloc (bstep (balloc (balloc hb4W _) _) hb5) _) hb6⟩
end Go.Proofs.YtnmegpplfbkpcaaDoor
