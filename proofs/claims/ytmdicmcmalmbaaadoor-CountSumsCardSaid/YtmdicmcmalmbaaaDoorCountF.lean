/- The contract of edenlaw17.awake. -/
import Derived.Test.YtmdicmcmalmbaaaDoorCountE
import Derived.Test.YtmdicmcmalmbaaaDoorMatD
namespace Go.Proofs.YtmdicmcmalmbaaaDoor
open Go.RowKit
set_option linter.unusedVariables false
set_option maxRecDepth 100000

def tbA : List Int := [0, 1, 1, 1, 0, 1, 1, 0]
theorem tbA_rule : IsRule 2 1 tbA := ⟨by decide, by decide, by decide, by decide, by decide⟩
theorem awA : limbs (wordsC 2 (2 ^ (2 * 1)) tbA [0]) = [3] := by decide +kernel
theorem awB : limbs (wordsC 2 (2 ^ (2 * 1)) tbA [1]) = [5] := by decide +kernel
theorem awC : limbs (ringsC 2 (2 ^ (2 * 1)) 8 2 (fitW tbA [0, 0]) (2 ^ (2 * 1))) = [2] := by decide +kernel

set_option maxHeartbeats 4000000 in
theorem awake17 (W : World) (R : Nat → Addr) (hG : Glob W R) : Calls Tryd.prog 39 #[] W fun e w' => e = .returned (.bool true) ∧ Below W.heap.size W w' := by
  have HG := Lib.hid hG; clear hG
  obtain ⟨Wa, hWa⟩ : ∃ Wa, (W.alloc (.cells #[.int .i64 0, .int .i64 1, .int .i64 1, .int .i64 1, .int .i64 0, .int .i64 1, .int .i64 1, .int .i64 0] 3)).alloc (.cells #[.int .i64 2, .int .i64 1, .slice (some ⟨W.heap.size, 0, none⟩) 8 8] 66) = Wa := ⟨_, rfl⟩
  have HX : Hid (Wa.cell? ⟨W.heap.size + 1, 0, none⟩ = some (.int .i64 2) ∧ Wa.cell? ⟨W.heap.size + 1, 1, none⟩ = some (.int .i64 1) ∧ Wa.cell? ⟨W.heap.size + 1, 2, none⟩ = some (.slice (some ⟨W.heap.size, 0, none⟩) 8 8)) := by rw [← hWa]; exact ⟨by simp, by simp, by simp⟩
  have HT : Hid (RK .i64 Wa (some ⟨W.heap.size, 0, none⟩) 8 tbA) := by
    show RK _ _ _ _ _
    rw [← hWa]
    exact (rk_new (l := tbA) rfl rfl rfl).al _
  have HSZ : Hid (Wa.heap.size = W.heap.size + 1 + 1) := by show _ = _; rw [← hWa]; simp
  have HBX : Hid (Below W.heap.size W Wa) := by rw [← hWa]; exact balloc (balloc (bnil W) _) _
  have HWA := Lib.hid hWa; clear hWa
  have s1 : W.heap.size + 1 < Wa.heap.size := by rw [HSZ.out]; omega
  have HS1 := Lib.hid s1; clear s1
  go_enter Tryd.func39, Tryd.ntmps39
  go_wp2_with fail
  rw [HWA.out]
  refine (countWords_ok 2 1 _ _ 8 8 1 1 tbA [0] _ R (HG.out.up (balloc HBX.out _)) (HT.out.al _) (rk_new (l := [0]) HSZ.out.symm rfl rfl) tbA_rule (by decide) (by decide) (by decide) (by decide) (by decide)).mono ?_; rintro e w1 ⟨a1, n1, c1, rfl, ho1, hb1⟩
  rw [awA] at ho1
  have H1 := Lib.hid ho1
  have hb1a := (balloc (bnil Wa) (.cells #[.int .i64 0] 3)).trans (hb1.mono (by simp))
  have x0 := (hb1a.cell (p := ⟨W.heap.size + 1, 0, none⟩) HS1.out).trans HX.out.1
  have x1 := (hb1a.cell (p := ⟨W.heap.size + 1, 1, none⟩) HS1.out).trans HX.out.2.1
  have x2 := (hb1a.cell (p := ⟨W.heap.size + 1, 2, none⟩) HS1.out).trans HX.out.2.2
  have HB1 := Lib.hid hb1a
  clear ho1 hb1 hb1a
  go_wp2_with fail
  refine (countWords_ok 2 1 _ _ 8 8 1 1 tbA [1] _ R (HG.out.up (balloc (HBX.out.trans (HB1.out.mono HBX.out.size)) _)) ((HT.out.up HB1.out).al _) (rk_new (l := [1]) rfl rfl rfl) tbA_rule (by decide) (by decide) (by decide) (by decide) (by decide)).mono ?_; rintro e w2 ⟨a2, n2, c2, rfl, ho2, hb2⟩
  rw [awB] at ho2
  have H2 := Lib.hid ho2
  have hb12 := (balloc (bnil w1) (.cells #[.int .i64 1] 3)).trans (hb2.mono (by simp))
  have H12 := Lib.hid (H1.out.up hb12)
  have hb2a := bstep HB1.out hb12
  clear x0 x1 x2
  have x0 := (hb2a.cell (p := ⟨W.heap.size + 1, 0, none⟩) HS1.out).trans HX.out.1
  have x1 := (hb2a.cell (p := ⟨W.heap.size + 1, 1, none⟩) HS1.out).trans HX.out.2.1
  have x2 := (hb2a.cell (p := ⟨W.heap.size + 1, 2, none⟩) HS1.out).trans HX.out.2.2
  have HB2 := Lib.hid hb2a
  clear ho2 hb2 hb2a hb12 H1
  go_wp2_with fail
  refine (countRings_ok 2 1 _ _ 8 8 2 2 tbA [0, 0] _ R (HG.out.up (balloc (HBX.out.trans (HB2.out.mono HBX.out.size)) _)) ((HT.out.up HB2.out).al _) (rk_new (l := [0, 0]) rfl rfl rfl) tbA_rule (by decide) (by decide) (by decide) (by decide) (by decide) (by decide)).mono ?_; rintro e w3 ⟨a3, n3, c3, rfl, ho3, hb3⟩
  rw [awC] at ho3
  have hb23 := (balloc (bnil w2) (.cells #[.int .i64 0, .int .i64 0] 3)).trans (hb3.mono (by simp))
  have H13 := Lib.hid (H12.out.up hb23)
  have H23 := Lib.hid (H2.out.up hb23)
  have H3 := Lib.hid ho3
  have HB3 := Lib.hid (HBX.out.trans ((bstep HB2.out hb23).mono HBX.out.size))
  clear ho3 hb3 hb23 x0 x1 x2 H12 H2
  go_wp2_with fail
  refine (nats_eq a1 _ n1 1 c1 1 [3] _ (H13.out.ns.nr.up (balloc (bnil w3) _)) ⟨rk_new (l := [3]) rfl rfl rfl, by unfold U32; decide⟩ (Nat.le_trans H13.out.ns.le H13.out.ns.cm)).mono ?_; rintro e w4 ⟨rfl, hb4⟩
  have hb34 := (balloc (bnil w3) (.cells #[.int .u32 3] 75)).trans (hb4.mono (by simp))
  go_wp2_with fail
  refine (nats_eq a2 _ n2 1 c2 1 [5] _ ((H23.out.ns.nr.up hb34).up (balloc (bnil w4) _)) ⟨rk_new (l := [5]) rfl rfl rfl, by unfold U32; decide⟩ (Nat.le_trans H23.out.ns.le H23.out.ns.cm)).mono ?_; rintro e w5 ⟨rfl, hb5⟩
  have hb35 := bstep hb34 ((balloc (bnil w4) (.cells #[.int .u32 5] 75)).trans (hb5.mono (by simp)))
  go_wp2_with fail
  refine (nats_eq a3 _ n3 1 c3 1 [2] _ ((H3.out.ns.nr.up hb35).up (balloc (bnil w5) _)) ⟨rk_new (l := [2]) rfl rfl rfl, by unfold U32; decide⟩ (Nat.le_trans H3.out.ns.le H3.out.ns.cm)).mono ?_; rintro e w6 ⟨rfl, hb6⟩
  have hb36 := bstep hb35 ((balloc (bnil w5) (.cells #[.int .u32 2] 75)).trans (hb6.mono (by simp)))
  go_wp2
  go_ret
  exact ⟨rfl, bstep HB3.out hb36⟩
end Go.Proofs.YtmdicmcmalmbaaaDoor
