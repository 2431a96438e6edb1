/- The contract of patch.Turn. -/
import Derived.Test.YtoaooblodgejdaaDoorPatX
namespace Go.Proofs.YtoaooblodgejdaaDoor
open Go.RowKit
set_option linter.unusedVariables false
set_option maxRecDepth 100000

/-- the cell at a place, as a function value tells it -/
def AtOf (bp w h : Nat) (l : List Int) (W : World) : Prop :=
  ∀ (W' : World) (x y : Nat), Below W.heap.size W W' → x < w → y < h → Calls Tryd.prog 71 #[.int .i64 x, .int .i64 y, .pointer (some ⟨bp, 0, none⟩)] W' fun e w' => e = .returned (.int .i64 (atL w l x y)) ∧ W' = w'
set_option maxHeartbeats 4000000 in
theorem turn1 (w h bp : Nat) (a : Option Addr) (n c : Nat) (l : List Int) (W : World) (hp : IsPatch w h l) (hR : RK .i64 W a n l)
    (c0 : W.cell? ⟨bp, 0, none⟩ = some (.int .i64 w)) (c2 : W.cell? ⟨bp, 2, none⟩ = some (.slice a n c)) : AtOf bp w h l W := by
  intro W' x y hb hx hy
  have hw2 := hp.w2
  have hh2 := hp.h2
  have hlen := hp.len
  have hnl := hR.len
  have hpl := place_lt hx hy
  obtain ⟨b, o, rfl, hbo, hcell⟩ := (hR.up hb).addr (by omega)
  obtain ⟨P, hP⟩ : ∃ P, y * w = P := ⟨_, rfl⟩
  rw [hP] at hpl
  have z0 := hcell (P + x) (by omega)
  have hat : l.getD (P + x) 0 = atL w l x y := by unfold atL; rw [hP]
  obtain ⟨u, hu⟩ : ∃ u, atL w l x y = u := ⟨_, rfl⟩
  rw [hat, hu] at z0
  rw [hu]
  have y0 := cpa hb c0
  have y2 := cpa hb c2
  have hPI : (y : Int) * (w : Int) = (P : Int) := by rw [← hP, Int.natCast_mul]
  have hP4 : P ≤ 5000 := by have := Nat.mul_le_mul hw2 hh2; omega
  have hPw : IntKind.i64.wrap (P : Int) = (P : Int) := IntWalk.i64_in _ (by omega)
  have i1 : (P : Int) + (x : Int) < (n : Int) := by omega
  have i0 : (0 : Int) ≤ (P : Int) + (x : Int) := by omega
  have i2 : ((P : Int) + (x : Int)).toNat = P + x := by omega
  have hx64 : x ≤ 64 := by omega
  have hy64 : y ≤ 64 := by omega
  clear hcell hat hu hP hnl hlen hR hp hpl c0 c2
  go_enter Tryd.func71, Tryd.ntmps71
  go_wp2
  go_ret
  exact ⟨rfl, rfl⟩

set_option maxHeartbeats 8000000 in
theorem turn2 (w h T bp bt bw ba : Nat) (l : List Int) (W : World) (hp : IsPatch w h l) (hT : T < 8) (hA : AtOf bp w h l W)
    (c0 : W.cell? ⟨bp, 0, none⟩ = some (.int .i64 w)) (c1 : W.cell? ⟨bp, 1, none⟩ = some (.int .i64 h)) (ct : W.cell? ⟨bt, 0, none⟩ = some (.int .i64 T)) (cw : W.cell? ⟨bw, 0, none⟩ = some (.int .i64 (turnW w h T)))
    (ca : W.cell? ⟨ba, 0, none⟩ = some (.func (.func 71) #[] #[.pointer (some ⟨bp, 0, none⟩)])) :
    CellOf 73 #[.pointer (some ⟨bt, 0, none⟩), .pointer (some ⟨bw, 0, none⟩), .pointer (some ⟨ba, 0, none⟩), .pointer (some ⟨bp, 0, none⟩)] (turnW w h T) (turnW h w T) (turnF w h l T) W := by
  intro W' x y hb hx hy
  have hw2 := hp.w2
  have hh2 := hp.h2
  have HA := Lib.hid hA; clear hA
  have HB := Lib.hid hb
  have y0 := cpa hb c0
  have y1 := cpa hb c1
  have yt := cpa hb ct
  have yw := cpa hb cw
  have ya := cpa hb ca
  have hEn : ∀ args w, (callFunc 71 args).run Tryd.prog w = .ok (.enter 71 args) w := enters_of Tryd.func71 (by kernel_rfl) rfl
  clear c0 c1 ct cw ca hb hp
  show Calls _ _ #[.int .i64 x, .int .i64 y, .pointer (some ⟨bt, 0, none⟩), .pointer (some ⟨bw, 0, none⟩), .pointer (some ⟨ba, 0, none⟩), .pointer (some ⟨bp, 0, none⟩)] _ _
  have key : ∀ X : Nat, X < turnW w h T → (if 4 ≤ T then turnW w h T - 1 - x else x) = X → Calls Tryd.prog 73 #[.int .i64 x, .int .i64 y, .pointer (some ⟨bt, 0, none⟩), .pointer (some ⟨bw, 0, none⟩), .pointer (some ⟨ba, 0, none⟩), .pointer (some ⟨bp, 0, none⟩)] W' fun e w' => e = .returned (.int .i64 (if T % 4 = 1 then atL w l y (h - 1 - X) else if T % 4 = 2 then atL w l (w - 1 - X) (h - 1 - y) else if T % 4 = 3 then atL w l (w - 1 - y) X else atL w l X y)) ∧ W' = w' := by
    intro X hXw hX
    have hcases : T = 0 ∨ T = 1 ∨ T = 2 ∨ T = 3 ∨ T = 4 ∨ T = 5 ∨ T = 6 ∨ T = 7 := by omega
    rcases hcases with rfl | rfl | rfl | rfl | rfl | rfl | rfl | rfl
    · have yt' : W'.cell? ⟨bt, 0, none⟩ = some (.int .i64 0) := yt
      have yw' : W'.cell? ⟨bw, 0, none⟩ = some (.int .i64 w) := yw
      have hx' : x < w := hx
      have hy' : y < h := hy
      have hXw' : X < w := hXw
      obtain rfl : x = X := hX
      show Calls _ _ _ _ fun e w' => e = .returned (.int .i64 (atL w l x y)) ∧ W' = w'
      obtain ⟨u, hu⟩ : ∃ u, atL w l x y = u := ⟨_, rfl⟩
      have HC := Lib.hid (HA.out _ x y HB.out (by omega) (by omega))
      rw [hu]
      have HU := Lib.hid hu
      clear hu hx hy hXw yt yw 
      go_enter Tryd.func73, Tryd.ntmps73
      go_wp2_with fail
      refine HC.out.mono ?_; rintro e w' ⟨rfl, rfl⟩
      rw [HU.out]
      go_wp2
      go_ret
      exact ⟨rfl, rfl⟩
    · have yt' : W'.cell? ⟨bt, 0, none⟩ = some (.int .i64 1) := yt
      have yw' : W'.cell? ⟨bw, 0, none⟩ = some (.int .i64 h) := yw
      have hx' : x < h := hx
      have hy' : y < w := hy
      have hXw' : X < h := hXw
      obtain rfl : x = X := hX
      show Calls _ _ _ _ fun e w' => e = .returned (.int .i64 (atL w l y (h - 1 - x))) ∧ W' = w'
      obtain ⟨A, hA⟩ : ∃ A, h - 1 - x = A := ⟨_, rfl⟩
      have hAI : (h : Int) - 1 - (x : Int) = (A : Int) := by omega
      have hAw : IntKind.i64.wrap (A : Int) = (A : Int) := IntWalk.i64_in _ (by omega)
      have hAl : A < h := by omega
      rw [hA]
      obtain ⟨u, hu⟩ : ∃ u, atL w l y A = u := ⟨_, rfl⟩
      have HC := Lib.hid (HA.out _ y A HB.out (by omega) (by omega))
      rw [hu]
      have HU := Lib.hid hu
      clear hu hx hy hXw yt yw hA
      go_enter Tryd.func73, Tryd.ntmps73
      go_wp2_with fail
      refine HC.out.mono ?_; rintro e w' ⟨rfl, rfl⟩
      rw [HU.out]
      go_wp2
      go_ret
      exact ⟨rfl, rfl⟩
    · have yt' : W'.cell? ⟨bt, 0, none⟩ = some (.int .i64 2) := yt
      have yw' : W'.cell? ⟨bw, 0, none⟩ = some (.int .i64 w) := yw
      have hx' : x < w := hx
      have hy' : y < h := hy
      have hXw' : X < w := hXw
      obtain rfl : x = X := hX
      show Calls _ _ _ _ fun e w' => e = .returned (.int .i64 (atL w l (w - 1 - x) (h - 1 - y))) ∧ W' = w'
      obtain ⟨A, hA⟩ : ∃ A, w - 1 - x = A := ⟨_, rfl⟩
      have hAI : (w : Int) - 1 - (x : Int) = (A : Int) := by omega
      have hAw : IntKind.i64.wrap (A : Int) = (A : Int) := IntWalk.i64_in _ (by omega)
      have hAl : A < w := by omega
      rw [hA]
      obtain ⟨B, hB⟩ : ∃ B, h - 1 - y = B := ⟨_, rfl⟩
      have hBI : (h : Int) - 1 - (y : Int) = (B : Int) := by omega
      have hBw : IntKind.i64.wrap (B : Int) = (B : Int) := IntWalk.i64_in _ (by omega)
      have hBl : B < h := by omega
      rw [hB]
      obtain ⟨u, hu⟩ : ∃ u, atL w l A B = u := ⟨_, rfl⟩
      have HC := Lib.hid (HA.out _ A B HB.out (by omega) (by omega))
      rw [hu]
      have HU := Lib.hid hu
      clear hu hx hy hXw yt yw hA hB
      go_enter Tryd.func73, Tryd.ntmps73
      go_wp2_with fail
      refine HC.out.mono ?_; rintro e w' ⟨rfl, rfl⟩
      rw [HU.out]
      go_wp2
      go_ret
      exact ⟨rfl, rfl⟩
    · have yt' : W'.cell? ⟨bt, 0, none⟩ = some (.int .i64 3) := yt
      have yw' : W'.cell? ⟨bw, 0, none⟩ = some (.int .i64 h) := yw
      have hx' : x < h := hx
      have hy' : y < w := hy
      have hXw' : X < h := hXw
      obtain rfl : x = X := hX
      show Calls _ _ _ _ fun e w' => e = .returned (.int .i64 (atL w l (w - 1 - y) x)) ∧ W' = w'
      obtain ⟨A, hA⟩ : ∃ A, w - 1 - y = A := ⟨_, rfl⟩
      have hAI : (w : Int) - 1 - (y : Int) = (A : Int) := by omega
      have hAw : IntKind.i64.wrap (A : Int) = (A : Int) := IntWalk.i64_in _ (by omega)
      have hAl : A < w := by omega
      rw [hA]
      obtain ⟨u, hu⟩ : ∃ u, atL w l A x = u := ⟨_, rfl⟩
      have HC := Lib.hid (HA.out _ A x HB.out (by omega) (by omega))
      rw [hu]
      have HU := Lib.hid hu
      clear hu hx hy hXw yt yw hA
      go_enter Tryd.func73, Tryd.ntmps73
      go_wp2_with fail
      refine HC.out.mono ?_; rintro e w' ⟨rfl, rfl⟩
      rw [HU.out]
      go_wp2
      go_ret
      exact ⟨rfl, rfl⟩
    · have yt' : W'.cell? ⟨bt, 0, none⟩ = some (.int .i64 4) := yt
      have yw' : W'.cell? ⟨bw, 0, none⟩ = some (.int .i64 w) := yw
      have hx' : x < w := hx
      have hy' : y < h := hy
      have hXw' : X < w := hXw
      have hX' : w - 1 - x = X := hX
      have hXI : (w : Int) - 1 - (x : Int) = (X : Int) := by omega
      have hXr : IntKind.i64.wrap (X : Int) = (X : Int) := IntWalk.i64_in _ (by omega)
      show Calls _ _ _ _ fun e w' => e = .returned (.int .i64 (atL w l X y)) ∧ W' = w'
      obtain ⟨u, hu⟩ : ∃ u, atL w l X y = u := ⟨_, rfl⟩
      have HC := Lib.hid (HA.out _ X y HB.out (by omega) (by omega))
      rw [hu]
      have HU := Lib.hid hu
      clear hu hx hy hXw yt yw hX hX' 
      go_enter Tryd.func73, Tryd.ntmps73
      go_wp2_with fail
      refine HC.out.mono ?_; rintro e w' ⟨rfl, rfl⟩
      rw [HU.out]
      go_wp2
      go_ret
      exact ⟨rfl, rfl⟩
    · have yt' : W'.cell? ⟨bt, 0, none⟩ = some (.int .i64 5) := yt
      have yw' : W'.cell? ⟨bw, 0, none⟩ = some (.int .i64 h) := yw
      have hx' : x < h := hx
      have hy' : y < w := hy
      have hXw' : X < h := hXw
      have hX' : h - 1 - x = X := hX
      have hXI : (h : Int) - 1 - (x : Int) = (X : Int) := by omega
      have hXr : IntKind.i64.wrap (X : Int) = (X : Int) := IntWalk.i64_in _ (by omega)
      show Calls _ _ _ _ fun e w' => e = .returned (.int .i64 (atL w l y (h - 1 - X))) ∧ W' = w'
      obtain ⟨A, hA⟩ : ∃ A, h - 1 - X = A := ⟨_, rfl⟩
      have hAI : (h : Int) - 1 - (X : Int) = (A : Int) := by omega
      have hAw : IntKind.i64.wrap (A : Int) = (A : Int) := IntWalk.i64_in _ (by omega)
      have hAl : A < h := by omega
      rw [hA]
      obtain ⟨u, hu⟩ : ∃ u, atL w l y A = u := ⟨_, rfl⟩
      have HC := Lib.hid (HA.out _ y A HB.out (by omega) (by omega))
      rw [hu]
      have HU := Lib.hid hu
      clear hu hx hy hXw yt yw hX hX' hA
      go_enter Tryd.func73, Tryd.ntmps73
      go_wp2_with fail
      refine HC.out.mono ?_; rintro e w' ⟨rfl, rfl⟩
      rw [HU.out]
      go_wp2
      go_ret
      exact ⟨rfl, rfl⟩
    · have yt' : W'.cell? ⟨bt, 0, none⟩ = some (.int .i64 6) := yt
      have yw' : W'.cell? ⟨bw, 0, none⟩ = some (.int .i64 w) := yw
      have hx' : x < w := hx
      have hy' : y < h := hy
      have hXw' : X < w := hXw
      have hX' : w - 1 - x = X := hX
      have hXI : (w : Int) - 1 - (x : Int) = (X : Int) := by omega
      have hXr : IntKind.i64.wrap (X : Int) = (X : Int) := IntWalk.i64_in _ (by omega)
      show Calls _ _ _ _ fun e w' => e = .returned (.int .i64 (atL w l (w - 1 - X) (h - 1 - y))) ∧ W' = w'
      obtain ⟨A, hA⟩ : ∃ A, w - 1 - X = A := ⟨_, rfl⟩
      have hAI : (w : Int) - 1 - (X : Int) = (A : Int) := by omega
      have hAw : IntKind.i64.wrap (A : Int) = (A : Int) := IntWalk.i64_in _ (by omega)
      have hAl : A < w := by omega
      rw [hA]
      obtain ⟨B, hB⟩ : ∃ B, h - 1 - y = B := ⟨_, rfl⟩
      have hBI : (h : Int) - 1 - (y : Int) = (B : Int) := by omega
      have hBw : IntKind.i64.wrap (B : Int) = (B : Int) := IntWalk.i64_in _ (by omega)
      have hBl : B < h := by omega
      rw [hB]
      obtain ⟨u, hu⟩ : ∃ u, atL w l A B = u := ⟨_, rfl⟩
      have HC := Lib.hid (HA.out _ A B HB.out (by omega) (by omega))
      rw [hu]
      have HU := Lib.hid hu
      clear hu hx hy hXw yt yw hX hX' hA hB
      go_enter Tryd.func73, Tryd.ntmps73
      go_wp2_with fail
      refine HC.out.mono ?_; rintro e w' ⟨rfl, rfl⟩
      rw [HU.out]
      go_wp2
      go_ret
      exact ⟨rfl, rfl⟩
    · have yt' : W'.cell? ⟨bt, 0, none⟩ = some (.int .i64 7) := yt
      have yw' : W'.cell? ⟨bw, 0, none⟩ = some (.int .i64 h) := yw
      have hx' : x < h := hx
      have hy' : y < w := hy
      have hXw' : X < h := hXw
      have hX' : h - 1 - x = X := hX
      have hXI : (h : Int) - 1 - (x : Int) = (X : Int) := by omega
      have hXr : IntKind.i64.wrap (X : Int) = (X : Int) := IntWalk.i64_in _ (by omega)
      show Calls _ _ _ _ fun e w' => e = .returned (.int .i64 (atL w l (w - 1 - y) X)) ∧ W' = w'
      obtain ⟨A, hA⟩ : ∃ A, w - 1 - y = A := ⟨_, rfl⟩
      have hAI : (w : Int) - 1 - (y : Int) = (A : Int) := by omega
      have hAw : IntKind.i64.wrap (A : Int) = (A : Int) := IntWalk.i64_in _ (by omega)
      have hAl : A < w := by omega
      rw [hA]
      obtain ⟨u, hu⟩ : ∃ u, atL w l A X = u := ⟨_, rfl⟩
      have HC := Lib.hid (HA.out _ A X HB.out (by omega) (by omega))
      rw [hu]
      have HU := Lib.hid hu
      clear hu hx hy hXw yt yw hX hX' hA
      go_enter Tryd.func73, Tryd.ntmps73
      go_wp2_with fail
      refine HC.out.mono ?_; rintro e w' ⟨rfl, rfl⟩
      rw [HU.out]
      go_wp2
      go_ret
      exact ⟨rfl, rfl⟩
  have h2 := key (if 4 ≤ T then turnW w h T - 1 - x else x) (by split <;> omega) rfl
  refine h2.mono ?_
  rintro e w' ⟨rfl, rfl⟩
  exact ⟨rfl, bnil W'⟩
end Go.Proofs.YtoaooblodgejdaaDoor
