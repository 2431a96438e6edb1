/- The contract of patch.Turn. The contract of patch.Turn. -/
import Derived.Test.YtoaooblodgejdaaDoorPatX
import Derived.Laws.EntriesVeiled
namespace Go.Proofs.YtoaooblodgejdaaDoor
open Go.RowKit
set_option linter.unusedVariables false
set_option maxRecDepth 100000

/-- the cell at a place, as a function value tells it -/
def AtOf (bp w h : Nat) (l : List Int) (W : World) : Prop :=
  ∀ (W' : World) (x y : Nat), Below W.heap.size W W' → x < w → y < h → Calls Tryd.prog 71 #[.int .i64 x, .int .i64 y, .pointer (some ⟨bp, 0, none⟩)] W' fun e w' => e = .returned (.int .i64 (atL w l x y)) ∧ W' = w'
set_option maxHeartbeats 4000000 in
theorem turn1 (w h bp : Nat) (a : Option Addr) (n c : Nat) (l : List Int) (W : World) (hp : IsPatch w h l) (hR : RK .i64 W a n l)
    (c0 : W.cell? ⟨bp, 0, none⟩ = some (.int .i64 w)) (c2 : W.cell? ⟨bp, 2, none⟩ = some (.slice a n c)) : AtOf bp w h l W := by
  intro W' x y hb hx hy
  have hw2 := hp.w2
  have hh2 := hp.h2
  have hlen := hp.len
  have hnl := hR.len
  have hpl := place_lt hx hy
  obtain ⟨b, o, rfl, hbo, hcell⟩ := (hR.up hb).addr (by omega)
  obtain ⟨P, hP⟩ : ∃ P, y * w = P := ⟨_, rfl⟩
  rw [hP] at hpl
  have z0 := hcell (P + x) (by omega)
  have hat : l.getD (P + x) 0 = atL w l x y := by unfold atL; rw [hP]
  obtain ⟨u, hu⟩ : ∃ u, atL w l x y = u := ⟨_, rfl⟩
  rw [hat, hu] at z0
  rw [hu]
  have y0 := cpa hb c0
  have y2 := cpa hb c2
  have hPI : (y : Int) * (w : Int) = (P : Int) := by rw [← hP, Int.natCast_mul]
  have hP4 : P ≤ 5000 := by have := Nat.mul_le_mul hw2 hh2; omega
  have hPw : IntKind.i64.wrap (P : Int) = (P : Int) := IntWalk.i64_in _ (by omega)
  have i1 : (P : Int) + (x : Int) < (n : Int) := by omega
  have i0 : (0 : Int) ≤ (P : Int) + (x : Int) := by omega
  have i2 : ((P : Int) + (x : Int)).toNat = P + x := by omega
  have hx64 : x ≤ 64 := by omega
  have hy64 : y ≤ 64 := by omega
  clear hcell hat hu hP hnl hlen hR hp hpl c0 c2
  go_enter Tryd.func71, Tryd.ntmps71
  go_wp2
  go_ret
  exact ⟨rfl, rfl⟩

set_option maxHeartbeats 8000000 in
theorem turn2 (w h T bp bt bw ba : Nat) (l : List Int) (W : World) (hp : IsPatch w h l) (hT : T < 8) (hA : AtOf bp w h l W)
    (c0 : W.cell? ⟨bp, 0, none⟩ = some (.int .i64 w)) (c1 : W.cell? ⟨bp, 1, none⟩ = some (.int .i64 h)) (ct : W.cell? ⟨bt, 0, none⟩ = some (.int .i64 T)) (cw : W.cell? ⟨bw, 0, none⟩ = some (.int .i64 (turnW w h T)))
    (ca : W.cell? ⟨ba, 0, none⟩ = some (.func (.func 71) #[] #[.pointer (some ⟨bp, 0, none⟩)])) :
    CellOf 73 #[.pointer (some ⟨bt, 0, none⟩), .pointer (some ⟨bw, 0, none⟩), .pointer (some ⟨ba, 0, none⟩), .pointer (some ⟨bp, 0, none⟩)] (turnW w h T) (turnW h w T) (turnF w h l T) W := by
  intro W' x y hb hx hy
  have hw2 := hp.w2
  have hh2 := hp.h2
  have HA := Lib.hid hA; clear hA
  have HB := Lib.hid hb
  have y0 := cpa hb c0
  have y1 := cpa hb c1
  have yt := cpa hb ct
  have yw := cpa hb cw
  have ya := cpa hb ca
  have hEn : ∀ args w, (callFunc 71 args).run Tryd.prog w = .ok (.enter 71 args) w := enters_of Tryd.func71 (by kernel_rfl) rfl
  clear c0 c1 ct cw ca hb hp
  show Calls _ _ #[.int .i64 x, .int .i64 y, .pointer (some ⟨bt, 0, none⟩), .pointer (some ⟨bw, 0, none⟩), .pointer (some ⟨ba, 0, none⟩), .pointer (some ⟨bp, 0, none⟩)] _ _
  have key : ∀ X : Nat, X < turnW w h T → (if 4 ≤ T then turnW w h T - 1 - x else x) = X → Calls Tryd.prog 73 #[.int .i64 x, .int .i64 y, .pointer (some ⟨bt, 0, none⟩), .pointer (some ⟨bw, 0, none⟩), .pointer (some ⟨ba, 0, none⟩), .pointer (some ⟨bp, 0, none⟩)] W' fun e w' => e = .returned (.int .i64 (if T % 4 = 1 then atL w l y (h - 1 - X) else if T % 4 = 2 then atL w l (w - 1 - X) (h - 1 - y) else if T % 4 = 3 then atL w l (w - 1 - y) X else atL w l X y)) ∧ W' = w' := by
    intro X hXw hX
    have hcases : T = 0 ∨ T = 1 ∨ T = 2 ∨ T = 3 ∨ T = 4 ∨ T = 5 ∨ T = 6 ∨ T = 7 := by omega
    rcases hcases with rfl | rfl | rfl | rfl | rfl | rfl | rfl | rfl
    · have yt' : W'.cell? ⟨bt, 0, none⟩ = some (.int .i64 0) := yt
      have yw' : W'.cell? ⟨bw, 0, none⟩ = some (.int .i64 w) := yw
      have hx' : x < w := hx
      have hy' : y < h := hy
      have hXw' : X < w := hXw
      obtain rfl : x = X := hX
      show Calls _ _ _ _ fun e w' => e = .returned (.int .i64 (atL w l x y)) ∧ W' = w'
      obtain ⟨u, hu⟩ : ∃ u, atL w l x y = u := ⟨_, rfl⟩
      have HC := Lib.hid (HA.out _ x y HB.out (by omega) (by omega))
      rw [hu]
      have HU := Lib.hid hu
      clear hu hx hy hXw yt yw 
      go_enter Tryd.func73, Tryd.ntmps73
      go_wp2_with fail
      refine HC.out.mono ?_; rintro e w' ⟨rfl, rfl⟩
      rw [HU.out]
      go_wp2
      go_ret
      exact ⟨rfl, rfl⟩
    · have yt' : W'.cell? ⟨bt, 0, none⟩ = some (.int .i64 1) := yt
      have yw' : W'.cell? ⟨bw, 0, none⟩ = some (.int .i64 h) := yw
      have hx' : x < h := hx
      have hy' : y < w := hy
      have hXw' : X < h := hXw
      obtain rfl : x = X := hX
      show Calls _ _ _ _ fun e w' => e = .returned (.int .i64 (atL w l y (h - 1 - x))) ∧ W' = w'
      obtain ⟨A, hA⟩ : ∃ A, h - 1 - x = A := ⟨_, rfl⟩
      have hAI : (h : Int) - 1 - (x : Int) = (A : Int) := by omega
      have hAw : IntKind.i64.wrap (A : Int) = (A : Int) := IntWalk.i64_in _ (by omega)
      have hAl : A < h := by omega
      rw [hA]
      obtain ⟨u, hu⟩ : ∃ u, atL w l y A = u := ⟨_, rfl⟩
      have HC := Lib.hid (HA.out _ y A HB.out (by omega) (by omega))
      rw [hu]
      have HU := Lib.hid hu
      clear hu hx hy hXw yt yw hA
      go_enter Tryd.func73, Tryd.ntmps73
      go_wp2_with fail
      refine HC.out.mono ?_; rintro e w' ⟨rfl, rfl⟩
      rw [HU.out]
      go_wp2
      go_ret
      exact ⟨rfl, rfl⟩
    · have yt' : W'.cell? ⟨bt, 0, none⟩ = some (.int .i64 2) := yt
      have yw' : W'.cell? ⟨bw, 0, none⟩ = some (.int .i64 w) := yw
      have hx' : x < w := hx
      have hy' : y < h := hy
      have hXw' : X < w := hXw
      obtain rfl : x = X := hX
      show Calls _ _ _ _ fun e w' => e = .returned (.int .i64 (atL w l (w - 1 - x) (h - 1 - y))) ∧ W' = w'
      obtain ⟨A, hA⟩ : ∃ A, w - 1 - x = A := ⟨_, rfl⟩
      have hAI : (w : Int) - 1 - (x : Int) = (A : Int) := by omega
      have hAw : IntKind.i64.wrap (A : Int) = (A : Int) := IntWalk.i64_in _ (by omega)
      have hAl : A < w := by omega
      rw [hA]
      obtain ⟨B, hB⟩ : ∃ B, h - 1 - y = B := ⟨_, rfl⟩
      have hBI : (h : Int) - 1 - (y : Int) = (B : Int) := by omega
      have hBw : IntKind.i64.wrap (B : Int) = (B : Int) := IntWalk.i64_in _ (by omega)
      have hBl : B < h := by omega
      rw [hB]
      obtain ⟨u, hu⟩ : ∃ u, atL w l A B = u := ⟨_, rfl⟩
      have HC := Lib.hid (HA.out _ A B HB.out (by omega) (by omega))
      rw [hu]
      have HU := Lib.hid hu
      clear hu hx hy hXw yt yw hA hB
      go_enter Tryd.func73, Tryd.ntmps73
      go_wp2_with fail
      refine HC.out.mono ?_; rintro e w' ⟨rfl, rfl⟩
      rw [HU.out]
      go_wp2
      go_ret
      exact ⟨rfl, rfl⟩
    · have yt' : W'.cell? ⟨bt, 0, none⟩ = some (.int .i64 3) := yt
      have yw' : W'.cell? ⟨bw, 0, none⟩ = some (.int .i64 h) := yw
      have hx' : x < h := hx
      have hy' : y < w := hy
      have hXw' : X < h := hXw
      obtain rfl : x = X := hX
      show Calls _ _ _ _ fun e w' => e = .returned (.int .i64 (atL w l (w - 1 - y) x)) ∧ W' = w'
      obtain ⟨A, hA⟩ : ∃ A, w - 1 - y = A := ⟨_, rfl⟩
      have hAI : (w : Int) - 1 - (y : Int) = (A : Int) := by omega
      have hAw : IntKind.i64.wrap (A : Int) = (A : Int) := IntWalk.i64_in _ (by omega)
      have hAl : A < w := by omega
      rw [hA]
      obtain ⟨u, hu⟩ : ∃ u, atL w l A x = u := ⟨_, rfl⟩
      have HC := Lib.hid (HA.out _ A x HB.out (by omega) (by omega))
      rw [hu]
      have HU := Lib.hid hu
      clear hu hx hy hXw yt yw hA
      go_enter Tryd.func73, Tryd.ntmps73
      go_wp2_with fail
      refine HC.out.mono ?_; rintro e w' ⟨rfl, rfl⟩
      rw [HU.out]
      go_wp2
      go_ret
      exact ⟨rfl, rfl⟩
    · have yt' : W'.cell? ⟨bt, 0, none⟩ = some (.int .i64 4) := yt
      have yw' : W'.cell? ⟨bw, 0, none⟩ = some (.int .i64 w) := yw
      have hx' : x < w := hx
      have hy' : y < h := hy
      have hXw' : X < w := hXw
      have hX' : w - 1 - x = X := hX
      have hXI : (w : Int) - 1 - (x : Int) = (X : Int) := by omega
      have hXr : IntKind.i64.wrap (X : Int) = (X : Int) := IntWalk.i64_in _ (by omega)
      show Calls _ _ _ _ fun e w' => e = .returned (.int .i64 (atL w l X y)) ∧ W' = w'
      obtain ⟨u, hu⟩ : ∃ u, atL w l X y = u := ⟨_, rfl⟩
      have HC := Lib.hid (HA.out _ X y HB.out (by omega) (by omega))
      rw [hu]
      have HU := Lib.hid hu
      clear hu hx hy hXw yt yw hX hX' 
      go_enter Tryd.func73, Tryd.ntmps73
      go_wp2_with fail
      refine HC.out.mono ?_; rintro e w' ⟨rfl, rfl⟩
      rw [HU.out]
      go_wp2
      go_ret
      exact ⟨rfl, rfl⟩
    · have yt' : W'.cell? ⟨bt, 0, none⟩ = some (.int .i64 5) := yt
      have yw' : W'.cell? ⟨bw, 0, none⟩ = some (.int .i64 h) := yw
      have hx' : x < h := hx
      have hy' : y < w := hy
      have hXw' : X < h := hXw
      have hX' : h - 1 - x = X := hX
      have hXI : (h : Int) - 1 - (x : Int) = (X : Int) := by omega
      have hXr : IntKind.i64.wrap (X : Int) = (X : Int) := IntWalk.i64_in _ (by omega)
      show Calls _ _ _ _ fun e w' => e = .returned (.int .i64 (atL w l y (h - 1 - X))) ∧ W' = w'
      obtain ⟨A, hA⟩ : ∃ A, h - 1 - X = A := ⟨_, rfl⟩
      have hAI : (h : Int) - 1 - (X : Int) = (A : Int) := by omega
      have hAw : IntKind.i64.wrap (A : Int) = (A : Int) := IntWalk.i64_in _ (by omega)
      have hAl : A < h := by omega
      rw [hA]
      obtain ⟨u, hu⟩ : ∃ u, atL w l y A = u := ⟨_, rfl⟩
      have HC := Lib.hid (HA.out _ y A HB.out (by omega) (by omega))
      rw [hu]
      have HU := Lib.hid hu
      clear hu hx hy hXw yt yw hX hX' hA
      go_enter Tryd.func73, Tryd.ntmps73
      go_wp2_with fail
      refine HC.out.mono ?_; rintro e w' ⟨rfl, rfl⟩
      rw [HU.out]
      go_wp2
      go_ret
      exact ⟨rfl, rfl⟩
    · have yt' : W'.cell? ⟨bt, 0, none⟩ = some (.int .i64 6) := yt
      have yw' : W'.cell? ⟨bw, 0, none⟩ = some (.int .i64 w) := yw
      have hx' : x < w := hx
      have hy' : y < h := hy
      have hXw' : X < w := hXw
      have hX' : w - 1 - x = X := hX
      have hXI : (w : Int) - 1 - (x : Int) = (X : Int) := by omega
      have hXr : IntKind.i64.wrap (X : Int) = (X : Int) := IntWalk.i64_in _ (by omega)
      show Calls _ _ _ _ fun e w' => e = .returned (.int .i64 (atL w l (w - 1 - X) (h - 1 - y))) ∧ W' = w'
      obtain ⟨A, hA⟩ : ∃ A, w - 1 - X = A := ⟨_, rfl⟩
      have hAI : (w : Int) - 1 - (X : Int) = (A : Int) := by omega
      have hAw : IntKind.i64.wrap (A : Int) = (A : Int) := IntWalk.i64_in _ (by omega)
      have hAl : A < w := by omega
      rw [hA]
      obtain ⟨B, hB⟩ : ∃ B, h - 1 - y = B := ⟨_, rfl⟩
      have hBI : (h : Int) - 1 - (y : Int) = (B : Int) := by omega
      have hBw : IntKind.i64.wrap (B : Int) = (B : Int) := IntWalk.i64_in _ (by omega)
      have hBl : B < h := by omega
      rw [hB]
      obtain ⟨u, hu⟩ : ∃ u, atL w l A B = u := ⟨_, rfl⟩
      have HC := Lib.hid (HA.out _ A B HB.out (by omega) (by omega))
      rw [hu]
      have HU := Lib.hid hu
      clear hu hx hy hXw yt yw hX hX' hA hB
      go_enter Tryd.func73, Tryd.ntmps73
      go_wp2_with fail
      refine HC.out.mono ?_; rintro e w' ⟨rfl, rfl⟩
      rw [HU.out]
      go_wp2
      go_ret
      exact ⟨rfl, rfl⟩
    · have yt' : W'.cell? ⟨bt, 0, none⟩ = some (.int .i64 7) := yt
      have yw' : W'.cell? ⟨bw, 0, none⟩ = some (.int .i64 h) := yw
      have hx' : x < h := hx
      have hy' : y < w := hy
      have hXw' : X < h := hXw
      have hX' : h - 1 - x = X := hX
      have hXI : (h : Int) - 1 - (x : Int) = (X : Int) := by omega
      have hXr : IntKind.i64.wrap (X : Int) = (X : Int) := IntWalk.i64_in _ (by omega)
      show Calls _ _ _ _ fun e w' => e = .returned (.int .i64 (atL w l (w - 1 - y) X)) ∧ W' = w'
      obtain ⟨A, hA⟩ : ∃ A, w - 1 - y = A := ⟨_, rfl⟩
      have hAI : (w : Int) - 1 - (y : Int) = (A : Int) := by omega
      have hAw : IntKind.i64.wrap (A : Int) = (A : Int) := IntWalk.i64_in _ (by omega)
      have hAl : A < w := by omega
      rw [hA]
      obtain ⟨u, hu⟩ : ∃ u, atL w l A X = u := ⟨_, rfl⟩
      have HC := Lib.hid (HA.out _ A X HB.out (by omega) (by omega))
      rw [hu]
      have HU := Lib.hid hu
      clear hu hx hy hXw yt yw hX hX' hA
      go_enter Tryd.func73, Tryd.ntmps73
      go_wp2_with fail
      refine HC.out.mono ?_; rintro e w' ⟨rfl, rfl⟩
      rw [HU.out]
      go_wp2
      go_ret
      exact ⟨rfl, rfl⟩
  have h2 := key (if 4 ≤ T then turnW w h T - 1 - x else x) (by split <;> omega) rfl
  refine h2.mono ?_
  rintro e w' ⟨rfl, rfl⟩
  exact ⟨rfl, bnil W'⟩
end Go.Proofs.YtoaooblodgejdaaDoor
namespace Go.Proofs.YtoaooblodgejdaaDoor
open Go.RowKit
set_option linter.unusedVariables false
set_option maxRecDepth 100000

set_option maxHeartbeats 4000000 in
theorem turn_errP (w h t : Int) (a : Option Addr) (n c : Nat) (l : List Int) (W : World) (R : Nat → Addr) (hS : Sent W R) (hR : RK .i64 W a n l) (hm : n ≤ maxLen) (hx : I64 l) (x : Int × Int) (he : patchErr w h l = some x) :
    Calls Tryd.prog 26 #[patV w h a n c, .int .i64 t] W (PatErr R (some ([(opPatch, x.1)], x.2)) W) := by
  obtain ⟨Wb, hWb⟩ : ∃ Wb, ((W.alloc (.cells #[.int .i64 w, .int .i64 h, .slice a n c] 24)).alloc (.cells #[.int .i64 t] 3)).alloc (.cells #[.int .i64 0, .int .i64 0, .slice none 0 0] 24) = Wb := ⟨_, rfl⟩
  have HX : Hid (Wb.cell? ⟨W.heap.size, 0, none⟩ = some (.int .i64 w) ∧ Wb.cell? ⟨W.heap.size, 1, none⟩ = some (.int .i64 h) ∧ Wb.cell? ⟨W.heap.size, 2, none⟩ = some (.slice a n c) ∧ Wb.cell? ⟨W.heap.size + 1, 0, none⟩ = some (.int .i64 t)) := by rw [← hWb]; exact ⟨al000 (al000 (cnw rfl rfl)), al000 (al000 (cnw rfl rfl)), al000 (al000 (cnw rfl rfl)), al000 (cnw (by simp) rfl)⟩
  have HT : Hid (Wb.heap[W.heap.size + 1]? = some (.cells #[.int .i64 t] 3)) := by
    show _ = _
    rw [← hWb, (balloc (bnil _) (.cells #[.int .i64 0, .int .i64 0, .slice none 0 0] 24)).block _ (by simp)]
    have := heap_alloc_new (W.alloc (.cells #[.int .i64 w, .int .i64 h, .slice a n c] 24)) (.cells #[.int .i64 t] 3)
    simpa using this
  have HZ : Hid (Wb.heap[W.heap.size + 1 + 1]? = some (.cells #[.int .i64 0, .int .i64 0, .slice none 0 0] 24)) := by
    show _ = _
    rw [← hWb]
    have := heap_alloc_new ((W.alloc (.cells #[.int .i64 w, .int .i64 h, .slice a n c] 24)).alloc (.cells #[.int .i64 t] 3)) (.cells #[.int .i64 0, .int .i64 0, .slice none 0 0] 24)
    simpa using this
  have HSZ : Hid (Wb.heap.size = W.heap.size + 3) := by show _ = _; rw [← hWb]; simp
  have HBX : Hid (Below W.heap.size W Wb) := by rw [← hWb]; exact balloc (balloc (balloc (bnil W) _) _) _
  have HSN := Lib.hid (hS.up HBX.out)
  have HS0 := Lib.hid hS
  have HR0 := Lib.hid hR
  have HR := Lib.hid (hR.up HBX.out)
  have HI6 := Lib.hid hx
  clear hS hR hx
  have HWB := Lib.hid hWb; clear hWb
  have HE := Lib.hid he
  clear he
  go_enter Tryd.func26, Tryd.ntmps26
  go_wp2_with fail
  rw [HWB.out]
  refine (pcheck_er w h a n c l _ R HSN.out HR.out hm HI6.out x HE.out).mono ?_; rintro e w1 ⟨g, rfl, he1, hb1⟩
  have HC1 := Lib.hid hb1
  have HEC := Lib.hid he1
  clear hb1 he1
  have hz := (HC1.out.block (W.heap.size + 1 + 1) (by have := HSZ.out; omega)).trans HZ.out
  have HZ8 := Lib.hid hz
  obtain ⟨⟨d0, d1', d2'⟩, q0, q1, q2⟩ := p_cells hz
  clear hz
  go_wp2
  obtain ⟨w9, e9, ⟨r0, r1, r2⟩, hk9, hs9, hbl9⟩ := set3p HZ8.out (.int .i64 0) (.int .i64 0) (.slice none 0 0)
  rw [e9]
  refine bodyPost_ret (v := .tuple #[patV 0 0 none 0 0, .iface 124 (.pointer (some ⟨g, 0, none⟩))]) (by simp [results, Tryd.results26, go_sem, r0, r1, r2]) rfl ?_
  exact ⟨_, rfl, HEC.out.othP HS0.out hk9 HZ8.out (by omega), hbl9 _ _ (by omega) (HBX.out.trans (HC1.out.mono HBX.out.size))⟩

theorem cell_blkP {w w6 : World} {g b o : Nat} {v : Value} (hk : ∀ k, k ≠ g → w6.heap[k]? = w.heap[k]?) (h : w.cell? ⟨b, o, none⟩ = some v) (hne : b ≠ g) : w6.cell? ⟨b, o, none⟩ = some v := by
  rw [World.cell?_of_block (hk b hne)]; exact h
theorem set1p {w : World} {g : Nat} {x0 : Value} {t : TypeId} {fr : Nat × Nat} (h : w.heap[g]? = some (.cells #[x0] t fr)) (u0 : Value) :
    ∃ w6, w.setCell ⟨g, 0, none⟩ u0 = w6 ∧ w6.cell? ⟨g, 0, none⟩ = some u0 ∧ w6.heap[g]? = some (.cells #[u0] t fr) ∧ (∀ k, k ≠ g → w6.heap[k]? = w.heap[k]?) ∧ w6.heap.size = w.heap.size ∧ ∀ (V : World) (B : Nat), B ≤ g → Below B V w → Below B V w6 := by
  refine ⟨_, rfl, ?_, ?_, fun k hk => ?_, ?_, fun V B hB hb => ?_⟩
  · simp [World.cell?, World.setCell, Array.getElem?_modify, h]
  · simp [World.setCell, Array.getElem?_modify, h]
  · rw [Below.heap_setCell _ _ _ _ hk]
  · simp [World.setCell]
  · exact hb.setCell (p := ⟨g, 0, none⟩) hB u0
theorem f_cell {w : World} {g : Nat} {x0 : Value} {t : TypeId} (h : w.heap[g]? = some (.cells #[x0] t)) : w.cell? ⟨g, 0, none⟩ = some x0 ∧ w.frozen? ⟨g, 0, none⟩ = false := by
  simp [World.cell?, World.frozen?, h]
theorem heap_lt {w : World} {g : Nat} {o : Obj} (h : w.heap[g]? = some o) : g < w.heap.size := (Array.getElem?_eq_some_iff.1 h).1

set_option maxHeartbeats 16000000 in
theorem turn_okP (w h : Nat) (t : Int) (a : Option Addr) (n c : Nat) (l : List Int) (W : World) (R : Nat → Addr) (hS : Sent W R) (hR : RK .i64 W a n l) (hm : n ≤ maxLen) (hx : I64 l) (hp : IsPatch w h l) (T : Nat) (hT : t % 8 = (T : Int)) :
    Calls Tryd.prog 26 #[patV w h a n c, .int .i64 t] W fun e w' => ∃ g c', e = .returned (.tuple #[patV (turnW w h T) (turnW h w T) (some ⟨g, 0, none⟩) (turnW w h T * turnW h w T) c', .nilIface]) ∧ OwI w' W.heap.size (some ⟨g, 0, none⟩) (turnW w h T * turnW h w T) c' (turnL w h l T) ∧ Below W.heap.size W w' := by
  have hw1 := hp.w1
  have hh1 := hp.h1
  have hw2 := hp.w2
  have hh2 := hp.h2
  have hT8 : T < 8 := by omega
  have hbits : bits .and .i64 t 7 = (T : Int) := by rw [and7_i64]; exact hT
  clear hT
  obtain ⟨Wb, hWb⟩ : ∃ Wb, ((W.alloc (.cells #[.int .i64 w, .int .i64 h, .slice a n c] 24)).alloc (.cells #[.int .i64 t] 3)).alloc (.cells #[.int .i64 0, .int .i64 0, .slice none 0 0] 24) = Wb := ⟨_, rfl⟩
  have HX : Hid (Wb.cell? ⟨W.heap.size, 0, none⟩ = some (.int .i64 w) ∧ Wb.cell? ⟨W.heap.size, 1, none⟩ = some (.int .i64 h) ∧ Wb.cell? ⟨W.heap.size, 2, none⟩ = some (.slice a n c) ∧ Wb.cell? ⟨W.heap.size + 1, 0, none⟩ = some (.int .i64 t)) := by rw [← hWb]; exact ⟨al000 (al000 (cnw rfl rfl)), al000 (al000 (cnw rfl rfl)), al000 (al000 (cnw rfl rfl)), al000 (cnw (by simp) rfl)⟩
  have HT : Hid (Wb.heap[W.heap.size + 1]? = some (.cells #[.int .i64 t] 3)) := by
    show _ = _
    rw [← hWb, (balloc (bnil _) (.cells #[.int .i64 0, .int .i64 0, .slice none 0 0] 24)).block _ (by simp)]
    have := heap_alloc_new (W.alloc (.cells #[.int .i64 w, .int .i64 h, .slice a n c] 24)) (.cells #[.int .i64 t] 3)
    simpa using this
  have HZ : Hid (Wb.heap[W.heap.size + 1 + 1]? = some (.cells #[.int .i64 0, .int .i64 0, .slice none 0 0] 24)) := by
    show _ = _
    rw [← hWb]
    have := heap_alloc_new ((W.alloc (.cells #[.int .i64 w, .int .i64 h, .slice a n c] 24)).alloc (.cells #[.int .i64 t] 3)) (.cells #[.int .i64 0, .int .i64 0, .slice none 0 0] 24)
    simpa using this
  have HSZ : Hid (Wb.heap.size = W.heap.size + 3) := by show _ = _; rw [← hWb]; simp
  have HBX : Hid (Below W.heap.size W Wb) := by rw [← hWb]; exact balloc (balloc (balloc (bnil W) _) _) _
  have HSN := Lib.hid (hS.up HBX.out)
  have HS0 := Lib.hid hS
  have HR0 := Lib.hid hR
  have HR := Lib.hid (hR.up HBX.out)
  have HI6 := Lib.hid hx
  clear hS hR hx
  have HWB := Lib.hid hWb; clear hWb
  have HPP := Lib.hid hp
  clear hp
  have hmf : ∀ (fn : Fn) (first cap : Array Value) (w : World), (Instr.makeFunc fn first cap).run Tryd.prog w = .ok (.func fn first cap) w := fun _ _ _ _ => rfl
  go_enter Tryd.func26, Tryd.ntmps26
  go_wp2_with fail
  rw [HWB.out]
  refine (pcheck_ok w h a n c l _ R HSN.out HR.out hm HI6.out HPP.out).mono ?_; rintro e w1 ⟨rfl, hb1⟩
  have hsz := HSZ.out
  have ht1 := (hb1.block (W.heap.size + 1) (by omega)).trans HT.out
  obtain ⟨wt, et, ct, hct, hkt, hst, hblt⟩ := set1p ht1 (.int .i64 T)
  have HET := Lib.hid et
  have hbt := hblt W W.heap.size (by omega) (HBX.out.trans (hb1.mono HBX.out.size))
  have hn1 : W.heap.size ≠ W.heap.size + 1 := by omega
  have hx0 := cell_blkP hkt (cpa hb1 HX.out.1) hn1
  have hx1 := cell_blkP hkt (cpa hb1 HX.out.2.1) hn1
  have hx2 := cell_blkP hkt (cpa hb1 HX.out.2.2.1) hn1
  have hzt := (hkt (W.heap.size + 1 + 1) (by omega)).trans ((hb1.block (W.heap.size + 1 + 1) (by omega)).trans HZ.out)
  have HRT := Lib.hid (HR0.out.up hbt)
  obtain ⟨x0, f0⟩ := f_cell ht1
  have HSTT := Lib.hid hst
  have HCT := Lib.hid hct
  have HX0 := Lib.hid (And.intro hx0 (And.intro hx1 (And.intro hx2 ct)))
  have HZT := Lib.hid hzt
  have HBT := Lib.hid hbt
  clear hst hct hkt hblt hsz hzt hbt et ht1 hn1
  go_wp2_with fail
  rw [HET.out]
  clear x0 f0
  go_wp2_with fail
  obtain ⟨wf, hwf⟩ : ∃ wf, wt.alloc (.cells #[.func (.func 71) #[] #[.pointer (some ⟨W.heap.size, 0, none⟩)]] 118) = wf := ⟨_, rfl⟩
  have hbf : Below wt.heap.size wt wf := by rw [← hwf]; exact balloc (bnil wt) _
  have hca : wf.cell? ⟨wt.heap.size, 0, none⟩ = some (.func (.func 71) #[] #[.pointer (some ⟨W.heap.size, 0, none⟩)]) := by rw [← hwf]; exact cnw rfl rfl
  clear hx0 hx1 hx2 ct
  have hx0 := cpa hbf HX0.out.1
  have hx1 := cpa hbf HX0.out.2.1
  have hx2 := cpa hbf HX0.out.2.2.1
  have ct := cpa hbf HX0.out.2.2.2
  have hzf := (hbf.block _ (heap_lt HZT.out)).trans HZT.out
  have HZF := Lib.hid hzf
  have HBF := Lib.hid (bstep HBT.out hbf)
  have HRF := Lib.hid (HRT.out.up hbf)
  rw [hwf]
  obtain ⟨ga, hga⟩ : ∃ ga, w1.heap.size = ga := ⟨_, rfl⟩
  rw [HSTT.out, hga] at hca
  rw [hga]
  have HCA := Lib.hid (And.intro hca (And.intro hx0 (And.intro hx1 (And.intro hx2 ct))))
  clear hwf hbf hzf hca hga
  have y0 : wf.drew.cell? ⟨W.heap.size, 0, none⟩ = some (.int .i64 w) := hx0
  have y1 : wf.drew.cell? ⟨W.heap.size, 1, none⟩ = some (.int .i64 h) := hx1
  have hlt : W.heap.size < wf.heap.size := World.block_lt_of_cell? _ _ hx0
  have hne : ¬ W.heap.size = wf.heap.size := by omega
  go_region
  obtain ⟨ws, hws⟩ : ∃ ws, (wf.alloc (.cells #[.int .i64 w] 3)).drew = ws := ⟨_, rfl⟩
  obtain ⟨gb, hgb⟩ : ∃ gb, wf.heap.size = gb := ⟨_, rfl⟩
  have hbs : Below wf.heap.size wf ws := by rw [← hws]; exact Below.drew (balloc (bnil wf) _)
  have hhb : ws.heap[gb]? = some (.cells #[.int .i64 w] 3) := by rw [← hws, ← hgb]; exact heap_alloc_new wf _
  have s0 := cpa hbs HCA.out.2.1
  have s1 := cpa hbs HCA.out.2.2.1
  have s2 := cpa hbs HCA.out.2.2.2.1
  have st := cpa hbs HCA.out.2.2.2.2
  have sa := cpa hbs HCA.out.1
  obtain ⟨sb, fb⟩ := f_cell hhb
  have HGB := Lib.hid hhb
  have HGBE := Lib.hid hgb
  have HLG : Hid (W.heap.size ≤ gb) := by show _ ≤ _; omega
  have HLT0 := Lib.hid hlt
  have HLT1 : Hid (W.heap.size + 1 < wf.heap.size) := World.block_lt_of_cell? _ _ ct
  have HLTA : Hid (ga < wf.heap.size) := World.block_lt_of_cell? _ _ HCA.out.1
  have HBS := Lib.hid (bstep HBF.out hbs)
  have HZS := Lib.hid ((hbs.block _ (heap_lt HZF.out)).trans HZF.out)
  rw [hws, hgb]
  clear hws hgb hbs hhb hlt hne hx0 hx1 hx2 ct y0 y1
  by_cases hodd : T % 2 = 1
  · skip
    have hW : turnW w h T = h := by unfold turnW; rw [if_pos hodd]
    have hH : turnW h w T = w := by unfold turnW; rw [if_pos hodd]
    have e1 : (T : Int) % 2 = 1 := by omega
    have e2 : (T : Int).tmod 2 = 1 := by rw [Int.tmod_eq_emod_of_nonneg (by omega)]; exact e1
    have hHW := Lib.hid (And.intro hW hH)
    clear hodd hW hH
    obtain ⟨wo, eo, co, hho, hko, hso, hblo⟩ := set1p HGB.out (.int .i64 h)
    have HEO := Lib.hid eo
    have hbo := hblo W W.heap.size HLG.out HBS.out
    have hnb : ∀ b, b < wf.heap.size → b ≠ gb := fun b hb => by rw [← HGBE.out]; omega
    have k0 := cell_blkP hko s0 (hnb _ HLT0.out)
    have k1 := cell_blkP hko s1 (hnb _ HLT0.out)
    have k2 := cell_blkP hko s2 (hnb _ HLT0.out)
    have kt := cell_blkP hko st (hnb _ HLT1.out)
    have ka := cell_blkP hko sa (hnb _ HLTA.out)
    have hzo := (hko _ (hnb _ (heap_lt HZF.out))).trans HZS.out
    clear hko hso hblo hho
    go_wp2_with fail
    clear eo
    have HBO := Lib.hid hbo
    have HZO := Lib.hid hzo
    have HLO : Hid (W.heap.size + 2 ≤ wo.heap.size) := by show _ ≤ _; have := heap_lt hzo; omega
    have hAt := turn1 w h W.heap.size a n c l wo HPP.out (HR0.out.up hbo) k0 k2
    have hcell := turn2 w h T W.heap.size (W.heap.size + 1) gb ga l wo HPP.out hT8 hAt k0 k1 kt (by rw [hHW.out.1]; exact co) ka
    have hmade := made_any (turnW w h T) (turnW h w T) 73 _ (turnF w h l T) wo (by rw [hHW.out.1]; omega) (by rw [hHW.out.1]; omega) (by rw [hHW.out.2]; omega) (by rw [hHW.out.2]; omega) (enters_of Tryd.func73 (by kernel_rfl) rfl) hcell
    rw [hHW.out.1, hHW.out.2] at hmade
    have HMADE := Lib.hid hmade
    clear hbo hzo hAt hcell hmade e1 e2 sb s0 s1 s2 st sa
    refine HMADE.out.mono ?_; rintro e w5 ⟨g, c5, rfl, ho5, hb5⟩
    have hz5 := (hb5.block _ (heap_lt HZO.out)).trans HZO.out
    have HZ5 := Lib.hid hz5
    have HB5 := Lib.hid (bstep HBO.out hb5)
    have HO5 := Lib.hid ho5
    obtain ⟨⟨d0, d1', d2'⟩, q0, q1', q2⟩ := p_cells hz5
    clear hz5 ho5 hb5 k0 k1 k2 kt ka co
    go_wp2
    obtain ⟨w9, e9, ⟨r0, r1, r2⟩, hk9, hs9, hbl9⟩ := set3p HZ5.out (.int .i64 h) (.int .i64 w) (.slice (some ⟨g, 0, none⟩) (h * w) c5)
    rw [e9]
    refine bodyPost_ret (v := .tuple #[patV h w (some ⟨g, 0, none⟩) (h * w) c5, .nilIface]) (by simp [results, Tryd.results26, go_sem, r0, r1, r2]) rfl ?_
    rw [show turnL w h l T = madeL (turnW w h T) (turnW h w T) (turnF w h l T) from rfl, hHW.out.1, hHW.out.2]
    have hlo := HLO.out
    refine ⟨g, c5, rfl, ?_, hbl9 _ _ (by omega) HB5.out⟩
    exact OwI.base (b' := W.heap.size) ⟨own_of_heap' HO5.out.own fun b hb => hk9 b (by have := (HO5.out.own.lt b hb).1; have := heap_lt HZO.out; omega)⟩ (by omega)
  · skip
    have hW : turnW w h T = w := by unfold turnW; rw [if_neg hodd]
    have hH : turnW h w T = h := by unfold turnW; rw [if_neg hodd]
    have e1 : (T : Int) % 2 = 0 := by omega
    have e2 : (T : Int).tmod 2 = 0 := by rw [Int.tmod_eq_emod_of_nonneg (by omega)]; exact e1
    have hHW := Lib.hid (And.intro hW hH)
    clear hodd hW hH
    obtain ⟨wo, eo⟩ : ∃ wo, ws = wo := ⟨_, rfl⟩
    have hbo : Below W.heap.size W wo := by rw [← eo]; exact HBS.out
    have k0 := s0
    have k1 := s1
    have k2 := s2
    have kt := st
    have ka := sa
    have co := sb
    have hzo := HZS.out
    rw [eo] at k0 k1 k2 kt ka co hzo
    go_wp2_with fail
    clear eo
    have HBO := Lib.hid hbo
    have HZO := Lib.hid hzo
    have HLO : Hid (W.heap.size + 2 ≤ wo.heap.size) := by show _ ≤ _; have := heap_lt hzo; omega
    have hAt := turn1 w h W.heap.size a n c l wo HPP.out (HR0.out.up hbo) k0 k2
    have hcell := turn2 w h T W.heap.size (W.heap.size + 1) gb ga l wo HPP.out hT8 hAt k0 k1 kt (by rw [hHW.out.1]; exact co) ka
    have hmade := made_any (turnW w h T) (turnW h w T) 73 _ (turnF w h l T) wo (by rw [hHW.out.1]; omega) (by rw [hHW.out.1]; omega) (by rw [hHW.out.2]; omega) (by rw [hHW.out.2]; omega) (enters_of Tryd.func73 (by kernel_rfl) rfl) hcell
    rw [hHW.out.1, hHW.out.2] at hmade
    have HMADE := Lib.hid hmade
    clear hbo hzo hAt hcell hmade e1 e2 sb s0 s1 s2 st sa
    refine HMADE.out.mono ?_; rintro e w5 ⟨g, c5, rfl, ho5, hb5⟩
    have hz5 := (hb5.block _ (heap_lt HZO.out)).trans HZO.out
    have HZ5 := Lib.hid hz5
    have HB5 := Lib.hid (bstep HBO.out hb5)
    have HO5 := Lib.hid ho5
    obtain ⟨⟨d0, d1', d2'⟩, q0, q1', q2⟩ := p_cells hz5
    clear hz5 ho5 hb5 k0 k1 k2 kt ka co
    go_wp2
    obtain ⟨w9, e9, ⟨r0, r1, r2⟩, hk9, hs9, hbl9⟩ := set3p HZ5.out (.int .i64 w) (.int .i64 h) (.slice (some ⟨g, 0, none⟩) (w * h) c5)
    rw [e9]
    refine bodyPost_ret (v := .tuple #[patV w h (some ⟨g, 0, none⟩) (w * h) c5, .nilIface]) (by simp [results, Tryd.results26, go_sem, r0, r1, r2]) rfl ?_
    rw [show turnL w h l T = madeL (turnW w h T) (turnW h w T) (turnF w h l T) from rfl, hHW.out.1, hHW.out.2]
    have hlo := HLO.out
    refine ⟨g, c5, rfl, ?_, hbl9 _ _ (by omega) HB5.out⟩
    exact OwI.base (b' := W.heap.size) ⟨own_of_heap' HO5.out.own fun b hb => hk9 b (by have := (HO5.out.own.lt b hb).1; have := heap_lt HZO.out; omega)⟩ (by omega)
end Go.Proofs.YtoaooblodgejdaaDoor
