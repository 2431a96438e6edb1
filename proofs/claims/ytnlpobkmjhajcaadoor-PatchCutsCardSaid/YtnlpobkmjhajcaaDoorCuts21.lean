/- edenlaw21.PatchCuts returns true. -/
import Derived.Test.YtnlpobkmjhajcaaDoorPatI
import Derived.Test.YtnlpobkmjhajcaaDoorPatJ
import Derived.Test.YtnlpobkmjhajcaaDoorTrkP
import Derived.Deep.QuietTactic
import Derived.BigQuiet
namespace Go.Proofs.YtnlpobkmjhajcaaDoor
open Go.RowKit
set_option linter.unusedVariables false
set_option maxRecDepth 100000

theorem cut_okK (w h x y p q K : Nat) (a : Option Addr) (n c : Nat) (l : List Int) (W : World) (R : Nat → Addr) (hK : p * q = K) (hS : Sent W R) (hR : RK .i64 W a n l) (hm : n ≤ maxLen) (hp : IsPatch w h l) (p1 : 1 ≤ p) (q1 : 1 ≤ q) (h3 : x + p ≤ w) (h4 : y + q ≤ h) :
    Calls Tryd.prog 13 #[patV w h a n c, .int .i64 x, .int .i64 y, .int .i64 p, .int .i64 q] W fun e w' => ∃ g c', e = .returned (.tuple #[patV p q (some ⟨g, 0, none⟩) K c', .nilIface]) ∧ OwI w' W.heap.size (some ⟨g, 0, none⟩) K c' (cutL w l x y p q) ∧ Below W.heap.size W w' := by
  subst hK
  exact cut_okP w h x y p q a n c l W R hS hR hm hp.i64 hp p1 q1 h3 h4
theorem withinB_true {x n m : Int} (h : ¬ withinB x n m = false) : 0 ≤ x ∧ 1 ≤ n ∧ n ≤ m ∧ x ≤ m - n := by
  have h2 : withinB x n m = true := by simpa using h
  exact of_decide_eq_true h2
theorem cutD_none {w h : Int} {l : List Int} {x y p q : Int} (hd : cutD w h l x y p q = none) : ∃ w' h' x' y' p' q' : Nat, w = w' ∧ h = h' ∧ x = x' ∧ y = y' ∧ p = p' ∧ q = q' ∧ IsPatch w' h' l ∧ 1 ≤ p' ∧ 1 ≤ q' ∧ x' + p' ≤ w' ∧ y' + q' ≤ h' := by
  unfold cutD at hd
  split at hd
  · cases hd
  rename_i he
  obtain ⟨w', h', rfl, rfl, hp⟩ := patchErr_none he
  split at hd
  · cases hd
  rename_i h1
  split at hd
  · cases hd
  rename_i h2
  obtain ⟨a1, a2, a3, a4⟩ := withinB_true h1
  obtain ⟨b1, b2, b3, b4⟩ := withinB_true h2
  exact ⟨w', h', x.toNat, y.toNat, p.toNat, q.toNat, rfl, rfl, by omega, by omega, by omega, by omega, hp, by omega, by omega, by omega, by omega⟩
theorem cut_cut {w x y p q x2 y2 p2 q2 : Nat} {l : List Int} (h1 : 1 ≤ p2) (h3 : x2 + p2 ≤ p) (h4 : y2 + q2 ≤ q) : cutL p (cutL w l x y p q) x2 y2 p2 q2 = cutL w l (x + x2) (y + y2) p2 q2 := by
  unfold cutL
  refine madeL_congr (by omega) fun i j hi hj => ?_
  rw [atL_made (by omega) (by omega), Nat.add_assoc, Nat.add_assoc]
theorem iw64 {n : Nat} (h : n ≤ 1000000) : IntKind.i64.wrap (n : Int) = (n : Int) := IntWalk.i64_in _ (by omega)
theorem mul_le {a b A B : Nat} (h1 : a ≤ A) (h2 : b ≤ B) : a * b ≤ A * B := Nat.mul_le_mul h1 h2

set_option maxHeartbeats 16000000 in
theorem patch_cuts (w h : Int) (a : Option Addr) (n c : Nat) (l : List Int) (cx cy cw ch dx dy dw dh : Int) (W : World) (R : Nat → Addr) (hS : Sent W R) (m : Int) (hm : W.cell? ⟨13, 0, none⟩ = some (.int .i64 m)) (hR : RK .i64 W a n l) (hnm : n ≤ maxLen) (hx : I64 l) :
    Calls Tryd.prog 4 #[patV w h a n c, .agg #[.int .i64 cx, .int .i64 cy, .int .i64 cw, .int .i64 ch], .agg #[.int .i64 dx, .int .i64 dy, .int .i64 dw, .int .i64 dh]] W (TrueBelow W) := by
  have T0 := Tk.nil W
  have T1 := T0.add (fun wv => Below W.heap.size W wv) (bnil W)
  clear T0
  have T2 := T1.add (fun wv => Sent wv R) (hS)
  clear T1
  have T3 := T2.add (fun wv => wv.cell? ⟨13, 0, none⟩ = some (.int .i64 m)) (hm)
  clear T2
  have T4 := T3.add (fun wv => RK .i64 wv a n l) (hR)
  clear T3
  have HI6 := Lib.hid hx
  clear hS hR hm hx
  obtain ⟨Wb, hWb⟩ : ∃ Wb, ((W.alloc (.cells #[.int .i64 w, .int .i64 h, .slice a n c] 24)).alloc (.cells #[.int .i64 cx, .int .i64 cy, .int .i64 cw, .int .i64 ch] 34)).alloc (.cells #[.int .i64 dx, .int .i64 dy, .int .i64 dw, .int .i64 dh] 34) = Wb := ⟨_, rfl⟩
  have hbWb : Below W.heap.size W Wb := by rw [← hWb]; exact balloc (balloc (balloc (bnil W) _) _) _
  have T5 := T4.up hbWb
  clear T4
  have T6 := T5.add (fun wv => wv.cell? ⟨W.heap.size, 0, none⟩ = some (.int .i64 w) ∧ wv.cell? ⟨W.heap.size, 1, none⟩ = some (.int .i64 h) ∧ wv.cell? ⟨W.heap.size, 2, none⟩ = some (.slice a n c)) (by rw [← hWb]; exact ⟨al000 (al000 (cnw (by simp) rfl)), al000 (al000 (cnw (by simp) rfl)), al000 (al000 (cnw (by simp) rfl))⟩)
  clear T5
  have T7 := T6.add (fun wv => wv.cell? ⟨W.heap.size + 1, 0, none⟩ = some (.int .i64 cx) ∧ wv.cell? ⟨W.heap.size + 1, 1, none⟩ = some (.int .i64 cy) ∧ wv.cell? ⟨W.heap.size + 1, 2, none⟩ = some (.int .i64 cw) ∧ wv.cell? ⟨W.heap.size + 1, 3, none⟩ = some (.int .i64 ch)) (by rw [← hWb]; exact ⟨al000 (cnw (by simp) rfl), al000 (cnw (by simp) rfl), al000 (cnw (by simp) rfl), al000 (cnw (by simp) rfl)⟩)
  clear T6
  have T8 := T7.add (fun wv => wv.cell? ⟨W.heap.size + 1 + 1, 0, none⟩ = some (.int .i64 dx) ∧ wv.cell? ⟨W.heap.size + 1 + 1, 1, none⟩ = some (.int .i64 dy) ∧ wv.cell? ⟨W.heap.size + 1 + 1, 2, none⟩ = some (.int .i64 dw) ∧ wv.cell? ⟨W.heap.size + 1 + 1, 3, none⟩ = some (.int .i64 dh)) (by rw [← hWb]; exact ⟨cnw (by simp) rfl, cnw (by simp) rfl, cnw (by simp) rfl, cnw (by simp) rfl⟩)
  clear T7
  have HWb := Lib.hid hWb
  clear hWb hbWb
  go_enter Tryd.func4, Tryd.ntmps4
  go_wp2_with fail
  rw [HWb.out]
  refine (awake21 Wb R T8.out.1.1.1.1.1.2 m T8.out.1.1.1.1.2).mono ?_; rintro e w1 ⟨rfl, hbw1⟩
  have T9 := T8.up hbw1
  clear T8
  cases hd : cutD w h l cx cy cw ch with
  | some y0 =>
    have hd0 : cutD w h l cx cy cw ch ≠ none := by rw [hd]; exact nofun
    have HD0 := Lib.hid hd0
    clear hd hd0
    have v_p0 : w1.cell? ⟨W.heap.size, 0, none⟩ = some (.int .i64 w) := T9.out.1.1.2.1
    have v_p1 : w1.cell? ⟨W.heap.size, 1, none⟩ = some (.int .i64 h) := T9.out.1.1.2.2.1
    have v_p2 : w1.cell? ⟨W.heap.size, 2, none⟩ = some (.slice a n c) := T9.out.1.1.2.2.2
    have v_c0 : w1.cell? ⟨W.heap.size + 1, 0, none⟩ = some (.int .i64 cx) := T9.out.1.2.1
    have v_c1 : w1.cell? ⟨W.heap.size + 1, 1, none⟩ = some (.int .i64 cy) := T9.out.1.2.2.1
    have v_c2 : w1.cell? ⟨W.heap.size + 1, 2, none⟩ = some (.int .i64 cw) := T9.out.1.2.2.2.1
    have v_c3 : w1.cell? ⟨W.heap.size + 1, 3, none⟩ = some (.int .i64 ch) := T9.out.1.2.2.2.2
    go_wp2_with fail
    refine (cut_errP w h cx cy cw ch a n c l w1 R T9.out.1.1.1.1.1.2 T9.out.1.1.1.2 hnm HI6.out HD0.out).mono ?_; rintro e w2 ⟨g2, rfl, hec, hbw2⟩
    clear v_p0 v_p1 v_p2 v_c0 v_c1 v_c2 v_c3
    have T10 := T9.up hbw2
    clear T9
    obtain ⟨wa, hwa⟩ : ∃ wa, w2.alloc (.cells #[.int .i64 0, .int .i64 0, .slice none 0 0] 24) = wa := ⟨_, rfl⟩
    have hbwa : Below w2.heap.size w2 wa := by rw [← hwa]; exact balloc (bnil w2) _
    have T11 := T10.up hbwa
    clear T10
    have T12 := T11.add (fun wv => wv.cell? ⟨w2.heap.size, 0, none⟩ = some (.int .i64 0) ∧ wv.cell? ⟨w2.heap.size, 1, none⟩ = some (.int .i64 0) ∧ wv.cell? ⟨w2.heap.size, 2, none⟩ = some (.slice none 0 0)) (by rw [← hwa]; exact ⟨cnw (by simp) rfl, cnw (by simp) rfl, cnw (by simp) rfl⟩)
    clear T11
    have Hwa := Lib.hid hwa
    clear hwa hbwa
    have v_a0 : (w2.alloc (.cells #[.int .i64 0, .int .i64 0, .slice none 0 0] 24)).cell? ⟨w2.heap.size, 0, none⟩ = some (.int .i64 0) := by rw [Hwa.out]; exact T12.out.2.1
    have v_a1 : (w2.alloc (.cells #[.int .i64 0, .int .i64 0, .slice none 0 0] 24)).cell? ⟨w2.heap.size, 1, none⟩ = some (.int .i64 0) := by rw [Hwa.out]; exact T12.out.2.2.1
    have v_a2 : (w2.alloc (.cells #[.int .i64 0, .int .i64 0, .slice none 0 0] 24)).cell? ⟨w2.heap.size, 2, none⟩ = some (.slice none 0 0) := by rw [Hwa.out]; exact T12.out.2.2.2
    go_wp2
    go_ret
    rw [Hwa.out]
    exact ⟨rfl, T12.out.1.1.1.1.1.1.1.2⟩
  | none =>
    obtain ⟨w, h, cx, cy, cw, ch, rfl, rfl, rfl, rfl, rfl, rfl, hp, p1, q1, h3, h4⟩ := cutD_none hd
    have hw2 := hp.w2
    have hh2 := hp.h2
    have HPP := Lib.hid hp
    have hp2 := cut_patch hp p1 q1 h3 h4
    have HP2 := Lib.hid hp2
    have HCC := Lib.hid (And.intro p1 (And.intro q1 (And.intro h3 h4)))
    obtain ⟨K, hK⟩ : ∃ K, cw * ch = K := ⟨_, rfl⟩
    have hK4 : K ≤ 4096 := by rw [← hK]; exact mul_le (A := 64) (B := 64) (by omega) (by omega)
    have hKI : (cw : Int) * (ch : Int) = (K : Int) := by rw [← hK, Int.natCast_mul]
    have hKw : IntKind.i64.wrap (K : Int) = (K : Int) := iw64 (by omega)
    have HK := Lib.hid hK
    obtain ⟨l2, hl2⟩ : ∃ l2, cutL w l cx cy cw ch = l2 := ⟨_, rfl⟩
    rw [hl2] at HP2
    have HL2 := Lib.hid hl2
    clear hd hp hp2 hK hl2 p1 q1
    have v_p0 : w1.cell? ⟨W.heap.size, 0, none⟩ = some (.int .i64 w) := T9.out.1.1.2.1
    have v_p1 : w1.cell? ⟨W.heap.size, 1, none⟩ = some (.int .i64 h) := T9.out.1.1.2.2.1
    have v_p2 : w1.cell? ⟨W.heap.size, 2, none⟩ = some (.slice a n c) := T9.out.1.1.2.2.2
    have v_c0 : w1.cell? ⟨W.heap.size + 1, 0, none⟩ = some (.int .i64 cx) := T9.out.1.2.1
    have v_c1 : w1.cell? ⟨W.heap.size + 1, 1, none⟩ = some (.int .i64 cy) := T9.out.1.2.2.1
    have v_c2 : w1.cell? ⟨W.heap.size + 1, 2, none⟩ = some (.int .i64 cw) := T9.out.1.2.2.2.1
    have v_c3 : w1.cell? ⟨W.heap.size + 1, 3, none⟩ = some (.int .i64 ch) := T9.out.1.2.2.2.2
    go_wp2_with fail
    refine (cut_okK w h cx cy cw ch K a n c l w1 R HK.out T9.out.1.1.1.1.1.2 T9.out.1.1.1.2 hnm HPP.out HCC.out.1 HCC.out.2.1 HCC.out.2.2.1 HCC.out.2.2.2).mono ?_; rintro e w2 ⟨g2, c2, rfl, ho2, hbw2⟩
    clear v_p0 v_p1 v_p2 v_c0 v_c1 v_c2 v_c3
    have T10 := T9.up hbw2
    clear T9
    rw [HL2.out] at ho2
    have T11 := T10.add (fun wv => RK .i64 wv (some ⟨g2, 0, none⟩) K l2) (ho2.rk)
    clear T10
    clear ho2
    obtain ⟨wa, hwa⟩ : ∃ wa, w2.alloc (.cells #[.int .i64 cw, .int .i64 ch, .slice (some ⟨g2, 0, none⟩) K c2] 24) = wa := ⟨_, rfl⟩
    have hbwa : Below w2.heap.size w2 wa := by rw [← hwa]; exact balloc (bnil w2) _
    have T12 := T11.up hbwa
    clear T11
    have T13 := T12.add (fun wv => wv.cell? ⟨w2.heap.size, 0, none⟩ = some (.int .i64 cw) ∧ wv.cell? ⟨w2.heap.size, 1, none⟩ = some (.int .i64 ch) ∧ wv.cell? ⟨w2.heap.size, 2, none⟩ = some (.slice (some ⟨g2, 0, none⟩) K c2)) (by rw [← hwa]; exact ⟨cnw (by simp) rfl, cnw (by simp) rfl, cnw (by simp) rfl⟩)
    clear T12
    have Hwa := Lib.hid hwa
    clear hwa hbwa
    have v_a0 : (w2.alloc (.cells #[.int .i64 cw, .int .i64 ch, .slice (some ⟨g2, 0, none⟩) K c2] 24)).cell? ⟨w2.heap.size, 0, none⟩ = some (.int .i64 cw) := by rw [Hwa.out]; exact T13.out.2.1
    have v_a1 : (w2.alloc (.cells #[.int .i64 cw, .int .i64 ch, .slice (some ⟨g2, 0, none⟩) K c2] 24)).cell? ⟨w2.heap.size, 1, none⟩ = some (.int .i64 ch) := by rw [Hwa.out]; exact T13.out.2.2.1
    have v_a2 : (w2.alloc (.cells #[.int .i64 cw, .int .i64 ch, .slice (some ⟨g2, 0, none⟩) K c2] 24)).cell? ⟨w2.heap.size, 2, none⟩ = some (.slice (some ⟨g2, 0, none⟩) K c2) := by rw [Hwa.out]; exact T13.out.2.2.2
    have v_c2 : (w2.alloc (.cells #[.int .i64 cw, .int .i64 ch, .slice (some ⟨g2, 0, none⟩) K c2] 24)).cell? ⟨W.heap.size + 1, 2, none⟩ = some (.int .i64 cw) := by rw [Hwa.out]; exact T13.out.1.1.1.2.2.2.1
    have v_c3 : (w2.alloc (.cells #[.int .i64 cw, .int .i64 ch, .slice (some ⟨g2, 0, none⟩) K c2] 24)).cell? ⟨W.heap.size + 1, 3, none⟩ = some (.int .i64 ch) := by rw [Hwa.out]; exact T13.out.1.1.1.2.2.2.2
    go_wp2_with fail
    rw [Hwa.out]
    clear v_a0 v_a1 v_a2 v_c2 v_c3
    go_loopw [9] (fun ix wr => ∃ y : Nat, y ≤ ch ∧ ix = .int .i64 y ∧ Below wa.heap.size wa wr) (fun ix _ => ch - (intOf ix).toNat)
    case atStart => exact ⟨0, by omega, rfl, bnil wa⟩
    case round =>
      obtain ⟨y, hy, rfl, hbr⟩ := hrel
      have HBR := Lib.hid hbr
      have T14 := T13.up hbr
      clear T13
      clear hbr
      generalize wr = wl at *
      by_cases hlt : y < ch
      · skip
        have v_c3 : wl.cell? ⟨W.heap.size + 1, 3, none⟩ = some (.int .i64 ch) := T14.out.1.1.1.2.2.2.2
        have i1 : (y : Int) < (ch : Int) := by omega
        go_wp2_with fail
        clear v_c3
        go_loopw [10] (fun ix wr => ∃ x : Nat, x ≤ cw ∧ ix = .int .i64 x ∧ Below wl.heap.size wl wr) (fun ix _ => cw - (intOf ix).toNat)
        case atStart => exact ⟨0, by omega, rfl, bnil wl⟩
        case round =>
          obtain ⟨x, hx, rfl, hbr⟩ := hrel
          have HBX := Lib.hid hbr
          have T15 := T14.up hbr
          clear T14
          clear hbr
          generalize wr = wx at *
          by_cases hxt : x < cw
          · skip
            obtain ⟨ab, ao, hab0, hab, hcell⟩ := (T15.out.1.1.1.1.1.2).addr (by have := (T15.out.1.1.1.1.1.2).len; have := HPP.out.len; have := HPP.out.w1; have := HPP.out.h1; have := Nat.mul_le_mul HPP.out.w1 HPP.out.h1; omega)
            obtain ⟨bb, bo, hbb0, hbb, hcell2⟩ := (T15.out.1.2).addr (by have := place_lt hxt hlt; have := HK.out; omega)
            cases hbb0
            subst hab0
            obtain ⟨A, hA⟩ : ∃ A, y * cw = A := ⟨_, rfl⟩
            obtain ⟨Q, hQ⟩ : ∃ Q, (cy + y) * w = Q := ⟨_, rfl⟩
            have hA4 : A ≤ 4096 := by rw [← hA]; exact mul_le (A := 64) (B := 64) (by omega) (by omega)
            have hQ4 : Q ≤ 8192 := by rw [← hQ]; exact mul_le (A := 128) (B := 64) (by omega) (by omega)
            have hAI : (y : Int) * (cw : Int) = (A : Int) := by rw [← hA, Int.natCast_mul]
            have hQI : ((cy : Int) + (y : Int)) * (w : Int) = (Q : Int) := by rw [← hQ, Int.natCast_mul, Int.natCast_add]
            have hAw : IntKind.i64.wrap (A : Int) = (A : Int) := iw64 (by omega)
            have hQw : IntKind.i64.wrap (Q : Int) = (Q : Int) := iw64 (by omega)
            have hAK : A + x < K := by have h1 := place_lt hxt hlt; have h2 := HK.out; rw [hA] at h1; omega
            have hQn : Q + cx + x < n := by have h1 := (T15.out.1.1.1.1.1.2).len; have h2 := HPP.out.len; have h3 := place_lt (show cx + x < w by omega) (show cy + y < h by omega); rw [hQ] at h3; omega
            have z1 := hcell2 (A + x) hAK
            have z0 := hcell (Q + cx + x) hQn
            rw [Nat.zero_add] at z1
            have hv : l2.getD (A + x) 0 = l.getD (Q + cx + x) 0 := by
              rw [← hA, ← hQ, Nat.add_assoc, ← HL2.out]
              exact atL_made hxt hlt
            rw [hv] at z1
            generalize l.getD (Q + cx + x) 0 = u at z0 z1
            have j0 : (0 : Int) ≤ (A : Int) + (x : Int) := by omega
            have j1 : (A : Int) + (x : Int) < (K : Int) := by omega
            have j2 : ((A : Int) + (x : Int)).toNat = A + x := by omega
            have k0 : (0 : Int) ≤ (Q : Int) + (cx : Int) + (x : Int) := by omega
            have k1 : (Q : Int) + (cx : Int) + (x : Int) < (n : Int) := by omega
            have k2 : ((Q : Int) + (cx : Int) + (x : Int)).toNat = Q + cx + x := by omega
            have i2 : (x : Int) < (cw : Int) := by omega
            have hnm2 : n ≤ 9223372036854775807 := hnm
            clear hcell hcell2 hv hA hQ
            have v_a2 : wx.cell? ⟨w2.heap.size, 2, none⟩ = some (.slice (some ⟨g2, 0, none⟩) K c2) := T15.out.2.2.2
            have v_c2 : wx.cell? ⟨W.heap.size + 1, 2, none⟩ = some (.int .i64 cw) := T15.out.1.1.1.2.2.2.1
            have v_p2 : wx.cell? ⟨W.heap.size, 2, none⟩ = some (.slice (some ⟨ab, ao, none⟩) n c) := T15.out.1.1.1.1.2.2.2
            have v_c1 : wx.cell? ⟨W.heap.size + 1, 1, none⟩ = some (.int .i64 cy) := T15.out.1.1.1.2.2.1
            have v_p0 : wx.cell? ⟨W.heap.size, 0, none⟩ = some (.int .i64 w) := T15.out.1.1.1.1.2.1
            have v_c0 : wx.cell? ⟨W.heap.size + 1, 0, none⟩ = some (.int .i64 cx) := T15.out.1.1.1.2.1
            go_wp2_with fail
            go_quiet (fail)
            go_wp2
            go_roundw
            case rel => exact ⟨x + 1, by omega, by go_num, bdrewN HBX.out _⟩
            case measure => simp [intOf]; omega
          · skip
            obtain rfl : cw = x := by omega
            have v_c2 : wx.cell? ⟨W.heap.size + 1, 2, none⟩ = some (.int .i64 cw) := T15.out.1.1.1.2.2.2.1
            go_wp2
            go_roundw
            case rel => exact ⟨y + 1, by omega, by go_num, bstep HBR.out HBX.out⟩
            case measure => simp [intOf]; omega
      · skip
        obtain rfl : ch = y := by omega
        have RAL : Hid (K ≤ maxLen) := by show K ≤ maxLen; unfold maxLen; omega
        cases hd : cutD cw ch l2 dx dy dw dh with
        | some y0 =>
          have hd0 : cutD cw ch l2 dx dy dw dh ≠ none := by rw [hd]; exact nofun
          have HD0 := Lib.hid hd0
          clear hd hd0
          have v_c3 : wl.cell? ⟨W.heap.size + 1, 3, none⟩ = some (.int .i64 ch) := T14.out.1.1.1.2.2.2.2
          have v_a0 : wl.cell? ⟨w2.heap.size, 0, none⟩ = some (.int .i64 cw) := T14.out.2.1
          have v_a1 : wl.cell? ⟨w2.heap.size, 1, none⟩ = some (.int .i64 ch) := T14.out.2.2.1
          have v_a2 : wl.cell? ⟨w2.heap.size, 2, none⟩ = some (.slice (some ⟨g2, 0, none⟩) K c2) := T14.out.2.2.2
          have v_d0 : wl.cell? ⟨W.heap.size + 1 + 1, 0, none⟩ = some (.int .i64 dx) := T14.out.1.1.2.1
          have v_d1 : wl.cell? ⟨W.heap.size + 1 + 1, 1, none⟩ = some (.int .i64 dy) := T14.out.1.1.2.2.1
          have v_d2 : wl.cell? ⟨W.heap.size + 1 + 1, 2, none⟩ = some (.int .i64 dw) := T14.out.1.1.2.2.2.1
          have v_d3 : wl.cell? ⟨W.heap.size + 1 + 1, 3, none⟩ = some (.int .i64 dh) := T14.out.1.1.2.2.2.2
          go_wp2_with fail
          refine (cut_errP cw ch dx dy dw dh (some ⟨g2, 0, none⟩) K c2 l2 wl R T14.out.1.1.1.1.1.1.1.2 T14.out.1.2 RAL.out HP2.out.i64 HD0.out).mono ?_; rintro e w3 ⟨g3, rfl, hec, hbw3⟩
          clear v_c3 v_a0 v_a1 v_a2 v_d0 v_d1 v_d2 v_d3
          have T15 := T14.up hbw3
          clear T14
          obtain ⟨wz, hwz⟩ : ∃ wz, w3.alloc (.cells #[.int .i64 0, .int .i64 0, .slice none 0 0] 24) = wz := ⟨_, rfl⟩
          have hbwz : Below w3.heap.size w3 wz := by rw [← hwz]; exact balloc (bnil w3) _
          have T16 := T15.up hbwz
          clear T15
          have Hwz := Lib.hid hwz
          clear hwz hbwz
          go_wp2
          go_ret
          rw [Hwz.out]
          exact ⟨rfl, T16.out.1.1.1.1.1.1.1.1.2⟩
        | none =>
          obtain ⟨w0, h0, dx, dy, dw, dh, hw0, hh0, rfl, rfl, rfl, rfl, hp3, p3, q3, h5, h6⟩ := cutD_none hd
          obtain rfl : cw = w0 := by omega
          obtain rfl : ch = h0 := by omega
          clear hw0 hh0
          obtain ⟨K2, hK2⟩ : ∃ K2, dw * dh = K2 := ⟨_, rfl⟩
          have hK24 : K2 ≤ 4096 := by rw [← hK2]; exact mul_le (A := 64) (B := 64) (by omega) (by omega)
          have HK2 := Lib.hid hK2
          obtain ⟨l3, hl3⟩ : ∃ l3, cutL cw l2 dx dy dw dh = l3 := ⟨_, rfl⟩
          have hl4 : cutL w l (cx + dx) (cy + dy) dw dh = l3 := by rw [← hl3, ← HL2.out, cut_cut p3 h5 h6]
          obtain ⟨X, hX⟩ : ∃ X, cx + dx = X := ⟨_, rfl⟩
          obtain ⟨Y, hY⟩ : ∃ Y, cy + dy = Y := ⟨_, rfl⟩
          rw [hX, hY] at hl4
          have hXI : (cx : Int) + (dx : Int) = (X : Int) := by omega
          have hYI : (cy : Int) + (dy : Int) = (Y : Int) := by omega
          have hXw : IntKind.i64.wrap (X : Int) = (X : Int) := iw64 (by omega)
          have hYw : IntKind.i64.wrap (Y : Int) = (Y : Int) := iw64 (by omega)
          have HL3 := Lib.hid hl3
          have HL4 := Lib.hid hl4
          have HDD := Lib.hid (And.intro p3 (And.intro q3 (And.intro h5 h6)))
          have HXY : Hid (X + dw ≤ w ∧ Y + dh ≤ h) := ⟨by omega, by omega⟩
          clear hd hp3 hK2 hl3 hl4 hX hY p3 q3
          have v_c3 : wl.cell? ⟨W.heap.size + 1, 3, none⟩ = some (.int .i64 ch) := T14.out.1.1.1.2.2.2.2
          have v_a0 : wl.cell? ⟨w2.heap.size, 0, none⟩ = some (.int .i64 cw) := T14.out.2.1
          have v_a1 : wl.cell? ⟨w2.heap.size, 1, none⟩ = some (.int .i64 ch) := T14.out.2.2.1
          have v_a2 : wl.cell? ⟨w2.heap.size, 2, none⟩ = some (.slice (some ⟨g2, 0, none⟩) K c2) := T14.out.2.2.2
          have v_d0 : wl.cell? ⟨W.heap.size + 1 + 1, 0, none⟩ = some (.int .i64 dx) := T14.out.1.1.2.1
          have v_d1 : wl.cell? ⟨W.heap.size + 1 + 1, 1, none⟩ = some (.int .i64 dy) := T14.out.1.1.2.2.1
          have v_d2 : wl.cell? ⟨W.heap.size + 1 + 1, 2, none⟩ = some (.int .i64 dw) := T14.out.1.1.2.2.2.1
          have v_d3 : wl.cell? ⟨W.heap.size + 1 + 1, 3, none⟩ = some (.int .i64 dh) := T14.out.1.1.2.2.2.2
          go_wp2_with fail
          refine (cut_okK cw ch dx dy dw dh K2 (some ⟨g2, 0, none⟩) K c2 l2 wl R HK2.out T14.out.1.1.1.1.1.1.1.2 T14.out.1.2 RAL.out HP2.out HDD.out.1 HDD.out.2.1 HDD.out.2.2.1 HDD.out.2.2.2).mono ?_; rintro e w3 ⟨g3, c3, rfl, ho3, hbw3⟩
          clear v_c3 v_a0 v_a1 v_a2 v_d0 v_d1 v_d2 v_d3
          have T15 := T14.up hbw3
          clear T14
          rw [HL3.out] at ho3
          have T16 := T15.add (fun wv => RK .i64 wv (some ⟨g3, 0, none⟩) K2 l3) (ho3.rk)
          clear T15
          clear ho3
          obtain ⟨wb, hwb⟩ : ∃ wb, w3.alloc (.cells #[.int .i64 dw, .int .i64 dh, .slice (some ⟨g3, 0, none⟩) K2 c3] 24) = wb := ⟨_, rfl⟩
          have hbwb : Below w3.heap.size w3 wb := by rw [← hwb]; exact balloc (bnil w3) _
          have T17 := T16.up hbwb
          clear T16
          have T18 := T17.add (fun wv => wv.cell? ⟨w3.heap.size, 0, none⟩ = some (.int .i64 dw) ∧ wv.cell? ⟨w3.heap.size, 1, none⟩ = some (.int .i64 dh) ∧ wv.cell? ⟨w3.heap.size, 2, none⟩ = some (.slice (some ⟨g3, 0, none⟩) K2 c3)) (by rw [← hwb]; exact ⟨cnw (by simp) rfl, cnw (by simp) rfl, cnw (by simp) rfl⟩)
          clear T17
          have Hwb := Lib.hid hwb
          clear hwb hbwb
          have v_p0 : (w3.alloc (.cells #[.int .i64 dw, .int .i64 dh, .slice (some ⟨g3, 0, none⟩) K2 c3] 24)).cell? ⟨W.heap.size, 0, none⟩ = some (.int .i64 w) := by rw [Hwb.out]; exact T18.out.1.1.1.1.1.1.2.1
          have v_p1 : (w3.alloc (.cells #[.int .i64 dw, .int .i64 dh, .slice (some ⟨g3, 0, none⟩) K2 c3] 24)).cell? ⟨W.heap.size, 1, none⟩ = some (.int .i64 h) := by rw [Hwb.out]; exact T18.out.1.1.1.1.1.1.2.2.1
          have v_p2 : (w3.alloc (.cells #[.int .i64 dw, .int .i64 dh, .slice (some ⟨g3, 0, none⟩) K2 c3] 24)).cell? ⟨W.heap.size, 2, none⟩ = some (.slice a n c) := by rw [Hwb.out]; exact T18.out.1.1.1.1.1.1.2.2.2
          have v_c0 : (w3.alloc (.cells #[.int .i64 dw, .int .i64 dh, .slice (some ⟨g3, 0, none⟩) K2 c3] 24)).cell? ⟨W.heap.size + 1, 0, none⟩ = some (.int .i64 cx) := by rw [Hwb.out]; exact T18.out.1.1.1.1.1.2.1
          have v_c1 : (w3.alloc (.cells #[.int .i64 dw, .int .i64 dh, .slice (some ⟨g3, 0, none⟩) K2 c3] 24)).cell? ⟨W.heap.size + 1, 1, none⟩ = some (.int .i64 cy) := by rw [Hwb.out]; exact T18.out.1.1.1.1.1.2.2.1
          have v_c2 : (w3.alloc (.cells #[.int .i64 dw, .int .i64 dh, .slice (some ⟨g3, 0, none⟩) K2 c3] 24)).cell? ⟨W.heap.size + 1, 2, none⟩ = some (.int .i64 cw) := by rw [Hwb.out]; exact T18.out.1.1.1.1.1.2.2.2.1
          have v_c3 : (w3.alloc (.cells #[.int .i64 dw, .int .i64 dh, .slice (some ⟨g3, 0, none⟩) K2 c3] 24)).cell? ⟨W.heap.size + 1, 3, none⟩ = some (.int .i64 ch) := by rw [Hwb.out]; exact T18.out.1.1.1.1.1.2.2.2.2
          have v_d0 : (w3.alloc (.cells #[.int .i64 dw, .int .i64 dh, .slice (some ⟨g3, 0, none⟩) K2 c3] 24)).cell? ⟨W.heap.size + 1 + 1, 0, none⟩ = some (.int .i64 dx) := by rw [Hwb.out]; exact T18.out.1.1.1.1.2.1
          have v_d1 : (w3.alloc (.cells #[.int .i64 dw, .int .i64 dh, .slice (some ⟨g3, 0, none⟩) K2 c3] 24)).cell? ⟨W.heap.size + 1 + 1, 1, none⟩ = some (.int .i64 dy) := by rw [Hwb.out]; exact T18.out.1.1.1.1.2.2.1
          have v_d2 : (w3.alloc (.cells #[.int .i64 dw, .int .i64 dh, .slice (some ⟨g3, 0, none⟩) K2 c3] 24)).cell? ⟨W.heap.size + 1 + 1, 2, none⟩ = some (.int .i64 dw) := by rw [Hwb.out]; exact T18.out.1.1.1.1.2.2.2.1
          have v_d3 : (w3.alloc (.cells #[.int .i64 dw, .int .i64 dh, .slice (some ⟨g3, 0, none⟩) K2 c3] 24)).cell? ⟨W.heap.size + 1 + 1, 3, none⟩ = some (.int .i64 dh) := by rw [Hwb.out]; exact T18.out.1.1.1.1.2.2.2.2
          go_wp2_with fail
          rw [Hwb.out]
          refine (cut_okK w h X Y dw dh K2 a n c l wb R HK2.out T18.out.1.1.1.1.1.1.1.1.1.2 T18.out.1.1.1.1.1.1.1.2 hnm HPP.out HDD.out.1 HDD.out.2.1 HXY.out.1 HXY.out.2).mono ?_; rintro e w4 ⟨g4, c4, rfl, ho4, hbw4⟩
          clear v_p0 v_p1 v_p2 v_c0 v_c1 v_c2 v_c3 v_d0 v_d1 v_d2 v_d3
          have T19 := T18.up hbw4
          clear T18
          rw [HL4.out] at ho4
          have T20 := T19.add (fun wv => RK .i64 wv (some ⟨g4, 0, none⟩) K2 l3) (ho4.rk)
          clear T19
          clear ho4
          obtain ⟨wz, hwz⟩ : ∃ wz, w4.alloc (.cells #[.int .i64 dw, .int .i64 dh, .slice (some ⟨g4, 0, none⟩) K2 c4] 24) = wz := ⟨_, rfl⟩
          have hbwz : Below w4.heap.size w4 wz := by rw [← hwz]; exact balloc (bnil w4) _
          have T21 := T20.up hbwz
          clear T20
          have T22 := T21.add (fun wv => wv.cell? ⟨w4.heap.size, 0, none⟩ = some (.int .i64 dw) ∧ wv.cell? ⟨w4.heap.size, 1, none⟩ = some (.int .i64 dh) ∧ wv.cell? ⟨w4.heap.size, 2, none⟩ = some (.slice (some ⟨g4, 0, none⟩) K2 c4)) (by rw [← hwz]; exact ⟨cnw (by simp) rfl, cnw (by simp) rfl, cnw (by simp) rfl⟩)
          clear T21
          have Hwz := Lib.hid hwz
          clear hwz hbwz
          have v_z0 : (w4.alloc (.cells #[.int .i64 dw, .int .i64 dh, .slice (some ⟨g4, 0, none⟩) K2 c4] 24)).cell? ⟨w4.heap.size, 0, none⟩ = some (.int .i64 dw) := by rw [Hwz.out]; exact T22.out.2.1
          have v_z1 : (w4.alloc (.cells #[.int .i64 dw, .int .i64 dh, .slice (some ⟨g4, 0, none⟩) K2 c4] 24)).cell? ⟨w4.heap.size, 1, none⟩ = some (.int .i64 dh) := by rw [Hwz.out]; exact T22.out.2.2.1
          have v_z2 : (w4.alloc (.cells #[.int .i64 dw, .int .i64 dh, .slice (some ⟨g4, 0, none⟩) K2 c4] 24)).cell? ⟨w4.heap.size, 2, none⟩ = some (.slice (some ⟨g4, 0, none⟩) K2 c4) := by rw [Hwz.out]; exact T22.out.2.2.2
          have v_b0 : (w4.alloc (.cells #[.int .i64 dw, .int .i64 dh, .slice (some ⟨g4, 0, none⟩) K2 c4] 24)).cell? ⟨w3.heap.size, 0, none⟩ = some (.int .i64 dw) := by rw [Hwz.out]; exact T22.out.1.1.2.1
          have v_b1 : (w4.alloc (.cells #[.int .i64 dw, .int .i64 dh, .slice (some ⟨g4, 0, none⟩) K2 c4] 24)).cell? ⟨w3.heap.size, 1, none⟩ = some (.int .i64 dh) := by rw [Hwz.out]; exact T22.out.1.1.2.2.1
          have v_b2 : (w4.alloc (.cells #[.int .i64 dw, .int .i64 dh, .slice (some ⟨g4, 0, none⟩) K2 c4] 24)).cell? ⟨w3.heap.size, 2, none⟩ = some (.slice (some ⟨g3, 0, none⟩) K2 c3) := by rw [Hwz.out]; exact T22.out.1.1.2.2.2
          go_wp2_with fail
          rw [Hwz.out]
          refine (patches_eq dw dh (some ⟨g4, 0, none⟩) (some ⟨g3, 0, none⟩) K2 K2 c4 c3 l3 wz T22.out.1.2 T22.out.1.1.1.2 (by rw [← (T22.out.1.2).len]; unfold maxLen; omega)).mono ?_; rintro e w5 ⟨rfl, hbw5⟩
          clear v_z0 v_z1 v_z2 v_b0 v_b1 v_b2
          have T23 := T22.up hbw5
          clear T22
          go_wp2
          go_ret
          exact ⟨rfl, T23.out.1.1.1.1.1.1.1.1.1.1.1.1.2⟩
end Go.Proofs.YtnlpobkmjhajcaaDoor
