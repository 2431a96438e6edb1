/- edenlaw17.CountLists returns true. -/
import Derived.Test.YteneiianpghalaaDoorOvE
import Derived.Test.YteneiianpghalaaDoorSl
import Derived.Test.YteneiianpghalaaDoorTrk
import Derived.Deep.QuietTactic
import Derived.BigQuiet
namespace Go.Proofs.YteneiianpghalaaDoor
open Go.RowKit
set_option linter.unusedVariables false
set_option maxRecDepth 100000

set_option maxHeartbeats 8000000 in
theorem Before_err (k r : Int) (aT aw : Option Addr) (T cT n cw : Nat) (m : Int) (tb wl : List Int) (W : World) (R : Nat → Addr) (hG : Glob W R) (hTR : RK .i64 W aT T tb) (hWR : RK .i64 W aw n wl) (hm : T ≤ maxLen) (hmw : n ≤ maxLen) (h : ¬ ((∃ kn rn : Nat, k = kn ∧ r = rn ∧ IsRule kn rn tb ∧ T ≤ 256) ∧ n ≤ 256 ∧ ∀ x ∈ wl, 0 ≤ x ∧ x < k)) :
    Calls Tryd.prog 12 #[ruleV k r aT T cT, .slice aw n cw, .int .i64 m] W fun e w' => ∃ g, e = .returned (.tuple #[.slice none 0 0, .bool false, .iface 120 (.pointer (some ⟨g, 0, none⟩))]) ∧ Below W.heap.size W w' := by
  have HH := Lib.hid h; clear h
  have HG := Lib.hid hG; clear hG
  have HTR := Lib.hid hTR; clear hTR
  have HWR := Lib.hid hWR; clear hWR
  obtain ⟨Wb, hWb⟩ : ∃ Wb, W.alloc (.cells #[.int .i64 k, .int .i64 r, .slice aT T cT] 24) = Wb := ⟨_, rfl⟩
  have HBX : Hid (Below W.heap.size W Wb) := by rw [← hWb]; exact balloc (bnil W) _
  have HWB := Lib.hid hWb; clear hWb
  go_enter Tryd.func12, Tryd.ntmps12
  go_wp2_with fail
  rw [HWB.out]
  refine (ocheck_any k r aT aw T cT n cw 256 tb wl Wb R (HG.out.up HBX.out) (HTR.out.up HBX.out) (HWR.out.up HBX.out) hm hmw (by omega)).mono ?_
  rintro e V (⟨hyes, _⟩ | ⟨_, g, rfl, hbv⟩)
  · exact absurd hyes HH.out
  · go_wp2
    go_ret3
    exact ⟨g, rfl, bstep HBX.out hbv⟩

set_option maxHeartbeats 8000000 in
theorem count_lists (k r : Int) (a : Option Addr) (n c : Nat) (l : List Int) (aw : Option Addr) (nw cw : Nat) (wl : List Int) (W : World) (R : Nat → Addr) (hE : Sent W R) (hA : SlI W a n c l) (hW : SlI W aw nw cw wl) :
    Calls Tryd.prog 3 #[ruleV k r a n c, .slice aw nw cw] W (TrueBelow W) := by
  have HA := Lib.hid hA
  have HW := Lib.hid hW
  have hnm := hA.nm
  have hmw := hW.nm
  have hnc := hA.le
  have hcm := hA.mx
  have HE := Lib.hid hE
  clear hA hW hE
  obtain ⟨Wb, hWb⟩ : ∃ Wb, W.alloc (.cells #[.int .i64 k, .int .i64 r, .slice a n c] 24) = Wb := ⟨_, rfl⟩
  have HX : Hid (Wb.cell? ⟨W.heap.size, 0, none⟩ = some (.int .i64 k) ∧ Wb.cell? ⟨W.heap.size, 1, none⟩ = some (.int .i64 r) ∧ Wb.cell? ⟨W.heap.size, 2, none⟩ = some (.slice a n c)) := by rw [← hWb]; exact ⟨by simp, by simp, by simp⟩
  have HSZ : Hid (W.heap.size < Wb.heap.size) := by show _ < _; rw [← hWb]; simp
  have HBX : Hid (Below W.heap.size W Wb) := by rw [← hWb]; exact balloc (bnil W) _
  have HWB := Lib.hid hWb; clear hWb
  go_enter Tryd.func3, Tryd.ntmps3
  go_wp2_with fail
  rw [HWB.out]
  refine (awake17 Wb R (HE.out.up HBX.out).glob).mono ?_; rintro e w0 ⟨rfl, hb0⟩
  have x0 := (hb0.cell (p := ⟨W.heap.size, 0, none⟩) HSZ.out).trans HX.out.1
  have x1 := (hb0.cell (p := ⟨W.heap.size, 1, none⟩) HSZ.out).trans HX.out.2.1
  have x2 := (hb0.cell (p := ⟨W.heap.size, 2, none⟩) HSZ.out).trans HX.out.2.2
  have HB0 : Hid (Below W.heap.size W w0) := HBX.out.trans (hb0.mono HBX.out.size)
  have HSZ0 : Hid (W.heap.size < w0.heap.size) := Nat.lt_of_lt_of_le HSZ.out hb0.size
  clear hb0
  go_wp2_with fail
  by_cases hok : (∃ kn rn : Nat, k = kn ∧ r = rn ∧ IsRule kn rn l ∧ n ≤ 256) ∧ nw ≤ 256 ∧ ∀ x ∈ wl, 0 ≤ x ∧ x < k
  · obtain ⟨⟨kn, rn, rfl, rfl, hI, h256⟩, hw256, hsy⟩ := hok
    have HI := Lib.hid hI
    have HSY := Lib.hid hsy
    clear hI hsy
    refine (countWords_ok kn rn a aw n c nw cw l wl w0 R (HE.out.up HB0.out).glob (HA.out.up HB0.out).rk (HW.out.up HB0.out).rk HI.out h256 hnc hcm hw256 HSY.out).mono ?_; rintro e w1 ⟨a1, n1, c1, rfl, ho1, hb1⟩
    have y0 := (hb1.cell (p := ⟨W.heap.size, 0, none⟩) HSZ0.out).trans x0
    have y1 := (hb1.cell (p := ⟨W.heap.size, 1, none⟩) HSZ0.out).trans x1
    have y2 := (hb1.cell (p := ⟨W.heap.size, 2, none⟩) HSZ0.out).trans x2
    have HB1 : Hid (Below W.heap.size W w1) := bstep HB0.out hb1
    have HO1 := Lib.hid ho1
    clear hb1 ho1 x0 x1 x2
    go_wp2_with fail
    refine (Before_ok kn rn (kn ^ (2 * rn)) a aw n c nw cw 256 l wl w1 R (HE.out.up HB1.out).glob (HA.out.up HB1.out).rk (HW.out.up HB1.out).rk HI.out h256 hw256 (by omega) HSY.out hnc rfl).mono ?_
    rintro e w2 ⟨hb2, al, L, cl, more, rfl, hc2⟩
    have HB2 : Hid (Below W.heap.size W w2) := bstep HB1.out hb2
    have HO2 := Lib.hid (HO1.out.up hb2)
    obtain ⟨Z, hZ⟩ : ∃ Z, wordsC kn (kn ^ (2 * rn)) l wl = Z := ⟨_, rfl⟩
    rw [hZ] at hc2 HO2
    have HC2 := Lib.hid hc2
    have hL : L ≤ 256 := by rcases hc2 with ⟨h1, h2, _⟩ | ⟨_, h2, _⟩ <;> omega
    have hLw : IntKind.u64.wrap (L : Int) = (L : Int) := by show ((L : Int) % 18446744073709551616) = _; omega
    clear hb2 hc2 y0 y1 y2 hZ
    go_wp2_with fail
    refine (from_any L w2 (by omega)).mono ?_; rintro e w3 ⟨n3, rfl, _, hv3, hb3⟩
    have HB3 : Hid (Below W.heap.size W w3) := bstep HB2.out hb3
    have HO3 := Lib.hid (HO2.out.up hb3)
    have HV3 := Lib.hid hv3
    clear hb3 hv3
    go_wp2_with fail
    refine (natCmp_any a1 _ n1 n3 c1 2 _ _ w3 HO3.out.ns.nr HV3.out.nr HO3.out.ns.le HV3.out.le HO3.out.ns.cm HV3.out.cm).mono ?_; rintro e w4 ⟨rfl, q, rfl⟩
    rw [val_limbs, val_limbs]
    rcases HC2.out with ⟨q1, rfl, rfl⟩ | ⟨q1, rfl, rfl⟩
    · rw [cmpN_same]
      go_wp2
      go_ret
      exact ⟨rfl, bdrewN HB3.out q⟩
    · rw [show cmpN Z 256 = 1 from by unfold cmpN; rw [if_neg (by omega), if_pos (by omega)]]
      go_wp2
      go_ret
      exact ⟨rfl, bdrewN HB3.out q⟩
  · have HNO := Lib.hid hok; clear hok
    refine (countWords_err k r a aw n c nw cw l wl w0 R (HE.out.up HB0.out).glob (HA.out.up HB0.out).rk (HW.out.up HB0.out).rk hnm hmw (fun kn rn h1 h2 h3 h4 h5 => HNO.out ⟨⟨kn, rn, h1, h2, h3, h4⟩, h5⟩)).mono ?_; rintro e w1 ⟨g1, rfl, hb1⟩
    have y0 := (hb1.cell (p := ⟨W.heap.size, 0, none⟩) HSZ0.out).trans x0
    have y1 := (hb1.cell (p := ⟨W.heap.size, 1, none⟩) HSZ0.out).trans x1
    have y2 := (hb1.cell (p := ⟨W.heap.size, 2, none⟩) HSZ0.out).trans x2
    have HB1 : Hid (Below W.heap.size W w1) := bstep HB0.out hb1
    clear hb1 x0 x1 x2
    go_wp2_with fail
    refine (Before_err k r a aw n c nw cw 256 l wl w1 R (HE.out.up HB1.out).glob (HA.out.up HB1.out).rk (HW.out.up HB1.out).rk hnm hmw HNO.out).mono ?_
    rintro e w2 ⟨g2, rfl, hb2⟩
    have HB2 : Hid (Below W.heap.size W w2) := bstep HB1.out hb2
    clear hb2 y0 y1 y2
    go_wp2
    go_ret
    exact ⟨rfl, HB2.out⟩
theorem count_lists_row (k r : Int) (a : Option Addr) (n c : Nat) (l : List Int) (aw : Option Addr) (cw : Nat) (wl : List Int) (W : World) (R : Nat → Addr) (hE : Sent W R) (hM : SlI W a n c l)
    (hR1 : Rd W aw wl.length 1 (wl.map (Value.int .i64))) (hl1 : wl.length ≤ cw) (hz1 : cw * 8 ≤ 140737488351232) (hn1 : aw = none → cw = 0) (hx1 : ∀ x ∈ wl, -9223372036854775808 ≤ x ∧ x ≤ 9223372036854775807) :
    Calls Tryd.prog 3 #[ruleV k r a n c, .slice aw wl.length cw] W (TrueBelow W) :=
  count_lists k r a n c l aw wl.length cw wl W R hE hM ⟨⟨rfl, hR1⟩, hl1, by omega, by unfold maxLen; omega, hn1⟩
end Go.Proofs.YteneiianpghalaaDoor
