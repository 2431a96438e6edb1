/- The contracts of row.place, cell, piece, Cut. -/
import Derived.Test.YtnmegpplfbkpcaaDoorRowA
import Derived.Test.YtnmegpplfbkpcaaDoorBase
import Derived.WalkKit
import Derived.Deep.RegionWith
import Derived.Deep.QuietTactic
import Derived.BigQuiet
import Derived.Lib.Hide
namespace Go.Proofs.YtnmegpplfbkpcaaDoor
open Go.RowKit
set_option linter.unusedVariables false
set_option maxRecDepth 100000


set_option maxHeartbeats 4000000 in
theorem cell_any (p i : Int) (aL aC aR : Option Addr) (nL cL nC cC nR cR : Nat) (L C Q : List Int) (W : World) (hM : RowM W aL nL cL L aC nC cC C aR nR cR Q) (hl : 0 < nL) (hr : 0 < nR) (hp1 : -100000000 ≤ p) (hp2 : p ≤ 100000000) (hi1 : -100000000 ≤ i) (hi2 : i ≤ 100000000) :
    Calls Tryd.prog 68 #[rowV p aL nL cL aC nC cC aR nR cR, .int .i64 i] W fun e w' => e = .returned (.int .i64 (cellF p L C Q i)) ∧ Below W.heap.size W w' := by
  have mL := hM.l.n8
  have mC := hM.c.n8
  have mR := hM.r.n8
  have hlL := hM.l.rk.len
  have hlC := hM.c.rk.len
  have hlR := hM.r.rk.len
  have hbx := balloc (bnil W) (.cells #[.int .i64 p, .slice aL nL cL, .slice aC nC cC, .slice aR nR cR] 26)
  have HM := Lib.hid (hM.up hbx); clear hM
  obtain ⟨d, hd⟩ : ∃ d, i - p = d := ⟨_, rfl⟩
  have hd1 : -200000000 ≤ d := by omega
  have hd2 : d ≤ 200000000 := by omega
  by_cases h0 : d < 0
  · have e0 := tm_mod d nL hl
    have q1 := Int.lt_tmod_of_pos d (show (0 : Int) < (nL : Int) by omega)
    have q2 := Int.tmod_lt_of_pos d (show (0 : Int) < (nL : Int) by omega)
    have q3 := Int.emod_nonneg d (show (nL : Int) ≠ 0 by omega)
    have q4 := Int.emod_lt_of_pos d (show (0 : Int) < (nL : Int) by omega)
    have hc : cellF p L C Q i = L.getD (d % (nL : Int)).toNat 0 := by rw [cellF_left (by omega), hd, hlL]
    rw [hc]; clear hc
    obtain ⟨j, hj⟩ : ∃ j : Nat, d % (nL : Int) = (j : Int) := ⟨(d % (nL : Int)).toNat, by omega⟩
    rw [hj] at e0 q3 q4 ⊢
    rw [Int.toNat_natCast]
    obtain ⟨b, o, rfl, hbo, hcell⟩ := HM.out.l.rk.addr hl
    have z0 := hcell j (by omega)
    have hnz : ((nL : Int) == 0) = false := by rw [beq_eq_false_iff_ne]; omega
    clear hcell hlL hlC hlR hj
    go_enter Tryd.func68, Tryd.ntmps68
    go_wp2_with fail
    go_quiet (fail)
    go_wp2
    go_ret
    exact ⟨rfl, bdrewN hbx _⟩
  · by_cases h1 : d < (nC : Int)
    · have hc : cellF p L C Q i = C.getD d.toNat 0 := by rw [cellF_mid (by omega) (by omega), hd]
      rw [hc]; clear hc
      obtain ⟨j, rfl⟩ : ∃ j : Nat, d = (j : Int) := ⟨d.toNat, by omega⟩
      rw [Int.toNat_natCast]
      obtain ⟨b, o, rfl, hbo, hcell⟩ := HM.out.c.rk.addr (by omega)
      have z0 := hcell j (by omega)
      clear hcell hlL hlC hlR
      go_enter Tryd.func68, Tryd.ntmps68
      go_wp2
      go_ret
      exact ⟨rfl, hbx⟩
    · have hc : cellF p L C Q i = Q.getD ((d - (nC : Int)) % (nR : Int)).toNat 0 := by rw [cellF_right (by omega), hd, hlC, hlR]
      rw [hc]; clear hc
      have q3 := Int.emod_nonneg (d - (nC : Int)) (show (nR : Int) ≠ 0 by omega)
      have q4 := Int.emod_lt_of_pos (d - (nC : Int)) (show (0 : Int) < (nR : Int) by omega)
      obtain ⟨j, hj⟩ : ∃ j : Nat, (d - (nC : Int)) % (nR : Int) = (j : Int) := ⟨((d - (nC : Int)) % (nR : Int)).toNat, by omega⟩
      rw [hj] at q3 q4 ⊢
      rw [Int.toNat_natCast]
      obtain ⟨b, o, rfl, hbo, hcell⟩ := HM.out.r.rk.addr hr
      have z0 := hcell j (by omega)
      have hnz : ((nR : Int) == 0) = false := by rw [beq_eq_false_iff_ne]; omega
      clear hcell hlL hlC hlR
      go_enter Tryd.func68, Tryd.ntmps68
      go_wp2_with fail
      go_quiet (fail)
      go_wp2
      go_ret
      exact ⟨rfl, bdrewN hbx _⟩

set_option maxHeartbeats 4000000 in
theorem piece_any (p q : Int) (n : Nat) (aL aC aR : Option Addr) (nL cL nC cC nR cR : Nat) (L C Q : List Int) (W : World) (hM : RowM W aL nL cL L aC nC cC C aR nR cR Q) (hl : 0 < nL) (hr : 0 < nR) (hp1 : -100000000 ≤ p) (hp2 : p ≤ 100000000) (hi1 : -10000000 ≤ q) (hi2 : q ≤ 10000000) (hn : n ≤ 1000000) :
    Calls Tryd.prog 32 #[rowV p aL nL cL aC nC cC aR nR cR, .int .i64 q, .int .i64 n] W fun e w' => ∃ a' c', e = .returned (.slice a' n c') ∧ OwI w' W.heap.size a' n c' (valsF (cellF p L C Q) q n) ∧ Below W.heap.size W w' := by
  obtain ⟨Wb, hWb⟩ : ∃ Wb, W.alloc (.cells #[.int .i64 p, .slice aL nL cL, .slice aC nC cC, .slice aR nR cR] 26) = Wb := ⟨_, rfl⟩
  have HX : Hid (Wb.cell? ⟨W.heap.size, 0, none⟩ = some (.int .i64 p) ∧ Wb.cell? ⟨W.heap.size, 1, none⟩ = some (.slice aL nL cL) ∧ Wb.cell? ⟨W.heap.size, 2, none⟩ = some (.slice aC nC cC) ∧ Wb.cell? ⟨W.heap.size, 3, none⟩ = some (.slice aR nR cR)) := by rw [← hWb]; exact ⟨by simp, by simp, by simp, by simp⟩
  have HSZ : Hid (W.heap.size < Wb.heap.size) := by show _ < _; rw [← hWb]; simp
  have HBX : Hid (Below W.heap.size W Wb) := by rw [← hWb]; exact balloc (bnil W) _
  have HM := Lib.hid (hM.up HBX.out); clear hM
  have HWB := Lib.hid hWb; clear hWb
  obtain ⟨g, hg⟩ : ∃ g, Wb.heap.size = g := ⟨_, rfl⟩
  have HGS := Lib.hid hg
  go_enter Tryd.func32, Tryd.ntmps32
  go_wp2_with (first
    | (at_make; rw [HWB.out]; refine mk_full rfl _ _ _ rfl W.heap.size et_int .i64 .i64 _ _ n rfl rfl rfl rfl (by omega) (by unfold maxLen; omega) HBX.out.size ?_; intro w1 hown1 hb1 hsz1; rw [made_i64r] at hown1))
  rw [hg] at hown1
  have HST : Hid (w1.ownsRow W.heap.size 3 1 (.slice (some ⟨g, 0, none⟩) n n) n ((valsF (cellF p L C Q) q 0 ++ List.replicate (n - 0) 0).map (Value.int .i64))) := by
    show World.ownsRow _ _ _ _ _ _ _
    simpa [valsF] using hown1
  have HB1 := Lib.hid hb1
  clear hown1 hb1 hsz1 hg
  go_loopw [13] (fun ix wr => ∃ i : Nat, i ≤ n ∧ ix = .int .i64 i ∧ wr.ownsRow W.heap.size 3 1 (.slice (some ⟨g, 0, none⟩) n n) n ((valsF (cellF p L C Q) q i ++ List.replicate (n - i) 0).map (Value.int .i64)) ∧ Below Wb.heap.size Wb wr) (fun ix _ => n - (intOf ix).toNat)
  case atStart => exact ⟨0, by omega, rfl, HST.out, HB1.out⟩
  case round =>
    clear HST HB1
    obtain ⟨i, hi, rfl, ho, hb⟩ := hrel
    have HO := Lib.hid ho
    have HB := Lib.hid hb
    clear ho hb
    by_cases hin : i < n
    · have hcell := HO.out.cellAt i (by omega)
      obtain ⟨u, hu⟩ : ∃ u, wr.cell? ⟨g, i, none⟩ = some u := by
        rw [hcell]
        have : i < ((valsF (cellF p L C Q) q i ++ List.replicate (n - i) 0).map (Value.int .i64)).length := by simp [valsF]; omega
        exact ⟨_, List.getElem?_eq_getElem this⟩
      have f0 := HO.out.frozenAt i
      have hgl : g < wr.heap.size := own_lt HO.out g rfl
      have HGL := Lib.hid hgl
      have x0 := (HB.out.cell (p := ⟨W.heap.size, 0, none⟩) HSZ.out).trans HX.out.1
      have x1 := (HB.out.cell (p := ⟨W.heap.size, 1, none⟩) HSZ.out).trans HX.out.2.1
      have x2 := (HB.out.cell (p := ⟨W.heap.size, 2, none⟩) HSZ.out).trans HX.out.2.2.1
      have x3 := (HB.out.cell (p := ⟨W.heap.size, 3, none⟩) HSZ.out).trans HX.out.2.2.2
      clear hcell hgl
      have i0 : (0 : Int) ≤ (i : Int) := by omega
      have i1 : (i : Int) < (n : Int) := by omega
      go_wp2_with fail
      refine (cell_any p (q + (i : Int)) aL aC aR nL cL nC cC nR cR L C Q _ (HM.out.up HB.out) hl hr hp1 hp2 (by omega) (by omega)).mono ?_; rintro e w2 ⟨rfl, hb2⟩
      have u2 := (hb2.cell (p := ⟨g, i, none⟩) HGL.out).trans hu
      have f2 := (hb2.frozen (p := ⟨g, i, none⟩) HGL.out).trans f0
      have ho2 := own_set (owns_up HO.out hb2) i (.int .i64 (cellF p L C Q (q + (i : Int))))
      rw [vals_set hin] at ho2
      have HO2 := Lib.hid ho2
      have HB2 := Lib.hid ((HB.out.trans (hb2.mono HB.out.size)).setCell (p := ⟨g, i, none⟩) (by rw [HGS.out]; exact Nat.le_refl _) (.int .i64 (cellF p L C Q (q + (i : Int)))))
      clear hb2 ho2 hu f0 x0 x1 x2 x3
      go_wp2
      go_roundw
      case rel => exact ⟨i + 1, by omega, by go_num, HO2.out, HB2.out⟩
      case measure => simp [intOf]; omega
    · obtain rfl : i = n := by omega
      have ho := HO.out
      rw [Nat.sub_self, List.replicate_zero, List.append_nil] at ho
      have HE := Lib.hid ho
      clear ho
      go_wp2
      go_ret
      exact ⟨_, _, rfl, ⟨HE.out⟩, HBX.out.trans (HB.out.mono HBX.out.size)⟩

end Go.Proofs.YtnmegpplfbkpcaaDoor
