/- The contract of row.Step. -/
import Derived.Test.YtnmegpplfbkpcaaDoorRowB
import Derived.Test.YtnmegpplfbkpcaaDoorRuleB
import Derived.Test.YtnmegpplfbkpcaaDoorClone
import Derived.Test.YtnmegpplfbkpcaaDoorLent
import Derived.WalkKit
import Derived.Deep.RegionWith
import Derived.Deep.QuietTactic
import Derived.BigQuiet
import Derived.Lib.Hide
import Derived.Test.YtnmegpplfbkpcaaDoorLentE
namespace Go.Proofs.YtnmegpplfbkpcaaDoor
open Go.RowKit
set_option linter.unusedVariables false
set_option maxRecDepth 100000

/-- a part of a list in memory -/
theorem rk_part {w : World} {b o n i m : Nat} {l : List Int} (h : RK .i64 w (some ⟨b, o, none⟩) n l) (hb : b < w.heap.size) (hi : i + m ≤ n) : RK .i64 w (some ⟨b, o + i, none⟩) m ((l.drop i).take m) := by
  have hn := h.len
  refine ⟨by simp; omega, by simp; omega, ?_⟩
  rcases Nat.eq_zero_or_pos m with h0 | h0
  · exact .inl h0
  · obtain ⟨b', o', e, _, hc⟩ := h.2.2.resolve_left (by omega)
    cases e
    refine .inr ⟨b, o + i, rfl, hb, fun j u hu => ?_⟩
    rw [Nat.add_assoc]
    refine hc (i + j) u ?_
    rw [List.map_take, List.getElem?_take] at hu
    split at hu
    · rw [← hu, List.map_drop, List.getElem?_drop]
    · cases hu
theorem cell_al {w : World} {a : Addr} {v : Value} (o : Obj) (h : w.cell? a = some v) : (w.alloc o).cell? a = some v := ((balloc (bnil w) o).cell (p := a) (World.block_lt_of_cell? _ _ h)).trans h
/-- four cells of a block set -/
theorem set4 {w : World} {g : Nat} {x0 x1 x2 x3 : Value} {t : TypeId} {fr : Nat × Nat} (h : w.heap[g]? = some (.cells #[x0, x1, x2, x3] t fr)) (u0 u1 u2 u3 : Value) :
    ∃ w6, ((((w.setCell ⟨g, 0, none⟩ u0).setCell ⟨g, 1, none⟩ u1).setCell ⟨g, 2, none⟩ u2).setCell ⟨g, 3, none⟩ u3) = w6 ∧ (w6.cell? ⟨g, 0, none⟩ = some u0 ∧ w6.cell? ⟨g, 1, none⟩ = some u1 ∧ w6.cell? ⟨g, 2, none⟩ = some u2 ∧ w6.cell? ⟨g, 3, none⟩ = some u3) ∧ (∀ k, k ≠ g → w6.heap[k]? = w.heap[k]?) ∧ w6.heap.size = w.heap.size ∧ ∀ (V : World) (B : Nat), B ≤ g → Below B V w → Below B V w6 := by
  refine ⟨_, rfl, ?_, fun k hk => ?_, ?_, fun V B hB hb => ?_⟩
  · simp [World.cell?, World.setCell, Array.getElem?_modify, h]
  · rw [Below.heap_setCell _ _ _ _ hk, Below.heap_setCell _ _ _ _ hk, Below.heap_setCell _ _ _ _ hk, Below.heap_setCell _ _ _ _ hk]
  · simp [World.setCell]
  · exact (((hb.setCell (p := ⟨g, 0, none⟩) hB u0).setCell (p := ⟨g, 1, none⟩) hB u1).setCell (p := ⟨g, 2, none⟩) hB u2).setCell (p := ⟨g, 3, none⟩) hB u3
/-- what the image's row is -/
structure RowOut (W w' : World) (p : Int) (k r : Nat) (tb : List Int) (s : Int → Int) (l n m : Nat) (aL : Option Addr) (cL : Nat) (aC : Option Addr) (cC : Nat) (aR : Option Addr) (cR : Nat) : Prop where
  L : OwI w' W.heap.size aL l cL (valsF (img k r tb s) (p - (r : Int) - (l : Int)) l)
  C : OwI w' W.heap.size aC n cC (valsF (img k r tb s) (p - (r : Int)) n)
  R : OwI w' W.heap.size aR m cR (valsF (img k r tb s) (p - (r : Int) + (n : Int)) m)
  LC : Ap (.slice aL l cL) (.slice aC n cC)
  LR : Ap (.slice aL l cL) (.slice aR m cR)
  CR : Ap (.slice aC n cC) (.slice aR m cR)
  bel : Below W.heap.size W w'

set_option maxHeartbeats 16000000 in
theorem rowstep_ok (k r : Nat) (aT : Option Addr) (nT cT : Nat) (tb : List Int) (p : Int) (aL aC aR : Option Addr) (nL cL nC cC nR cR : Nat) (L C Q : List Int) (W : World) (R : Nat → Addr) (hG : Glob W R) (hT : RK .i64 W aT nT tb) (hI : IsRule k r tb)
    (hM : RowM W aL nL cL L aC nC cC C aR nR cR Q) (h : IsRow k p L C Q) (h1 : -4096 ≤ p - (r : Int)) (h2 : nC + 2 * r ≤ 16384) :
    Calls Tryd.prog 11 #[ruleV k r aT nT cT, rowV p aL nL cL aC nC cC aR nR cR] W fun e w' => ∃ aL' cL' aC' cC' aR' cR', e = .returned (.tuple #[rowV (p - (r : Int)) aL' nL cL' aC' (nC + 2 * r) cC' aR' nR cR', .nilIface]) ∧ RowOut W w' p k r tb (cellF p L C Q) nL (nC + 2 * r) nR aL' cL' aC' cC' aR' cR' := by
  have hp2 := h.p2
  have hp1 := h.p1
  have r3 := hI.r3
  have hl : 0 < nL := by rw [hM.l.rk.len]; exact h.l1
  have hr : 0 < nR := by rw [hM.r.rk.len]; exact h.r1
  have l2 : nL ≤ 8192 := by rw [hM.l.rk.len]; exact h.l2
  have r2 : nR ≤ 8192 := by rw [hM.r.rk.len]; exact h.r2
  obtain ⟨n', hn', hn2⟩ : ∃ n' : Nat, (nC : Int) + 2 * (r : Int) = (n' : Int) ∧ nC + 2 * r = n' := ⟨nC + 2 * r, by omega, rfl⟩
  rw [hn2]
  rw [hn2] at h2
  obtain ⟨M, hMI, hMN⟩ : ∃ M : Nat, (nL : Int) + (n' : Int) + (nR : Int) + 2 * (r : Int) = (M : Int) ∧ nL + n' + nR + 2 * r = M := ⟨nL + n' + nR + 2 * r, by omega, rfl⟩
  obtain ⟨Wb, hWb⟩ : ∃ Wb, ((W.alloc (.cells #[.int .i64 k, .int .i64 r, .slice aT nT cT] 24)).alloc (.cells #[.int .i64 p, .slice aL nL cL, .slice aC nC cC, .slice aR nR cR] 26)).alloc (.cells #[.int .i64 0, .slice none 0 0, .slice none 0 0, .slice none 0 0] 26) = Wb := ⟨_, rfl⟩
  have HX : Hid (Wb.cell? ⟨W.heap.size, 0, none⟩ = some (.int .i64 k) ∧ Wb.cell? ⟨W.heap.size, 1, none⟩ = some (.int .i64 r) ∧ Wb.cell? ⟨W.heap.size, 2, none⟩ = some (.slice aT nT cT)) := by rw [← hWb]; exact ⟨cell_al _ (cell_al _ (by simp)), cell_al _ (cell_al _ (by simp)), cell_al _ (cell_al _ (by simp))⟩
  have HY : Hid (Wb.cell? ⟨W.heap.size + 1, 0, none⟩ = some (.int .i64 p) ∧ Wb.cell? ⟨W.heap.size + 1, 1, none⟩ = some (.slice aL nL cL) ∧ Wb.cell? ⟨W.heap.size + 1, 2, none⟩ = some (.slice aC nC cC) ∧ Wb.cell? ⟨W.heap.size + 1, 3, none⟩ = some (.slice aR nR cR)) := by rw [← hWb]; exact ⟨cell_al _ (by simp), cell_al _ (by simp), cell_al _ (by simp), cell_al _ (by simp)⟩
  have HZ : Hid (Wb.heap[W.heap.size + 1 + 1]? = some (.cells #[.int .i64 0, .slice none 0 0, .slice none 0 0, .slice none 0 0] 26)) := by
    show _ = _
    rw [← hWb]
    have := heap_alloc_new ((W.alloc (.cells #[.int .i64 k, .int .i64 r, .slice aT nT cT] 24)).alloc (.cells #[.int .i64 p, .slice aL nL cL, .slice aC nC cC, .slice aR nR cR] 26)) (.cells #[.int .i64 0, .slice none 0 0, .slice none 0 0, .slice none 0 0] 26)
    simpa using this
  have HSZ : Hid (Wb.heap.size = W.heap.size + 3) := by show _ = _; rw [← hWb]; simp
  have HS0 : Hid (W.heap.size < Wb.heap.size) := by show _ < _; have := HSZ.out; omega
  have HS1 : Hid (W.heap.size + 1 < Wb.heap.size) := by show _ < _; have := HSZ.out; omega
  have HBX : Hid (Below W.heap.size W Wb) := by rw [← hWb]; exact balloc (balloc (balloc (bnil W) _) _) _
  have HT := Lib.hid hT; clear hT
  have HI := Lib.hid hI; clear hI
  have HM := Lib.hid hM; clear hM
  have HG := Lib.hid hG; clear hG
  have H := Lib.hid h; clear h
  have HWB := Lib.hid hWb; clear hWb
  have hs : ∀ i, 0 ≤ cellF p L C Q i ∧ cellF p L C Q i < (k : Int) := H.out.cell
  obtain ⟨S, hS⟩ : ∃ S, cellF p L C Q = S := ⟨_, rfl⟩
  rw [hS] at hs ⊢
  have HSS := Lib.hid hS
  have HSR := Lib.hid hs
  clear hS hs
  go_enter Tryd.func11, Tryd.ntmps11
  go_wp2_with fail
  rw [HWB.out]
  refine (rcheck_ok k r aT nT cT tb _ (HT.out.up HBX.out) HI.out).mono ?_; rintro e w1 ⟨rfl, hb1⟩
  have x0 := (hb1.cell (p := ⟨W.heap.size, 0, none⟩) HS0.out).trans HX.out.1
  have y0 := (hb1.cell (p := ⟨W.heap.size + 1, 0, none⟩) HS1.out).trans HY.out.1
  have y1 := (hb1.cell (p := ⟨W.heap.size + 1, 1, none⟩) HS1.out).trans HY.out.2.1
  have y2 := (hb1.cell (p := ⟨W.heap.size + 1, 2, none⟩) HS1.out).trans HY.out.2.2.1
  have y3 := (hb1.cell (p := ⟨W.heap.size + 1, 3, none⟩) HS1.out).trans HY.out.2.2.2
  have HC1 := Lib.hid hb1
  have HB1 := Lib.hid (HBX.out.trans (hb1.mono HBX.out.size))
  clear hb1
  go_wp2_with fail
  refine (rowcheck_ok k p aL aC aR nL cL nC cC nR cR L C Q _ R (HG.out.up HB1.out) (HM.out.up HB1.out) H.out).mono ?_; rintro e w2 ⟨rfl, hb2⟩
  have HC2 := Lib.hid (HC1.out.trans (hb2.mono HC1.out.size))
  clear hb2 x0 y0 y1 y2 y3
  have x0 := (HC2.out.cell (p := ⟨W.heap.size, 0, none⟩) HS0.out).trans HX.out.1
  have x1 := (HC2.out.cell (p := ⟨W.heap.size, 1, none⟩) HS0.out).trans HX.out.2.1
  have x2 := (HC2.out.cell (p := ⟨W.heap.size, 2, none⟩) HS0.out).trans HX.out.2.2
  have y0 := (HC2.out.cell (p := ⟨W.heap.size + 1, 0, none⟩) HS1.out).trans HY.out.1
  have y1 := (HC2.out.cell (p := ⟨W.heap.size + 1, 1, none⟩) HS1.out).trans HY.out.2.1
  have y2 := (HC2.out.cell (p := ⟨W.heap.size + 1, 2, none⟩) HS1.out).trans HY.out.2.2.1
  have y3 := (HC2.out.cell (p := ⟨W.heap.size + 1, 3, none⟩) HS1.out).trans HY.out.2.2.2
  go_wp2_with fail
  go_quiet (fail)
  obtain ⟨w2', hw2'⟩ : ∃ w2', w2.drewN nq = w2' := ⟨_, rfl⟩
  have hb2' : Below Wb.heap.size Wb w2' := by rw [← hw2']; exact below_drewN HC2.out nq
  rw [hw2']
  have HC2' := Lib.hid hb2'
  have HB2' := Lib.hid (HBX.out.trans (hb2'.mono HBX.out.size))
  clear hw2' hb2' x0 x1 x2 y0 y1 y2 y3 HC2 HC1 HB1
  have x0 := (HC2'.out.cell (p := ⟨W.heap.size, 0, none⟩) HS0.out).trans HX.out.1
  have x1 := (HC2'.out.cell (p := ⟨W.heap.size, 1, none⟩) HS0.out).trans HX.out.2.1
  have x2 := (HC2'.out.cell (p := ⟨W.heap.size, 2, none⟩) HS0.out).trans HX.out.2.2
  have y0 := (HC2'.out.cell (p := ⟨W.heap.size + 1, 0, none⟩) HS1.out).trans HY.out.1
  have y1 := (HC2'.out.cell (p := ⟨W.heap.size + 1, 1, none⟩) HS1.out).trans HY.out.2.1
  have y2 := (HC2'.out.cell (p := ⟨W.heap.size + 1, 2, none⟩) HS1.out).trans HY.out.2.2.1
  have y3 := (HC2'.out.cell (p := ⟨W.heap.size + 1, 3, none⟩) HS1.out).trans HY.out.2.2.2
  go_wp2_with fail
  refine (piece_any p (p - (r : Int) - (nL : Int) - (r : Int)) M aL aC aR nL cL nC cC nR cR L C Q _ (HM.out.up HB2'.out) hl hr (by omega) (by omega) (by omega) (by omega) (by omega)).mono ?_; rintro e w3 ⟨a3, c3, rfl, ho3, hb3⟩
  rw [HSS.out] at ho3
  obtain ⟨A, hA⟩ : ∃ A, p - (r : Int) - (nL : Int) - (r : Int) = A := ⟨_, rfl⟩
  rw [hA] at ho3
  have HAA := Lib.hid hA; clear hA
  obtain ⟨hc31, hc32, _⟩ := ho3.nnc
  have hc33 : c3 ≤ 9223372036854775807 := hc32
  obtain ⟨g, rfl, hg1, hg2⟩ := own_form ho3.own (by omega)
  have HO3 := Lib.hid (OwI.base (b' := Wb.heap.size) ho3 HC2'.out.size)
  have HC3 := Lib.hid (HC2'.out.trans (hb3.mono HC2'.out.size))
  have HGB : Hid (Wb.heap.size ≤ g) := Nat.le_trans HC2'.out.size hg1
  clear ho3 hb3 x0 x1 x2 y0 y1 y2 y3 hg1 hg2
  obtain ⟨N, hN⟩ : ∃ N, nL + n' + nR = N := ⟨_, rfl⟩
  have hNM : N + 2 * r = M := by omega
  go_wp2_with fail
  go_loopw [11, 12] (fun wx yx wr => ∃ (i o m : Nat) (ay : Option Addr) (cy : Nat), i ≤ N ∧ m + i = M ∧ (0 < m → o = i) ∧ wx = .slice (some ⟨g, o, none⟩) m (c3 - i) ∧ yx = .slice ay i cy ∧ OwI wr Wb.heap.size (some ⟨g, 0, none⟩) M c3 (valsF S A M) ∧ OwI wr Wb.heap.size ay i cy (valsF (img k r tb S) (A + (r : Int)) i) ∧ Ap (.slice ay i cy) (.slice (some ⟨g, 0, none⟩) M c3) ∧ Below Wb.heap.size Wb wr) (fun wx _ _ => match wx with | .slice _ m _ => m | _ => 0)
  case atStart => exact ⟨0, 0, M, none, 0, by omega, by omega, fun _ => rfl, rfl, rfl, HO3.out, by simpa [valsF] using OwI.nil _ _, (fun g hg => by cases hg), HC3.out⟩
  case round =>
    clear HO3 HC3 HC2' HB2'
    obtain ⟨i, o, m, ay, cy, hi, hm, ho, rfl, rfl, hop, hoy, hap, hb⟩ := hrel
    have HP := Lib.hid hop
    have HOY := Lib.hid hoy
    have HAP := Lib.hid hap
    have HB := Lib.hid hb
    have HBW := Lib.hid (HBX.out.trans (hb.mono HBX.out.size))
    clear hop hoy hap hb
    have x0 := (HB.out.cell (p := ⟨W.heap.size, 0, none⟩) HS0.out).trans HX.out.1
    have x1 := (HB.out.cell (p := ⟨W.heap.size, 1, none⟩) HS0.out).trans HX.out.2.1
    have x2 := (HB.out.cell (p := ⟨W.heap.size, 2, none⟩) HS0.out).trans HX.out.2.2
    by_cases hin : i < N
    · obtain rfl : o = i := ho (by omega)
      have hgt : 2 * (r : Int) < (m : Int) := by omega
      have hin1 : (4096 : Int) ≤ 9223372036854775807 := by decide
      by_cases hm4 : m ≤ 4096
      · have hm4I : (m : Int) ≤ 4096 := by omega
        have hpart : RK .i64 wr (some ⟨g, o, none⟩) m (valsF S (A + (o : Int)) m) := by
          have := rk_part (i := o) (m := m) HP.out.rk (own_lt HP.out.own g rfl) (by omega)
          rw [Nat.zero_add, valsF_drop (by omega), valsF_take (by omega)] at this
          exact this
        have HPART := Lib.hid hpart; clear hpart
        go_wp2_with fail
        refine (rstep_ok k r aT nT cT tb (some ⟨g, o, none⟩) m (c3 - o) (valsF S (A + (o : Int)) m) _ (HT.out.up HBW.out) HPART.out HI.out (by omega) (valsF_mem HSR.out)).mono ?_; rintro e w4 ⟨az, cz, rfl, hoz, hbz⟩
        rw [stepL_vals, show A + (o : Int) + (r : Int) = A + (r : Int) + (o : Int) by omega] at hoz
        have HOZ := Lib.hid hoz
        have HP4 := Lib.hid (HP.out.up hbz)
        have HOY4 := Lib.hid (HOY.out.up hbz)
        have HB4 := Lib.hid (HB.out.trans (hbz.mono HB.out.size))
        clear hoz hbz HPART x0 x1 x2
        have hzb := HB4.out.size
        obtain ⟨d, hd⟩ : ∃ d, m - 2 * r = d := ⟨_, rfl⟩
        rw [hd] at HOZ
        have hdI : ((m : Nat) : Int) - 2 * (r : Int) = (d : Int) := by omega
        go_wp2_with (first
          | (at_builtin; refine apx rfl _ _ _ rfl Wb.heap.size et_int _ o _ HOY4.out.own rfl _ d _ _ rfl HOZ.out.nnc.2.2 HOZ.out.rk.2 (nums_one _ _) (by unfold maxLen; omega) (by omega) hzb ?_; intro a6 c6 w6 h6))
        all_goals
          have ho6 : OwI w6 Wb.heap.size a6 (o + d) c6 (valsF (img k r tb S) (A + (r : Int)) (o + d)) := by
            refine ⟨?_⟩
            rw [← valsF_app, List.map_append]
            exact h6.own
          have HO6 := Lib.hid ho6
          have HP6 : Hid (OwI w6 Wb.heap.size (some ⟨g, 0, none⟩) M c3 (valsF S A M)) := ⟨h6.keeps HP4.out.own HAP.out.ne⟩
          have HAP6 := Lib.hid (HAP.out.app h6 (own_lt HP4.out.own))
          have HB6 := Lib.hid (HB4.out.trans h6.below)
          clear h6 ho6
          by_cases hcap : c3 - o = d
          · rw [if_pos hcap]
            go_roundw
            case rel => exact ⟨o + d, o, m - d, a6, c6, by omega, by omega, fun h => absurd h (by omega), by rw [Nat.sub_sub], rfl, HP6.out, HO6.out, HAP6.out, HB6.out⟩
            case measure => show m - d < m; omega
          · rw [if_neg hcap]
            go_roundw
            case rel => exact ⟨o + d, o + d, m - d, a6, c6, by omega, by omega, fun h => rfl, by rw [Nat.sub_sub], rfl, HP6.out, HO6.out, HAP6.out, HB6.out⟩
            case measure => show m - d < m; omega
      · have hm4I : (4096 : Int) < (m : Int) := by omega
        have hpart : RK .i64 wr (some ⟨g, o, none⟩) 4096 (valsF S (A + (o : Int)) 4096) := by
          have := rk_part (i := o) (m := 4096) HP.out.rk (own_lt HP.out.own g rfl) (by omega)
          rw [Nat.zero_add, valsF_drop (by omega), valsF_take (by omega)] at this
          exact this
        have HPART := Lib.hid hpart; clear hpart
        go_wp2_with fail
        refine (rstep_ok k r aT nT cT tb (some ⟨g, o, none⟩) 4096 (c3 - o) (valsF S (A + (o : Int)) 4096) _ (HT.out.up HBW.out) HPART.out HI.out (by omega) (valsF_mem HSR.out)).mono ?_; rintro e w4 ⟨az, cz, rfl, hoz, hbz⟩
        rw [stepL_vals, show A + (o : Int) + (r : Int) = A + (r : Int) + (o : Int) by omega] at hoz
        have HOZ := Lib.hid hoz
        have HP4 := Lib.hid (HP.out.up hbz)
        have HOY4 := Lib.hid (HOY.out.up hbz)
        have HB4 := Lib.hid (HB.out.trans (hbz.mono HB.out.size))
        clear hoz hbz HPART x0 x1 x2
        have hzb := HB4.out.size
        obtain ⟨d, hd⟩ : ∃ d, 4096 - 2 * r = d := ⟨_, rfl⟩
        rw [hd] at HOZ
        have hdI : ((4096 : Nat) : Int) - 2 * (r : Int) = (d : Int) := by omega
        go_wp2_with (first
          | (at_builtin; refine apx rfl _ _ _ rfl Wb.heap.size et_int _ o _ HOY4.out.own rfl _ d _ _ rfl HOZ.out.nnc.2.2 HOZ.out.rk.2 (nums_one _ _) (by unfold maxLen; omega) (by omega) hzb ?_; intro a6 c6 w6 h6))
        all_goals
          have ho6 : OwI w6 Wb.heap.size a6 (o + d) c6 (valsF (img k r tb S) (A + (r : Int)) (o + d)) := by
            refine ⟨?_⟩
            rw [← valsF_app, List.map_append]
            exact h6.own
          have HO6 := Lib.hid ho6
          have HP6 : Hid (OwI w6 Wb.heap.size (some ⟨g, 0, none⟩) M c3 (valsF S A M)) := ⟨h6.keeps HP4.out.own HAP.out.ne⟩
          have HAP6 := Lib.hid (HAP.out.app h6 (own_lt HP4.out.own))
          have HB6 := Lib.hid (HB4.out.trans h6.below)
          clear h6 ho6
          go_roundw
          case rel => exact ⟨o + d, o + d, m - d, a6, c6, by omega, by omega, fun h => rfl, by rw [Nat.sub_sub], rfl, HP6.out, HO6.out, HAP6.out, HB6.out⟩
          case measure => show m - d < m; omega
    · obtain rfl : N = i := by omega
      obtain ⟨hcy1, hcy2, _⟩ := HOY.out.nnc
      have hcy3 : cy ≤ 9223372036854775807 := hcy2
      obtain ⟨gy, rfl, _, hgy⟩ := own_form HOY.out.own (by omega)
      have hle : ¬ 2 * (r : Int) < (m : Int) := by omega
      obtain ⟨B, hB, hBN⟩ : ∃ B : Nat, (nL : Int) + (n' : Int) = (B : Int) ∧ nL + n' = B := ⟨nL + n', by omega, rfl⟩
      have s1 : RK .i64 wr (some ⟨gy, 0, none⟩) nL (valsF (img k r tb S) (A + (r : Int)) nL) := by
        have := rk_part (i := 0) (m := nL) HOY.out.rk hgy (by omega)
        rw [valsF_drop (by omega), valsF_take (by omega)] at this
        simpa using this
      have s2 : RK .i64 wr (some ⟨gy, nL, none⟩) n' (valsF (img k r tb S) (A + (r : Int) + (nL : Int)) n') := by
        have := rk_part (i := nL) (m := n') HOY.out.rk hgy (by omega)
        rw [valsF_drop (by omega), valsF_take (by omega), Nat.zero_add] at this
        exact this
      have s3 : RK .i64 wr (some ⟨gy, B, none⟩) nR (valsF (img k r tb S) (A + (r : Int) + ((B : Nat) : Int)) nR) := by
        have := rk_part (i := B) (m := nR) HOY.out.rk hgy (by omega)
        rw [valsF_drop (by omega), valsF_take (by omega), Nat.zero_add] at this
        exact this
      have HR1 := Lib.hid (s1.up (bnil wr).drew)
      have HR2 := Lib.hid (s2.up (bnil wr).drew)
      have HR3 := Lib.hid (s3.up (bnil wr).drew)
      clear s1 s2 s3
      have i0 : (0 : Int) ≤ (nL : Int) := by omega
      have i1 : (nL : Int) ≤ (cy : Int) := by omega
      have i2 : (B : Int) ≤ (cy : Int) := by omega
      have i3 : (nL : Int) ≤ (B : Int) := by omega
      have i4 : (B : Int) ≤ (N : Int) := by omega
      have e4 : B - nL = n' := by omega
      have hwB : IntKind.i64.wrap (B : Int) = (B : Int) := IntWalk.i64_in _ (by omega)
      have e1 : ((if cy = nL then some ⟨gy, 0, none⟩ else some ⟨gy, nL, none⟩ : Option Addr)) = some ⟨gy, nL, none⟩ := if_neg (by omega)
      have e2 : ((if cy = B then some ⟨gy, 0, none⟩ else some ⟨gy, B, none⟩ : Option Addr)) = some ⟨gy, B, none⟩ := if_neg (by omega)
      have e3 : N - B = nR := by omega
      go_wp2_with fail
      go_region_with (first
        | (go_at_call 34; refine (clone_any (some ⟨gy, B, none⟩) nR (cy - B) _ _ (HR3.out.up HE6.out) (by omega) (by omega) (fun e => by cases e)).mono ?_; rintro e w7 ⟨a7, c7, rfl, ho7, hb7⟩; have HE7 := Lib.hid ((Below.drew HB.out).trans ((bstep HE6.out hb7).mono HB.out.size)); have HD7 := Lib.hid hb7; have HO7 := Lib.hid ho7; have hz7 := (HE7.out.block (W.heap.size + 1 + 1) (by have := HSZ.out; omega)).trans HZ.out; have HZ7 := Lib.hid hz7; have z0 : w7.cell? ⟨W.heap.size + 1 + 1, 0, none⟩ = some (.int .i64 0) := (by simp [World.cell?, hz7]); have z1 : w7.cell? ⟨W.heap.size + 1 + 1, 1, none⟩ = some (.slice none 0 0) := (by simp [World.cell?, hz7]); have z2 : w7.cell? ⟨W.heap.size + 1 + 1, 2, none⟩ = some (.slice none 0 0) := (by simp [World.cell?, hz7]); have z3 : w7.cell? ⟨W.heap.size + 1 + 1, 3, none⟩ = some (.slice none 0 0) := (by simp [World.cell?, hz7]); have f0 : w7.frozen? ⟨W.heap.size + 1 + 1, 0, none⟩ = false := (by simp [World.frozen?, hz7]); have f1 : w7.frozen? ⟨W.heap.size + 1 + 1, 1, none⟩ = false := (by simp [World.frozen?, hz7]); have f2 : w7.frozen? ⟨W.heap.size + 1 + 1, 2, none⟩ = false := (by simp [World.frozen?, hz7]); have f3 : w7.frozen? ⟨W.heap.size + 1 + 1, 3, none⟩ = false := (by simp [World.frozen?, hz7]); clear hb7 ho7 hz7)
        | (go_at_call 34; refine (clone_any (some ⟨gy, nL, none⟩) n' (cy - nL) _ _ (HR2.out.up HE5.out) (by omega) (by omega) (fun e => by cases e)).mono ?_; rintro e w6 ⟨a6, c6, rfl, ho6, hb6⟩; have HE6 := Lib.hid (bstep HE5.out hb6); have HD6 := Lib.hid hb6; have HO6 := Lib.hid ho6; clear hb6 ho6)
        | (go_at_call 34; refine (clone_any (some ⟨gy, 0, none⟩) nL cy _ _ HR1.out (by omega) (by omega) (fun e => by cases e)).mono ?_; rintro e w5 ⟨a5, c5, rfl, ho5, hb5⟩; have HE5 := Lib.hid hb5; have HO5 := Lib.hid ho5; clear hb5 ho5))
      all_goals
        go_wp2
        obtain ⟨w8, e8, ⟨r0, r1, r2', r3'⟩, hk8, hs8, hbl8⟩ := set4 HZ7.out (.int .i64 (p - (r : Int))) (.slice a5 nL c5) (.slice a6 n' c6) (.slice a7 nR c7)
        rw [e8]
        refine bodyPost_ret (v := .tuple #[rowV (p - (r : Int)) a5 nL c5 a6 n' c6 a7 nR c7, .nilIface]) (by simp [results, Tryd.results11, go_sem, r0, r1, r2', r3']) rfl ?_
        have hsz := HSZ.out
        have hszw := HB.out.size
        have hs6 : wr.heap.size ≤ w5.heap.size := HE5.out.size
        have hs7 : w5.heap.size ≤ w6.heap.size := HD6.out.size
        have q5 : OwI w8 wr.heap.size a5 nL c5 _ := (((OwI.mk HO5.out).up HD6.out).up HD7.out).heap fun b hb => hk8 b (by have : wr.heap.size ≤ b := hb; omega)
        have q6 : OwI w8 w5.heap.size a6 n' c6 _ := ((OwI.mk HO6.out).up HD7.out).heap fun b hb => hk8 b (by omega)
        have q7 : OwI w8 w6.heap.size a7 nR c7 _ := (OwI.mk HO7.out).heap fun b hb => hk8 b (by omega)
        have eA := HAA.out
        rw [show A + (r : Int) = p - (r : Int) - (nL : Int) by omega] at q5
        rw [show A + (r : Int) + (nL : Int) = p - (r : Int) by omega] at q6
        rw [show A + (r : Int) + (B : Int) = p - (r : Int) + (n' : Int) by omega] at q7
        exact ⟨a5, c5, a6, c6, a7, c7, rfl, q5.base (by omega), q6.base (by omega), q7.base (by omega), ap_later HO5.out HO6.out (Nat.le_refl _), ap_later HO5.out HO7.out hs7, ap_later HO6.out HO7.out (Nat.le_refl _), hbl8 _ _ (by omega) (HBX.out.trans (HE7.out.mono HBX.out.size))⟩
end Go.Proofs.YtnmegpplfbkpcaaDoor
