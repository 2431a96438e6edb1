/- The contract of rule.Step. -/
import Derived.Test.YtnmegpplfbkpcaaDoorRuleA
import Derived.Test.YtnmegpplfbkpcaaDoorRowP
import Derived.Test.YtnmegpplfbkpcaaDoorUnder
import Derived.WalkKit
import Derived.Deep.RegionWith
import Derived.Lib.Hide
namespace Go.Proofs.YtnmegpplfbkpcaaDoor
open Go.RowKit
set_option linter.unusedVariables false
set_option maxRecDepth 100000

/-- a word's image -/
def stepL (k r : Nat) (tb wl : List Int) : List Int := (List.range (wl.length - 2 * r)).map fun j => tb.getD (winF k (fun t => wl.getD (j + t) 0) (2 * r + 1)) 0
theorem stepL_len (k r : Nat) (tb wl : List Int) : (stepL k r tb wl).length = wl.length - 2 * r := by simp [stepL]
theorem stepL_vals {k r : Nat} {tb : List Int} {s : Int → Int} {a : Int} {m : Nat} : stepL k r tb (valsF s a m) = valsF (img k r tb s) (a + (r : Int)) (m - 2 * r) := by
  unfold stepL
  rw [valsF_len]
  unfold valsF
  apply List.map_congr_left
  intro j hj
  rw [List.mem_range] at hj
  unfold img
  congr 1
  refine winF_congr fun t ht => ?_
  show (valsF s a m).getD (j + t) 0 = _
  rw [valsF_getD (by omega)]
  congr 1
  omega
theorem stepL_at {k r T i : Nat} {tb wl : List Int} (hT : T = k ^ (2 * r + 1)) (hi : 2 * r ≤ i) (hil : i < wl.length) (hs : ∀ x ∈ wl, 0 ≤ x ∧ x < (k : Int)) :
    (stepL k r tb wl).take (i + 1 - 2 * r) = (stepL k r tb wl).take (i - 2 * r) ++ [tb.getD (winF k (fun t => wl.getD t 0) (i + 1) % T) 0] := by
  have hl := stepL_len k r tb wl
  rw [show i + 1 - 2 * r = i - 2 * r + 1 by omega, List.take_succ_eq_append_getElem (by omega)]
  congr 2
  simp only [stepL, List.getElem_map, List.getElem_range]
  congr 1
  rw [hT, show i + 1 = i - 2 * r + (2 * r + 1) by omega, winF_mod fun j hj => ?_]
  have : wl.getD (i - 2 * r + j) 0 ∈ wl := by
    have h : i - 2 * r + j < wl.length := by omega
    rw [show wl.getD (i - 2 * r + j) 0 = wl[i - 2 * r + j] by simp [h]]
    exact List.getElem_mem h
  exact hs _ this

set_option maxHeartbeats 4000000 in
theorem rstep_ok (k r : Nat) (a : Option Addr) (n c : Nat) (l : List Int) (aw : Option Addr) (nw cw : Nat) (wl : List Int) (W : World) (hR : RK .i64 W a n l) (hW : RK .i64 W aw nw wl) (h : IsRule k r l) (hw : nw ≤ 4096) (hs : ∀ x ∈ wl, 0 ≤ x ∧ x < (k : Int)) :
    Calls Tryd.prog 33 #[ruleV k r a n c, .slice aw nw cw] W fun e w' => ∃ a' c', e = .returned (.tuple #[.slice a' (nw - 2 * r) c', .nilIface]) ∧ OwI w' W.heap.size a' (nw - 2 * r) c' (stepL k r l wl) ∧ Below W.heap.size W w' := by
  have k1 := h.k1
  have k4 := h.k4
  have r3 := h.r3
  have hn : n = k ^ (2 * r + 1) := hR.len.trans h.len
  have hnb : n ≤ 16384 := by rw [hn]; exact rpow_le h.k4 (by omega)
  have hn0 : 0 < n := by rw [hn]; exact Nat.pow_pos (by omega)
  have hi : idxI (badB (k : Int)) wl = -1 := findIdx_none fun x hx => badB_false.2 (hs x hx)
  have HWL := Lib.hid hW.len
  obtain ⟨bT, oT, rfl, hbT, hcT⟩ := hR.addr hn0
  have HCT := Lib.hid hcT; clear hcT
  have H := Lib.hid h; clear h
  have HI := Lib.hid hi; clear hi
  have HS := Lib.hid hs; clear hs
  have HN := Lib.hid hn; clear hn
  have HR := Lib.hid hR; clear hR
  have HW := Lib.hid hW; clear hW
  obtain ⟨Wb, hWb⟩ : ∃ Wb, W.alloc (.cells #[.int .i64 k, .int .i64 r, .slice (some ⟨bT, oT, none⟩) n c] 24) = Wb := ⟨_, rfl⟩
  have HX : Hid (Wb.cell? ⟨W.heap.size, 0, none⟩ = some (.int .i64 k) ∧ Wb.cell? ⟨W.heap.size, 1, none⟩ = some (.int .i64 r) ∧ Wb.cell? ⟨W.heap.size, 2, none⟩ = some (.slice (some ⟨bT, oT, none⟩) n c)) := by rw [← hWb]; exact ⟨by simp, by simp, by simp⟩
  have HSZ : Hid (W.heap.size < Wb.heap.size) := by show _ < _; rw [← hWb]; simp
  have HBX : Hid (Below W.heap.size W Wb) := by rw [← hWb]; exact balloc (bnil W) _
  have HWB := Lib.hid hWb; clear hWb
  go_enter Tryd.func33, Tryd.ntmps33
  go_wp2_with fail
  rw [HWB.out]
  refine (rcheck_ok k r (some ⟨bT, oT, none⟩) n c l _ (HR.out.up HBX.out) H.out).mono ?_; rintro e w1 ⟨rfl, hb1⟩
  have x0 := (hb1.cell (p := ⟨W.heap.size, 0, none⟩) HSZ.out).trans HX.out.1
  have x1 := (hb1.cell (p := ⟨W.heap.size, 1, none⟩) HSZ.out).trans HX.out.2.1
  have x2 := (hb1.cell (p := ⟨W.heap.size, 2, none⟩) HSZ.out).trans HX.out.2.2
  have HC1 := Lib.hid hb1
  have HB1 := Lib.hid (HBX.out.trans (hb1.mono HBX.out.size))
  clear hb1
  go_wp2_with fail
  refine (odd_any (k : Int) aw nw cw wl _ (HW.out.up HB1.out) (by unfold maxLen; omega)).mono ?_; rintro e w2 ⟨rfl, hb2⟩
  rw [HI.out]
  have HC2 := Lib.hid (bstep HC1.out hb2)
  clear x0 x1 x2 hb2
  have x0 := (HC2.out.cell (p := ⟨W.heap.size, 0, none⟩) HSZ.out).trans HX.out.1
  have x1 := (HC2.out.cell (p := ⟨W.heap.size, 1, none⟩) HSZ.out).trans HX.out.2.1
  have x2 := (HC2.out.cell (p := ⟨W.heap.size, 2, none⟩) HSZ.out).trans HX.out.2.2
  go_wp2_with fail
  go_loopw [8, 9, 31] (fun sx nx ix wr => ∃ (i : Nat) (a8 : Option Addr) (c8 : Nat), i ≤ nw ∧ ix = .int .i64 i ∧ sx = .slice a8 (i - 2 * r) c8 ∧ nx = .int .i64 (winF k (fun t => wl.getD t 0) i % n : Nat) ∧ OwI wr Wb.heap.size a8 (i - 2 * r) c8 ((stepL k r l wl).take (i - 2 * r)) ∧ Below Wb.heap.size Wb wr) (fun _ _ ix _ => nw - (intOf ix).toNat)
  case atStart => exact ⟨0, none, 0, by omega, rfl, by simp, by simp [winF], by simpa using OwI.nil _ _, HC2.out⟩
  case round =>
    clear HC1 HB1 HC2 x0 x1 x2
    obtain ⟨i, a8, c8, hi, rfl, rfl, rfl, ho, hb⟩ := hrel
    have HO := Lib.hid ho
    have HB := Lib.hid hb
    have HBW := Lib.hid (HBX.out.trans (hb.mono HBX.out.size))
    clear ho hb
    have x0 := (HB.out.cell (p := ⟨W.heap.size, 0, none⟩) HSZ.out).trans HX.out.1
    have x1 := (HB.out.cell (p := ⟨W.heap.size, 1, none⟩) HSZ.out).trans HX.out.2.1
    have x2 := (HB.out.cell (p := ⟨W.heap.size, 2, none⟩) HSZ.out).trans HX.out.2.2
    by_cases hin : i < nw
    · obtain ⟨v, hv⟩ : ∃ v, winF k (fun t => wl.getD t 0) i % n = v := ⟨_, rfl⟩
      have hvn : v < n := by rw [← hv]; exact Nat.mod_lt _ hn0
      have hy : wl.getD i 0 ∈ wl := by
        have h : i < wl.length := by have := HWL.out; omega
        rw [show wl.getD i 0 = wl[i] by simp [h]]
        exact List.getElem_mem h
      have hy2 := HS.out _ hy
      obtain ⟨y, hyn⟩ : ∃ y : Nat, wl.getD i 0 = (y : Int) := ⟨(wl.getD i 0).toNat, by omega⟩
      rw [hyn] at hy2
      have hy4 : y < 4 := by omega
      obtain ⟨P, hP⟩ : ∃ P : Nat, (v : Int) * (k : Int) = (P : Int) ∧ P = v * k := ⟨v * k, by rw [Int.natCast_mul], rfl⟩
      have hP4 : P ≤ 16384 * 4 := by rw [hP.2]; exact Nat.mul_le_mul (by omega) k4
      have hst : (P + y) % n = winF k (fun t => wl.getD t 0) (i + 1) % n := by
        rw [← winF_step, hv, hyn, hP.2, Int.toNat_natCast]
      have HST := Lib.hid hst
      have HPE := Lib.hid hP.2
      have hP1 := hP.1
      have hmod : (P + y) % n < n := Nat.mod_lt _ hn0
      obtain ⟨b, o, rfl, hbo, hcell⟩ := (HW.out.up HBW.out).addr (by omega)
      have z0 := hcell i hin
      rw [hyn] at z0
      rw [hv]
      obtain ⟨t, ht⟩ : ∃ t : Nat, (P + y) % n = t := ⟨_, rfl⟩
      have htI : ((P : Int) + (y : Int)) % (n : Int) = (t : Int) := by rw [← ht]; simp
      rw [ht] at hmod HST
      have tb0 := (HBW.out.cell (p := ⟨bT, oT + t, none⟩) hbT).trans (HCT.out t hmod)
      have hnz : ((n : Int) == 0) = false := by rw [beq_eq_false_iff_ne]; omega
      have i0 : (0 : Int) ≤ (i : Int) := by omega
      have i1 : (i : Int) < (nw : Int) := by omega
      have HVV := Lib.hid hv
      clear hcell hy hy2 hyn hst hP ht hv
      by_cases hir : 2 * r ≤ i
      · have hir2 : 2 * (r : Int) ≤ (i : Int) := by omega
        have hzb := HB.out.size
        go_wp2_with (first
          | (at_builtin; refine apl rfl _ _ _ rfl Wb.heap.size et_int _ _ _ HO.out.own rfl 1 _ _ rfl rfl rfl rfl (by unfold maxLen; omega) (by omega) hzb ?_; intro a6 c6 w6 h6))
        have ho6 : OwI w6 Wb.heap.size a6 (i + 1 - 2 * r) c6 ((stepL k r l wl).take (i + 1 - 2 * r)) := by
          rw [stepL_at HN.out hir (by have := HWL.out; omega) HS.out, ← HST.out]
          refine ⟨?_⟩
          have := h6.own
          rw [show i + 1 - 2 * r = i - 2 * r + 1 by omega, List.map_append]
          simpa using this
        have HO6 := Lib.hid ho6
        have HB6 := Lib.hid (HB.out.trans h6.below)
        have e6 : i - 2 * r + 1 = i + 1 - 2 * r := by omega
        clear h6 ho6
        go_roundw
        case rel => exact ⟨i + 1, a6, c6, by omega, by go_num, by rw [e6], by rw [HST.out], HO6.out, HB6.out⟩
        case measure => simp [intOf]; omega
      · have hir2 : ¬ 2 * (r : Int) ≤ (i : Int) := by omega
        have e6 : i + 1 - 2 * r = i - 2 * r := by omega
        go_wp2
        go_roundw
        case rel => exact ⟨i + 1, a8, c8, by omega, by go_num, by rw [e6], by rw [← HST.out, htI], by rw [e6]; exact HO.out, HB.out⟩
        case measure => simp [intOf]; omega
    · obtain rfl : i = nw := by omega
      have hfin : (stepL k r l wl).take (i - 2 * r) = stepL k r l wl := List.take_of_length_le (by rw [stepL_len]; have := HWL.out; omega)
      have ho := HO.out
      rw [hfin] at ho
      have HOE := Lib.hid (OwI.base ho HBX.out.size)
      have HBE := HBW
      clear hfin ho
      go_wp2
      go_ret2
      exact ⟨_, _, rfl, HOE.out, HBE.out⟩

theorem rstep_err (k r : Int) (a : Option Addr) (n c : Nat) (l : List Int) (aw : Option Addr) (nw cw : Nat) (W : World) (R : Nat → Addr) (hG : Glob W R) (hR : RK .i64 W a n l) (hm : n ≤ maxLen) (at_ : Int) (he : ruleErr k r l = some at_) :
    Calls Tryd.prog 33 #[ruleV k r a n c, .slice aw nw cw] W (ErrB W) := by
  have HE := Lib.hid he; clear he
  have HG := Lib.hid hG; clear hG
  have HR := Lib.hid hR; clear hR
  have hbx := balloc (bnil W) (.cells #[.int .i64 k, .int .i64 r, .slice a n c] 24)
  go_enter Tryd.func33, Tryd.ntmps33
  go_wp2_with fail
  refine (rcheck_err k r a n c l _ R (HG.out.up hbx) (HR.out.up hbx) hm at_ HE.out).mono ?_; rintro e w2 ⟨g2, rfl, he2, hb2⟩
  clear he2
  go_wp2
  go_ret2
  exact ⟨_, rfl, hbx.trans (hb2.mono hbx.size)⟩
end Go.Proofs.YtnmegpplfbkpcaaDoor
