/- The contracts of edenref04.Value, Image. -/
import Derived.Test.YtkgalgmjdfhhbaaDoorRuleB
import Derived.Test.YtkgalgmjdfhhbaaDoorRowD
import Derived.Test.YtkgalgmjdfhhbaaDoorRuleR
import Derived.Deep.RegionHeld3
import Derived.IntWalk
namespace Go.Proofs.YtkgalgmjdfhhbaaDoor
open Go.RowKit
set_option linter.unusedVariables false
set_option maxRecDepth 100000

set_option maxHeartbeats 4000000 in
theorem refValue_any (k n : Nat) (a : Option Addr) (c : Nat) (l : List Int) (W : World) (hR : RK .i64 W a n l) (k1 : 1 ≤ k) (k4 : k ≤ 4) (hn : n ≤ 7) (hs : ∀ x ∈ l, 0 ≤ x ∧ x < (k : Int)) :
    Calls Tryd.prog 75 #[.int .i64 k, .slice a n c] W fun e w' => e = .returned (.int .i64 ((winF k (fun t => l.getD t 0) n : Nat) : Int)) ∧ W = w' := by
  have HL := Lib.hid hR.len
  have HR := Lib.hid hR; clear hR
  have HS := Lib.hid hs; clear hs
  obtain ⟨z, hz⟩ : ∃ z, winF k (fun t => l.getD t 0) n = z := ⟨_, rfl⟩
  rw [hz]
  have HZ := Lib.hid hz; clear hz
  go_enter Tryd.func75, Tryd.ntmps75
  go_wp2_with fail
  go_loop [5, 6] (fun vx ix => ∃ i v : Nat, i ≤ n ∧ ix = .int .i64 i ∧ vx = .int .i64 v ∧ v ≤ 16384 ∧ Hid (winF k (fun t => l.getD t 0) i = v)) (fun _ ix => n - (intOf ix).toNat)
  case atStart => exact ⟨0, 0, by omega, rfl, rfl, by omega, rfl⟩
  case round =>
    obtain ⟨i, v, hi, rfl, rfl, hv, HV⟩ := hrel
    by_cases hin : i < n
    · have hy : l.getD i 0 ∈ l := by
        have h : i < l.length := by have := HL.out; omega
        rw [show l.getD i 0 = l[i] by simp [h]]
        exact List.getElem_mem h
      have hy2 := HS.out _ hy
      obtain ⟨y, hyn⟩ : ∃ y : Nat, l.getD i 0 = (y : Int) := ⟨(l.getD i 0).toNat, by omega⟩
      rw [hyn] at hy2
      have hy4 : y < 4 := by omega
      obtain ⟨P, hP⟩ : ∃ P : Nat, (v : Int) * (k : Int) = (P : Int) ∧ P = v * k := ⟨v * k, by rw [Int.natCast_mul], rfl⟩
      have hP4 : P ≤ 16384 * 4 := by rw [hP.2]; exact Nat.mul_le_mul hv k4
      have hst : winF k (fun t => l.getD t 0) (i + 1) = P + y := by
        show winF k (fun t => l.getD t 0) i * k + (l.getD i 0).toNat = _
        rw [HV.out, hyn, hP.2, Int.toNat_natCast]
      have hlt := winF_lt (k := k) (f := fun t => l.getD t 0) (m := i + 1) fun j hj => by
        have h : j < l.length := by have := HL.out; omega
        rw [show l.getD j 0 = l[j] by simp [h]]
        exact HS.out _ (List.getElem_mem h)
      have hb := rpow_le k4 (show i + 1 ≤ 7 by omega)
      rw [hst] at hlt
      have hpy : P + y ≤ 16384 := by omega
      have HST := Lib.hid hst
      have hP1 := hP.1
      obtain ⟨b, o, rfl, hbo, hcell⟩ := HR.out.addr (by omega)
      have z0 := hcell i hin
      rw [hyn] at z0
      have i0 : (0 : Int) ≤ (i : Int) := by omega
      have i1 : (i : Int) < (n : Int) := by omega
      clear hcell hy hy2 hyn hst hP hlt hb
      go_wp2
      go_round
      case rel => exact ⟨i + 1, P + y, by omega, by go_num, by go_num, hpy, HST.out⟩
      case measure => simp [intOf]; omega
    · obtain rfl : i = n := by omega
      obtain rfl : z = v := HZ.out.symm.trans HV.out
      go_wp2
      go_ret
      exact ⟨rfl, rfl⟩

theorem stepL_next {k r i : Nat} {tb wl : List Int} (hi : i + 2 * r < wl.length) : (stepL k r tb wl).take (i + 1) = (stepL k r tb wl).take i ++ [tb.getD (winF k (fun t => wl.getD (i + t) 0) (2 * r + 1)) 0] := by
  have hl := stepL_len k r tb wl
  rw [List.take_succ_eq_append_getElem (by omega)]
  congr 2
  simp only [stepL, List.getElem_map, List.getElem_range]
theorem drop_getD {wl : List Int} {i t m : Nat} (h : t < m) : ((wl.drop i).take m).getD t 0 = wl.getD (i + t) 0 := by
  simp [List.getD_eq_getElem?_getD, h]

theorem al1r {w : World} {a : Addr} {v : Value} {o : Obj} (h : w.drew.cell? a = some v) : (w.alloc o).drew.cell? a = some v := (Below.drew (balloc (bnil w) o)).cell (World.block_lt_of_cell? w _ h) |>.trans h
set_option maxHeartbeats 8000000 in
theorem refImg_any (k r : Nat) (aT : Option Addr) (nT cT : Nat) (tb : List Int) (aw : Option Addr) (nw cw : Nat) (wl : List Int) (W : World) (hT : RK .i64 W aT nT tb) (hw : SlI W aw nw cw wl) (h : IsRule k r tb) (hn : nw ≤ 1000000) (hs : ∀ x ∈ wl, 0 ≤ x ∧ x < (k : Int)) :
    Calls Tryd.prog 74 #[ruleV k r aT nT cT, .slice aw nw cw] W fun e w' => ∃ a' c', e = .returned (.slice a' (nw - 2 * r) c') ∧ OwI w' W.heap.size a' (nw - 2 * r) c' (stepL k r tb wl) ∧ Below W.heap.size W w' := by
  have k1 := h.k1
  have k4 := h.k4
  have r3 := h.r3
  have hnT : nT = k ^ (2 * r + 1) := hT.len.trans h.len
  have hTb : nT ≤ 16384 := by rw [hnT]; exact rpow_le h.k4 (by omega)
  have hT0 : 0 < nT := by rw [hnT]; exact Nat.pow_pos (by omega)
  have HWL := Lib.hid hw.rk.len
  have hcw : nw ≤ cw := hw.le
  have hcm : cw ≤ 9223372036854775807 := hw.mx
  obtain ⟨bT, oT, rfl, hbT, hcT⟩ := hT.addr hT0
  have HCT := Lib.hid hcT; clear hcT
  have HBT0 := Lib.hid hbT
  have HS := Lib.hid hs; clear hs
  have HN := Lib.hid hnT; clear hnT
  have HW := Lib.hid hw; clear hw
  obtain ⟨Wb, hWb⟩ : ∃ Wb, W.alloc (.cells #[.int .i64 k, .int .i64 r, .slice (some ⟨bT, oT, none⟩) nT cT] 24) = Wb := ⟨_, rfl⟩
  have HX : Hid (Wb.cell? ⟨W.heap.size, 0, none⟩ = some (.int .i64 k) ∧ Wb.cell? ⟨W.heap.size, 1, none⟩ = some (.int .i64 r) ∧ Wb.cell? ⟨W.heap.size, 2, none⟩ = some (.slice (some ⟨bT, oT, none⟩) nT cT)) := by rw [← hWb]; exact ⟨by simp, by simp, by simp⟩
  have HSZ : Hid (W.heap.size < Wb.heap.size) := by show _ < _; rw [← hWb]; simp
  have HBX : Hid (Below W.heap.size W Wb) := by rw [← hWb]; exact balloc (bnil W) _
  have HBT : Hid (bT < Wb.heap.size) := Nat.lt_of_lt_of_le hbT HBX.out.size
  have HWB := Lib.hid hWb; clear hWb
  go_enter Tryd.func74, Tryd.ntmps74
  go_wp2_with fail
  rw [HWB.out]
  go_loopw [5, 6] (fun sx ix wr => ∃ (i : Nat) (a8 : Option Addr) (c8 : Nat), i ≤ nw - 2 * r ∧ ix = .int .i64 i ∧ sx = .slice a8 i c8 ∧ OwI wr Wb.heap.size a8 i c8 ((stepL k r tb wl).take i) ∧ Below Wb.heap.size Wb wr) (fun _ ix _ => nw - (intOf ix).toNat)
  case atStart => exact ⟨0, none, 0, by omega, rfl, rfl, by simpa using OwI.nil _ _, bnil Wb⟩
  case round =>
    obtain ⟨i, a8, c8, hi, rfl, rfl, ho, hb⟩ := hrel
    have HO := Lib.hid ho
    have HB := Lib.hid hb
    have HBW := Lib.hid (HBX.out.trans (hb.mono HBX.out.size))
    clear ho hb
    have x0 := (HB.out.cell (p := ⟨W.heap.size, 0, none⟩) HSZ.out).trans HX.out.1
    have x1 := (HB.out.cell (p := ⟨W.heap.size, 1, none⟩) HSZ.out).trans HX.out.2.1
    have x2 := (HB.out.cell (p := ⟨W.heap.size, 2, none⟩) HSZ.out).trans HX.out.2.2
    by_cases hin : i + 2 * r < nw
    · have hin' : (i : Int) + 2 * (r : Int) < (nw : Int) := by omega
      obtain ⟨b, o, rfl, hbo, hcell⟩ := (HW.out.rk.up HBW.out).addr (by omega)
      clear hcell
      have hpart := rk_part (HW.out.rk.up HBW.out) hbo (i := i) (m := 2 * r + 1) (by omega)
      obtain ⟨v, hv⟩ : ∃ v, winF k (fun t => ((wl.drop i).take (2 * r + 1)).getD t 0) (2 * r + 1) = v := ⟨_, rfl⟩
      have hv2 : winF k (fun t => wl.getD (i + t) 0) (2 * r + 1) = v := by rw [← hv]; exact winF_congr fun j hj => (drop_getD hj).symm
      have hsp : ∀ x ∈ (wl.drop i).take (2 * r + 1), 0 ≤ x ∧ x < (k : Int) := fun x hx => HS.out x (List.mem_of_mem_drop (List.mem_of_mem_take hx))
      have hvT : v < nT := by
        rw [← hv, HN.out]
        refine winF_lt fun j hj => ?_
        rw [drop_getD hj]
        have hh : i + j < wl.length := by have := HWL.out; omega
        rw [show wl.getD (i + j) 0 = wl[i + j] by simp [hh]]
        exact HS.out _ (List.getElem_mem hh)
      have hcall : ∀ (a' : Option Addr) (n' c' : Nat) (w' : World), RK .i64 w' (some ⟨b, o + i, none⟩) (2 * r + 1) ((wl.drop i).take (2 * r + 1)) → a' = some ⟨b, o + i, none⟩ → n' = 2 * r + 1 → Calls Tryd.prog 75 #[.int .i64 (k : Int), .slice a' n' c'] w' fun e w'' => e = .returned (.int .i64 (v : Int)) ∧ w' = w'' := fun a' n' c' w' hr e1 e2 => by
        subst e1 e2
        have := refValue_any k (2 * r + 1) _ c' _ w' hr k1 k4 (by omega) hsp
        rwa [hv] at this
      have HCALL := Lib.hid hcall
      have HP := Lib.hid (hpart.up (Below.drew (bnil wr)))
      have hnx := stepL_next (k := k) (r := r) (tb := tb) (wl := wl) (i := i) (by have := HWL.out; omega)
      rw [hv2] at hnx
      have HNX := Lib.hid hnx
      have tb0 := (HBW.out.cell (p := ⟨bT, oT + v, none⟩) hbT).trans (HCT.out v hvT)
      obtain ⟨t, ht⟩ : ∃ t, tb.getD v 0 = t := ⟨_, rfl⟩
      rw [ht] at tb0 HNX
      clear hcall hpart hv hv2 hsp hnx ht
      have y0 : wr.drew.cell? ⟨W.heap.size, 0, none⟩ = some (.int .i64 k) := x0
      have y1 : wr.drew.cell? ⟨W.heap.size, 1, none⟩ = some (.int .i64 r) := x1
      have y2 : wr.drew.cell? ⟨W.heap.size, 2, none⟩ = some (.slice (some ⟨bT, oT, none⟩) nT cT) := x2
      have y3 : wr.drew.cell? ⟨bT, oT + v, none⟩ = some (.int .i64 t) := tb0
      go_wp2_with fail
      have m1 : IntKind.i64.wrap (2 * (r : Int)) = 2 * (r : Int) := IntWalk.i64_in _ (by omega)
      have m2 : IntKind.i64.wrap ((i : Int) + 2 * (r : Int)) = (i : Int) + 2 * (r : Int) := IntWalk.i64_in _ (by omega)
      have m3 : IntKind.i64.wrap ((i : Int) + 2 * (r : Int) + 1) = (i : Int) + 2 * (r : Int) + 1 := IntWalk.i64_in _ (by omega)
      have m4 : ((i : Int) + 2 * (r : Int) + 1).toNat = i + 2 * r + 1 := by omega
      have m5 : (0 : Int) ≤ (i : Int) + 2 * (r : Int) + 1 := by omega
      have m6 : (i : Int) ≤ (i : Int) + 2 * (r : Int) + 1 := by omega
      have m7 : (i : Int) + 2 * (r : Int) + 1 ≤ (cw : Int) := by omega
      have m8 : (0 : Int) ≤ (i : Int) := by omega
      have m9 : (v : Int) < (nT : Int) := by omega
      have m10 : (0 : Int) ≤ (v : Int) := by omega
      go_region_held3 (fun w' => w'.cell? ⟨W.heap.size, 0, none⟩ = some (.int .i64 k) ∧ w'.cell? ⟨W.heap.size, 1, none⟩ = some (.int .i64 r) ∧ w'.cell? ⟨W.heap.size, 2, none⟩ = some (.slice (some ⟨bT, oT, none⟩) nT cT) ∧ w'.cell? ⟨bT, oT + v, none⟩ = some (.int .i64 t))
        (first | with_reducible exact ⟨y0, y1, y2, y3⟩ | with_reducible exact ⟨z0, z1, z2, z3⟩ | with_reducible exact ⟨al1r y0, al1r y1, al1r y2, al1r y3⟩ | go_keep)
        (first
          | (go_at_call 75; (with_reducible refine (HCALL.out _ _ _ _ HP.out ?_ ?_).mono ?_); (first | rfl | exact if_neg (by omega)); omega; rintro e w5 ⟨rfl, rfl⟩)
          | (refine step_app_lit (by rfl) _ _ _ (by rfl) Wb.heap.size et_int _ i _ HO.out.own (by rfl) 1 _ _ (by rfl) (by simp) (by rfl) (by rfl) (by unfold maxLen; omega) (by omega) HB.out.size ?_; intro a6 c6 w6 ho6 hg6 hb6 hlt6; have z0 := (hb6.cell (p := ⟨W.heap.size, 0, none⟩) HSZ.out).trans x0; have z1 := (hb6.cell (p := ⟨W.heap.size, 1, none⟩) HSZ.out).trans x1; have z2 := (hb6.cell (p := ⟨W.heap.size, 2, none⟩) HSZ.out).trans x2; have z3 := (hb6.cell (p := ⟨bT, oT + v, none⟩) HBT.out).trans tb0; have HO6 := Lib.hid ho6; have HB6 := Lib.hid (HB.out.trans hb6); clear ho6 hg6 hb6 hlt6))
      all_goals
        have ho6 : OwI w6 Wb.heap.size a6 (i + 1) c6 ((stepL k r tb wl).take (i + 1)) := by
          rw [HNX.out]
          refine ⟨?_⟩
          have := HO6.out
          rw [List.map_append]
          simpa using this
        have HO7 := Lib.hid ho6
        clear ho6 m1 m2 m3 m4 m5 m6 m7 m8 m9 m10 x0 x1 x2 y0 y1 y2 y3 z0 z1 z2 z3 tb0
        go_wp2
        go_roundw
        case rel => exact ⟨i + 1, a6, c6, by omega, by go_num, rfl, HO7.out, HB6.out⟩
        case measure => simp [intOf]; omega
    · obtain rfl : i = nw - 2 * r := by omega
      have ho := HO.out
      rw [List.take_of_length_le (by rw [stepL_len]; have := HWL.out; omega)] at ho
      have HOE := Lib.hid (OwI.base ho HBX.out.size)
      clear ho
      go_wp2
      go_ret
      exact ⟨_, _, rfl, HOE.out, HBW.out⟩
end Go.Proofs.YtkgalgmjdfhhbaaDoor
