/- The contracts of ring.check, image, Step. -/
import Derived.Test.YtnmegpplfbkpcaaDoorRuleA
import Derived.Test.YtnmegpplfbkpcaaDoorRowP
import Derived.Test.YtnmegpplfbkpcaaDoorIdx
import Derived.Test.YtnmegpplfbkpcaaDoorBase
import Derived.Test.YtnmegpplfbkpcaaDoorSl
import Derived.Deep.RegionWith
import Derived.Deep.QuietTactic
import Derived.BigQuiet
import Derived.WalkKit
import Derived.Lib.Hide
namespace Go.Proofs.YtnmegpplfbkpcaaDoor
open Go.RowKit
set_option linter.unusedVariables false
set_option maxRecDepth 100000

/-- a ring, as a function of places -/
def ringF (wl : List Int) (i : Int) : Int := wl.getD (i % (wl.length : Int)).toNat 0
theorem ringF_per {wl : List Int} {i j q : Int} (e : i = j + (wl.length : Int) * q) : ringF wl i = ringF wl j := by
  unfold ringF
  rw [e, Int.add_mul_emod_self_left]
theorem ringF_range {k : Nat} {wl : List Int} (k1 : 1 ≤ k) (hs : ∀ x ∈ wl, 0 ≤ x ∧ x < (k : Int)) (i : Int) : 0 ≤ ringF wl i ∧ ringF wl i < (k : Int) :=
  getD_all (P := fun x => 0 ≤ x ∧ x < (k : Int)) hs ⟨by omega, by omega⟩ _
/-- a ring's image -/
def ringL (k r : Nat) (tb wl : List Int) : List Int := valsF (img k r tb (ringF wl)) 0 wl.length
theorem ringF_image {k r : Nat} {tb wl : List Int} (hl : 0 < wl.length) (i : Int) : ringF (ringL k r tb wl) i = img k r tb (ringF wl) i := by
  unfold ringF
  rw [show (ringL k r tb wl).length = wl.length from valsF_len _ _ _]
  have hd1 := Int.emod_nonneg i (show (wl.length : Int) ≠ 0 by omega)
  have hd2 := Int.emod_lt_of_pos i (show (0 : Int) < (wl.length : Int) by omega)
  have hd3 := Int.emod_add_mul_ediv i (wl.length : Int)
  unfold ringL
  rw [valsF_getD (by omega)]
  refine img_congr fun j hj => ringF_per (q := - (i / (wl.length : Int))) ?_
  rw [Int.mul_neg]
  omega
/-- a ring without fault -/
structure IsRing (k : Nat) (wl : List Int) : Prop where
  l1 : 0 < wl.length
  l2 : wl.length ≤ 4096
  sym : ∀ x ∈ wl, 0 ≤ x ∧ x < (k : Int)

theorem ring_pred (k : Int) (B : Nat) (w : World) (hB : B < w.heap.size) (hcell : w.cell? ⟨B, 0, none⟩ = some (.int .i64 k)) : PredOf 67 #[.pointer (some ⟨B, 0, none⟩)] (badB k) w := by
  intro W x hb
  have hc : W.cell? ⟨B, 0, none⟩ = some (.int .i64 k) := (hb.cell (p := ⟨B, 0, none⟩) hB).trans hcell
  clear hcell
  show Calls Tryd.prog 67 #[.int .i64 x, .pointer (some ⟨B, 0, none⟩)] W _
  by_cases h0 : x < 0
  · have e : badB k x = true := badB_true.2 (.inl h0)
    rw [e]; clear e
    go_enter Tryd.func67, Tryd.ntmps67
    go_wp2
    go_ret
    exact ⟨rfl, 0, rfl⟩
  · by_cases h1 : k ≤ x
    · have e : badB k x = true := badB_true.2 (.inr h1)
      rw [e]; clear e
      go_enter Tryd.func67, Tryd.ntmps67
      go_wp2
      go_ret
      exact ⟨rfl, 0, rfl⟩
    · have e : badB k x = false := badB_false.2 ⟨by omega, by omega⟩
      rw [e]; clear e
      go_enter Tryd.func67, Tryd.ntmps67
      go_wp2
      go_ret
      exact ⟨rfl, 0, rfl⟩

set_option maxHeartbeats 4000000 in
theorem ringcheck_ok (k r : Nat) (a : Option Addr) (n c : Nat) (l : List Int) (aw : Option Addr) (nw cw : Nat) (wl : List Int) (W : World) (hR : RK .i64 W a n l) (hW : RK .i64 W aw nw wl) (h : IsRule k r l) (hw : IsRing k wl) :
    Calls Tryd.prog 28 #[ruleV k r a n c, .slice aw nw cw] W fun e w' => e = .returned .nilIface ∧ Below W.heap.size W w' := by
  have w1 : 0 < nw := by rw [hW.len]; exact hw.l1
  have w2 : nw ≤ 4096 := by rw [hW.len]; exact hw.l2
  have hnz : ((nw : Int) == 0) = false := by rw [beq_eq_false_iff_ne]; omega
  have hi : idxI (badB (k : Int)) wl = -1 := findIdx_none fun x hx => badB_false.2 (hw.sym x hx)
  have HI := Lib.hid hi; clear hi
  have H := Lib.hid h; clear h
  have HR := Lib.hid hR; clear hR
  have HW := Lib.hid hW; clear hW
  obtain ⟨Wb, hWb⟩ : ∃ Wb, W.alloc (.cells #[.int .i64 k, .int .i64 r, .slice a n c] 24) = Wb := ⟨_, rfl⟩
  have HX : Hid (Wb.cell? ⟨W.heap.size, 0, none⟩ = some (.int .i64 k)) := by show _ = _; rw [← hWb]; simp
  have HSZ : Hid (W.heap.size < Wb.heap.size) := by show _ < _; rw [← hWb]; simp
  have HBX : Hid (Below W.heap.size W Wb) := by rw [← hWb]; exact balloc (bnil W) _
  have HWB := Lib.hid hWb; clear hWb
  have hmf : ∀ (fn : Fn) (first cap : Array Value) (w : World), (Instr.makeFunc fn first cap).run Tryd.prog w = .ok (.func fn first cap) w := fun _ _ _ _ => rfl
  have eg : ∀ args w, (callFunc 67 args).run Tryd.prog w = .ok (.enter 67 args) w := enters_of Tryd.func67 (by kernel_rfl) rfl
  have EG := Lib.hid eg; clear eg
  go_enter Tryd.func28, Tryd.ntmps28
  go_wp2_with fail
  rw [HWB.out]
  refine (rcheck_ok k r a n c l _ (HR.out.up HBX.out) H.out).mono ?_; rintro e w1 ⟨rfl, hb1⟩
  have hx1 := (hb1.cell (p := ⟨W.heap.size, 0, none⟩) HSZ.out).trans HX.out
  have HP : Hid (PredOf 67 #[.pointer (some ⟨W.heap.size, 0, none⟩)] (badB k) w1) := ring_pred k W.heap.size _ (Nat.lt_of_lt_of_le HSZ.out hb1.size) hx1
  have HB1 := Lib.hid (HBX.out.trans (hb1.mono HBX.out.size))
  clear hb1 hx1
  go_wp2_with fail
  refine (indexFunc_any aw nw cw wl 67 _ (badB k) _ (HW.out.up HB1.out) (by unfold maxLen; omega) EG.out HP.out).mono ?_; rintro e w' ⟨rfl, m, rfl⟩
  rw [HI.out]
  go_wp2
  go_ret
  exact ⟨rfl, below_drewN HB1.out _⟩

set_option maxHeartbeats 8000000 in
theorem rimage_ok (k r : Nat) (a : Option Addr) (n c : Nat) (l : List Int) (aw : Option Addr) (nw cw : Nat) (wl : List Int) (W : World) (hR : RK .i64 W a n l) (hW : RK .i64 W aw nw wl) (h : IsRule k r l) (hw : IsRing k wl) :
    Calls Tryd.prog 29 #[ruleV k r a n c, .slice aw nw cw] W fun e w' => ∃ a' c', e = .returned (.slice a' nw c') ∧ OwI w' W.heap.size a' nw c' (ringL k r l wl) ∧ Below W.heap.size W w' := by
  have k1 := h.k1
  have k4 := h.k4
  have r3 := h.r3
  have w1 : 0 < nw := by rw [hW.len]; exact hw.l1
  have w2 : nw ≤ 4096 := by rw [hW.len]; exact hw.l2
  have hn : n = k ^ (2 * r + 1) := hR.len.trans h.len
  have hnb : n ≤ 16384 := by rw [hn]; exact rpow_le h.k4 (by omega)
  have hn0 : 0 < n := by rw [hn]; exact Nat.pow_pos (by omega)
  have HWL := Lib.hid hW.len
  obtain ⟨bT, oT, rfl, hbT, hcT⟩ := hR.addr hn0
  have HCT := Lib.hid hcT; clear hcT
  obtain ⟨bW, oW, rfl, hbW, hcW⟩ := hW.addr w1
  have HCW := Lib.hid hcW; clear hcW
  have hrng := ringF_range k1 hw.sym
  obtain ⟨S, hS⟩ : ∃ S, ringF wl = S := ⟨_, rfl⟩
  have HSS := Lib.hid hS
  rw [hS] at hrng
  have HRN := Lib.hid hrng
  have hfin : ringL k r l wl = valsF (img k r l S) 0 nw := by rw [← hS, hW.len]; rfl
  rw [hfin]
  have HN := Lib.hid hn
  clear hS hrng hR hW h hw hn hfin
  obtain ⟨Wb, hWb⟩ : ∃ Wb, W.alloc (.cells #[.int .i64 k, .int .i64 r, .slice (some ⟨bT, oT, none⟩) n c] 24) = Wb := ⟨_, rfl⟩
  have HX : Hid (Wb.cell? ⟨W.heap.size, 0, none⟩ = some (.int .i64 k) ∧ Wb.cell? ⟨W.heap.size, 1, none⟩ = some (.int .i64 r) ∧ Wb.cell? ⟨W.heap.size, 2, none⟩ = some (.slice (some ⟨bT, oT, none⟩) n c)) := by rw [← hWb]; exact ⟨by simp, by simp, by simp⟩
  have HSZ : Hid (W.heap.size < Wb.heap.size) := by show _ < _; rw [← hWb]; simp
  have HBX : Hid (Below W.heap.size W Wb) := by rw [← hWb]; exact balloc (bnil W) _
  have HWB := Lib.hid hWb; clear hWb
  obtain ⟨g, hg⟩ : ∃ g, Wb.heap.size = g := ⟨_, rfl⟩
  have HGS := Lib.hid hg
  go_enter Tryd.func29, Tryd.ntmps29
  have x1 := HX.out.2.1
  go_wp2_with (first
    | (at_make; rw [HWB.out]; refine mk_full rfl _ _ _ rfl W.heap.size et_int .i64 .i64 _ _ nw rfl rfl rfl rfl (by omega) (by unfold maxLen; omega) HBX.out.size ?_; intro w3 hown1 hb1 hsz1; rw [made_i64r] at hown1; have x1' := (hb1.cell (p := ⟨W.heap.size, 1, none⟩) HSZ.out).trans HX.out.2.1))
  rw [hg] at hown1
  have HST : Hid (w3.ownsRow W.heap.size 3 1 (.slice (some ⟨g, 0, none⟩) nw nw) nw ((valsF (img k r l S) 0 0 ++ List.replicate (nw - 0) 0).map (Value.int .i64))) := by
    show World.ownsRow _ _ _ _ _ _ _
    simpa [valsF] using hown1
  have HB1 := Lib.hid hb1
  clear hown1 hb1 hsz1 hg x1 x1'
  go_loopw [7, 8] (fun nx ix wr => ∃ (j : Nat) (i : Int), j ≤ nw + 2 * r ∧ i = (j : Int) - 2 * (r : Int) ∧ ix = .int .i64 i ∧ nx = .int .i64 (winF k (fun t => S ((t : Int) - (r : Int))) j % n : Nat) ∧ wr.ownsRow W.heap.size 3 1 (.slice (some ⟨g, 0, none⟩) nw nw) nw ((valsF (img k r l S) 0 (j - 2 * r) ++ List.replicate (nw - (j - 2 * r)) 0).map (Value.int .i64)) ∧ Below Wb.heap.size Wb wr) (fun _ ix _ => ((nw : Int) - (intOf ix)).toNat)
  case atStart => exact ⟨0, -2 * (r : Int), by omega, by omega, rfl, by simp [winF], by simpa using HST.out, HB1.out⟩
  case round =>
    clear HST HB1
    obtain ⟨j, i, hj, hij, rfl, rfl, ho, hb⟩ := hrel
    have HO := Lib.hid ho
    have HB := Lib.hid hb
    have HBW := Lib.hid (HBX.out.trans (hb.mono HBX.out.size))
    clear ho hb
    have x0 := (HB.out.cell (p := ⟨W.heap.size, 0, none⟩) HSZ.out).trans HX.out.1
    have x1 := (HB.out.cell (p := ⟨W.heap.size, 1, none⟩) HSZ.out).trans HX.out.2.1
    have x2 := (HB.out.cell (p := ⟨W.heap.size, 2, none⟩) HSZ.out).trans HX.out.2.2
    by_cases hin : i < (nw : Int)
    · obtain ⟨s, hs⟩ : ∃ s : Int, i + (r : Int) = s := ⟨_, rfl⟩
      have hs1 : -100 ≤ s := by omega
      have hs2 : s ≤ 10000 := by omega
      have hi1 : -100 ≤ i := by omega
      have q0 := tm_mod s nw w1
      have q1 := Int.lt_tmod_of_pos s (show (0 : Int) < (nw : Int) by omega)
      have q2 := Int.tmod_lt_of_pos s (show (0 : Int) < (nw : Int) by omega)
      have q3 := Int.emod_nonneg s (show (nw : Int) ≠ 0 by omega)
      have q4 := Int.emod_lt_of_pos s (show (0 : Int) < (nw : Int) by omega)
      obtain ⟨q, hq⟩ : ∃ q : Nat, s % (nw : Int) = (q : Int) := ⟨(s % (nw : Int)).toNat, by omega⟩
      rw [hq] at q0 q3 q4
      have hSq : S ((j : Int) - (r : Int)) = wl.getD q 0 := by
        rw [← HSS.out]
        unfold ringF
        rw [← HWL.out, show (j : Int) - (r : Int) = s by omega, hq, Int.toNat_natCast]
      have z0 := (HBW.out.cell (p := ⟨bW, oW + q, none⟩) hbW).trans (HCW.out q (by omega))
      have hr1 := HRN.out ((j : Int) - (r : Int))
      obtain ⟨y, hy⟩ : ∃ y : Nat, wl.getD q 0 = (y : Int) := ⟨(wl.getD q 0).toNat, by omega⟩
      rw [hSq, hy] at hr1
      rw [hy] at z0
      have hy4 : y < 4 := by omega
      obtain ⟨v, hv⟩ : ∃ v, winF k (fun t => S ((t : Int) - (r : Int))) j % n = v := ⟨_, rfl⟩
      have hvn : v < n := by rw [← hv]; exact Nat.mod_lt _ hn0
      obtain ⟨P, hP⟩ : ∃ P : Nat, (v : Int) * (k : Int) = (P : Int) ∧ P = v * k := ⟨v * k, by rw [Int.natCast_mul], rfl⟩
      have hP4 : P ≤ 16384 * 4 := by rw [hP.2]; exact Nat.mul_le_mul (by omega) k4
      have hst : (P + y) % n = winF k (fun t => S ((t : Int) - (r : Int))) (j + 1) % n := by
        rw [← winF_step, hv, hSq, hy, hP.2, Int.toNat_natCast]
      have hP1 := hP.1
      have hmod : (P + y) % n < n := Nat.mod_lt _ hn0
      rw [hv]
      obtain ⟨t, ht⟩ : ∃ t : Nat, (P + y) % n = t := ⟨_, rfl⟩
      have htI : ((P : Int) + (y : Int)) % (n : Int) = (t : Int) := by rw [← ht]; simp
      rw [ht] at hmod hst
      have HTW := Lib.hid hst
      have tb0 := (HBW.out.cell (p := ⟨bT, oT + t, none⟩) hbT).trans (HCT.out t hmod)
      have hnz : ((n : Int) == 0) = false := by rw [beq_eq_false_iff_ne]; omega
      have hnz2 : ((nw : Int) == 0) = false := by rw [beq_eq_false_iff_ne]; omega
      have HQ := Lib.hid hq
      clear hSq hr1 hy hst hP ht hv hq
      by_cases hir : 0 ≤ i
      · obtain ⟨m, rfl⟩ : ∃ m : Nat, i = (m : Int) := ⟨i.toNat, by omega⟩
        have hmj : j - 2 * r = m := by omega
        have hmn : m < nw := by omega
        have ho := HO.out
        rw [hmj] at ho
        have hcell := ho.cellAt m (by omega)
        obtain ⟨u, hu⟩ : ∃ u, wr.cell? ⟨g, m, none⟩ = some u := by
          rw [hcell]
          have : m < ((valsF (img k r l S) 0 m ++ List.replicate (nw - m) 0).map (Value.int .i64)).length := by simp [valsF]; omega
          exact ⟨_, List.getElem?_eq_getElem this⟩
        have f0 := ho.frozenAt m
        have himg : l.getD t 0 = img k r l S (0 + (m : Int)) := by
          rw [HTW.out]
          unfold img
          congr 1
          rw [HN.out, show j + 1 = m + (2 * r + 1) by omega, winF_mod fun q _ => HRN.out _]
          refine winF_congr fun q hq => ?_
          show S ((((m + q : Nat) : Int)) - (r : Int)) = _
          congr 1
          omega
        have ho2 := own_set ho m (.int .i64 (l.getD t 0))
        rw [himg, vals_set hmn] at ho2
        have HO2 := Lib.hid ho2
        have HB2 := Lib.hid (HB.out.setCell (p := ⟨g, m, none⟩) (by rw [HGS.out]; exact Nat.le_refl _) (.int .i64 (l.getD t 0)))
        have HIM := Lib.hid himg
        have HIJ := Lib.hid hij
        have hq := HQ.out
        have hs0 : 0 ≤ s := by omega
        have hqm : q % nw = q := Nat.mod_eq_of_lt (by omega)
        clear ho ho2 hcell himg hij hmj
        go_wp2
        go_roundw
        case rel =>
          have hij := HIJ.out
          refine ⟨j + 1, (m : Int) + 1, by omega, by omega, rfl, by rw [← HTW.out, htI], ?_, ?_⟩
          · rw [show j + 1 - 2 * r = m + 1 by omega]
            have := HO2.out
            rw [← HIM.out] at this
            simpa using this
          · simpa using HB2.out
        case measure => simp [intOf]; omega
      · have e6 : j + 1 - 2 * r = j - 2 * r := by omega
        have HE6 := Lib.hid e6
        have HIJ := Lib.hid hij
        clear e6 hij
        go_wp2
        go_roundw
        case rel =>
          have hij := HIJ.out
          have e6 := HE6.out
          exact ⟨j + 1, i + 1, by omega, by omega, rfl, by rw [← HTW.out, htI], by rw [e6]; exact HO.out, HB.out⟩
        case measure => simp [intOf]; omega
    · have hmj : j - 2 * r = nw := by omega
      have ho := HO.out
      rw [hmj, Nat.sub_self, List.replicate_zero, List.append_nil] at ho
      have HE := Lib.hid ho
      clear ho hij hmj
      go_wp2
      go_ret
      exact ⟨_, _, rfl, ⟨HE.out⟩, HBW.out⟩

set_option maxHeartbeats 2000000 in
theorem ringstep_ok (k r : Nat) (a : Option Addr) (n c : Nat) (l : List Int) (aw : Option Addr) (nw cw : Nat) (wl : List Int) (W : World) (hR : RK .i64 W a n l) (hW : RK .i64 W aw nw wl) (h : IsRule k r l) (hw : IsRing k wl) :
    Calls Tryd.prog 8 #[ruleV k r a n c, .slice aw nw cw] W fun e w' => ∃ a' c', e = .returned (.tuple #[.slice a' nw c', .nilIface]) ∧ OwI w' W.heap.size a' nw c' (ringL k r l wl) ∧ Below W.heap.size W w' := by
  have HR := Lib.hid hR; clear hR
  have HW := Lib.hid hW; clear hW
  have H := Lib.hid h; clear h
  have HI := Lib.hid hw; clear hw
  obtain ⟨Wb, hWb⟩ : ∃ Wb, W.alloc (.cells #[.int .i64 k, .int .i64 r, .slice a n c] 24) = Wb := ⟨_, rfl⟩
  have HX : Hid (Wb.cell? ⟨W.heap.size, 0, none⟩ = some (.int .i64 k) ∧ Wb.cell? ⟨W.heap.size, 1, none⟩ = some (.int .i64 r) ∧ Wb.cell? ⟨W.heap.size, 2, none⟩ = some (.slice a n c)) := by rw [← hWb]; exact ⟨by simp, by simp, by simp⟩
  have HSZ : Hid (W.heap.size < Wb.heap.size) := by show _ < _; rw [← hWb]; simp
  have HBX : Hid (Below W.heap.size W Wb) := by rw [← hWb]; exact balloc (bnil W) _
  have HWB := Lib.hid hWb; clear hWb
  go_enter Tryd.func8, Tryd.ntmps8
  go_wp2_with fail
  rw [HWB.out]
  refine (ringcheck_ok k r a n c l aw nw cw wl _ (HR.out.up HBX.out) (HW.out.up HBX.out) H.out HI.out).mono ?_; rintro e w1 ⟨rfl, hb1⟩
  have x0 := (hb1.cell (p := ⟨W.heap.size, 0, none⟩) HSZ.out).trans HX.out.1
  have x1 := (hb1.cell (p := ⟨W.heap.size, 1, none⟩) HSZ.out).trans HX.out.2.1
  have x2 := (hb1.cell (p := ⟨W.heap.size, 2, none⟩) HSZ.out).trans HX.out.2.2
  have HB1 := Lib.hid (HBX.out.trans (hb1.mono HBX.out.size))
  clear hb1
  go_wp2_with fail
  refine (rimage_ok k r a n c l aw nw cw wl _ (HR.out.up HB1.out) (HW.out.up HB1.out) H.out HI.out).mono ?_; rintro e w2 ⟨a2, c2, rfl, ho2, hb2⟩
  have HO2 := Lib.hid (ho2.base HB1.out.size)
  have HB2 := Lib.hid (bstep HB1.out hb2)
  clear ho2 hb2
  go_wp2
  go_ret2
  exact ⟨_, _, rfl, HO2.out, HB2.out⟩
end Go.Proofs.YtnmegpplfbkpcaaDoor
