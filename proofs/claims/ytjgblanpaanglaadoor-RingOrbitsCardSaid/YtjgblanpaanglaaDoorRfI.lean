/- The contract of edenref06.Image. -/
import Derived.Test.YtjgblanpaanglaaDoorRngV
import Derived.Test.YtjgblanpaanglaaDoorRngW
import Derived.Deep.QuietTactic
import Derived.BigQuiet
namespace Go.Proofs.YtjgblanpaanglaaDoor
open Go.RowKit
set_option linter.unusedVariables false
set_option maxRecDepth 100000

set_option maxHeartbeats 8000000 in
theorem refimage_ok (k r : Nat) (a : Option Addr) (n c : Nat) (l : List Int) (aw : Option Addr) (nw cw : Nat) (wl : List Int) (W : World) (hR : RK .i64 W a n l) (hW : RK .i64 W aw nw wl) (h : IsRule k r l) (hw : IsRing k wl) :
    Calls Tryd.prog 48 #[ruleV k r a n c, .slice aw nw cw] W fun e w' => ∃ a' c', e = .returned (.slice a' nw c') ∧ OwI w' W.heap.size a' nw c' (ringL k r l wl) ∧ Below W.heap.size W w' := by
  have k1 := h.k1
  have k4 := h.k4
  have r3 := h.r3
  have w1 : 0 < nw := by rw [hW.len]; exact hw.l1
  have w2 : nw ≤ 4096 := by rw [hW.len]; exact hw.l2
  have hn : n = k ^ (2 * r + 1) := hR.len.trans h.len
  have hnb : n ≤ 16384 := by rw [hn]; exact rpow_le h.k4 (by omega)
  have hn0 : 0 < n := by rw [hn]; exact Nat.pow_pos (by omega)
  have HWL := Lib.hid hW.len
  obtain ⟨bT, oT, rfl, hbT, hcT⟩ := hR.addr hn0
  have HCT := Lib.hid hcT; clear hcT
  obtain ⟨bW, oW, rfl, hbW, hcW⟩ := hW.addr w1
  have HCW := Lib.hid hcW; clear hcW
  have hrng := ringF_range k1 hw.sym
  obtain ⟨S, hS⟩ : ∃ S, ringF wl = S := ⟨_, rfl⟩
  have HSS := Lib.hid hS
  rw [hS] at hrng
  have HRN := Lib.hid hrng
  have hfin : ringL k r l wl = valsF (img k r l S) 0 nw := by rw [← hS, hW.len]; rfl
  rw [hfin]
  have HN := Lib.hid hn
  clear hS hrng hR hW h hw hn hfin
  obtain ⟨Wb, hWb⟩ : ∃ Wb, W.alloc (.cells #[.int .i64 k, .int .i64 r, .slice (some ⟨bT, oT, none⟩) n c] 24) = Wb := ⟨_, rfl⟩
  have HX : Hid (Wb.cell? ⟨W.heap.size, 0, none⟩ = some (.int .i64 k) ∧ Wb.cell? ⟨W.heap.size, 1, none⟩ = some (.int .i64 r) ∧ Wb.cell? ⟨W.heap.size, 2, none⟩ = some (.slice (some ⟨bT, oT, none⟩) n c)) := by rw [← hWb]; exact ⟨by simp, by simp, by simp⟩
  have HSZ : Hid (W.heap.size < Wb.heap.size) := by show _ < _; rw [← hWb]; simp
  have HBX : Hid (Below W.heap.size W Wb) := by rw [← hWb]; exact balloc (bnil W) _
  have HWB := Lib.hid hWb; clear hWb
  obtain ⟨g, hg⟩ : ∃ g, Wb.heap.size = g := ⟨_, rfl⟩
  have HGS := Lib.hid hg
  go_enter Tryd.func48, Tryd.ntmps48
  go_wp2_with (first
    | (at_make; rw [HWB.out]; refine mk_full rfl _ _ _ rfl W.heap.size et_int .i64 .i64 _ _ nw rfl rfl rfl rfl (by omega) (by unfold maxLen; omega) HBX.out.size ?_; intro w3 hown1 hb1 hsz1; rw [made_i64r] at hown1))
  rw [hg] at hown1
  have HST : Hid (w3.ownsRow W.heap.size 3 1 (.slice (some ⟨g, 0, none⟩) nw nw) nw ((valsF (img k r l S) 0 0 ++ List.replicate (nw - 0) 0).map (Value.int .i64))) := by
    show World.ownsRow _ _ _ _ _ _ _
    simpa [valsF] using hown1
  have HB1 := Lib.hid hb1
  have hneg : IntKind.i64.wrap (-(r : Int)) = -(r : Int) := IntWalk.i64_in _ (by omega)
  clear hown1 hb1 hsz1 hg
  go_loopw [7, 8, 9] (fun ix vx jx wr => ∃ m : Nat, m ≤ nw ∧ ix = .int .i64 m ∧ wr.ownsRow W.heap.size 3 1 (.slice (some ⟨g, 0, none⟩) nw nw) nw ((valsF (img k r l S) 0 m ++ List.replicate (nw - m) 0).map (Value.int .i64)) ∧ Below Wb.heap.size Wb wr) (fun ix _ _ _ => nw - (intOf ix).toNat)
  case atStart => exact ⟨0, by omega, rfl, HST.out, HB1.out⟩
  case round =>
    clear HST HB1
    obtain ⟨m, hm, rfl, ho, hb⟩ := hrel
    have HO := Lib.hid ho
    have HB := Lib.hid hb
    clear ho hb
    by_cases hmn : m < nw
    · have i1 : (m : Int) < (nw : Int) := by omega
      obtain ⟨LM, hLM⟩ : ∃ LM, (valsF (img k r l S) 0 m ++ List.replicate (nw - m) 0) = LM := ⟨_, rfl⟩
      rw [hLM] at HO
      have HLM := Lib.hid hLM
      clear hLM
      have x1 := (HB.out.cell (p := ⟨W.heap.size, 1, none⟩) HSZ.out).trans HX.out.2.1
      generalize wr = wz at *
      go_wp2_with fail
      clear x1
      go_loopw [8, 9] (fun vx jx wr => ∃ q : Nat, q ≤ 2 * r + 1 ∧ jx = .int .i64 ((q : Int) - (r : Int)) ∧ vx = .int .i64 (winF k (fun t => S ((m : Int) - (r : Int) + (t : Int))) q : Nat) ∧ wr.ownsRow W.heap.size 3 1 (.slice (some ⟨g, 0, none⟩) nw nw) nw (LM.map (Value.int .i64)) ∧ Below Wb.heap.size Wb wr) (fun _ jx _ => 2 * r + 1 - (intOf jx + (r : Int)).toNat)
      case atStart => exact ⟨0, by omega, by rw [show ((0 : Nat) : Int) - (r : Int) = -(r : Int) by omega], rfl, HO.out, HB.out⟩
      case round =>
        clear HO HB
        obtain ⟨q, hq, rfl, rfl, ho, hb⟩ := hrel
        have HO := Lib.hid ho
        have HB := Lib.hid hb
        have HBW := Lib.hid (HBX.out.trans (hb.mono HBX.out.size))
        clear ho hb
        have x0 := (HB.out.cell (p := ⟨W.heap.size, 0, none⟩) HSZ.out).trans HX.out.1
        have x1 := (HB.out.cell (p := ⟨W.heap.size, 1, none⟩) HSZ.out).trans HX.out.2.1
        have x2 := (HB.out.cell (p := ⟨W.heap.size, 2, none⟩) HSZ.out).trans HX.out.2.2
        obtain ⟨j, hj⟩ : ∃ j : Int, (q : Int) - (r : Int) = j := ⟨_, rfl⟩
        rw [hj]
        by_cases hqr : q < 2 * r + 1
        · have j1 : j ≤ (r : Int) := by omega
          obtain ⟨s, hs⟩ : ∃ s : Int, (m : Int) + j = s := ⟨_, rfl⟩
          have hs1 : -100 ≤ s := by omega
          have hs2 : s ≤ 10000 := by omega
          obtain ⟨u, X, y1, y2, y3, y4, y5, y6⟩ := ring_at s w1
          have ys : IntKind.i64.wrap ((m : Int) + j) = s := by rw [hs]; exact IntWalk.i64_in _ (by omega)
          have y7 : IntKind.i64.wrap (u + (nw : Int)) = u + (nw : Int) := IntWalk.i64_in _ (by omega)
          have y8 : IntKind.i64.wrap (j + 1) = j + 1 := IntWalk.i64_in _ (by omega)
          have nnz : ((nw : Int) == 0) = false := by rw [beq_eq_false_iff_ne]; omega
          have hSq : S ((m : Int) - (r : Int) + (q : Int)) = wl.getD X 0 := by
            rw [← HSS.out]
            unfold ringF
            rw [← HWL.out, show (m : Int) - (r : Int) + (q : Int) = s by omega, y6, Int.toNat_natCast]
          have z0 := (HBW.out.cell (p := ⟨bW, oW + X, none⟩) hbW).trans (HCW.out X y5)
          have hr1 := HRN.out ((m : Int) - (r : Int) + (q : Int))
          obtain ⟨y, hy⟩ : ∃ y : Nat, wl.getD X 0 = (y : Int) := ⟨(wl.getD X 0).toNat, by omega⟩
          rw [hSq, hy] at hr1
          rw [hy] at z0
          have hy4 : y < 4 := by omega
          obtain ⟨v, hv⟩ : ∃ v, winF k (fun t => S ((m : Int) - (r : Int) + (t : Int))) q = v := ⟨_, rfl⟩
          have hvn : v < n := by
            have h1 := winF_lt (k := k) (f := fun t => S ((m : Int) - (r : Int) + (t : Int))) (m := q) fun t _ => HRN.out _
            rw [hv] at h1
            have h2 : k ^ q ≤ k ^ (2 * r + 1) := Nat.pow_le_pow_right (by omega) hq
            rw [← HN.out] at h2
            omega
          obtain ⟨P, hP, hP2⟩ : ∃ P : Nat, (v : Int) * (k : Int) = (P : Int) ∧ P = v * k := ⟨v * k, by rw [Int.natCast_mul], rfl⟩
          have hP4 : P ≤ 16384 * 4 := by rw [hP2]; exact Nat.mul_le_mul (by omega) k4
          have hst : winF k (fun t => S ((m : Int) - (r : Int) + (t : Int))) (q + 1) = P + y := by
            show winF k _ q * k + (S ((m : Int) - (r : Int) + (q : Int))).toNat = _
            rw [hv, hSq, hy, hP2]
            rfl
          have HTW := Lib.hid hst
          have yp : IntKind.i64.wrap ((v : Int) * (k : Int)) = (P : Int) := by rw [hP]; exact IntWalk.i64_in _ (by omega)
          have yq : IntKind.i64.wrap ((P : Int) + (y : Int)) = ((P + y : Nat) : Int) := by rw [show ((P + y : Nat) : Int) = (P : Int) + (y : Int) by omega]; exact IntWalk.i64_in _ (by omega)
          have x0i : (0 : Int) ≤ (X : Int) := by omega
          have x1i : (X : Int) < (nw : Int) := by omega
          have HJ := Lib.hid (And.intro hj (And.intro hq hqr))
          rw [hv]
          clear hSq hr1 hy hst hP hP2 hv hj hq hqr y2 y3 y6 hs hs1 hs2 x2 i1
          go_wp2_with fail
          go_quiet (fail)
          go_wp2
          go_roundw
          case rel =>
            have hj := HJ.out
            exact ⟨q + 1, by omega, by rw [← hj.1]; congr 1; omega, by rw [HTW.out]; congr 1, owns_up HO.out (bdrewN (bnil _) _), bdrewN HB.out _⟩
          case measure => simp [intOf]; have := HJ.out; omega
        · obtain rfl : q = 2 * r + 1 := by omega
          have j2 : ¬ j ≤ (r : Int) := by omega
          obtain ⟨v, hv⟩ : ∃ v, winF k (fun t => S ((m : Int) - (r : Int) + (t : Int))) (2 * r + 1) = v := ⟨_, rfl⟩
          have hvn : v < n := by
            have h1 := winF_lt (k := k) (f := fun t => S ((m : Int) - (r : Int) + (t : Int))) (m := 2 * r + 1) fun t _ => HRN.out _
            rw [hv, ← HN.out] at h1
            exact h1
          have himg : img k r l S (0 + (m : Int)) = l.getD v 0 := by
            unfold img
            rw [show (0 : Int) + (m : Int) = (m : Int) by omega, hv]
          have HIM := Lib.hid himg
          have tb0 := (HBW.out.cell (p := ⟨bT, oT + v, none⟩) hbT).trans (HCT.out v hvn)
          have ho := HO.out
          have hlen : m < (LM.map (Value.int .i64)).length := by rw [← HLM.out]; simp [valsF]; omega
          have hcell := ho.cellAt m (by omega)
          obtain ⟨u, hu⟩ : ∃ u, wr.cell? ⟨g, m, none⟩ = some u := by
            rw [hcell]
            exact ⟨_, List.getElem?_eq_getElem hlen⟩
          have f0 := ho.frozenAt m
          have ho2 := own_set ho m (.int .i64 (l.getD v 0))
          rw [← HLM.out, ← himg, vals_set hmn] at ho2
          have HO2 := Lib.hid ho2
          have HB2 := Lib.hid (HB.out.setCell (p := ⟨g, m, none⟩) (by rw [HGS.out]; exact Nat.le_refl _) (.int .i64 (img k r l S (0 + (m : Int)))))
          have v0i : (0 : Int) ≤ (v : Int) := by omega
          have v1i : (v : Int) < (n : Int) := by omega
          have m0i : (0 : Int) ≤ (m : Int) := by omega
          rw [hv]
          rw [← himg] at tb0
          generalize img k r l S (0 + (m : Int)) = z at tb0 HO2 HB2
          clear ho ho2 hcell himg hlen hv hj
          go_wp2
          go_roundw
          case rel => exact ⟨m + 1, by omega, by go_num, HO2.out, HB2.out⟩
          case measure => simp [intOf]; omega
    · obtain rfl : m = nw := by omega
      have i2 : ¬ (m : Int) < (m : Int) := by omega
      have ho := HO.out
      rw [Nat.sub_self, List.replicate_zero, List.append_nil] at ho
      have HE := Lib.hid ho
      clear ho
      go_wp2
      go_ret
      exact ⟨_, _, rfl, ⟨HE.out⟩, HBX.out.trans (HB.out.mono HBX.out.size)⟩
end Go.Proofs.YtjgblanpaanglaaDoor
