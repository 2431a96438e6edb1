/- The contract of edenlaw16.kept. -/
import Derived.Test.YteneiianpghalaaDoorMatN
namespace Go.Proofs.YteneiianpghalaaDoor
open Go.RowKit
set_option linter.unusedVariables false
set_option maxRecDepth 100000

set_option maxHeartbeats 8000000 in
theorem kept16_any (ax am : Option Addr) (n cx c base : Nat) (len : Nat → Nat) (F : Nat → Nat → List Nat) (rows : Nat → It) (its : Nat → Nat → It) (W : World) (hX : LentMs W base (.slice ax n cx) n len n rows its F (fun _ _ => True)) (hM : MsR W am n len F) (hn : n ≤ 96) (hlen : ∀ i, i < n → len i ≤ 96 ∧ ∀ j, j < len i → (F i j).length ≤ 1000) :
    Calls Tryd.prog 51 #[.slice ax n cx, .slice am n c] W fun e w' => e = .returned (.bool true) ∧ Below W.heap.size W w' := by
  have HLEN := Lib.hid hlen; clear hlen
  have HM := Lib.hid hM; clear hM
  have HX := Lib.hid hX; clear hX
  have HXM : Hid (MsR W ax n len F) := HX.out.msR
  go_enter Tryd.func51, Tryd.ntmps51
  go_wp2_with fail
  go_loopw [5] (fun ix wr => ∃ i : Nat, i ≤ n ∧ ix = .int .i64 i ∧ Below W.heap.size W wr) (fun ix _ => n - (intOf ix).toNat)
  case atStart => exact ⟨0, by omega, rfl, bnil _⟩
  case round =>
    obtain ⟨i, hi, rfl, hb⟩ := hrel
    have HB := Lib.hid hb; clear hb
    by_cases hin : i < n
    · obtain ⟨gx, rfl, _, hgx⟩ := own_form HX.out.row (by omega)
      have x0 := HX.out.row.cellAt i (by omega)
      rw [range_at _ hin] at x0
      obtain ⟨hrn, hri⟩ := HX.out.ns i hin
      obtain ⟨a1, m, c1, hr⟩ : ∃ a1 m c1, rows i = (a1, m, c1) := ⟨_, _, _, rfl⟩
      rw [hr] at x0 hrn hri
      simp only at hrn
      rw [← hrn] at hri
      simp only [IV] at x0
      obtain ⟨bm, om, rfl, hbm, hcm⟩ := HM.out.addr (by omega)
      obtain ⟨a2, c2, y0, hle2, hcm2, _, hrow⟩ := hcm i hin
      rw [← hrn] at y0 hrow hle2
      have hm96 := (HLEN.out i hin).1
      rw [← hrn] at hm96
      have HMM : Hid (m = len i) := hrn
      have HROW := Lib.hid hrow
      have HRI := Lib.hid hri
      have HX0 := Lib.hid x0
      have HY0 := Lib.hid y0
      have x1 := (HB.out.cell (p := ⟨gx, i, none⟩) hgx).trans x0
      have y1 := (HB.out.cell (p := ⟨bm, om + i, none⟩) hbm).trans y0
      clear x0 y0 hcm hrow hri hrn hr
      have i0 : (0 : Int) ≤ (i : Int) := by omega
      have i1 : (i : Int) < (n : Int) := by omega
      generalize wr = wo at *
      go_wp2_with fail
      go_quiet (fail)
      have HBo := Lib.hid (below_drewN HB.out nq)
      clear x1 y1
      obtain ⟨w2, hw2⟩ : ∃ w2, wo.drewN nq = w2 := ⟨_, rfl⟩
      rw [hw2] at HBo
      simp only [hw2]
      clear hw2 HB
      go_wp2_with fail
      go_loopw [6] (fun jx wr => ∃ j : Nat, j ≤ m ∧ jx = .int .i64 j ∧ Below W.heap.size W wr) (fun jx _ => m - (intOf jx).toNat)
      case atStart => exact ⟨0, by omega, rfl, HBo.out⟩
      case round =>
        clear HBo
        obtain ⟨j, hj, rfl, hb⟩ := hrel
        have HB := Lib.hid hb; clear hb
        have x1 := (HB.out.cell (p := ⟨gx, i, none⟩) hgx).trans HX0.out
        have y1 := (HB.out.cell (p := ⟨bm, om + i, none⟩) hbm).trans HY0.out
        by_cases hjm : j < m
        · obtain ⟨g2, rfl, _, hg2⟩ := own_form (a := a1) (c := c1) (n := m) HRI.out (by omega)
          have u0 := World.ownsRow.cellAt (g := g2) (cap := c1) (n := m) HRI.out j (by omega)
          rw [range_at _ hjm] at u0
          have hel := HX.out.el i j hin (by rw [← HMM.out]; exact hjm) trivial
          obtain ⟨eb, hp, hrk, hmx⟩ := (hel.up HB.out).rk
          rw [hp] at u0
          simp only [IV] at u0
          have u1 := (HB.out.cell (p := ⟨g2, j, none⟩) hg2).trans u0
          obtain ⟨b3, o3, rfl, hb3, hc3⟩ := NsR.addr HROW.out (by omega)
          obtain ⟨a3, n3, c3, v0, hv⟩ := hc3 j hjm
          have v1 := (HB.out.cell (p := ⟨b3, o3 + j, none⟩) hb3).trans v0
          have HV := Lib.hid (hv.up HB.out)
          have hn3 := hv.nr.len
          rw [← hn3] at u1 hrk hmx
          have n3L := hv.small ((HLEN.out i hin).2 j (by rw [← HMM.out]; exact hjm))
          have hk : ∀ q, Calls Tryd.prog 55 #[.slice (some ⟨eb, 0, none⟩) n3 (n3 + 2), .slice a3 n3 c3] (wr.drewN q) fun e w' => e = .returned (.bool true) ∧ ∃ m, w' = (wr.drewN q).drewN m := fun q =>
            keptN_q eb n3 (n3 + 2) c3 a3 (F i j) (wr.drewN q) (hrk.dr q) hel.1 (Nat.le_refl _) hmx (HV.out.up (bdrewN (bnil wr) q)).nr (by omega)
          have HK := Lib.hid hk
          clear hc3 v0 hv u0 hel hp hrk hk hn3 hmx
          have j0 : (0 : Int) ≤ (j : Int) := by omega
          have j1 : (j : Int) < (m : Int) := by omega
          go_wp2_with fail
          go_quiet ((go_at_call 55; exact Calls.quiet_of (HK.out _)))
          have HBn := Lib.hid (below_drewN HB.out nq)
          clear HK
          go_wp2
          go_roundw
          case rel => exact ⟨j + 1, by omega, by go_num, HBn.out⟩
          case measure => simp [intOf]; omega
        · obtain rfl : m = j := by omega
          go_wp2
          go_roundw
          case rel => exact ⟨i + 1, by omega, by go_num, HB.out⟩
          case measure => simp [intOf]; omega
    · obtain rfl : n = i := by omega
      go_wp2
      go_ret
      exact ⟨rfl, HB.out⟩
end Go.Proofs.YteneiianpghalaaDoor
