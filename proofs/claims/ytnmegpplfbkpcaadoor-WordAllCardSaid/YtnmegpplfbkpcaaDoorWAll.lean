/- edenlaw03.WordAll returns true. -/
import Derived.Test.YtnmegpplfbkpcaaDoorPlays
import Derived.Test.YtnmegpplfbkpcaaDoorOpenOps
import Derived.Test.YtnmegpplfbkpcaaDoorAwake03
namespace Go.Proofs.YtnmegpplfbkpcaaDoor
open Go.RowKit
set_option linter.unusedVariables false
set_option maxRecDepth 100000

theorem LentM.st {w w' : World} {g g5 n : Nat} {l : List Int} (h : LentM w g n l) (hk : ∀ k, k ≠ g5 → w'.heap[k]? = w.heap[k]?) (hs : w'.heap.size = w.heap.size) (hg : g5 < g) : LentM w' g n l := rk_heapV h hk hs (.inl (fr_some hg))
theorem LentNM.st {w w' : World} {g g5 n : Nat} {l : List Nat} (h : LentNM w g n l) (hk : ∀ k, k ≠ g5 → w'.heap[k]? = w.heap[k]?) (hs : w'.heap.size = w.heap.size) (hg : g5 < g) : LentNM w' g n l := ⟨rk_heapV h.1 hk hs (.inl (fr_some hg)), h.2⟩
theorem cells7 {w : World} {g : Nat} {x0 x1 x2 x3 x4 x5 x6 : Value} {t : TypeId} (h : w.heap[g]? = some (.cells #[x0, x1, x2, x3, x4, x5, x6] t)) : (w.cell? ⟨g, 0, none⟩ = some x0 ∧ w.cell? ⟨g, 1, none⟩ = some x1 ∧ w.cell? ⟨g, 2, none⟩ = some x2 ∧ w.cell? ⟨g, 3, none⟩ = some x3 ∧ w.cell? ⟨g, 4, none⟩ = some x4 ∧ w.cell? ⟨g, 5, none⟩ = some x5 ∧ w.cell? ⟨g, 6, none⟩ = some x6) ∧ w.frozen? ⟨g, 3, none⟩ = false ∧ w.frozen? ⟨g, 4, none⟩ = false ∧ w.frozen? ⟨g, 5, none⟩ = false := by
  simp [World.cell?, World.frozen?, h]
theorem set73 {w : World} {g : Nat} {x0 x1 x2 x3 x4 x5 x6 : Value} {t : TypeId} (h : w.heap[g]? = some (.cells #[x0, x1, x2, x3, x4, x5, x6] t)) (u : Value) :
    ∃ w6, w.setCell ⟨g, 3, none⟩ u = w6 ∧ (∀ k, k ≠ g → w6.heap[k]? = w.heap[k]?) ∧ w6.heap.size = w.heap.size ∧ (∀ (V : World) (B : Nat), B ≤ g → Below B V w → Below B V w6) ∧ w6.heap[g]? = some (.cells #[x0, x1, x2, u, x4, x5, x6] t) := by
  refine ⟨_, rfl, fun k hk => ?_, ?_, fun V B hB hb => ?_, ?_⟩
  · rw [Below.heap_setCell _ _ _ _ hk]
  · simp [World.setCell]
  · exact hb.setCell (p := ⟨g, 3, none⟩) hB _
  · simp [World.setCell, Array.getElem?_modify, h]
theorem set74 {w : World} {g : Nat} {x0 x1 x2 x3 x4 x5 x6 : Value} {t : TypeId} (h : w.heap[g]? = some (.cells #[x0, x1, x2, x3, x4, x5, x6] t)) (u : Value) :
    ∃ w6, w.setCell ⟨g, 4, none⟩ u = w6 ∧ (∀ k, k ≠ g → w6.heap[k]? = w.heap[k]?) ∧ w6.heap.size = w.heap.size ∧ (∀ (V : World) (B : Nat), B ≤ g → Below B V w → Below B V w6) ∧ w6.heap[g]? = some (.cells #[x0, x1, x2, x3, u, x5, x6] t) := by
  refine ⟨_, rfl, fun k hk => ?_, ?_, fun V B hB hb => ?_, ?_⟩
  · rw [Below.heap_setCell _ _ _ _ hk]
  · simp [World.setCell]
  · exact hb.setCell (p := ⟨g, 4, none⟩) hB _
  · simp [World.setCell, Array.getElem?_modify, h]
theorem set75 {w : World} {g : Nat} {x0 x1 x2 x3 x4 x5 x6 : Value} {t : TypeId} (h : w.heap[g]? = some (.cells #[x0, x1, x2, x3, x4, x5, x6] t)) (u : Value) :
    ∃ w6, w.setCell ⟨g, 5, none⟩ u = w6 ∧ (∀ k, k ≠ g → w6.heap[k]? = w.heap[k]?) ∧ w6.heap.size = w.heap.size ∧ (∀ (V : World) (B : Nat), B ≤ g → Below B V w → Below B V w6) ∧ w6.heap[g]? = some (.cells #[x0, x1, x2, x3, x4, u, x6] t) := by
  refine ⟨_, rfl, fun k hk => ?_, ?_, fun V B hB hb => ?_, ?_⟩
  · rw [Below.heap_setCell _ _ _ _ hk]
  · simp [World.setCell]
  · exact hb.setCell (p := ⟨g, 5, none⟩) hB _
  · simp [World.setCell, Array.getElem?_modify, h]

set_option maxHeartbeats 16000000 in
theorem word_all (s : Option Addr) (n c : Nat) (N : Nat → OpR) (W : World) (R : Nat → Addr) (hE : Env W R) (hO : OpsR W s n N) (hnc : n ≤ c) (hcm : c ≤ maxLen) :
    Calls Tryd.prog 4 #[.slice s n c] W (TrueBelow W) := by
  have hm' : n ≤ 9223372036854775807 := by unfold maxLen at hcm; omega
  have HE := Lib.hid hE
  have HO := Lib.hid hO
  clear hE hO
  go_enter Tryd.func4, Tryd.ntmps4
  go_wp2_with fail
  refine (awake03 _ R HE.out.sent.glob).mono ?_; rintro e w1 ⟨rfl, hb1⟩
  have HB1 := Lib.hid hb1
  clear hb1
  go_wp2_with fail
  go_loopw [3] (fun ix wr => ∃ i : Nat, i ≤ n ∧ i ≤ 40 ∧ ix = .int .i64 (i : Nat) ∧ Below W.heap.size W wr) (fun ix _ => n - (intOf ix).toNat)
  case atStart => exact ⟨0, Nat.zero_le _, by decide, rfl, HB1.out⟩
  case round =>
    clear HB1
    obtain ⟨i, hi, hi40, rfl, hb⟩ := hrel
    have HB0 := Lib.hid hb
    clear hb
    by_cases hin : i < n
    · by_cases h40 : i < 40
      · obtain ⟨b, o, rfl, hbl, hcl⟩ := HO.out.resolve_left (by omega)
        obtain ⟨⟨y0, y1, y2, y3, y4, y5, y6⟩, hok⟩ := hcl i hin
        clear hcl
        obtain ⟨q, hq⟩ : ∃ q, N i = q := ⟨_, rfl⟩
        rw [hq] at y0 y1 y2 y3 y4 y5 y6 hok
        clear hq
        obtain ⟨kd, k, nn, aw, nw, cw, lw, av, nv, cv, lv, ai, ni, ci, li, sx⟩ := q
        simp only at y0 y1 y2 y3 y4 y5 y6
        have x0 := cp16 HB0.out y0
        have x1 := cp16 HB0.out y1
        have x2 := cp16 HB0.out y2
        have x3 := cp16 HB0.out y3
        have x4 := cp16 HB0.out y4
        have x5 := cp16 HB0.out y5
        have x6 := cp16 HB0.out y6
        have HOK := Lib.hid hok
        have h8w : nw * 8 ≤ 140737488351232 := hok.sw.n8
        have h8v : nv * 8 ≤ 140737488351232 := hok.sv.n8
        have hci : ni ≤ 9223372036854775807 := by have h1 := hok.il; have h2 := hok.im; unfold maxLen at h2; simp only at h1 h2; omega
        clear y0 y1 y2 y3 y4 y5 y6 hok
        have i0 : (0 : Int) ≤ (i : Int) := by omega
        have i1 : (i : Int) < (n : Int) := by omega
        have i2 : (i : Int) < 40 := by omega
        obtain ⟨wa, hwa⟩ : ∃ wa, wr.alloc (.cells #[.int .i64 kd, .int .i64 k, .int .i64 nn, .slice aw nw cw, .slice av nv cv, .slice ai ni ci, .string sx] 47) = wa := ⟨_, rfl⟩
        obtain ⟨g4, hg4⟩ : ∃ g4, wr.heap.size = g4 := ⟨_, rfl⟩
        have hz4 : wa.heap[g4]? = some (.cells #[.int .i64 kd, .int .i64 k, .int .i64 nn, .slice aw nw cw, .slice av nv cv, .slice ai ni ci, .string sx] 47) := by rw [← hwa, ← hg4]; exact heap_alloc_new wr _
        have hba : Below W.heap.size W wa := by rw [← hwa]; exact balloc HB0.out _
        have HG4 : Hid (W.heap.size ≤ g4) := by show _ ≤ _; rw [← hg4]; exact HB0.out.size
        have hsa : wa.heap.size = g4 + 1 := by rw [← hwa, ← hg4]; simp
        obtain ⟨⟨a0, a1, a2, a3, a4, a5, a6⟩, _⟩ := cells7 hz4
        have HBA := Lib.hid hba
        have HZ4 := Lib.hid hz4
        have HG4E := Lib.hid hg4
        rw [← hwa, ← hg4] at a0 a1 a2 a3 a4 a5 a6
        by_cases h100 : 100 < ni
        · have h100i : (100 : Int) < (ni : Int) := by omega
          have HWA := Lib.hid hwa
          clear hwa hg4 hz4 hba hsa a0 a1 a2 a3 a4 a6
          go_wp2
          rw [HWA.out]
          go_roundw
          case rel => exact ⟨i + 1, by omega, by omega, by go_num, HBA.out⟩
          case measure => simp [intOf]; omega
        · have h100i : ¬ (100 : Int) < (ni : Int) := by omega
          obtain ⟨wb, hwb⟩ : ∃ wb, wa.alloc (.cells #[.int .i64 kd, .int .i64 k, .int .i64 nn, .slice aw nw cw, .slice av nv cv, .slice ai ni ci, .string sx] 47) = wb := ⟨_, rfl⟩
          obtain ⟨g5, hg5⟩ : ∃ g5, g4 + 1 = g5 := ⟨_, rfl⟩
          have hsa5 : wa.heap.size = g5 := by rw [hsa]; exact hg5
          have hbab : Below wa.heap.size wa wb := by rw [← hwb]; exact balloc (bnil wa) _
          have HZ5_0 : Hid (wb.heap[g5]? = some (.cells #[.int .i64 kd, .int .i64 k, .int .i64 nn, .slice aw nw cw, .slice av nv cv, .slice ai ni ci, .string sx] 47)) := by show _ = _; rw [← hwb, ← hsa5]; exact heap_alloc_new wa _
          have HZ4_0 := Lib.hid ((hbab.block _ (heap_ltQ hz4)).trans hz4)
          have HB_0 := Lib.hid (bstep HBA.out hbab)
          have HG5 : Hid (W.heap.size ≤ g5 ∧ g4 ≠ g5 ∧ g5 < wb.heap.size) := ⟨by have := HG4.out; omega, by omega, by rw [← hwb, ← hsa5]; simp⟩
          obtain ⟨⟨_, _, _, b3, b4, b5, _⟩, _⟩ := cells7 HZ4_0.out
          rw [← hwb, ← hwa, ← hg4] at b3
          skip
          have HWA := Lib.hid hwa
          have HWB := Lib.hid hwb
          have HG5E := Lib.hid hg5
          clear hwa hwb hg4 hg5 hsa5 hz4 hba hsa b4 b5 hbab
          go_wp2_with fail
          rw [HWA.out, HWB.out]
          try simp only [HG4E.out, HG5E.out]
          refine (lent_any aw nw cw lw wb ((HOK.out.up HB_0.out).sw.rk) h8w).mono ?_; rintro e u0 ⟨rfl, ho, hb⟩
          obtain ⟨gw, hg⟩ : ∃ g, wb.heap.size = g := ⟨_, rfl⟩
          rw [hg] at ho
          simp only [hg]
          have hl : LentM u0 gw nw lw := RK.of_own ho
          have HGX0 : Hid (g5 < gw) := by show _ < _; rw [← hg]; exact HG5.out.2.2
          have hz4 := (hb.block _ (heap_ltQ HZ4_0.out)).trans HZ4_0.out
          have hz5 := (hb.block _ (heap_ltQ HZ5_0.out)).trans HZ5_0.out
          have hbw := bstep HB_0.out hb
          have hsz : wb.heap.size ≤ u0.heap.size := hb.size
          obtain ⟨⟨_, _, _, c3, c4, c5, _⟩, f3, f4, f5⟩ := cells7 hz5
          obtain ⟨w1, hw, hk, hs, hbl2, hz5n⟩ := set73 hz5 (.slice (some ⟨gw, 0, none⟩) nw (nw + 2))
          have HLw_1 := Lib.hid (hl.st hk hs HGX0.out)
          have HZ4_1 := Lib.hid ((hk _ HG5.out.2.1).trans hz4)
          have HZ5_1 := Lib.hid hz5n
          have HB_1 := Lib.hid (hbl2 W _ HG5.out.1 hbw)
          have HS_1 : Hid (wb.heap.size ≤ w1.heap.size) := by show _ ≤ _; rw [hs]; exact hsz
          obtain ⟨⟨_, _, _, b3, b4, b5, _⟩, _⟩ := cells7 HZ4_1.out
          rw [← hw] at b4
          have HWS := Lib.hid hw
          clear hg ho hl hb hz4 hz5 hbw hsz hw hk hs hbl2 hz5n b3 b5 c4 f4 c5 f5
          go_wp2_with fail
          rw [HWS.out]
          clear HWS b4 c3 f3
          refine (lent_any av nv cv lv w1 ((HOK.out.up HB_1.out).sv.rk) h8v).mono ?_; rintro e u1 ⟨rfl, ho, hb⟩
          obtain ⟨gv, hg⟩ : ∃ g, w1.heap.size = g := ⟨_, rfl⟩
          rw [hg] at ho
          simp only [hg]
          have hl : LentM u1 gv nv lv := RK.of_own ho
          have HGX1 : Hid (g5 < gv) := by show _ < _; rw [← hg]; exact Nat.lt_of_lt_of_le HG5.out.2.2 HS_1.out
          have hz4 := (hb.block _ (heap_ltQ HZ4_1.out)).trans HZ4_1.out
          have hz5 := (hb.block _ (heap_ltQ HZ5_1.out)).trans HZ5_1.out
          have hbw := bstep HB_1.out hb
          have hsz : wb.heap.size ≤ u1.heap.size := Nat.le_trans HS_1.out hb.size
          have hlw := HLw_1.out.up hb
          obtain ⟨⟨_, _, _, c3, c4, c5, _⟩, f3, f4, f5⟩ := cells7 hz5
          obtain ⟨w2, hw, hk, hs, hbl2, hz5n⟩ := set74 hz5 (.slice (some ⟨gv, 0, none⟩) nv (nv + 2))
          have HLv_2 := Lib.hid (hl.st hk hs HGX1.out)
          have HLw_2 := Lib.hid (hlw.st hk hs HGX0.out)
          have HZ4_2 := Lib.hid ((hk _ HG5.out.2.1).trans hz4)
          have HZ5_2 := Lib.hid hz5n
          have HB_2 := Lib.hid (hbl2 W _ HG5.out.1 hbw)
          have HS_2 : Hid (wb.heap.size ≤ w2.heap.size) := by show _ ≤ _; rw [hs]; exact hsz
          obtain ⟨⟨_, _, _, b3, b4, b5, _⟩, _⟩ := cells7 HZ4_2.out
          rw [← hw] at b5
          have HWS := Lib.hid hw
          clear hg ho hl hb hz4 hz5 hbw hsz hw hk hs hbl2 hz5n b3 b4 c3 f3 c5 f5 hlw
          go_wp2_with fail
          rw [HWS.out]
          clear HWS b5 c4 f4
          refine (lentN_anyW ai ni ci (ofN li) w2 ((HOK.out.up HB_2.out).si.1) (by omega)).mono ?_; rintro e u2 ⟨rfl, ho, hb⟩
          obtain ⟨gi, hg⟩ : ∃ g, w2.heap.size = g := ⟨_, rfl⟩
          rw [hg] at ho
          simp only [hg]
          have hl : LentNM u2 gi ni li := ⟨RK.of_own ho, (HOK.out.up HB_2.out).si.2, by have h := (HOK.out.up HB_2.out).si.len; exact h⟩
          have HGX2 : Hid (g5 < gi) := by show _ < _; rw [← hg]; exact Nat.lt_of_lt_of_le HG5.out.2.2 HS_2.out
          have hz4 := (hb.block _ (heap_ltQ HZ4_2.out)).trans HZ4_2.out
          have hz5 := (hb.block _ (heap_ltQ HZ5_2.out)).trans HZ5_2.out
          have hbw := bstep HB_2.out hb
          have hsz : wb.heap.size ≤ u2.heap.size := Nat.le_trans HS_2.out hb.size
          have hlw := HLw_2.out.up hb
          have hlv := HLv_2.out.up hb
          obtain ⟨⟨_, _, _, c3, c4, c5, _⟩, f3, f4, f5⟩ := cells7 hz5
          obtain ⟨w3, hw, hk, hs, hbl2, hz5n⟩ := set75 hz5 (.slice (some ⟨gi, 0, none⟩) ni (ni + 2))
          have HLi_3 := Lib.hid (hl.st hk hs HGX2.out)
          have HLw_3 := Lib.hid (hlw.st hk hs HGX0.out)
          have HLv_3 := Lib.hid (hlv.st hk hs HGX1.out)
          have HZ4_3 := Lib.hid ((hk _ HG5.out.2.1).trans hz4)
          have HZ5_3 := Lib.hid hz5n
          have HB_3 := Lib.hid (hbl2 W _ HG5.out.1 hbw)
          have HS_3 : Hid (wb.heap.size ≤ w3.heap.size) := by show _ ≤ _; rw [hs]; exact hsz
          obtain ⟨⟨d0, d1, d2, d3, d4, d5, d6⟩, _⟩ := cells7 HZ5_3.out
          rw [← hw] at d0 d1 d2 d3 d4 d5 d6
          have HWS := Lib.hid hw
          clear hg ho hl hb hz4 hz5 hbw hsz hw hk hs hbl2 hz5n c3 f3 c4 f4 hlw hlv
          go_wp2_with fail
          rw [HWS.out]
          clear HWS d0 d1 d2 d3 d4 d5 d6 c5 f5
          refine (plays_any kd k nn gw nw lw gv nv lv gi ni li sx w3 R (HE.out.up HB_3.out) HLw_3.out h8w HLv_3.out h8v HLi_3.out (by omega) HOK.out.ss).mono ?_; rintro e w4 ⟨rfl, hb⟩
          have HLw_4 := Lib.hid (HLw_3.out.up hb)
          have HLv_4 := Lib.hid (HLv_3.out.up hb)
          have HLi_4 := Lib.hid (HLi_3.out.up hb)
          have HZ4_4 := Lib.hid ((hb.block _ (heap_ltQ HZ4_3.out)).trans HZ4_3.out)
          have HZ5_4 := Lib.hid ((hb.block _ (heap_ltQ HZ5_3.out)).trans HZ5_3.out)
          have HB_4 := Lib.hid (bstep HB_3.out hb)
          clear hb
          obtain ⟨⟨_, _, _, b3, b4, b5, _⟩, _⟩ := cells7 HZ4_4.out
          obtain ⟨⟨_, _, _, c3, c4, c5, _⟩, _⟩ := cells7 HZ5_4.out
          go_wp2_with fail
          clear b3 b4 b5 c3 c4 c5
          refine (kept_any gw nw (nw + 2) cw aw lw w4 HLw_4.out (Nat.le_refl _) (by unfold maxLen; omega) ((HOK.out.up HB_4.out).sw.rk) h8w).mono ?_; rintro e w5 ⟨rfl, hb⟩
          have HLw_5 := Lib.hid (HLw_4.out.up hb)
          have HLv_5 := Lib.hid (HLv_4.out.up hb)
          have HLi_5 := Lib.hid (HLi_4.out.up hb)
          have HZ4_5 := Lib.hid ((hb.block _ (heap_ltQ HZ4_4.out)).trans HZ4_4.out)
          have HZ5_5 := Lib.hid ((hb.block _ (heap_ltQ HZ5_4.out)).trans HZ5_4.out)
          have HB_5 := Lib.hid (bstep HB_4.out hb)
          clear hb
          obtain ⟨⟨_, _, _, b3, b4, b5, _⟩, _⟩ := cells7 HZ4_5.out
          obtain ⟨⟨_, _, _, c3, c4, c5, _⟩, _⟩ := cells7 HZ5_5.out
          go_wp2_with fail
          clear b3 b4 b5 c3 c4 c5
          refine (kept_any gv nv (nv + 2) cv av lv w5 HLv_5.out (Nat.le_refl _) (by unfold maxLen; omega) ((HOK.out.up HB_5.out).sv.rk) h8v).mono ?_; rintro e w6 ⟨rfl, hb⟩
          have HLw_6 := Lib.hid (HLw_5.out.up hb)
          have HLv_6 := Lib.hid (HLv_5.out.up hb)
          have HLi_6 := Lib.hid (HLi_5.out.up hb)
          have HZ4_6 := Lib.hid ((hb.block _ (heap_ltQ HZ4_5.out)).trans HZ4_5.out)
          have HZ5_6 := Lib.hid ((hb.block _ (heap_ltQ HZ5_5.out)).trans HZ5_5.out)
          have HB_6 := Lib.hid (bstep HB_5.out hb)
          clear hb
          obtain ⟨⟨_, _, _, b3, b4, b5, _⟩, _⟩ := cells7 HZ4_6.out
          obtain ⟨⟨_, _, _, c3, c4, c5, _⟩, _⟩ := cells7 HZ5_6.out
          go_wp2_with fail
          clear b3 b4 b5 c3 c4 c5
          refine (keptN_ex gi ni (ni + 2) ci ai li w6 HLi_6.out (Nat.le_refl _) (by unfold maxLen; omega) ((HOK.out.up HB_6.out).si) (by omega)).mono ?_; rintro e w7 ⟨rfl, hb⟩
          have HB_7 := Lib.hid (bstep HB_6.out hb)
          clear hb
          go_wp2
          go_roundw
          case rel => exact ⟨i + 1, by omega, by omega, by go_num, HB_7.out⟩
          case measure => simp [intOf]; omega
      · have i2 : ¬ (i : Int) < 40 := by omega
        have i1 : (i : Int) < (n : Int) := by omega
        go_wp2
        go_ret
        exact ⟨rfl, HB0.out⟩
    · obtain rfl : i = n := by omega
      have i1 : ¬ (i : Int) < (i : Int) := by omega
      go_wp2
      go_ret
      exact ⟨rfl, HB0.out⟩
end Go.Proofs.YtnmegpplfbkpcaaDoor
