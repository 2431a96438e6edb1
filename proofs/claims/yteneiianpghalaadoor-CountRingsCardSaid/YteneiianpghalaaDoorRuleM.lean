/- The contracts of edenraw.LentRule, KeptRule (lines of XRowW, for a seat without rows). -/
import Derived.Test.YteneiianpghalaaDoorR16B
import Derived.Test.YteneiianpghalaaDoorErrH
import Derived.Test.YteneiianpghalaaDoorRuleA
import Derived.Test.YteneiianpghalaaDoorLentE
import Derived.Deep.RegionHeld3
namespace Go.Proofs.YteneiianpghalaaDoor
open Go.RowKit
set_option linter.unusedVariables false
set_option maxRecDepth 100000

set_option maxHeartbeats 4000000 in
theorem lentRule_any (k r : Int) (aT : Option Addr) (nT cT : Nat) (tb : List Int) (W : World) (hT : RK .i64 W aT nT tb) (h8 : nT * 8 ≤ 140737488351232) :
    Calls Tryd.prog 23 #[ruleV k r aT nT cT] W fun e w' => ∃ g, e = .returned (ruleV k r (some ⟨g, 0, none⟩) nT (nT + 2)) ∧ LentM w' g nT tb ∧ Below W.heap.size W w' := by
  obtain ⟨Wb, hWb⟩ : ∃ Wb, (W.alloc (.cells #[.int .i64 k, .int .i64 r, .slice aT nT cT] 24)).alloc (.cells #[.int .i64 0, .int .i64 0, .slice none 0 0] 24) = Wb := ⟨_, rfl⟩
  have HX : Hid (Wb.cell? ⟨W.heap.size, 0, none⟩ = some (.int .i64 k) ∧ Wb.cell? ⟨W.heap.size, 1, none⟩ = some (.int .i64 r) ∧ Wb.cell? ⟨W.heap.size, 2, none⟩ = some (.slice aT nT cT)) := by rw [← hWb]; exact ⟨al16 (by simp), al16 (by simp), al16 (by simp)⟩
  have HZ : Hid (Wb.heap[W.heap.size + 1]? = some (.cells #[.int .i64 0, .int .i64 0, .slice none 0 0] 24)) := by
    show _ = _
    rw [← hWb]
    have := heap_alloc_new (W.alloc (.cells #[.int .i64 k, .int .i64 r, .slice aT nT cT] 24)) (.cells #[.int .i64 0, .int .i64 0, .slice none 0 0] 24)
    simpa using this
  have HSZ : Hid (Wb.heap.size = W.heap.size + 2) := by show _ = _; rw [← hWb]; simp
  have HBX : Hid (Below W.heap.size W Wb) := by rw [← hWb]; exact balloc (balloc (bnil W) _) _
  have HT := Lib.hid (hT.up (Below.drew HBX.out)); clear hT
  have HS0 : Hid (Wb.drew.cell? ⟨W.heap.size, 0, none⟩ = some (.int .i64 k) ∧ Wb.drew.cell? ⟨W.heap.size, 1, none⟩ = some (.int .i64 r) ∧ Wb.drew.cell? ⟨W.heap.size, 2, none⟩ = some (.slice aT nT cT)) := HX.out
  have HLZ : Hid (W.heap.size + 1 < Wb.drew.heap.size) := by show W.heap.size + 1 < Wb.heap.size; have := HSZ.out; omega
  have hg1 : W.heap.size ≠ W.heap.size + 1 := by omega
  have HWB := Lib.hid hWb; clear hWb
  go_enter Tryd.func23, Tryd.ntmps23
  go_wp2_with fail
  rw [HWB.out]
  go_region_held3 (fun w' => w'.cell? ⟨W.heap.size, 0, none⟩ = some (.int .i64 k) ∧ w'.cell? ⟨W.heap.size, 1, none⟩ = some (.int .i64 r) ∧ w'.cell? ⟨W.heap.size, 2, none⟩ = some (.slice aT nT cT))
    (first | with_reducible exact HS5.out | with_reducible exact HS0.out | with_reducible exact ⟨set3_cell (HS5.out).1 hg1, set3_cell (HS5.out).2.1 hg1, set3_cell (HS5.out).2.2 hg1⟩ | go_keep)
    (first
      | (go_at_call 24; (with_reducible refine (lent_ex aT nT cT tb _ HT.out h8).mono ?_); rintro e w5 ⟨g5, c5, rfl, hc5, ho5, hb5⟩; have HC5 := Lib.hid hc5; have HO5 := Lib.hid ho5; have HD5 := Lib.hid hb5; have HS5 := Lib.hid (And.intro (cpb hb5 (HS0.out).1) (And.intro (cpb hb5 (HS0.out).2.1) (cpb hb5 (HS0.out).2.2))); have hz5 := (HD5.out.block (W.heap.size + 1) HLZ.out).trans HZ.out; have HZ5 := Lib.hid hz5; obtain ⟨⟨c0, c1', c2'⟩, f0, f1, f2⟩ := cellsq hz5; clear ho5 hb5 hz5 hc5))
  obtain ⟨w8, e8, ⟨r0, r1, r2⟩, hk8, hs8, hbl8, _⟩ := set3q HZ5.out (.int .i64 k) (.int .i64 r) (.slice (some ⟨g5, 0, none⟩) nT c5)
  rw [e8]
  go_wp2
  refine bodyPost_ret (v := ruleV k r (some ⟨g5, 0, none⟩) nT c5) (by simp [results, Tryd.results23, go_sem, r0, r1, r2]) rfl ?_
  have hsd : Wb.drew.heap.size = W.heap.size + 2 := HSZ.out
  exact ⟨g5, by rw [HC5.out], (HO5.out.heap fun b hb => hk8 b (by omega)).rk, hbl8 _ _ (by omega) (bstep (Below.drew HBX.out) HD5.out)⟩

set_option maxHeartbeats 4000000 in
theorem keptRule_any (k r : Int) (g : Nat) (aT : Option Addr) (nT cT : Nat) (tb : List Int) (W : World) (hL : LentM W g nT tb) (hT : RK .i64 W aT nT tb) (h8 : nT * 8 ≤ 140737488351232) :
    Calls Tryd.prog 28 #[ruleV k r (some ⟨g, 0, none⟩) nT (nT + 2), ruleV k r aT nT cT] W fun e w' => e = .returned (.bool true) ∧ Below W.heap.size W w' := by
  obtain ⟨Wb, hWb⟩ : ∃ Wb, (W.alloc (.cells #[.int .i64 k, .int .i64 r, .slice (some ⟨g, 0, none⟩) nT (nT + 2)] 24)).alloc (.cells #[.int .i64 k, .int .i64 r, .slice aT nT cT] 24) = Wb := ⟨_, rfl⟩
  have HBX : Hid (Below W.heap.size W Wb) := by rw [← hWb]; exact balloc (balloc (bnil W) _) _
  have hmx : nT + 2 ≤ maxLen := by unfold maxLen; omega
  have HMX := Lib.hid hmx
  have HL := Lib.hid hL
  have HT := Lib.hid hT
  clear hL hT hmx
  have HWB := Lib.hid hWb; clear hWb
  go_enter Tryd.func28, Tryd.ntmps28
  go_wp2_with fail
  rw [HWB.out]
  refine (kept_any g nT (nT + 2) cT aT tb _ (HL.out.up HBX.out) (Nat.le_refl _) HMX.out (HT.out.up HBX.out) h8).mono ?_; rintro e w1 ⟨rfl, hb1⟩
  go_wp2
  go_ret
  exact ⟨rfl, HBX.out.trans (hb1.mono HBX.out.size)⟩

end Go.Proofs.YteneiianpghalaaDoor
