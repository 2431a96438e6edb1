/- edenref03.Check for all arguments. -/
import Derived.Test.YtnmegpplfbkpcaaDoorErrQ
import Derived.Test.YtnmegpplfbkpcaaDoorWordB
namespace Go.Proofs.YtnmegpplfbkpcaaDoor
open Go.RowKit
set_option linter.unusedVariables false
set_option maxRecDepth 100000

/-- a word's fault -/
def wordD (k : Int) (l : List Int) : ErrD := (chkErr k l).map fun x => ([(opWord, x.1)], x.2)

set_option maxHeartbeats 8000000 in
theorem ref03check (k : Int) (a : Option Addr) (n c : Nat) (l : List Int) (W : World) (hR : RK .i64 W a n l) (hm : n ≤ maxLen) :
    Calls Tryd.prog 45 #[.int .i64 k, .slice a n c] W (RefRet W (wordD k l)) := by
  unfold maxLen at hm
  have HL := Lib.hid hR.len
  obtain ⟨Wb, hWb⟩ : ∃ Wb, W.alloc (.cells #[.int .i64 0, .slice none 0 0, .slice none 0 0] 78) = Wb := ⟨_, rfl⟩
  have hz : Wb.heap[W.heap.size]? = some (.cells #[.int .i64 0, .slice none 0 0, .slice none 0 0] 78) := by rw [← hWb]; exact heap_alloc_new W _
  have HBX : Hid (Below W.heap.size W Wb) := by rw [← hWb]; exact balloc (bnil W) _
  have HZ := Lib.hid hz
  have HSZ : Hid (Wb.heap.size = W.heap.size + 1) := by show _ = _; rw [← hWb]; simp
  have HR := Lib.hid (hR.up HBX.out)
  have HWB := Lib.hid hWb
  clear hR hWb hz
  by_cases c0 : k < 1
  · skip
    have HD : Hid (wordD k l = some ([(opWord, 0)], 3)) := by show _ = _; unfold wordD chkErr alphB; simp; omega
    go_enter Tryd.func45, Tryd.ntmps45
    go_wp2_with fail
    try rw [HWB.out]
    refine (rawNewq _ _ _ _ rfl).mono ?_; rintro e w8 ⟨N, a3, n3, c3, a4, n4, c4, rfl, hw, f1q, f2q, hN, h0, hb8⟩
    have hz8 := (hb8.block _ (by have := HSZ.out; omega)).trans HZ.out
    obtain ⟨⟨q0, q1, q2⟩, f0, f1, f2⟩ := cellsq hz8
    obtain ⟨w9, e9, ⟨r0, r1, r2⟩, hk, hs, hbl, _⟩ := set3q hz8 (.int .i64 N) (.slice a3 n3 c3) (.slice a4 n4 c4)
    have HE9 := Lib.hid e9
    have hg1 : Fr (W.heap.size + 1) a3 := f1q.base (by have := HSZ.out; omega)
    have hg2 : Fr (W.heap.size + 1) a4 := f2q.base (by have := HSZ.out; omega)
    have hret : RefRet W (some ([(opWord, 0)], 3)) (.returned (.agg #[.int .i64 N, .slice a3 n3 c3, .slice a4 n4 c4])) w9 := ⟨N, a3, n3, c3, a4, n4, c4, rfl, hw.other hk hs hg1 hg2, hg1.base (by omega), hg2.base (by omega), hN, (fun h => by cases h), hbl W W.heap.size (Nat.le_refl _) (HBX.out.trans (hb8.mono HBX.out.size))⟩
    have HRET := Lib.hid hret
    have HRR := Lib.hid (And.intro r0 (And.intro r1 r2))
    clear e9 hw hret f1q f2q hN h0 hg1 hg2 r0 r1 r2
    go_wp2
    rw [HE9.out]
    have r0 := HRR.out.1
    have r1 := HRR.out.2.1
    have r2 := HRR.out.2.2
    refine bodyPost_ret (v := .agg #[.int .i64 N, .slice a3 n3 c3, .slice a4 n4 c4]) (by simp [results, Tryd.results45, go_sem, r0, r1, r2]) rfl ?_
    rw [HD.out]
    exact HRET.out
  by_cases c1 : 4 < k
  · skip
    have HD : Hid (wordD k l = some ([(opWord, 0)], 3)) := by show _ = _; unfold wordD chkErr alphB; simp; omega
    go_enter Tryd.func45, Tryd.ntmps45
    go_wp2_with fail
    try rw [HWB.out]
    refine (rawNewq _ _ _ _ rfl).mono ?_; rintro e w8 ⟨N, a3, n3, c3, a4, n4, c4, rfl, hw, f1q, f2q, hN, h0, hb8⟩
    have hz8 := (hb8.block _ (by have := HSZ.out; omega)).trans HZ.out
    obtain ⟨⟨q0, q1, q2⟩, f0, f1, f2⟩ := cellsq hz8
    obtain ⟨w9, e9, ⟨r0, r1, r2⟩, hk, hs, hbl, _⟩ := set3q hz8 (.int .i64 N) (.slice a3 n3 c3) (.slice a4 n4 c4)
    have HE9 := Lib.hid e9
    have hg1 : Fr (W.heap.size + 1) a3 := f1q.base (by have := HSZ.out; omega)
    have hg2 : Fr (W.heap.size + 1) a4 := f2q.base (by have := HSZ.out; omega)
    have hret : RefRet W (some ([(opWord, 0)], 3)) (.returned (.agg #[.int .i64 N, .slice a3 n3 c3, .slice a4 n4 c4])) w9 := ⟨N, a3, n3, c3, a4, n4, c4, rfl, hw.other hk hs hg1 hg2, hg1.base (by omega), hg2.base (by omega), hN, (fun h => by cases h), hbl W W.heap.size (Nat.le_refl _) (HBX.out.trans (hb8.mono HBX.out.size))⟩
    have HRET := Lib.hid hret
    have HRR := Lib.hid (And.intro r0 (And.intro r1 r2))
    clear e9 hw hret f1q f2q hN h0 hg1 hg2 r0 r1 r2
    go_wp2
    rw [HE9.out]
    have r0 := HRR.out.1
    have r1 := HRR.out.2.1
    have r2 := HRR.out.2.2
    refine bodyPost_ret (v := .agg #[.int .i64 N, .slice a3 n3 c3, .slice a4 n4 c4]) (by simp [results, Tryd.results45, go_sem, r0, r1, r2]) rfl ?_
    rw [HD.out]
    exact HRET.out
  have HAL : Hid (alphB k = true) := alph_true.2 ⟨by omega, by omega⟩
  by_cases c2 : 4096 < n
  · have hlen : 4096 < l.length := by have := HL.out; omega
    have HD : Hid (wordD k l = some ([(opWord, 0)], 4)) := by show _ = _; unfold wordD chkErr; rw [HAL.out]; simp [hlen]
    clear hlen
    go_enter Tryd.func45, Tryd.ntmps45
    go_wp2_with fail
    try rw [HWB.out]
    refine (rawNewq _ _ _ _ rfl).mono ?_; rintro e w8 ⟨N, a3, n3, c3, a4, n4, c4, rfl, hw, f1q, f2q, hN, h0, hb8⟩
    have hz8 := (hb8.block _ (by have := HSZ.out; omega)).trans HZ.out
    obtain ⟨⟨q0, q1, q2⟩, f0, f1, f2⟩ := cellsq hz8
    obtain ⟨w9, e9, ⟨r0, r1, r2⟩, hk, hs, hbl, _⟩ := set3q hz8 (.int .i64 N) (.slice a3 n3 c3) (.slice a4 n4 c4)
    have HE9 := Lib.hid e9
    have hg1 : Fr (W.heap.size + 1) a3 := f1q.base (by have := HSZ.out; omega)
    have hg2 : Fr (W.heap.size + 1) a4 := f2q.base (by have := HSZ.out; omega)
    have hret : RefRet W (some ([(opWord, 0)], 4)) (.returned (.agg #[.int .i64 N, .slice a3 n3 c3, .slice a4 n4 c4])) w9 := ⟨N, a3, n3, c3, a4, n4, c4, rfl, hw.other hk hs hg1 hg2, hg1.base (by omega), hg2.base (by omega), hN, (fun h => by cases h), hbl W W.heap.size (Nat.le_refl _) (HBX.out.trans (hb8.mono HBX.out.size))⟩
    have HRET := Lib.hid hret
    have HRR := Lib.hid (And.intro r0 (And.intro r1 r2))
    clear e9 hw hret f1q f2q hN h0 hg1 hg2 r0 r1 r2
    go_wp2
    rw [HE9.out]
    have r0 := HRR.out.1
    have r1 := HRR.out.2.1
    have r2 := HRR.out.2.2
    refine bodyPost_ret (v := .agg #[.int .i64 N, .slice a3 n3 c3, .slice a4 n4 c4]) (by simp [results, Tryd.results45, go_sem, r0, r1, r2]) rfl ?_
    rw [HD.out]
    exact HRET.out
  have HLE : Hid (¬ 4096 < l.length) := by show ¬ _; have := HL.out; omega
  go_enter Tryd.func45, Tryd.ntmps45
  go_wp2_with fail
  rw [HWB.out]
  go_loop [5] (fun ix => ∃ i : Nat, i ≤ n ∧ ix = .int .i64 i ∧ Hid (∀ x ∈ l.take i, badB k x = false)) (fun ix => n - (intOf ix).toNat)
  case atStart => exact ⟨0, by omega, rfl, fun x hx => by simp at hx⟩
  case round =>
    obtain ⟨i, hi, rfl, HT⟩ := hrel
    by_cases hin : i < n
    · obtain ⟨b, o, rfl, hbo, hc⟩ := HR.out.addr (by omega)
      have z0 := hc i hin
      obtain ⟨z, hz⟩ : ∃ z, l.getD i 0 = z := ⟨_, rfl⟩
      rw [hz] at z0
      have HZZ := Lib.hid hz
      clear hc hz
      have i0 : (0 : Int) ≤ (i : Int) := by omega
      have i1 : (i : Int) < (n : Int) := by omega
      by_cases hz0 : z < 0
      · have HX : Hid (idxI (badB k) l = (i : Int)) := findIdx_at (by have := HL.out; omega) HT.out (by rw [HZZ.out]; exact badB_true.2 (.inl hz0))
        have HD : Hid (wordD k l = some ([(opWord, (i : Int))], 2)) := by show _ = _; unfold wordD chkErr; rw [HAL.out, HX.out, if_neg (by simp), if_neg HLE.out, if_pos (by omega)]; rfl
        go_wp2_with fail
        try rw [HWB.out]
        refine (rawNewq _ _ _ _ rfl).mono ?_; rintro e w8 ⟨N, a3, n3, c3, a4, n4, c4, rfl, hw, f1q, f2q, hN, h0, hb8⟩
        have hz8 := (hb8.block _ (by have := HSZ.out; omega)).trans HZ.out
        obtain ⟨⟨q0, q1, q2⟩, f0, f1, f2⟩ := cellsq hz8
        obtain ⟨w9, e9, ⟨r0, r1, r2⟩, hk, hs, hbl, _⟩ := set3q hz8 (.int .i64 N) (.slice a3 n3 c3) (.slice a4 n4 c4)
        have HE9 := Lib.hid e9
        have hg1 : Fr (W.heap.size + 1) a3 := f1q.base (by have := HSZ.out; omega)
        have hg2 : Fr (W.heap.size + 1) a4 := f2q.base (by have := HSZ.out; omega)
        have hret : RefRet W (some ([(opWord, (i : Int))], 2)) (.returned (.agg #[.int .i64 N, .slice a3 n3 c3, .slice a4 n4 c4])) w9 := ⟨N, a3, n3, c3, a4, n4, c4, rfl, hw.other hk hs hg1 hg2, hg1.base (by omega), hg2.base (by omega), hN, (fun h => by cases h), hbl W W.heap.size (Nat.le_refl _) (HBX.out.trans (hb8.mono HBX.out.size))⟩
        have HRET := Lib.hid hret
        have HRR := Lib.hid (And.intro r0 (And.intro r1 r2))
        clear e9 hw hret f1q f2q hN h0 hg1 hg2 r0 r1 r2
        go_wp2
        rw [HE9.out]
        have r0 := HRR.out.1
        have r1 := HRR.out.2.1
        have r2 := HRR.out.2.2
        refine bodyPost_ret (v := .agg #[.int .i64 N, .slice a3 n3 c3, .slice a4 n4 c4]) (by simp [results, Tryd.results45, go_sem, r0, r1, r2]) rfl ?_
        rw [HD.out]
        exact HRET.out
      by_cases hzk : k ≤ z
      · have HX : Hid (idxI (badB k) l = (i : Int)) := findIdx_at (by have := HL.out; omega) HT.out (by rw [HZZ.out]; exact badB_true.2 (.inr hzk))
        have HD : Hid (wordD k l = some ([(opWord, (i : Int))], 2)) := by show _ = _; unfold wordD chkErr; rw [HAL.out, HX.out, if_neg (by simp), if_neg HLE.out, if_pos (by omega)]; rfl
        go_wp2_with fail
        try rw [HWB.out]
        refine (rawNewq _ _ _ _ rfl).mono ?_; rintro e w8 ⟨N, a3, n3, c3, a4, n4, c4, rfl, hw, f1q, f2q, hN, h0, hb8⟩
        have hz8 := (hb8.block _ (by have := HSZ.out; omega)).trans HZ.out
        obtain ⟨⟨q0, q1, q2⟩, f0, f1, f2⟩ := cellsq hz8
        obtain ⟨w9, e9, ⟨r0, r1, r2⟩, hk, hs, hbl, _⟩ := set3q hz8 (.int .i64 N) (.slice a3 n3 c3) (.slice a4 n4 c4)
        have HE9 := Lib.hid e9
        have hg1 : Fr (W.heap.size + 1) a3 := f1q.base (by have := HSZ.out; omega)
        have hg2 : Fr (W.heap.size + 1) a4 := f2q.base (by have := HSZ.out; omega)
        have hret : RefRet W (some ([(opWord, (i : Int))], 2)) (.returned (.agg #[.int .i64 N, .slice a3 n3 c3, .slice a4 n4 c4])) w9 := ⟨N, a3, n3, c3, a4, n4, c4, rfl, hw.other hk hs hg1 hg2, hg1.base (by omega), hg2.base (by omega), hN, (fun h => by cases h), hbl W W.heap.size (Nat.le_refl _) (HBX.out.trans (hb8.mono HBX.out.size))⟩
        have HRET := Lib.hid hret
        have HRR := Lib.hid (And.intro r0 (And.intro r1 r2))
        clear e9 hw hret f1q f2q hN h0 hg1 hg2 r0 r1 r2
        go_wp2
        rw [HE9.out]
        have r0 := HRR.out.1
        have r1 := HRR.out.2.1
        have r2 := HRR.out.2.2
        refine bodyPost_ret (v := .agg #[.int .i64 N, .slice a3 n3 c3, .slice a4 n4 c4]) (by simp [results, Tryd.results45, go_sem, r0, r1, r2]) rfl ?_
        rw [HD.out]
        exact HRET.out
      have HX : Hid (∀ x ∈ l.take (i + 1), badB k x = false) := all_take_succ (by have := HL.out; omega) HT.out (by rw [HZZ.out]; exact badB_false.2 ⟨by omega, by omega⟩)
      go_wp2
      go_round
      case rel => exact ⟨i + 1, by omega, by go_num, HX⟩
      case measure => simp [intOf]; omega
    · obtain rfl : i = n := by omega
      have HX : Hid (idxI (badB k) l = -1) := findIdx_none (by have := HT.out; rwa [List.take_of_length_le (by have := HL.out; omega)] at this)
      have HD : Hid (wordD k l = none) := by show _ = _; unfold wordD chkErr; rw [HAL.out, HX.out, if_neg (by simp), if_neg HLE.out, if_neg (by omega)]; rfl
      obtain ⟨⟨q0, q1, q2⟩, f0, f1, f2⟩ := cellsq HZ.out
      go_wp2
      obtain ⟨w9, e9, ⟨r0, r1, r2⟩, hk, hs, hbl, _⟩ := set3q HZ.out (.int .i64 0) (.slice none 0 0) (.slice none 0 0)
      rw [e9]
      refine bodyPost_ret (v := .agg #[.int .i64 0, .slice none 0 0, .slice none 0 0]) (by simp [results, Tryd.results45, go_sem, r0, r1, r2]) rfl ?_
      rw [HD.out]
      exact ⟨0, none, 0, 0, none, 0, 0, rfl, wc_none w9, fr_none, fr_none, rfl, fun _ => ⟨rfl, rfl, rfl, rfl, rfl, rfl, rfl⟩, hbl W W.heap.size (Nat.le_refl _) HBX.out⟩
end Go.Proofs.YtnmegpplfbkpcaaDoor
