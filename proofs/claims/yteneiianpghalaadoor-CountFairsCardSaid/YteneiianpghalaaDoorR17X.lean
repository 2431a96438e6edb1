/- edenref04.Small, edenref08.Fault, WordFault for all arguments. edenref17.Words, Rings, Fixed for all arguments. Package count: what Words, Rings, Fixed answer, refused or not. -/
import Derived.Test.YteneiianpghalaaDoorR16C
import Derived.Test.YteneiianpghalaaDoorRuleR
import Derived.Test.YteneiianpghalaaDoorRefBad
import Derived.Test.YteneiianpghalaaDoorR17D
import Derived.Test.YteneiianpghalaaDoorCntX
import Derived.Test.YteneiianpghalaaDoorMatF
namespace Go.Proofs.YteneiianpghalaaDoor
open Go.RowKit
set_option linter.unusedVariables false
set_option maxRecDepth 100000

/-- a small rule's fault -/
def smallD (k r : Int) (l : List Int) : ErrD := if (ruleD k r l).isSome = true then ruleD k r l else if 256 < l.length then some ([(opRule, 0)], 4) else none
/-- the same, told by a package -/
def faultD (op : ByteArray) (k r : Int) (l : List Int) : ErrD := (smallD k r l).map fun y => ((op, 0) :: y.1, y.2)
/-- a word's fault, told by a package -/
def wfaultD (op : ByteArray) (k : Int) (l : List Int) (most : Int) : ErrD := if most < (l.length : Int) then some ([(op, 1)], 4) else if 0 ≤ idxI (badB k) l then some ([(op, idxI (badB k) l)], 2) else none
theorem ruleD_short {k r : Int} {l : List Int} {es : List (ByteArray × Int)} {n : Int} (h : ruleD k r l = some (es, n)) : es.length = 1 := by
  unfold ruleD at h
  cases h2 : ruleErr k r l with
  | none => rw [h2] at h; cases h
  | some a => rw [h2] at h; cases h; rfl
theorem smallD_short {k r : Int} {l : List Int} {es : List (ByteArray × Int)} {n : Int} (h : smallD k r l = some (es, n)) : es.length = 1 := by
  unfold smallD at h
  split at h
  · exact ruleD_short h
  · split at h
    · cases h; rfl
    · cases h


set_option maxHeartbeats 8000000 in
theorem refSmall_any (k r : Int) (a : Option Addr) (T c : Nat) (tb : List Int) (W : World) (hT : RK .i64 W a T tb) (hm : T ≤ maxLen) :
    Calls Tryd.prog 131 #[ruleV k r a T c] W (RefRet W (smallD k r tb)) := by
  have HL := Lib.hid hT.len
  have hm' : T ≤ 9223372036854775807 := hm
  have hm := Lib.hid hm
  obtain ⟨w0, hw0⟩ : ∃ w0, (W.alloc (.cells #[.int .i64 k, .int .i64 r, .slice a T c] 24)).alloc (.cells #[.int .i64 0, .slice none 0 0, .slice none 0 0] 53) = w0 := ⟨_, rfl⟩
  have HSZ : Hid (w0.heap.size = W.heap.size + 2) := by show _ = _; rw [← hw0]; simp
  have HY0 : Hid (w0.heap[W.heap.size + 1]? = some (.cells #[.int .i64 0, .slice none 0 0, .slice none 0 0] 53)) := by show _ = _; rw [← hw0]; have h := heap_alloc_new ((W.alloc (.cells #[.int .i64 k, .int .i64 r, .slice a T c] 24))) (.cells #[.int .i64 0, .slice none 0 0, .slice none 0 0] 53); simpa using h
  have HP0 : Hid (w0.heap[W.heap.size]? = some (.cells #[.int .i64 k, .int .i64 r, .slice a T c] 24)) := by
    show _ = _
    rw [← hw0]
    rw [heap_alloc_old _ _ (by simp)]
    have h := heap_alloc_new (W) (.cells #[.int .i64 k, .int .i64 r, .slice a T c] 24)
    simpa using h
  have HBX : Hid (Below W.heap.size W w0) := by show Below _ _ _; rw [← hw0]; exact balloc (balloc (bnil W) _) _
  have HB0 := Lib.hid (bnil w0)
  have HWB := Lib.hid hw0
  have HT := Lib.hid (hT.up HBX.out)
  clear hw0 hT
  cases hd : ruleD k r tb with
  | some y =>
    have HD := Lib.hid hd
    have q := refRule_any k r a T c tb w0 HT.out hm.out
    rw [hd] at q
    have HCK := Lib.hid q
    clear q
    have HS : Hid (smallD k r tb = some y) := by show _ = _; unfold smallD; rw [hd]; rfl
    clear hd
    go_enter Tryd.func131, Tryd.ntmps131
    obtain ⟨⟨x0, x1, x2⟩, y0, y1, y2⟩ := cellsq HP0.out
    rw [← HWB.out] at x0 x1 x2 y0 y1 y2
    go_wp2_with fail
    rw [HWB.out]
    clear x0 x1 x2 y0 y1 y2
    refine (HCK.out).mono ?_; rintro e w1 ⟨vN, va1, vn1, vc1, va2, vn2, vc2, rfl, hw, hf1, hf2, hN, h0, hb⟩
    have HWv1 := Lib.hid hw
    have HFv : Hid (Fr (W.heap.size + 1 + 1) va1 ∧ Fr (W.heap.size + 1 + 1) va2) := ⟨hf1.base (by have := HSZ.out; have := HB0.out.size; omega), hf2.base (by have := HSZ.out; have := HB0.out.size; omega)⟩
    have HNv : Hid ((vN != 0) = true) := hN
    clear hw hf1 hf2 hN h0
    have HB1 := Lib.hid (HB0.out.trans (hb.mono HB0.out.size))
    clear hb
    go_wp2_with fail
    obtain ⟨g1, hg1⟩ : ∃ g1, w1.heap.size = g1 := ⟨_, rfl⟩
    obtain ⟨w2, hw⟩ : ∃ w2, w1.alloc (.cells #[.int .i64 vN, .slice va1 vn1 vc1, .slice va2 vn2 vc2] 53) = w2 := ⟨_, rfl⟩
    have hb : Below w1.heap.size w1 w2 := by rw [← hw]; exact balloc (bnil w1) _
    have HZ2 : Hid (w2.heap[g1]? = some (.cells #[.int .i64 vN, .slice va1 vn1 vc1, .slice va2 vn2 vc2] 53)) := by show _ = _; rw [← hw, ← hg1]; exact heap_alloc_new w1 _
    have HG1 : Hid (W.heap.size + 1 + 1 ≤ g1) := by show _ ≤ _; have := HSZ.out; have := HB1.out.size; omega
    rw [hw]
    simp only [hg1]
    clear hw hg1
    have HB2 := Lib.hid (HB1.out.trans (hb.mono HB1.out.size))
    have HWv2 := Lib.hid (HWv1.out.up hb)
    clear hb
    obtain ⟨⟨q0, q1, q2⟩, f0, f1, f2⟩ := cellsq HZ2.out
    go_wp2_with fail
    clear q0 q1 q2 f0 f1 f2
    refine (refBadq vN _ _ _ true HNv.out).mono ?_; rintro e w3 ⟨rfl, hb⟩
    have HB3 := Lib.hid (HB2.out.trans (hb.mono HB2.out.size))
    have HZ3 := Lib.hid ((hb.block _ (heap_ltQ HZ2.out)).trans HZ2.out)
    have HWv3 := Lib.hid (HWv2.out.up hb)
    clear hb
    obtain ⟨⟨q0, q1, q2⟩, f0, f1, f2⟩ := cellsq HZ3.out
    obtain ⟨⟨x0, x1, x2⟩, y0, y1, y2⟩ := cellsq ((HB3.out.block _ (heap_ltQ HP0.out)).trans HP0.out)
    have hy := (HB3.out.block _ (by have := HSZ.out; omega)).trans HY0.out
    obtain ⟨⟨p0, p1, p2⟩, f3, f4, f5⟩ := cellsq hy
    obtain ⟨w9, e9, ⟨r0, r1, r2⟩, hk, hs, hbl, _⟩ := set3q hy (.int .i64 vN) (.slice va1 vn1 vc1) (.slice va2 vn2 vc2)
    have HE9 := Lib.hid e9
    have HR := Lib.hid (And.intro r0 (And.intro r1 r2))
    have HBE := Lib.hid (hbl W W.heap.size (by omega) (HBX.out.trans (HB3.out.mono HBX.out.size)))
    have HWC : Hid (WC w9 (.agg #[.int .i64 vN, .slice va1 vn1 vc1, .slice va2 vn2 vc2]) _) := Lib.hid (HWv3.out.other hk hs HFv.out.1 HFv.out.2)
    clear hy e9 r0 r1 r2 hk hs hbl
    go_wp2
    rw [HE9.out]
    have r0 : w9.cell? _ = _ := HR.out.1
    have r1 : w9.cell? _ = _ := HR.out.2.1
    have r2 : w9.cell? _ = _ := HR.out.2.2
    refine bodyPost_ret (v := .agg #[.int .i64 vN, .slice va1 vn1 vc1, .slice va2 vn2 vc2]) (by simp [results, Tryd.results131, go_sem, r0, r1, r2]) rfl ?_
    rw [HS.out]; exact ⟨_, _, _, _, _, _, _, rfl, HWC.out, HFv.out.1.base (by omega), HFv.out.2.base (by omega), HNv.out, (fun h => by cases h), HBE.out⟩
  | none =>
    have HD := Lib.hid hd
    have q := refRule_any k r a T c tb w0 HT.out hm.out
    rw [hd] at q
    have HCK := Lib.hid q
    clear q
    by_cases hbig : 256 < T
    · have HS : Hid (smallD k r tb = some ([(opRule, 0)], 4)) := by show _ = _; unfold smallD; rw [hd, ← HL.out]; simp [hbig]
      clear hd
      go_enter Tryd.func131, Tryd.ntmps131
      obtain ⟨⟨x0, x1, x2⟩, y0, y1, y2⟩ := cellsq HP0.out
      rw [← HWB.out] at x0 x1 x2 y0 y1 y2
      go_wp2_with fail
      rw [HWB.out]
      clear x0 x1 x2 y0 y1 y2
      refine (HCK.out).mono ?_; rintro e w1 ⟨zN, za1, zn1, zc1, za2, zn2, zc2, rfl, hw, hf1, hf2, hN, h0, hb⟩
      obtain ⟨rfl, rfl, rfl, rfl, rfl, rfl, rfl⟩ := h0 rfl
      clear hw hf1 hf2 hN h0
      have HB1 := Lib.hid (HB0.out.trans (hb.mono HB0.out.size))
      clear hb
      go_wp2_with fail
      obtain ⟨g1, hg1⟩ : ∃ g1, w1.heap.size = g1 := ⟨_, rfl⟩
      obtain ⟨w2, hw⟩ : ∃ w2, w1.alloc (.cells #[.int .i64 0, .slice none 0 0, .slice none 0 0] 53) = w2 := ⟨_, rfl⟩
      have hb : Below w1.heap.size w1 w2 := by rw [← hw]; exact balloc (bnil w1) _
      have HZ2 : Hid (w2.heap[g1]? = some (.cells #[.int .i64 0, .slice none 0 0, .slice none 0 0] 53)) := by show _ = _; rw [← hw, ← hg1]; exact heap_alloc_new w1 _
      have HG1 : Hid (W.heap.size + 1 + 1 ≤ g1) := by show _ ≤ _; have := HSZ.out; have := HB1.out.size; omega
      rw [hw]
      simp only [hg1]
      clear hw hg1
      have HB2 := Lib.hid (HB1.out.trans (hb.mono HB1.out.size))
      clear hb
      obtain ⟨⟨q0, q1, q2⟩, f0, f1, f2⟩ := cellsq HZ2.out
      go_wp2_with fail
      clear q0 q1 q2 f0 f1 f2
      refine (refBadq 0 _ _ _ false rfl).mono ?_; rintro e w3 ⟨rfl, hb⟩
      have HB3 := Lib.hid (HB2.out.trans (hb.mono HB2.out.size))
      have HZ3 := Lib.hid ((hb.block _ (heap_ltQ HZ2.out)).trans HZ2.out)
      clear hb
      obtain ⟨⟨x0, x1, x2⟩, y0, y1, y2⟩ := cellsq ((HB3.out.block _ (heap_ltQ HP0.out)).trans HP0.out)
      go_wp2_with fail
      clear x0 x1 x2 y0 y1 y2
      refine (rawNewq opRule _ _ _ rfl).mono ?_; rintro e w4 ⟨vN, va1, vn1, vc1, va2, vn2, vc2, rfl, hw, hf1, hf2, hN, h0, hb⟩
      have HWv4 := Lib.hid hw
      have HFv : Hid (Fr (W.heap.size + 1 + 1) va1 ∧ Fr (W.heap.size + 1 + 1) va2) := ⟨hf1.base (by have := HSZ.out; have := HB3.out.size; omega), hf2.base (by have := HSZ.out; have := HB3.out.size; omega)⟩
      have HNv : Hid ((vN != 0) = true) := hN
      have HGv : Hid (Fr (g1 + 1) va1 ∧ Fr (g1 + 1) va2) := ⟨hf1.base (heap_ltQ HZ3.out), hf2.base (heap_ltQ HZ3.out)⟩
      clear hw hf1 hf2 hN h0
      have HB4 := Lib.hid (HB3.out.trans (hb.mono HB3.out.size))
      have HZ4 := Lib.hid ((hb.block _ (heap_ltQ HZ3.out)).trans HZ3.out)
      clear hb
      have hy := (HB4.out.block _ (by have := HSZ.out; omega)).trans HY0.out
      obtain ⟨⟨p0, p1, p2⟩, f3, f4, f5⟩ := cellsq hy
      obtain ⟨w9, e9, ⟨r0, r1, r2⟩, hk, hs, hbl, _⟩ := set3q hy (.int .i64 vN) (.slice va1 vn1 vc1) (.slice va2 vn2 vc2)
      have HE9 := Lib.hid e9
      have HR := Lib.hid (And.intro r0 (And.intro r1 r2))
      have HBE := Lib.hid (hbl W W.heap.size (by omega) (HBX.out.trans (HB4.out.mono HBX.out.size)))
      have HWC : Hid (WC w9 (.agg #[.int .i64 vN, .slice va1 vn1 vc1, .slice va2 vn2 vc2]) _) := Lib.hid (HWv4.out.other hk hs HFv.out.1 HFv.out.2)
      clear hy e9 r0 r1 r2 hk hs hbl
      go_wp2
      rw [HE9.out]
      have r0 : w9.cell? _ = _ := HR.out.1
      have r1 : w9.cell? _ = _ := HR.out.2.1
      have r2 : w9.cell? _ = _ := HR.out.2.2
      refine bodyPost_ret (v := .agg #[.int .i64 vN, .slice va1 vn1 vc1, .slice va2 vn2 vc2]) (by simp [results, Tryd.results131, go_sem, r0, r1, r2]) rfl ?_
      rw [HS.out]; exact ⟨_, _, _, _, _, _, _, rfl, HWC.out, HFv.out.1.base (by omega), HFv.out.2.base (by omega), HNv.out, (fun h => by cases h), HBE.out⟩
    · have HS : Hid (smallD k r tb = none) := by show _ = _; unfold smallD; rw [hd, ← HL.out]; simp [hbig]
      clear hd
      go_enter Tryd.func131, Tryd.ntmps131
      obtain ⟨⟨x0, x1, x2⟩, y0, y1, y2⟩ := cellsq HP0.out
      rw [← HWB.out] at x0 x1 x2 y0 y1 y2
      go_wp2_with fail
      rw [HWB.out]
      clear x0 x1 x2 y0 y1 y2
      refine (HCK.out).mono ?_; rintro e w1 ⟨zN, za1, zn1, zc1, za2, zn2, zc2, rfl, hw, hf1, hf2, hN, h0, hb⟩
      obtain ⟨rfl, rfl, rfl, rfl, rfl, rfl, rfl⟩ := h0 rfl
      clear hw hf1 hf2 hN h0
      have HB1 := Lib.hid (HB0.out.trans (hb.mono HB0.out.size))
      clear hb
      go_wp2_with fail
      obtain ⟨g1, hg1⟩ : ∃ g1, w1.heap.size = g1 := ⟨_, rfl⟩
      obtain ⟨w2, hw⟩ : ∃ w2, w1.alloc (.cells #[.int .i64 0, .slice none 0 0, .slice none 0 0] 53) = w2 := ⟨_, rfl⟩
      have hb : Below w1.heap.size w1 w2 := by rw [← hw]; exact balloc (bnil w1) _
      have HZ2 : Hid (w2.heap[g1]? = some (.cells #[.int .i64 0, .slice none 0 0, .slice none 0 0] 53)) := by show _ = _; rw [← hw, ← hg1]; exact heap_alloc_new w1 _
      have HG1 : Hid (W.heap.size + 1 + 1 ≤ g1) := by show _ ≤ _; have := HSZ.out; have := HB1.out.size; omega
      rw [hw]
      simp only [hg1]
      clear hw hg1
      have HB2 := Lib.hid (HB1.out.trans (hb.mono HB1.out.size))
      clear hb
      obtain ⟨⟨q0, q1, q2⟩, f0, f1, f2⟩ := cellsq HZ2.out
      go_wp2_with fail
      clear q0 q1 q2 f0 f1 f2
      refine (refBadq 0 _ _ _ false rfl).mono ?_; rintro e w3 ⟨rfl, hb⟩
      have HB3 := Lib.hid (HB2.out.trans (hb.mono HB2.out.size))
      have HZ3 := Lib.hid ((hb.block _ (heap_ltQ HZ2.out)).trans HZ2.out)
      clear hb
      obtain ⟨⟨q0, q1, q2⟩, f0, f1, f2⟩ := cellsq HZ3.out
      obtain ⟨⟨x0, x1, x2⟩, y0, y1, y2⟩ := cellsq ((HB3.out.block _ (heap_ltQ HP0.out)).trans HP0.out)
      have hy := (HB3.out.block _ (by have := HSZ.out; omega)).trans HY0.out
      obtain ⟨⟨p0, p1, p2⟩, f3, f4, f5⟩ := cellsq hy
      obtain ⟨w9, e9, ⟨r0, r1, r2⟩, hk, hs, hbl, _⟩ := set3q hy (.int .i64 0) (.slice none 0 0) (.slice none 0 0)
      have HE9 := Lib.hid e9
      have HR := Lib.hid (And.intro r0 (And.intro r1 r2))
      have HBE := Lib.hid (hbl W W.heap.size (by omega) (HBX.out.trans (HB3.out.mono HBX.out.size)))
      have HWC := Lib.hid (wc_none w9)
      clear hy e9 r0 r1 r2 hk hs hbl
      go_wp2
      rw [HE9.out]
      have r0 : w9.cell? _ = _ := HR.out.1
      have r1 : w9.cell? _ = _ := HR.out.2.1
      have r2 : w9.cell? _ = _ := HR.out.2.2
      refine bodyPost_ret (v := .agg #[.int .i64 0, .slice none 0 0, .slice none 0 0]) (by simp [results, Tryd.results131, go_sem, r0, r1, r2]) rfl ?_
      rw [HS.out]; exact ⟨_, _, _, _, _, _, _, rfl, HWC.out, fr_none, fr_none, rfl, (fun _ => ⟨rfl, rfl, rfl, rfl, rfl, rfl, rfl⟩), HBE.out⟩

set_option maxHeartbeats 8000000 in
theorem refFault_any (op : ByteArray) (k r : Int) (a : Option Addr) (T c : Nat) (tb : List Int) (W : World) (hT : RK .i64 W a T tb) (hm : T ≤ maxLen) :
    Calls Tryd.prog 75 #[.string op, ruleV k r a T c] W (RefRet W (faultD op k r tb)) := by
  have hm := Lib.hid hm
  obtain ⟨w0, hw0⟩ : ∃ w0, (W.alloc (.cells #[.int .i64 k, .int .i64 r, .slice a T c] 24)).alloc (.cells #[.int .i64 0, .slice none 0 0, .slice none 0 0] 53) = w0 := ⟨_, rfl⟩
  have HSZ : Hid (w0.heap.size = W.heap.size + 2) := by show _ = _; rw [← hw0]; simp
  have HY0 : Hid (w0.heap[W.heap.size + 1]? = some (.cells #[.int .i64 0, .slice none 0 0, .slice none 0 0] 53)) := by show _ = _; rw [← hw0]; have h := heap_alloc_new ((W.alloc (.cells #[.int .i64 k, .int .i64 r, .slice a T c] 24))) (.cells #[.int .i64 0, .slice none 0 0, .slice none 0 0] 53); simpa using h
  have HP0 : Hid (w0.heap[W.heap.size]? = some (.cells #[.int .i64 k, .int .i64 r, .slice a T c] 24)) := by
    show _ = _
    rw [← hw0]
    rw [heap_alloc_old _ _ (by simp)]
    have h := heap_alloc_new (W) (.cells #[.int .i64 k, .int .i64 r, .slice a T c] 24)
    simpa using h
  have HBX : Hid (Below W.heap.size W w0) := by show Below _ _ _; rw [← hw0]; exact balloc (balloc (bnil W) _) _
  have HB0 := Lib.hid (bnil w0)
  have HWB := Lib.hid hw0
  have HT := Lib.hid (hT.up HBX.out)
  clear hw0 hT
  cases hd : smallD k r tb with
  | some y =>
    have HD := Lib.hid hd
    have q := refSmall_any k r a T c tb w0 HT.out hm.out
    rw [hd] at q
    have HCK := Lib.hid q
    clear q
    have HS : Hid (faultD op k r tb = some ((op, 0) :: y.1, y.2)) := by show _ = _; unfold faultD; rw [hd]; rfl
    have HSH : Hid (y.1.length = 1) := smallD_short (es := y.1) (n := y.2) hd
    clear hd
    go_enter Tryd.func75, Tryd.ntmps75
    obtain ⟨⟨x0, x1, x2⟩, y0, y1, y2⟩ := cellsq HP0.out
    rw [← HWB.out] at x0 x1 x2 y0 y1 y2
    go_wp2_with fail
    rw [HWB.out]
    clear x0 x1 x2 y0 y1 y2
    refine (HCK.out).mono ?_; rintro e w1 ⟨uN, ua1, un1, uc1, ua2, un2, uc2, rfl, hw, hf1, hf2, hN, h0, hb⟩
    have HWu1 := Lib.hid hw
    have HFu : Hid (Fr (W.heap.size + 1 + 1) ua1 ∧ Fr (W.heap.size + 1 + 1) ua2) := ⟨hf1.base (by have := HSZ.out; have := HB0.out.size; omega), hf2.base (by have := HSZ.out; have := HB0.out.size; omega)⟩
    have HNu : Hid ((uN != 0) = true) := hN
    clear hw hf1 hf2 hN h0
    have HB1 := Lib.hid (HB0.out.trans (hb.mono HB0.out.size))
    clear hb
    go_wp2_with fail
    refine (refUnderq op 0 uN ua1 ua2 un1 uc1 un2 uc2 (some y) w1 HWu1.out (fun h => by cases h) (fun es n h => by cases h; have := HSH.out; simp only at this; omega)).mono ?_; rintro e w2 ⟨vN, va1, vn1, vc1, va2, vn2, vc2, rfl, hw, hf1, hf2, hN, h0, hb⟩
    have HWv2 := Lib.hid hw
    have HFv : Hid (Fr (W.heap.size + 1 + 1) va1 ∧ Fr (W.heap.size + 1 + 1) va2) := ⟨hf1.base (by have := HSZ.out; have := HB1.out.size; omega), hf2.base (by have := HSZ.out; have := HB1.out.size; omega)⟩
    have HNv : Hid ((vN != 0) = true) := hN
    clear hw hf1 hf2 hN h0
    have HB2 := Lib.hid (HB1.out.trans (hb.mono HB1.out.size))
    clear hb
    have hy := (HB2.out.block _ (by have := HSZ.out; omega)).trans HY0.out
    obtain ⟨⟨p0, p1, p2⟩, f3, f4, f5⟩ := cellsq hy
    obtain ⟨w9, e9, ⟨r0, r1, r2⟩, hk, hs, hbl, _⟩ := set3q hy (.int .i64 vN) (.slice va1 vn1 vc1) (.slice va2 vn2 vc2)
    have HE9 := Lib.hid e9
    have HR := Lib.hid (And.intro r0 (And.intro r1 r2))
    have HBE := Lib.hid (hbl W W.heap.size (by omega) (HBX.out.trans (HB2.out.mono HBX.out.size)))
    have HWC : Hid (WC w9 (.agg #[.int .i64 vN, .slice va1 vn1 vc1, .slice va2 vn2 vc2]) _) := Lib.hid (HWv2.out.other hk hs HFv.out.1 HFv.out.2)
    clear hy e9 r0 r1 r2 hk hs hbl
    go_wp2
    rw [HE9.out]
    have r0 : w9.cell? _ = _ := HR.out.1
    have r1 : w9.cell? _ = _ := HR.out.2.1
    have r2 : w9.cell? _ = _ := HR.out.2.2
    refine bodyPost_ret (v := .agg #[.int .i64 vN, .slice va1 vn1 vc1, .slice va2 vn2 vc2]) (by simp [results, Tryd.results75, go_sem, r0, r1, r2]) rfl ?_
    rw [HS.out]; exact ⟨_, _, _, _, _, _, _, rfl, HWC.out, HFv.out.1.base (by omega), HFv.out.2.base (by omega), HNv.out, (fun h => by cases h), HBE.out⟩
  | none =>
    have HD := Lib.hid hd
    have q := refSmall_any k r a T c tb w0 HT.out hm.out
    rw [hd] at q
    have HCK := Lib.hid q
    clear q
    have HS : Hid (faultD op k r tb = none) := by show _ = _; unfold faultD; rw [hd]; rfl
    clear hd
    go_enter Tryd.func75, Tryd.ntmps75
    obtain ⟨⟨x0, x1, x2⟩, y0, y1, y2⟩ := cellsq HP0.out
    rw [← HWB.out] at x0 x1 x2 y0 y1 y2
    go_wp2_with fail
    rw [HWB.out]
    clear x0 x1 x2 y0 y1 y2
    refine (HCK.out).mono ?_; rintro e w1 ⟨zN, za1, zn1, zc1, za2, zn2, zc2, rfl, hw, hf1, hf2, hN, h0, hb⟩
    obtain ⟨rfl, rfl, rfl, rfl, rfl, rfl, rfl⟩ := h0 rfl
    clear hw hf1 hf2 hN h0
    have HB1 := Lib.hid (HB0.out.trans (hb.mono HB0.out.size))
    clear hb
    go_wp2_with fail
    refine (refUnder_none _ _ _).mono ?_; rintro e w2 ⟨zN, za1, zn1, zc1, za2, zn2, zc2, rfl, hw, hf1, hf2, hN, h0, hb⟩
    obtain ⟨rfl, rfl, rfl, rfl, rfl, rfl, rfl⟩ := h0 rfl
    clear hw hf1 hf2 hN h0
    have HB2 := Lib.hid (HB1.out.trans (hb.mono HB1.out.size))
    clear hb
    have hy := (HB2.out.block _ (by have := HSZ.out; omega)).trans HY0.out
    obtain ⟨⟨p0, p1, p2⟩, f3, f4, f5⟩ := cellsq hy
    obtain ⟨w9, e9, ⟨r0, r1, r2⟩, hk, hs, hbl, _⟩ := set3q hy (.int .i64 0) (.slice none 0 0) (.slice none 0 0)
    have HE9 := Lib.hid e9
    have HR := Lib.hid (And.intro r0 (And.intro r1 r2))
    have HBE := Lib.hid (hbl W W.heap.size (by omega) (HBX.out.trans (HB2.out.mono HBX.out.size)))
    have HWC := Lib.hid (wc_none w9)
    clear hy e9 r0 r1 r2 hk hs hbl
    go_wp2
    rw [HE9.out]
    have r0 : w9.cell? _ = _ := HR.out.1
    have r1 : w9.cell? _ = _ := HR.out.2.1
    have r2 : w9.cell? _ = _ := HR.out.2.2
    refine bodyPost_ret (v := .agg #[.int .i64 0, .slice none 0 0, .slice none 0 0]) (by simp [results, Tryd.results75, go_sem, r0, r1, r2]) rfl ?_
    rw [HS.out]; exact ⟨_, _, _, _, _, _, _, rfl, HWC.out, fr_none, fr_none, rfl, (fun _ => ⟨rfl, rfl, rfl, rfl, rfl, rfl, rfl⟩), HBE.out⟩

set_option maxHeartbeats 8000000 in
theorem refWFault_any (op : ByteArray) (k most : Int) (a : Option Addr) (n c : Nat) (l : List Int) (W : World) (hA : RK .i64 W a n l) (hm : n ≤ maxLen) :
    Calls Tryd.prog 77 #[.string op, .int .i64 k, .slice a n c, .int .i64 most] W (RefRet W (wfaultD op k l most)) := by
  have HL := Lib.hid hA.len
  have hmB := Lib.hid hm
  have hm' : n ≤ 9223372036854775807 := hm
  clear hm
  obtain ⟨w0, hw0⟩ : ∃ w0, W.alloc (.cells #[.int .i64 0, .slice none 0 0, .slice none 0 0] 53) = w0 := ⟨_, rfl⟩
  have HSZ : Hid (w0.heap.size = W.heap.size + 1) := by show _ = _; rw [← hw0]; simp
  have HY0 : Hid (w0.heap[W.heap.size]? = some (.cells #[.int .i64 0, .slice none 0 0, .slice none 0 0] 53)) := by show _ = _; rw [← hw0]; have h := heap_alloc_new (W) (.cells #[.int .i64 0, .slice none 0 0, .slice none 0 0] 53); simpa using h
  have HBX : Hid (Below W.heap.size W w0) := by show Below _ _ _; rw [← hw0]; exact balloc (bnil W) _
  have HB0 := Lib.hid (bnil w0)
  have HWB := Lib.hid hw0
  have HA := Lib.hid (hA.up HBX.out)
  clear hw0 hA
  by_cases hbig : most < (n : Int)
  · have HS : Hid (wfaultD op k l most = some ([(op, 1)], 4)) := by show _ = _; unfold wfaultD; rw [← HL.out]; simp [hbig]
    go_enter Tryd.func77, Tryd.ntmps77
    go_wp2_with fail
    rw [HWB.out]
    refine (rawNewq op _ _ _ rfl).mono ?_; rintro e w1 ⟨vN, va1, vn1, vc1, va2, vn2, vc2, rfl, hw, hf1, hf2, hN, h0, hb⟩
    have HWv1 := Lib.hid hw
    have HFv : Hid (Fr (W.heap.size + 1) va1 ∧ Fr (W.heap.size + 1) va2) := ⟨hf1.base (by have := HSZ.out; have := HB0.out.size; omega), hf2.base (by have := HSZ.out; have := HB0.out.size; omega)⟩
    have HNv : Hid ((vN != 0) = true) := hN
    clear hw hf1 hf2 hN h0
    have HB1 := Lib.hid (HB0.out.trans (hb.mono HB0.out.size))
    clear hb
    have hy := (HB1.out.block _ (by have := HSZ.out; omega)).trans HY0.out
    obtain ⟨⟨p0, p1, p2⟩, f3, f4, f5⟩ := cellsq hy
    obtain ⟨w9, e9, ⟨r0, r1, r2⟩, hk, hs, hbl, _⟩ := set3q hy (.int .i64 vN) (.slice va1 vn1 vc1) (.slice va2 vn2 vc2)
    have HE9 := Lib.hid e9
    have HR := Lib.hid (And.intro r0 (And.intro r1 r2))
    have HBE := Lib.hid (hbl W W.heap.size (by omega) (HBX.out.trans (HB1.out.mono HBX.out.size)))
    have HWC : Hid (WC w9 (.agg #[.int .i64 vN, .slice va1 vn1 vc1, .slice va2 vn2 vc2]) _) := Lib.hid (HWv1.out.other hk hs HFv.out.1 HFv.out.2)
    clear hy e9 r0 r1 r2 hk hs hbl
    go_wp2
    rw [HE9.out]
    have r0 : w9.cell? _ = _ := HR.out.1
    have r1 : w9.cell? _ = _ := HR.out.2.1
    have r2 : w9.cell? _ = _ := HR.out.2.2
    refine bodyPost_ret (v := .agg #[.int .i64 vN, .slice va1 vn1 vc1, .slice va2 vn2 vc2]) (by simp [results, Tryd.results77, go_sem, r0, r1, r2]) rfl ?_
    rw [HS.out]; exact ⟨_, _, _, _, _, _, _, rfl, HWC.out, HFv.out.1.base (by omega), HFv.out.2.base (by omega), HNv.out, (fun h => by cases h), HBE.out⟩
  obtain ⟨i, hi⟩ : ∃ i, idxI (badB k) l = i := ⟨_, rfl⟩
  have HI := Lib.hid hi
  by_cases h0 : 0 ≤ i
  · have HS : Hid (wfaultD op k l most = some ([(op, i)], 2)) := by show _ = _; unfold wfaultD; rw [← HL.out, hi, if_neg hbig, if_pos h0]
    clear hi
    go_enter Tryd.func77, Tryd.ntmps77
    go_wp2_with fail
    rw [HWB.out]
    refine (refBad_any k a n c l w0 HA.out hmB.out).mono ?_; rintro e w1 ⟨rfl, rfl⟩
    rw [HI.out]
    go_wp2_with fail
    refine (rawNewq op _ _ _ rfl).mono ?_; rintro e w1 ⟨vN, va1, vn1, vc1, va2, vn2, vc2, rfl, hw, hf1, hf2, hN, h0, hb⟩
    have HWv1 := Lib.hid hw
    have HFv : Hid (Fr (W.heap.size + 1) va1 ∧ Fr (W.heap.size + 1) va2) := ⟨hf1.base (by have := HSZ.out; have := HB0.out.size; omega), hf2.base (by have := HSZ.out; have := HB0.out.size; omega)⟩
    have HNv : Hid ((vN != 0) = true) := hN
    clear hw hf1 hf2 hN h0
    have HB1 := Lib.hid (HB0.out.trans (hb.mono HB0.out.size))
    clear hb
    have hy := (HB1.out.block _ (by have := HSZ.out; omega)).trans HY0.out
    obtain ⟨⟨p0, p1, p2⟩, f3, f4, f5⟩ := cellsq hy
    obtain ⟨w9, e9, ⟨r0, r1, r2⟩, hk, hs, hbl, _⟩ := set3q hy (.int .i64 vN) (.slice va1 vn1 vc1) (.slice va2 vn2 vc2)
    have HE9 := Lib.hid e9
    have HR := Lib.hid (And.intro r0 (And.intro r1 r2))
    have HBE := Lib.hid (hbl W W.heap.size (by omega) (HBX.out.trans (HB1.out.mono HBX.out.size)))
    have HWC : Hid (WC w9 (.agg #[.int .i64 vN, .slice va1 vn1 vc1, .slice va2 vn2 vc2]) _) := Lib.hid (HWv1.out.other hk hs HFv.out.1 HFv.out.2)
    clear hy e9 r0 r1 r2 hk hs hbl
    go_wp2
    rw [HE9.out]
    have r0 : w9.cell? _ = _ := HR.out.1
    have r1 : w9.cell? _ = _ := HR.out.2.1
    have r2 : w9.cell? _ = _ := HR.out.2.2
    refine bodyPost_ret (v := .agg #[.int .i64 vN, .slice va1 vn1 vc1, .slice va2 vn2 vc2]) (by simp [results, Tryd.results77, go_sem, r0, r1, r2]) rfl ?_
    rw [HS.out]; exact ⟨_, _, _, _, _, _, _, rfl, HWC.out, HFv.out.1.base (by omega), HFv.out.2.base (by omega), HNv.out, (fun h => by cases h), HBE.out⟩
  · have HS : Hid (wfaultD op k l most = none) := by show _ = _; unfold wfaultD; rw [← HL.out, hi, if_neg hbig, if_neg h0]
    clear hi
    go_enter Tryd.func77, Tryd.ntmps77
    go_wp2_with fail
    rw [HWB.out]
    refine (refBad_any k a n c l w0 HA.out hmB.out).mono ?_; rintro e w1 ⟨rfl, rfl⟩
    rw [HI.out]
    have hy := (HB0.out.block _ (by have := HSZ.out; omega)).trans HY0.out
    obtain ⟨⟨p0, p1, p2⟩, f3, f4, f5⟩ := cellsq hy
    obtain ⟨w9, e9, ⟨r0, r1, r2⟩, hk, hs, hbl, _⟩ := set3q hy (.int .i64 0) (.slice none 0 0) (.slice none 0 0)
    have HE9 := Lib.hid e9
    have HR := Lib.hid (And.intro r0 (And.intro r1 r2))
    have HBE := Lib.hid (hbl W W.heap.size (by omega) (HBX.out.trans (HB0.out.mono HBX.out.size)))
    have HWC := Lib.hid (wc_none w9)
    clear hy e9 r0 r1 r2 hk hs hbl
    go_wp2
    rw [HE9.out]
    have r0 : w9.cell? _ = _ := HR.out.1
    have r1 : w9.cell? _ = _ := HR.out.2.1
    have r2 : w9.cell? _ = _ := HR.out.2.2
    refine bodyPost_ret (v := .agg #[.int .i64 0, .slice none 0 0, .slice none 0 0]) (by simp [results, Tryd.results77, go_sem, r0, r1, r2]) rfl ?_
    rw [HS.out]; exact ⟨_, _, _, _, _, _, _, rfl, HWC.out, fr_none, fr_none, rfl, (fun _ => ⟨rfl, rfl, rfl, rfl, rfl, rfl, rfl⟩), HBE.out⟩
end Go.Proofs.YteneiianpghalaaDoor
namespace Go.Proofs.YteneiianpghalaaDoor
open Go.RowKit
set_option linter.unusedVariables false
set_option maxRecDepth 100000

/-- a number and an error of the document -/
def RefNv (W : World) (x : Nat) (f : ErrD) (e : Ending) (w' : World) : Prop :=
  ∃ a' n' c' N a1 n1 c1 a2 n2 c2, e = .returned (.tuple #[.slice a' n' c', .agg #[.int .i64 N, .slice a1 n1 c1, .slice a2 n2 c2]]) ∧ NR w' a' n' (limbs x) ∧ WC w' (.agg #[.int .i64 N, .slice a1 n1 c1, .slice a2 n2 c2]) f ∧ Below W.heap.size W w'
theorem nr_zero (w : World) : NR w none 0 (limbs 0) := ⟨RK.nil, fun x hx => by cases hx⟩
theorem own_heapQ {w w' : World} {B g n c : Nat} {a : Option Addr} {cs : List Value} (h : w.ownsRow B 95 1 (.slice a n c) n cs) (hk : ∀ k, k ≠ g → w'.heap[k]? = w.heap[k]?) (hg : g < B) : w'.ownsRow B 95 1 (.slice a n c) n cs :=
  own_of_heap h fun b hb => hk b (by have := (h.lt b hb).1; omega)
theorem nr_of_own {w : World} {B n c x : Nat} {a : Option Addr} (h : w.ownsRow B 95 1 (.slice a n c) n ((ofN (limbs x)).map (Value.int .u32))) : NR w a n (limbs x) := ⟨RK.of_own h, limbs_u32 x⟩
theorem faultD_none {op : ByteArray} {k r : Int} {l : List Int} (h : faultD op k r l = none) : ∃ kn rn : Nat, k = (kn : Int) ∧ r = (rn : Int) ∧ IsRule kn rn l ∧ l.length ≤ 256 := by
  unfold faultD at h
  cases h2 : smallD k r l with
  | some y => rw [h2] at h; cases h
  | none =>
    unfold smallD at h2
    cases h3 : ruleErr k r l with
    | some a =>
      have : ruleD k r l = some ([(opRule, a)], 1) := by unfold ruleD; rw [h3]; rfl
      rw [this] at h2
      cases h2
    | none =>
      have h4 : ruleD k r l = none := by unfold ruleD; rw [h3]; rfl
      rw [h4] at h2
      obtain ⟨kn, rn, rfl, rfl, hI⟩ := ruleErr_none h3
      refine ⟨kn, rn, rfl, rfl, hI, ?_⟩
      by_cases h5 : 256 < l.length
      · simp [h5] at h2
      · omega
theorem wfaultD_none {op : ByteArray} {k most : Int} {l : List Int} (h : wfaultD op k l most = none) : (l.length : Int) ≤ most ∧ ∀ x ∈ l, 0 ≤ x ∧ x < k := by
  unfold wfaultD at h
  by_cases h1 : most < (l.length : Int)
  · rw [if_pos h1] at h; cases h
  · rw [if_neg h1] at h
    by_cases h2 : 0 ≤ idxI (badB k) l
    · rw [if_pos h2] at h; cases h
    · exact ⟨by omega, fun x hx => badB_false.1 (idxI_neg h2 x hx)⟩
theorem fwd_congrP {k N : Nat} {p q : Nat → Nat → Bool} {A : Nat → Nat} : ∀ n, (∀ i x, i < n → p i x = q i x) → fwd k N p A n = fwd k N q A n
  | 0, _ => rfl
  | n + 1, h => by
    have ih := fwd_congrP (k := k) (N := N) (A := A) n fun i x hi => h i x (by omega)
    show fwdC k N (p n) (fwd k N p A n) (N * k) = fwdC k N (q n) (fwd k N q A n) (N * k)
    rw [ih, show p n = q n from funext fun x => h n x (by omega)]
theorem pL_word {k r : Nat} {tb wl : List Int} (h : ∀ x ∈ wl, 0 ≤ x) : pL k r tb wl = fitW tb wl := by
  funext i x
  unfold pL fitW
  have h0 : ¬ wl.getD i 0 < 0 := by
    by_cases hi : i < wl.length
    · have := h (wl.getD i 0) (by simp [hi])
      omega
    · simp [List.getElem?_eq_none (show wl.length ≤ i by omega)]
  rw [if_neg h0]
theorem pL_mid {k r n : Nat} {tb : List Int} {i x : Nat} (hi : i < n) : pL k r tb (List.replicate n (-1)) i x = fitF k (k ^ r) tb i x := by
  unfold pL fitF
  have h0 : (List.replicate n (-1 : Int)).getD i 0 = -1 := by simp [hi]
  rw [h0, if_pos (by decide)]
/-- what is answered: how many, and the fault -/
def wordsE (k r : Int) (tb wl : List Int) : ErrD := if (faultD opCount k r tb).isSome = true then faultD opCount k r tb else wfaultD opCount k wl 256
def wordsX (k r : Int) (tb wl : List Int) : Nat := if (wordsE k r tb wl).isSome = true then 0 else wordsC k.toNat (k.toNat ^ (2 * r.toNat)) tb wl
def ringsE (k r : Int) (tb wl : List Int) : ErrD := if (faultD opCount k r tb).isSome = true then faultD opCount k r tb else if wl.length = 0 then some ([(opCount, 1)], 3) else wfaultD opCount k wl 64
def ringsX (k r : Int) (tb wl : List Int) : Nat := if (ringsE k r tb wl).isSome = true then 0 else ringsC k.toNat (k.toNat ^ (2 * r.toNat)) (k.toNat ^ (2 * r.toNat) * k.toNat) wl.length (fitW tb wl) (k.toNat ^ (2 * r.toNat))
def fixedE (k r : Int) (tb : List Int) (n : Int) : ErrD := if (faultD opCount k r tb).isSome = true then faultD opCount k r tb else if n < 1 then some ([(opCount, 1)], 3) else if 64 < n then some ([(opCount, 1)], 4) else none
def fixedX (k r : Int) (tb : List Int) (n : Int) : Nat := if (fixedE k r tb n).isSome = true then 0 else ringsC k.toNat (k.toNat ^ (2 * r.toNat)) (k.toNat ^ (2 * r.toNat) * k.toNat) n.toNat (fitF k.toNat (k.toNat ^ r.toNat) tb) (k.toNat ^ (2 * r.toNat))


set_option maxHeartbeats 8000000 in
theorem refWords_any (k r : Int) (a aw : Option Addr) (T c n cw : Nat) (tb wl : List Int) (W : World) (hT : RK .i64 W a T tb) (hA : RK .i64 W aw n wl) (hm : T ≤ maxLen) (hn : n ≤ maxLen) :
    Calls Tryd.prog 25 #[ruleV k r a T c, .slice aw n cw] W (RefNv W (wordsX k r tb wl) (wordsE k r tb wl)) := by
  have HLT := Lib.hid hT.len
  have HLA := Lib.hid hA.len
  have HM := Lib.hid hm
  have HMA := Lib.hid hn
  have hn' : n ≤ 9223372036854775807 := hn
  clear hm hn
  obtain ⟨w0, hw0⟩ : ∃ w0, (W.alloc (.cells #[.int .i64 k, .int .i64 r, .slice a T c] 24)).alloc (.cells #[.int .i64 0, .slice none 0 0, .slice none 0 0] 53) = w0 := ⟨_, rfl⟩
  have HSZ : Hid (w0.heap.size = W.heap.size + 2) := by show _ = _; rw [← hw0]; simp
  have HY0 : Hid (w0.heap[W.heap.size + 1]? = some (.cells #[.int .i64 0, .slice none 0 0, .slice none 0 0] 53)) := by show _ = _; rw [← hw0]; have h := heap_alloc_new ((W.alloc (.cells #[.int .i64 k, .int .i64 r, .slice a T c] 24))) (.cells #[.int .i64 0, .slice none 0 0, .slice none 0 0] 53); simpa using h
  have HP0 : Hid (w0.heap[W.heap.size]? = some (.cells #[.int .i64 k, .int .i64 r, .slice a T c] 24)) := by
    show _ = _
    rw [← hw0]
    rw [heap_alloc_old _ _ (by simp)]
    have h := heap_alloc_new (W) (.cells #[.int .i64 k, .int .i64 r, .slice a T c] 24)
    simpa using h
  have HBX : Hid (Below W.heap.size W w0) := by show Below _ _ _; rw [← hw0]; exact balloc (balloc (bnil W) _) _
  have HB0 := Lib.hid (bnil w0)
  have HWB := Lib.hid hw0
  have HT := Lib.hid (hT.up HBX.out)
  have HA := Lib.hid (hA.up HBX.out)
  clear hw0 hT hA
  have hcf := refFault_any opCount k r a T c tb w0 HT.out HM.out
  cases hd : faultD opCount k r tb with
  | some y =>
    rw [hd] at hcf
    have HCF := Lib.hid hcf
    have HS : Hid (wordsE k r tb wl = some y) := by show _ = _; unfold wordsE; rw [hd]; rfl
    have HX0 : Hid (wordsX k r tb wl = 0) := by show _ = _; unfold wordsX; rw [HS.out]; rfl
    clear hd hcf
    go_enter Tryd.func25, Tryd.ntmps25
    obtain ⟨⟨x0, x1, x2⟩, y0, y1, y2⟩ := cellsq HP0.out
    rw [← HWB.out] at x0 x1 x2 y0 y1 y2
    go_wp2_with fail
    rw [HWB.out]
    clear x0 x1 x2 y0 y1 y2
    refine (HCF.out).mono ?_; rintro e w1 ⟨vN, va1, vn1, vc1, va2, vn2, vc2, rfl, hw, hf1, hf2, hN, h0, hb⟩
    have HWv1 := Lib.hid hw
    have HFv : Hid (Fr (W.heap.size + 1 + 1) va1 ∧ Fr (W.heap.size + 1 + 1) va2) := ⟨hf1.base (by have := HSZ.out; have := HB0.out.size; omega), hf2.base (by have := HSZ.out; have := HB0.out.size; omega)⟩
    have HNv : Hid ((vN != 0) = true) := hN
    clear hw hf1 hf2 hN h0
    have HB1 := Lib.hid (HB0.out.trans (hb.mono HB0.out.size))
    clear hb
    go_wp2_with fail
    obtain ⟨g1, hg1⟩ : ∃ g1, w1.heap.size = g1 := ⟨_, rfl⟩
    obtain ⟨w2, hw⟩ : ∃ w2, w1.alloc (.cells #[.int .i64 vN, .slice va1 vn1 vc1, .slice va2 vn2 vc2] 53) = w2 := ⟨_, rfl⟩
    have hb : Below w1.heap.size w1 w2 := by rw [← hw]; exact balloc (bnil w1) _
    have HZ2 : Hid (w2.heap[g1]? = some (.cells #[.int .i64 vN, .slice va1 vn1 vc1, .slice va2 vn2 vc2] 53)) := by show _ = _; rw [← hw, ← hg1]; exact heap_alloc_new w1 _
    have HG1 : Hid (W.heap.size + 1 + 1 ≤ g1) := by show _ ≤ _; have := HSZ.out; have := HB1.out.size; omega
    rw [hw]
    simp only [hg1]
    clear hw hg1
    have HB2 := Lib.hid (HB1.out.trans (hb.mono HB1.out.size))
    have HWv2 := Lib.hid (HWv1.out.up hb)
    clear hb
    obtain ⟨⟨q0, q1, q2⟩, f0, f1, f2⟩ := cellsq HZ2.out
    go_wp2_with fail
    clear q0 q1 q2 f0 f1 f2
    refine (refBadq vN _ _ _ true HNv.out).mono ?_; rintro e w3 ⟨rfl, hb⟩
    have HB3 := Lib.hid (HB2.out.trans (hb.mono HB2.out.size))
    have HZ3 := Lib.hid ((hb.block _ (heap_ltQ HZ2.out)).trans HZ2.out)
    have HWv3 := Lib.hid (HWv2.out.up hb)
    clear hb
    obtain ⟨⟨q0, q1, q2⟩, f0, f1, f2⟩ := cellsq HZ3.out
    obtain ⟨⟨x0, x1, x2⟩, y0, y1, y2⟩ := cellsq ((HB3.out.block _ (heap_ltQ HP0.out)).trans HP0.out)
    go_wp2_with fail
    clear q0 q1 q2 f0 f1 f2
    clear x0 x1 x2 y0 y1 y2
    refine (refBadq vN _ _ _ true HNv.out).mono ?_; rintro e w4 ⟨rfl, hb⟩
    have HB4 := Lib.hid (HB3.out.trans (hb.mono HB3.out.size))
    have HZ4 := Lib.hid ((hb.block _ (heap_ltQ HZ3.out)).trans HZ3.out)
    have HWv4 := Lib.hid (HWv3.out.up hb)
    clear hb
    obtain ⟨⟨q0, q1, q2⟩, f0, f1, f2⟩ := cellsq HZ4.out
    have hy := (HB4.out.block _ (by have := HSZ.out; omega)).trans HY0.out
    obtain ⟨⟨p0, p1, p2⟩, f3, f4, f5⟩ := cellsq hy
    obtain ⟨w9, e9, ⟨r0, r1, r2⟩, hk, hs, hbl, _⟩ := set3q hy (.int .i64 vN) (.slice va1 vn1 vc1) (.slice va2 vn2 vc2)
    have HE9 := Lib.hid e9
    have HR := Lib.hid (And.intro r0 (And.intro r1 r2))
    have HBE := Lib.hid (hbl W W.heap.size (by omega) (HBX.out.trans (HB4.out.mono HBX.out.size)))
    have HWC : Hid (WC w9 (.agg #[.int .i64 vN, .slice va1 vn1 vc1, .slice va2 vn2 vc2]) _) := Lib.hid (HWv4.out.other hk hs HFv.out.1 HFv.out.2)
    clear hy e9 r0 r1 r2 hk hs hbl
    go_wp2
    go_region
    all_goals
      go_wp2
      rw [HE9.out]
      have r0 : w9.drew.cell? _ = _ := HR.out.1
      have r1 : w9.drew.cell? _ = _ := HR.out.2.1
      have r2 : w9.drew.cell? _ = _ := HR.out.2.2
      refine bodyPost_ret (v := .tuple #[.slice none 0 0, .agg #[.int .i64 vN, .slice va1 vn1 vc1, .slice va2 vn2 vc2]]) (by simp [results, Tryd.results25, go_sem, r0, r1, r2]) rfl ?_
      rw [HS.out]; exact ⟨none, 0, 0, _, _, _, _, _, _, _, rfl, by rw [HX0.out]; exact nr_zero _, (HWC.out.up (bnil w9).drew), (HBE.out.drew)⟩
  | none =>
    rw [hd] at hcf
    have HCF := Lib.hid hcf
    obtain ⟨kn, rn, rfl, rfl, hI, h256⟩ := faultD_none hd
    have HI := Lib.hid hI
    have HT256 : Hid (T ≤ 256) := by show _ ≤ _; rw [HLT.out]; exact h256
    cases hw : wfaultD opCount kn wl 256 with
    | some y =>
      have HS : Hid (wordsE kn rn tb wl = some y) := by show _ = _; unfold wordsE; rw [hd]; exact hw
      have HX0 : Hid (wordsX kn rn tb wl = 0) := by show _ = _; unfold wordsX; rw [HS.out]; rfl
      have HCW : Hid (∀ V, Below w0.heap.size w0 V → Calls Tryd.prog 77 #[.string opCount, .int .i64 kn, .slice aw n cw, .int .i64 256] V (RefRet V (some y))) := fun V hV => by rw [← hw]; exact refWFault_any opCount kn 256 aw n cw wl V (HA.out.up hV) HMA.out
      clear hd hcf hw hI h256
      go_enter Tryd.func25, Tryd.ntmps25
      obtain ⟨⟨x0, x1, x2⟩, y0, y1, y2⟩ := cellsq HP0.out
      rw [← HWB.out] at x0 x1 x2 y0 y1 y2
      go_wp2_with fail
      rw [HWB.out]
      clear x0 x1 x2 y0 y1 y2
      refine (HCF.out).mono ?_; rintro e w1 ⟨zN, za1, zn1, zc1, za2, zn2, zc2, rfl, hw, hf1, hf2, hN, h0, hb⟩
      obtain ⟨rfl, rfl, rfl, rfl, rfl, rfl, rfl⟩ := h0 rfl
      clear hw hf1 hf2 hN h0
      have HB1 := Lib.hid (HB0.out.trans (hb.mono HB0.out.size))
      clear hb
      go_wp2_with fail
      obtain ⟨g1, hg1⟩ : ∃ g1, w1.heap.size = g1 := ⟨_, rfl⟩
      obtain ⟨w2, hw⟩ : ∃ w2, w1.alloc (.cells #[.int .i64 0, .slice none 0 0, .slice none 0 0] 53) = w2 := ⟨_, rfl⟩
      have hb : Below w1.heap.size w1 w2 := by rw [← hw]; exact balloc (bnil w1) _
      have HZ2 : Hid (w2.heap[g1]? = some (.cells #[.int .i64 0, .slice none 0 0, .slice none 0 0] 53)) := by show _ = _; rw [← hw, ← hg1]; exact heap_alloc_new w1 _
      have HG1 : Hid (W.heap.size + 1 + 1 ≤ g1) := by show _ ≤ _; have := HSZ.out; have := HB1.out.size; omega
      rw [hw]
      simp only [hg1]
      clear hw hg1
      have HB2 := Lib.hid (HB1.out.trans (hb.mono HB1.out.size))
      clear hb
      obtain ⟨⟨q0, q1, q2⟩, f0, f1, f2⟩ := cellsq HZ2.out
      go_wp2_with fail
      clear q0 q1 q2 f0 f1 f2
      refine (refBadq 0 _ _ _ false rfl).mono ?_; rintro e w3 ⟨rfl, hb⟩
      have HB3 := Lib.hid (HB2.out.trans (hb.mono HB2.out.size))
      have HZ3 := Lib.hid ((hb.block _ (heap_ltQ HZ2.out)).trans HZ2.out)
      clear hb
      obtain ⟨⟨x0, x1, x2⟩, y0, y1, y2⟩ := cellsq ((HB3.out.block _ (heap_ltQ HP0.out)).trans HP0.out)
      go_wp2_with fail
      clear x0 x1 x2 y0 y1 y2
      refine (HCW.out _ HB3.out).mono ?_; rintro e w4 ⟨vN, va1, vn1, vc1, va2, vn2, vc2, rfl, hw, hf1, hf2, hN, h0, hb⟩
      have HWv4 := Lib.hid hw
      have HFv : Hid (Fr (W.heap.size + 1 + 1) va1 ∧ Fr (W.heap.size + 1 + 1) va2) := ⟨hf1.base (by have := HSZ.out; have := HB3.out.size; omega), hf2.base (by have := HSZ.out; have := HB3.out.size; omega)⟩
      have HNv : Hid ((vN != 0) = true) := hN
      have HGv : Hid (Fr (g1 + 1) va1 ∧ Fr (g1 + 1) va2) := ⟨hf1.base (heap_ltQ HZ3.out), hf2.base (heap_ltQ HZ3.out)⟩
      clear hw hf1 hf2 hN h0
      have HB4 := Lib.hid (HB3.out.trans (hb.mono HB3.out.size))
      have HZ4 := Lib.hid ((hb.block _ (heap_ltQ HZ3.out)).trans HZ3.out)
      clear hb
      obtain ⟨⟨q0, q1, q2⟩, f0, f1, f2⟩ := cellsq HZ4.out
      obtain ⟨w5, e9, _, hk, hs, hbl, hzz⟩ := set3q HZ4.out (.int .i64 vN) (.slice va1 vn1 vc1) (.slice va2 vn2 vc2)
      have HE5 := Lib.hid e9
      have HZ5 := Lib.hid hzz
      have HB5 := Lib.hid (hbl w0 w0.heap.size (by have := HSZ.out; have := HG1.out; omega) HB4.out)
      have HWv5 := Lib.hid (HWv4.out.other hk hs (HGv.out.1) (HGv.out.2))
      clear e9 hk hs hbl hzz
      go_wp2_with fail
      rw [HE5.out]
      clear q0 q1 q2 f0 f1 f2
      obtain ⟨⟨q0, q1, q2⟩, f0, f1, f2⟩ := cellsq HZ5.out
      go_wp2_with fail
      clear q0 q1 q2 f0 f1 f2
      refine (refBadq vN _ _ _ true HNv.out).mono ?_; rintro e w6 ⟨rfl, hb⟩
      have HB6 := Lib.hid (HB5.out.trans (hb.mono HB5.out.size))
      have HZ6 := Lib.hid ((hb.block _ (heap_ltQ HZ5.out)).trans HZ5.out)
      have HWv6 := Lib.hid (HWv5.out.up hb)
      clear hb
      obtain ⟨⟨q0, q1, q2⟩, f0, f1, f2⟩ := cellsq HZ6.out
      have hy := (HB6.out.block _ (by have := HSZ.out; omega)).trans HY0.out
      obtain ⟨⟨p0, p1, p2⟩, f3, f4, f5⟩ := cellsq hy
      obtain ⟨w9, e9, ⟨r0, r1, r2⟩, hk, hs, hbl, _⟩ := set3q hy (.int .i64 vN) (.slice va1 vn1 vc1) (.slice va2 vn2 vc2)
      have HE9 := Lib.hid e9
      have HR := Lib.hid (And.intro r0 (And.intro r1 r2))
      have HBE := Lib.hid (hbl W W.heap.size (by omega) (HBX.out.trans (HB6.out.mono HBX.out.size)))
      have HWC : Hid (WC w9 (.agg #[.int .i64 vN, .slice va1 vn1 vc1, .slice va2 vn2 vc2]) _) := Lib.hid (HWv6.out.other hk hs HFv.out.1 HFv.out.2)
      clear hy e9 r0 r1 r2 hk hs hbl
      go_wp2
      go_region
      all_goals
        go_wp2
        rw [HE9.out]
        have r0 : w9.drew.cell? _ = _ := HR.out.1
        have r1 : w9.drew.cell? _ = _ := HR.out.2.1
        have r2 : w9.drew.cell? _ = _ := HR.out.2.2
        refine bodyPost_ret (v := .tuple #[.slice none 0 0, .agg #[.int .i64 vN, .slice va1 vn1 vc1, .slice va2 vn2 vc2]]) (by simp [results, Tryd.results25, go_sem, r0, r1, r2]) rfl ?_
        rw [HS.out]; exact ⟨none, 0, 0, _, _, _, _, _, _, _, rfl, by rw [HX0.out]; exact nr_zero _, (HWC.out.up (bnil w9).drew), (HBE.out.drew)⟩
    | none =>
      obtain ⟨hl, hsy⟩ := wfaultD_none hw
      have hn256 : n ≤ 256 := by rw [HLA.out]; omega
      have HS : Hid (wordsE kn rn tb wl = none) := by show _ = _; unfold wordsE; rw [hd]; exact hw
      have HXV : Hid (sumTo (kn ^ (2 * rn)) (fwd kn (kn ^ (2 * rn)) (pL kn rn tb wl) (fun _ => 1) n) = wordsX kn rn tb wl) := by
        show _ = _
        unfold wordsX
        rw [HS.out, pL_word fun x hx => (hsy x hx).1, HLA.out, fwd_words (by have := hI.k1; omega) (Nat.pow_pos (by have := hI.k1; omega))]
        rfl
      have HCW : Hid (∀ V, Below w0.heap.size w0 V → Calls Tryd.prog 77 #[.string opCount, .int .i64 kn, .slice aw n cw, .int .i64 256] V (RefRet V none)) := fun V hV => by rw [← hw]; exact refWFault_any opCount kn 256 aw n cw wl V (HA.out.up hV) HMA.out
      have HOF := Lib.hid (fun (V : World) (hV : Below w0.heap.size w0 V) => of_any kn rn (kn ^ (2 * rn)) a aw T c n cw tb wl V (HT.out.up hV) HI.out HT256.out rfl (HA.out.up hV) hn256)
      clear hd hcf hw hI h256 hl hsy
      go_enter Tryd.func25, Tryd.ntmps25
      obtain ⟨⟨x0, x1, x2⟩, y0, y1, y2⟩ := cellsq HP0.out
      rw [← HWB.out] at x0 x1 x2 y0 y1 y2
      go_wp2_with fail
      rw [HWB.out]
      clear x0 x1 x2 y0 y1 y2
      refine (HCF.out).mono ?_; rintro e w1 ⟨zN, za1, zn1, zc1, za2, zn2, zc2, rfl, hw, hf1, hf2, hN, h0, hb⟩
      obtain ⟨rfl, rfl, rfl, rfl, rfl, rfl, rfl⟩ := h0 rfl
      clear hw hf1 hf2 hN h0
      have HB1 := Lib.hid (HB0.out.trans (hb.mono HB0.out.size))
      clear hb
      go_wp2_with fail
      obtain ⟨g1, hg1⟩ : ∃ g1, w1.heap.size = g1 := ⟨_, rfl⟩
      obtain ⟨w2, hw⟩ : ∃ w2, w1.alloc (.cells #[.int .i64 0, .slice none 0 0, .slice none 0 0] 53) = w2 := ⟨_, rfl⟩
      have hb : Below w1.heap.size w1 w2 := by rw [← hw]; exact balloc (bnil w1) _
      have HZ2 : Hid (w2.heap[g1]? = some (.cells #[.int .i64 0, .slice none 0 0, .slice none 0 0] 53)) := by show _ = _; rw [← hw, ← hg1]; exact heap_alloc_new w1 _
      have HG1 : Hid (W.heap.size + 1 + 1 ≤ g1) := by show _ ≤ _; have := HSZ.out; have := HB1.out.size; omega
      rw [hw]
      simp only [hg1]
      clear hw hg1
      have HB2 := Lib.hid (HB1.out.trans (hb.mono HB1.out.size))
      clear hb
      obtain ⟨⟨q0, q1, q2⟩, f0, f1, f2⟩ := cellsq HZ2.out
      go_wp2_with fail
      clear q0 q1 q2 f0 f1 f2
      refine (refBadq 0 _ _ _ false rfl).mono ?_; rintro e w3 ⟨rfl, hb⟩
      have HB3 := Lib.hid (HB2.out.trans (hb.mono HB2.out.size))
      have HZ3 := Lib.hid ((hb.block _ (heap_ltQ HZ2.out)).trans HZ2.out)
      clear hb
      obtain ⟨⟨x0, x1, x2⟩, y0, y1, y2⟩ := cellsq ((HB3.out.block _ (heap_ltQ HP0.out)).trans HP0.out)
      go_wp2_with fail
      clear x0 x1 x2 y0 y1 y2
      refine (HCW.out _ HB3.out).mono ?_; rintro e w4 ⟨zN, za1, zn1, zc1, za2, zn2, zc2, rfl, hw, hf1, hf2, hN, h0, hb⟩
      obtain ⟨rfl, rfl, rfl, rfl, rfl, rfl, rfl⟩ := h0 rfl
      clear hw hf1 hf2 hN h0
      have HB4 := Lib.hid (HB3.out.trans (hb.mono HB3.out.size))
      have HZ4 := Lib.hid ((hb.block _ (heap_ltQ HZ3.out)).trans HZ3.out)
      clear hb
      obtain ⟨⟨q0, q1, q2⟩, f0, f1, f2⟩ := cellsq HZ4.out
      obtain ⟨w5, e9, _, hk, hs, hbl, hzz⟩ := set3q HZ4.out (.int .i64 0) (.slice none 0 0) (.slice none 0 0)
      have HE5 := Lib.hid e9
      have HZ5 := Lib.hid hzz
      have HB5 := Lib.hid (hbl w0 w0.heap.size (by have := HSZ.out; have := HG1.out; omega) HB4.out)
      clear e9 hk hs hbl hzz
      go_wp2_with fail
      rw [HE5.out]
      clear q0 q1 q2 f0 f1 f2
      obtain ⟨⟨q0, q1, q2⟩, f0, f1, f2⟩ := cellsq HZ5.out
      go_wp2_with fail
      clear q0 q1 q2 f0 f1 f2
      refine (refBadq 0 _ _ _ false rfl).mono ?_; rintro e w6 ⟨rfl, hb⟩
      have HB6 := Lib.hid (HB5.out.trans (hb.mono HB5.out.size))
      have HZ6 := Lib.hid ((hb.block _ (heap_ltQ HZ5.out)).trans HZ5.out)
      clear hb
      obtain ⟨⟨x0, x1, x2⟩, y0, y1, y2⟩ := cellsq ((HB6.out.block _ (heap_ltQ HP0.out)).trans HP0.out)
      go_wp2_with fail
      clear x0 x1 x2 y0 y1 y2
      refine (HOF.out _ HB6.out).mono ?_; rintro e w7 ⟨a7, n7, c7, rfl, ho7, hb⟩
      rw [HXV.out] at ho7
      have HO7 := Lib.hid (owns_base ho7 (show W.heap.size + 1 + 1 ≤ _ by have := HSZ.out; have := HB6.out.size; omega))
      clear ho7
      have HB7 := Lib.hid (HB6.out.trans (hb.mono HB6.out.size))
      have HZ7 := Lib.hid ((hb.block _ (heap_ltQ HZ6.out)).trans HZ6.out)
      clear hb
      obtain ⟨⟨q0, q1, q2⟩, f0, f1, f2⟩ := cellsq HZ7.out
      have hy := (HB7.out.block _ (by have := HSZ.out; omega)).trans HY0.out
      obtain ⟨⟨p0, p1, p2⟩, f3, f4, f5⟩ := cellsq hy
      obtain ⟨w9, e9, ⟨r0, r1, r2⟩, hk, hs, hbl, _⟩ := set3q hy (.int .i64 0) (.slice none 0 0) (.slice none 0 0)
      have HE9 := Lib.hid e9
      have HR := Lib.hid (And.intro r0 (And.intro r1 r2))
      have HBE := Lib.hid (hbl W W.heap.size (by omega) (HBX.out.trans (HB7.out.mono HBX.out.size)))
      have HWC := Lib.hid (wc_none w9)
      have HNR := Lib.hid (nr_of_own (own_heapQ HO7.out hk (by have := HSZ.out; have := HG1.out; omega)))
      clear hy e9 r0 r1 r2 hk hs hbl
      go_wp2
      rw [HE9.out]
      have r0 : w9.cell? _ = _ := HR.out.1
      have r1 : w9.cell? _ = _ := HR.out.2.1
      have r2 : w9.cell? _ = _ := HR.out.2.2
      refine bodyPost_ret (v := .tuple #[.slice a7 n7 c7, .agg #[.int .i64 0, .slice none 0 0, .slice none 0 0]]) (by simp [results, Tryd.results25, go_sem, r0, r1, r2]) rfl ?_
      rw [HS.out]; exact ⟨a7, n7, c7, 0, none, 0, 0, none, 0, 0, rfl, HNR.out, HWC.out, HBE.out⟩

set_option maxHeartbeats 8000000 in
theorem refRings_any (k r : Int) (a aw : Option Addr) (T c n cw : Nat) (tb wl : List Int) (W : World) (hT : RK .i64 W a T tb) (hA : RK .i64 W aw n wl) (hm : T ≤ maxLen) (hn : n ≤ maxLen) :
    Calls Tryd.prog 30 #[ruleV k r a T c, .slice aw n cw] W (RefNv W (ringsX k r tb wl) (ringsE k r tb wl)) := by
  have HLT := Lib.hid hT.len
  have HLA := Lib.hid hA.len
  have HM := Lib.hid hm
  have HMA := Lib.hid hn
  have hn' : n ≤ 9223372036854775807 := hn
  clear hm hn
  obtain ⟨w0, hw0⟩ : ∃ w0, (W.alloc (.cells #[.int .i64 k, .int .i64 r, .slice a T c] 24)).alloc (.cells #[.int .i64 0, .slice none 0 0, .slice none 0 0] 53) = w0 := ⟨_, rfl⟩
  have HSZ : Hid (w0.heap.size = W.heap.size + 2) := by show _ = _; rw [← hw0]; simp
  have HY0 : Hid (w0.heap[W.heap.size + 1]? = some (.cells #[.int .i64 0, .slice none 0 0, .slice none 0 0] 53)) := by show _ = _; rw [← hw0]; have h := heap_alloc_new ((W.alloc (.cells #[.int .i64 k, .int .i64 r, .slice a T c] 24))) (.cells #[.int .i64 0, .slice none 0 0, .slice none 0 0] 53); simpa using h
  have HP0 : Hid (w0.heap[W.heap.size]? = some (.cells #[.int .i64 k, .int .i64 r, .slice a T c] 24)) := by
    show _ = _
    rw [← hw0]
    rw [heap_alloc_old _ _ (by simp)]
    have h := heap_alloc_new (W) (.cells #[.int .i64 k, .int .i64 r, .slice a T c] 24)
    simpa using h
  have HBX : Hid (Below W.heap.size W w0) := by show Below _ _ _; rw [← hw0]; exact balloc (balloc (bnil W) _) _
  have HB0 := Lib.hid (bnil w0)
  have HWB := Lib.hid hw0
  have HT := Lib.hid (hT.up HBX.out)
  have HA := Lib.hid (hA.up HBX.out)
  clear hw0 hT hA
  have hcf := refFault_any opCount k r a T c tb w0 HT.out HM.out
  cases hd : faultD opCount k r tb with
  | some y =>
    rw [hd] at hcf
    have HCF := Lib.hid hcf
    have HS : Hid (ringsE k r tb wl = some y) := by show _ = _; unfold ringsE; rw [hd]; rfl
    have HX0 : Hid (ringsX k r tb wl = 0) := by show _ = _; unfold ringsX; rw [HS.out]; rfl
    clear hd hcf
    go_enter Tryd.func30, Tryd.ntmps30
    obtain ⟨⟨x0, x1, x2⟩, y0, y1, y2⟩ := cellsq HP0.out
    rw [← HWB.out] at x0 x1 x2 y0 y1 y2
    go_wp2_with fail
    rw [HWB.out]
    clear x0 x1 x2 y0 y1 y2
    refine (HCF.out).mono ?_; rintro e w1 ⟨vN, va1, vn1, vc1, va2, vn2, vc2, rfl, hw, hf1, hf2, hN, h0, hb⟩
    have HWv1 := Lib.hid hw
    have HFv : Hid (Fr (W.heap.size + 1 + 1) va1 ∧ Fr (W.heap.size + 1 + 1) va2) := ⟨hf1.base (by have := HSZ.out; have := HB0.out.size; omega), hf2.base (by have := HSZ.out; have := HB0.out.size; omega)⟩
    have HNv : Hid ((vN != 0) = true) := hN
    clear hw hf1 hf2 hN h0
    have HB1 := Lib.hid (HB0.out.trans (hb.mono HB0.out.size))
    clear hb
    go_wp2_with fail
    obtain ⟨g1, hg1⟩ : ∃ g1, w1.heap.size = g1 := ⟨_, rfl⟩
    obtain ⟨w2, hw⟩ : ∃ w2, w1.alloc (.cells #[.int .i64 vN, .slice va1 vn1 vc1, .slice va2 vn2 vc2] 53) = w2 := ⟨_, rfl⟩
    have hb : Below w1.heap.size w1 w2 := by rw [← hw]; exact balloc (bnil w1) _
    have HZ2 : Hid (w2.heap[g1]? = some (.cells #[.int .i64 vN, .slice va1 vn1 vc1, .slice va2 vn2 vc2] 53)) := by show _ = _; rw [← hw, ← hg1]; exact heap_alloc_new w1 _
    have HG1 : Hid (W.heap.size + 1 + 1 ≤ g1) := by show _ ≤ _; have := HSZ.out; have := HB1.out.size; omega
    rw [hw]
    simp only [hg1]
    clear hw hg1
    have HB2 := Lib.hid (HB1.out.trans (hb.mono HB1.out.size))
    have HWv2 := Lib.hid (HWv1.out.up hb)
    clear hb
    obtain ⟨⟨q0, q1, q2⟩, f0, f1, f2⟩ := cellsq HZ2.out
    go_wp2_with fail
    clear q0 q1 q2 f0 f1 f2
    refine (refBadq vN _ _ _ true HNv.out).mono ?_; rintro e w3 ⟨rfl, hb⟩
    have HB3 := Lib.hid (HB2.out.trans (hb.mono HB2.out.size))
    have HZ3 := Lib.hid ((hb.block _ (heap_ltQ HZ2.out)).trans HZ2.out)
    have HWv3 := Lib.hid (HWv2.out.up hb)
    clear hb
    obtain ⟨⟨q0, q1, q2⟩, f0, f1, f2⟩ := cellsq HZ3.out
    go_wp2_with fail
    clear q0 q1 q2 f0 f1 f2
    refine (refBadq vN _ _ _ true HNv.out).mono ?_; rintro e w4 ⟨rfl, hb⟩
    have HB4 := Lib.hid (HB3.out.trans (hb.mono HB3.out.size))
    have HZ4 := Lib.hid ((hb.block _ (heap_ltQ HZ3.out)).trans HZ3.out)
    have HWv4 := Lib.hid (HWv3.out.up hb)
    clear hb
    obtain ⟨⟨q0, q1, q2⟩, f0, f1, f2⟩ := cellsq HZ4.out
    go_wp2_with fail
    clear q0 q1 q2 f0 f1 f2
    refine (refBadq vN _ _ _ true HNv.out).mono ?_; rintro e w5 ⟨rfl, hb⟩
    have HB5 := Lib.hid (HB4.out.trans (hb.mono HB4.out.size))
    have HZ5 := Lib.hid ((hb.block _ (heap_ltQ HZ4.out)).trans HZ4.out)
    have HWv5 := Lib.hid (HWv4.out.up hb)
    clear hb
    obtain ⟨⟨q0, q1, q2⟩, f0, f1, f2⟩ := cellsq HZ5.out
    have hy := (HB5.out.block _ (by have := HSZ.out; omega)).trans HY0.out
    obtain ⟨⟨p0, p1, p2⟩, f3, f4, f5⟩ := cellsq hy
    obtain ⟨w9, e9, ⟨r0, r1, r2⟩, hk, hs, hbl, _⟩ := set3q hy (.int .i64 vN) (.slice va1 vn1 vc1) (.slice va2 vn2 vc2)
    have HE9 := Lib.hid e9
    have HR := Lib.hid (And.intro r0 (And.intro r1 r2))
    have HBE := Lib.hid (hbl W W.heap.size (by omega) (HBX.out.trans (HB5.out.mono HBX.out.size)))
    have HWC : Hid (WC w9 (.agg #[.int .i64 vN, .slice va1 vn1 vc1, .slice va2 vn2 vc2]) _) := Lib.hid (HWv5.out.other hk hs HFv.out.1 HFv.out.2)
    clear hy e9 r0 r1 r2 hk hs hbl
    go_wp2
    go_region
    all_goals
      go_wp2
      rw [HE9.out]
      have r0 : w9.drew.cell? _ = _ := HR.out.1
      have r1 : w9.drew.cell? _ = _ := HR.out.2.1
      have r2 : w9.drew.cell? _ = _ := HR.out.2.2
      refine bodyPost_ret (v := .tuple #[.slice none 0 0, .agg #[.int .i64 vN, .slice va1 vn1 vc1, .slice va2 vn2 vc2]]) (by simp [results, Tryd.results30, go_sem, r0, r1, r2]) rfl ?_
      rw [HS.out]; exact ⟨none, 0, 0, _, _, _, _, _, _, _, rfl, by rw [HX0.out]; exact nr_zero _, (HWC.out.up (bnil w9).drew), (HBE.out.drew)⟩
  | none =>
    rw [hd] at hcf
    have HCF := Lib.hid hcf
    obtain ⟨kn, rn, rfl, rfl, hI, h256⟩ := faultD_none hd
    have HI := Lib.hid hI
    have HT256 : Hid (T ≤ 256) := by show _ ≤ _; rw [HLT.out]; exact h256
    by_cases hn0 : n = 0
    · have HS : Hid (ringsE kn rn tb wl = some ([(opCount, 1)], 3)) := by show _ = _; unfold ringsE; rw [hd, if_neg (by simp), if_pos (by rw [← HLA.out]; exact hn0)]
      have HX0 : Hid (ringsX kn rn tb wl = 0) := by show _ = _; unfold ringsX; rw [HS.out]; rfl
      subst hn0
      clear hd hcf hI h256
      go_enter Tryd.func30, Tryd.ntmps30
      obtain ⟨⟨x0, x1, x2⟩, y0, y1, y2⟩ := cellsq HP0.out
      rw [← HWB.out] at x0 x1 x2 y0 y1 y2
      go_wp2_with fail
      rw [HWB.out]
      clear x0 x1 x2 y0 y1 y2
      refine (HCF.out).mono ?_; rintro e w1 ⟨zN, za1, zn1, zc1, za2, zn2, zc2, rfl, hw, hf1, hf2, hN, h0, hb⟩
      obtain ⟨rfl, rfl, rfl, rfl, rfl, rfl, rfl⟩ := h0 rfl
      clear hw hf1 hf2 hN h0
      have HB1 := Lib.hid (HB0.out.trans (hb.mono HB0.out.size))
      clear hb
      go_wp2_with fail
      obtain ⟨g1, hg1⟩ : ∃ g1, w1.heap.size = g1 := ⟨_, rfl⟩
      obtain ⟨w2, hw⟩ : ∃ w2, w1.alloc (.cells #[.int .i64 0, .slice none 0 0, .slice none 0 0] 53) = w2 := ⟨_, rfl⟩
      have hb : Below w1.heap.size w1 w2 := by rw [← hw]; exact balloc (bnil w1) _
      have HZ2 : Hid (w2.heap[g1]? = some (.cells #[.int .i64 0, .slice none 0 0, .slice none 0 0] 53)) := by show _ = _; rw [← hw, ← hg1]; exact heap_alloc_new w1 _
      have HG1 : Hid (W.heap.size + 1 + 1 ≤ g1) := by show _ ≤ _; have := HSZ.out; have := HB1.out.size; omega
      rw [hw]
      simp only [hg1]
      clear hw hg1
      have HB2 := Lib.hid (HB1.out.trans (hb.mono HB1.out.size))
      clear hb
      obtain ⟨⟨q0, q1, q2⟩, f0, f1, f2⟩ := cellsq HZ2.out
      go_wp2_with fail
      clear q0 q1 q2 f0 f1 f2
      refine (refBadq 0 _ _ _ false rfl).mono ?_; rintro e w3 ⟨rfl, hb⟩
      have HB3 := Lib.hid (HB2.out.trans (hb.mono HB2.out.size))
      have HZ3 := Lib.hid ((hb.block _ (heap_ltQ HZ2.out)).trans HZ2.out)
      clear hb
      go_wp2_with fail
      refine (rawNewq opCount _ _ _ rfl).mono ?_; rintro e w4 ⟨vN, va1, vn1, vc1, va2, vn2, vc2, rfl, hw, hf1, hf2, hN, h0, hb⟩
      have HWv4 := Lib.hid hw
      have HFv : Hid (Fr (W.heap.size + 1 + 1) va1 ∧ Fr (W.heap.size + 1 + 1) va2) := ⟨hf1.base (by have := HSZ.out; have := HB3.out.size; omega), hf2.base (by have := HSZ.out; have := HB3.out.size; omega)⟩
      have HNv : Hid ((vN != 0) = true) := hN
      have HGv : Hid (Fr (g1 + 1) va1 ∧ Fr (g1 + 1) va2) := ⟨hf1.base (heap_ltQ HZ3.out), hf2.base (heap_ltQ HZ3.out)⟩
      clear hw hf1 hf2 hN h0
      have HB4 := Lib.hid (HB3.out.trans (hb.mono HB3.out.size))
      have HZ4 := Lib.hid ((hb.block _ (heap_ltQ HZ3.out)).trans HZ3.out)
      clear hb
      obtain ⟨⟨q0, q1, q2⟩, f0, f1, f2⟩ := cellsq HZ4.out
      obtain ⟨w5, e9, _, hk, hs, hbl, hzz⟩ := set3q HZ4.out (.int .i64 vN) (.slice va1 vn1 vc1) (.slice va2 vn2 vc2)
      have HE5 := Lib.hid e9
      have HZ5 := Lib.hid hzz
      have HB5 := Lib.hid (hbl w0 w0.heap.size (by have := HSZ.out; have := HG1.out; omega) HB4.out)
      have HWv5 := Lib.hid (HWv4.out.other hk hs (HGv.out.1) (HGv.out.2))
      clear e9 hk hs hbl hzz
      go_wp2_with fail
      rw [HE5.out]
      clear q0 q1 q2 f0 f1 f2
      obtain ⟨⟨q0, q1, q2⟩, f0, f1, f2⟩ := cellsq HZ5.out
      go_wp2_with fail
      clear q0 q1 q2 f0 f1 f2
      refine (refBadq vN _ _ _ true HNv.out).mono ?_; rintro e w6 ⟨rfl, hb⟩
      have HB6 := Lib.hid (HB5.out.trans (hb.mono HB5.out.size))
      have HZ6 := Lib.hid ((hb.block _ (heap_ltQ HZ5.out)).trans HZ5.out)
      have HWv6 := Lib.hid (HWv5.out.up hb)
      clear hb
      obtain ⟨⟨q0, q1, q2⟩, f0, f1, f2⟩ := cellsq HZ6.out
      go_wp2_with fail
      clear q0 q1 q2 f0 f1 f2
      refine (refBadq vN _ _ _ true HNv.out).mono ?_; rintro e w7 ⟨rfl, hb⟩
      have HB7 := Lib.hid (HB6.out.trans (hb.mono HB6.out.size))
      have HZ7 := Lib.hid ((hb.block _ (heap_ltQ HZ6.out)).trans HZ6.out)
      have HWv7 := Lib.hid (HWv6.out.up hb)
      clear hb
      obtain ⟨⟨q0, q1, q2⟩, f0, f1, f2⟩ := cellsq HZ7.out
      have hy := (HB7.out.block _ (by have := HSZ.out; omega)).trans HY0.out
      obtain ⟨⟨p0, p1, p2⟩, f3, f4, f5⟩ := cellsq hy
      obtain ⟨w9, e9, ⟨r0, r1, r2⟩, hk, hs, hbl, _⟩ := set3q hy (.int .i64 vN) (.slice va1 vn1 vc1) (.slice va2 vn2 vc2)
      have HE9 := Lib.hid e9
      have HR := Lib.hid (And.intro r0 (And.intro r1 r2))
      have HBE := Lib.hid (hbl W W.heap.size (by omega) (HBX.out.trans (HB7.out.mono HBX.out.size)))
      have HWC : Hid (WC w9 (.agg #[.int .i64 vN, .slice va1 vn1 vc1, .slice va2 vn2 vc2]) _) := Lib.hid (HWv7.out.other hk hs HFv.out.1 HFv.out.2)
      clear hy e9 r0 r1 r2 hk hs hbl
      go_wp2
      go_region
      all_goals
        go_wp2
        rw [HE9.out]
        have r0 : w9.drew.cell? _ = _ := HR.out.1
        have r1 : w9.drew.cell? _ = _ := HR.out.2.1
        have r2 : w9.drew.cell? _ = _ := HR.out.2.2
        refine bodyPost_ret (v := .tuple #[.slice none 0 0, .agg #[.int .i64 vN, .slice va1 vn1 vc1, .slice va2 vn2 vc2]]) (by simp [results, Tryd.results30, go_sem, r0, r1, r2]) rfl ?_
        rw [HS.out]; exact ⟨none, 0, 0, _, _, _, _, _, _, _, rfl, by rw [HX0.out]; exact nr_zero _, (HWC.out.up (bnil w9).drew), (HBE.out.drew)⟩
    have hn1 : (0 : Int) < (n : Int) := by omega
    have hnz : ((n : Int) == 0) = false := by rw [beq_eq_false_iff_ne]; omega
    cases hw : wfaultD opCount kn wl 64 with
    | some y =>
      have HS : Hid (ringsE kn rn tb wl = some y) := by show _ = _; unfold ringsE; rw [hd, if_neg (by simp), if_neg (by rw [← HLA.out]; exact hn0)]; exact hw
      have HX0 : Hid (ringsX kn rn tb wl = 0) := by show _ = _; unfold ringsX; rw [HS.out]; rfl
      have HCW : Hid (∀ V, Below w0.heap.size w0 V → Calls Tryd.prog 77 #[.string opCount, .int .i64 kn, .slice aw n cw, .int .i64 64] V (RefRet V (some y))) := fun V hV => by rw [← hw]; exact refWFault_any opCount kn 64 aw n cw wl V (HA.out.up hV) HMA.out
      clear hd hcf hw hI h256 hn0
      go_enter Tryd.func30, Tryd.ntmps30
      obtain ⟨⟨x0, x1, x2⟩, y0, y1, y2⟩ := cellsq HP0.out
      rw [← HWB.out] at x0 x1 x2 y0 y1 y2
      go_wp2_with fail
      rw [HWB.out]
      clear x0 x1 x2 y0 y1 y2
      refine (HCF.out).mono ?_; rintro e w1 ⟨zN, za1, zn1, zc1, za2, zn2, zc2, rfl, hw, hf1, hf2, hN, h0, hb⟩
      obtain ⟨rfl, rfl, rfl, rfl, rfl, rfl, rfl⟩ := h0 rfl
      clear hw hf1 hf2 hN h0
      have HB1 := Lib.hid (HB0.out.trans (hb.mono HB0.out.size))
      clear hb
      go_wp2_with fail
      obtain ⟨g1, hg1⟩ : ∃ g1, w1.heap.size = g1 := ⟨_, rfl⟩
      obtain ⟨w2, hw⟩ : ∃ w2, w1.alloc (.cells #[.int .i64 0, .slice none 0 0, .slice none 0 0] 53) = w2 := ⟨_, rfl⟩
      have hb : Below w1.heap.size w1 w2 := by rw [← hw]; exact balloc (bnil w1) _
      have HZ2 : Hid (w2.heap[g1]? = some (.cells #[.int .i64 0, .slice none 0 0, .slice none 0 0] 53)) := by show _ = _; rw [← hw, ← hg1]; exact heap_alloc_new w1 _
      have HG1 : Hid (W.heap.size + 1 + 1 ≤ g1) := by show _ ≤ _; have := HSZ.out; have := HB1.out.size; omega
      rw [hw]
      simp only [hg1]
      clear hw hg1
      have HB2 := Lib.hid (HB1.out.trans (hb.mono HB1.out.size))
      clear hb
      obtain ⟨⟨q0, q1, q2⟩, f0, f1, f2⟩ := cellsq HZ2.out
      go_wp2_with fail
      clear q0 q1 q2 f0 f1 f2
      refine (refBadq 0 _ _ _ false rfl).mono ?_; rintro e w3 ⟨rfl, hb⟩
      have HB3 := Lib.hid (HB2.out.trans (hb.mono HB2.out.size))
      have HZ3 := Lib.hid ((hb.block _ (heap_ltQ HZ2.out)).trans HZ2.out)
      clear hb
      obtain ⟨⟨q0, q1, q2⟩, f0, f1, f2⟩ := cellsq HZ3.out
      go_wp2_with fail
      clear q0 q1 q2 f0 f1 f2
      refine (refBadq 0 _ _ _ false rfl).mono ?_; rintro e w4 ⟨rfl, hb⟩
      have HB4 := Lib.hid (HB3.out.trans (hb.mono HB3.out.size))
      have HZ4 := Lib.hid ((hb.block _ (heap_ltQ HZ3.out)).trans HZ3.out)
      clear hb
      obtain ⟨⟨x0, x1, x2⟩, y0, y1, y2⟩ := cellsq ((HB4.out.block _ (heap_ltQ HP0.out)).trans HP0.out)
      go_wp2_with fail
      clear x0 x1 x2 y0 y1 y2
      refine (HCW.out _ HB4.out).mono ?_; rintro e w5 ⟨vN, va1, vn1, vc1, va2, vn2, vc2, rfl, hw, hf1, hf2, hN, h0, hb⟩
      have HWv5 := Lib.hid hw
      have HFv : Hid (Fr (W.heap.size + 1 + 1) va1 ∧ Fr (W.heap.size + 1 + 1) va2) := ⟨hf1.base (by have := HSZ.out; have := HB4.out.size; omega), hf2.base (by have := HSZ.out; have := HB4.out.size; omega)⟩
      have HNv : Hid ((vN != 0) = true) := hN
      have HGv : Hid (Fr (g1 + 1) va1 ∧ Fr (g1 + 1) va2) := ⟨hf1.base (heap_ltQ HZ4.out), hf2.base (heap_ltQ HZ4.out)⟩
      clear hw hf1 hf2 hN h0
      have HB5 := Lib.hid (HB4.out.trans (hb.mono HB4.out.size))
      have HZ5 := Lib.hid ((hb.block _ (heap_ltQ HZ4.out)).trans HZ4.out)
      clear hb
      obtain ⟨⟨q0, q1, q2⟩, f0, f1, f2⟩ := cellsq HZ5.out
      obtain ⟨w6, e9, _, hk, hs, hbl, hzz⟩ := set3q HZ5.out (.int .i64 vN) (.slice va1 vn1 vc1) (.slice va2 vn2 vc2)
      have HE6 := Lib.hid e9
      have HZ6 := Lib.hid hzz
      have HB6 := Lib.hid (hbl w0 w0.heap.size (by have := HSZ.out; have := HG1.out; omega) HB5.out)
      have HWv6 := Lib.hid (HWv5.out.other hk hs (HGv.out.1) (HGv.out.2))
      clear e9 hk hs hbl hzz
      go_wp2_with fail
      rw [HE6.out]
      clear q0 q1 q2 f0 f1 f2
      obtain ⟨⟨q0, q1, q2⟩, f0, f1, f2⟩ := cellsq HZ6.out
      go_wp2_with fail
      clear q0 q1 q2 f0 f1 f2
      refine (refBadq vN _ _ _ true HNv.out).mono ?_; rintro e w7 ⟨rfl, hb⟩
      have HB7 := Lib.hid (HB6.out.trans (hb.mono HB6.out.size))
      have HZ7 := Lib.hid ((hb.block _ (heap_ltQ HZ6.out)).trans HZ6.out)
      have HWv7 := Lib.hid (HWv6.out.up hb)
      clear hb
      obtain ⟨⟨q0, q1, q2⟩, f0, f1, f2⟩ := cellsq HZ7.out
      have hy := (HB7.out.block _ (by have := HSZ.out; omega)).trans HY0.out
      obtain ⟨⟨p0, p1, p2⟩, f3, f4, f5⟩ := cellsq hy
      obtain ⟨w9, e9, ⟨r0, r1, r2⟩, hk, hs, hbl, _⟩ := set3q hy (.int .i64 vN) (.slice va1 vn1 vc1) (.slice va2 vn2 vc2)
      have HE9 := Lib.hid e9
      have HR := Lib.hid (And.intro r0 (And.intro r1 r2))
      have HBE := Lib.hid (hbl W W.heap.size (by omega) (HBX.out.trans (HB7.out.mono HBX.out.size)))
      have HWC : Hid (WC w9 (.agg #[.int .i64 vN, .slice va1 vn1 vc1, .slice va2 vn2 vc2]) _) := Lib.hid (HWv7.out.other hk hs HFv.out.1 HFv.out.2)
      clear hy e9 r0 r1 r2 hk hs hbl
      go_wp2
      go_region
      all_goals
        go_wp2
        rw [HE9.out]
        have r0 : w9.drew.cell? _ = _ := HR.out.1
        have r1 : w9.drew.cell? _ = _ := HR.out.2.1
        have r2 : w9.drew.cell? _ = _ := HR.out.2.2
        refine bodyPost_ret (v := .tuple #[.slice none 0 0, .agg #[.int .i64 vN, .slice va1 vn1 vc1, .slice va2 vn2 vc2]]) (by simp [results, Tryd.results30, go_sem, r0, r1, r2]) rfl ?_
        rw [HS.out]; exact ⟨none, 0, 0, _, _, _, _, _, _, _, rfl, by rw [HX0.out]; exact nr_zero _, (HWC.out.up (bnil w9).drew), (HBE.out.drew)⟩
    | none =>
      obtain ⟨hl, hsy⟩ := wfaultD_none hw
      have hn64 : n ≤ 256 := by rw [HLA.out]; omega
      have HS : Hid (ringsE kn rn tb wl = none) := by show _ = _; unfold ringsE; rw [hd, if_neg (by simp), if_neg (by rw [← HLA.out]; exact hn0)]; exact hw
      have HXV : Hid (sumTo (kn ^ (2 * rn)) (fun u => fwd kn (kn ^ (2 * rn)) (pL kn rn tb wl) (unitE u) n u) = ringsX kn rn tb wl) := by
        show _ = _
        unfold ringsX
        rw [HS.out, pL_word fun x hx => (hsy x hx).1, HLA.out, fwd_rings (by have := hI.k1; omega) (Nat.pow_pos (by have := hI.k1; omega))]
        rfl
      have HCW : Hid (∀ V, Below w0.heap.size w0 V → Calls Tryd.prog 77 #[.string opCount, .int .i64 kn, .slice aw n cw, .int .i64 64] V (RefRet V none)) := fun V hV => by rw [← hw]; exact refWFault_any opCount kn 64 aw n cw wl V (HA.out.up hV) HMA.out
      have HOF := Lib.hid (fun (V : World) (hV : Below w0.heap.size w0 V) => around_any kn rn (kn ^ (2 * rn)) a aw T c n cw tb wl V (HT.out.up hV) HI.out HT256.out rfl (HA.out.up hV) hn64)
      clear hd hcf hw hI h256 hl hsy hn0
      go_enter Tryd.func30, Tryd.ntmps30
      obtain ⟨⟨x0, x1, x2⟩, y0, y1, y2⟩ := cellsq HP0.out
      rw [← HWB.out] at x0 x1 x2 y0 y1 y2
      go_wp2_with fail
      rw [HWB.out]
      clear x0 x1 x2 y0 y1 y2
      refine (HCF.out).mono ?_; rintro e w1 ⟨zN, za1, zn1, zc1, za2, zn2, zc2, rfl, hw, hf1, hf2, hN, h0, hb⟩
      obtain ⟨rfl, rfl, rfl, rfl, rfl, rfl, rfl⟩ := h0 rfl
      clear hw hf1 hf2 hN h0
      have HB1 := Lib.hid (HB0.out.trans (hb.mono HB0.out.size))
      clear hb
      go_wp2_with fail
      obtain ⟨g1, hg1⟩ : ∃ g1, w1.heap.size = g1 := ⟨_, rfl⟩
      obtain ⟨w2, hw⟩ : ∃ w2, w1.alloc (.cells #[.int .i64 0, .slice none 0 0, .slice none 0 0] 53) = w2 := ⟨_, rfl⟩
      have hb : Below w1.heap.size w1 w2 := by rw [← hw]; exact balloc (bnil w1) _
      have HZ2 : Hid (w2.heap[g1]? = some (.cells #[.int .i64 0, .slice none 0 0, .slice none 0 0] 53)) := by show _ = _; rw [← hw, ← hg1]; exact heap_alloc_new w1 _
      have HG1 : Hid (W.heap.size + 1 + 1 ≤ g1) := by show _ ≤ _; have := HSZ.out; have := HB1.out.size; omega
      rw [hw]
      simp only [hg1]
      clear hw hg1
      have HB2 := Lib.hid (HB1.out.trans (hb.mono HB1.out.size))
      clear hb
      obtain ⟨⟨q0, q1, q2⟩, f0, f1, f2⟩ := cellsq HZ2.out
      go_wp2_with fail
      clear q0 q1 q2 f0 f1 f2
      refine (refBadq 0 _ _ _ false rfl).mono ?_; rintro e w3 ⟨rfl, hb⟩
      have HB3 := Lib.hid (HB2.out.trans (hb.mono HB2.out.size))
      have HZ3 := Lib.hid ((hb.block _ (heap_ltQ HZ2.out)).trans HZ2.out)
      clear hb
      obtain ⟨⟨q0, q1, q2⟩, f0, f1, f2⟩ := cellsq HZ3.out
      go_wp2_with fail
      clear q0 q1 q2 f0 f1 f2
      refine (refBadq 0 _ _ _ false rfl).mono ?_; rintro e w4 ⟨rfl, hb⟩
      have HB4 := Lib.hid (HB3.out.trans (hb.mono HB3.out.size))
      have HZ4 := Lib.hid ((hb.block _ (heap_ltQ HZ3.out)).trans HZ3.out)
      clear hb
      obtain ⟨⟨x0, x1, x2⟩, y0, y1, y2⟩ := cellsq ((HB4.out.block _ (heap_ltQ HP0.out)).trans HP0.out)
      go_wp2_with fail
      clear x0 x1 x2 y0 y1 y2
      refine (HCW.out _ HB4.out).mono ?_; rintro e w5 ⟨zN, za1, zn1, zc1, za2, zn2, zc2, rfl, hw, hf1, hf2, hN, h0, hb⟩
      obtain ⟨rfl, rfl, rfl, rfl, rfl, rfl, rfl⟩ := h0 rfl
      clear hw hf1 hf2 hN h0
      have HB5 := Lib.hid (HB4.out.trans (hb.mono HB4.out.size))
      have HZ5 := Lib.hid ((hb.block _ (heap_ltQ HZ4.out)).trans HZ4.out)
      clear hb
      obtain ⟨⟨q0, q1, q2⟩, f0, f1, f2⟩ := cellsq HZ5.out
      obtain ⟨w6, e9, _, hk, hs, hbl, hzz⟩ := set3q HZ5.out (.int .i64 0) (.slice none 0 0) (.slice none 0 0)
      have HE6 := Lib.hid e9
      have HZ6 := Lib.hid hzz
      have HB6 := Lib.hid (hbl w0 w0.heap.size (by have := HSZ.out; have := HG1.out; omega) HB5.out)
      clear e9 hk hs hbl hzz
      go_wp2_with fail
      rw [HE6.out]
      clear q0 q1 q2 f0 f1 f2
      obtain ⟨⟨q0, q1, q2⟩, f0, f1, f2⟩ := cellsq HZ6.out
      go_wp2_with fail
      clear q0 q1 q2 f0 f1 f2
      refine (refBadq 0 _ _ _ false rfl).mono ?_; rintro e w7 ⟨rfl, hb⟩
      have HB7 := Lib.hid (HB6.out.trans (hb.mono HB6.out.size))
      have HZ7 := Lib.hid ((hb.block _ (heap_ltQ HZ6.out)).trans HZ6.out)
      clear hb
      obtain ⟨⟨x0, x1, x2⟩, y0, y1, y2⟩ := cellsq ((HB7.out.block _ (heap_ltQ HP0.out)).trans HP0.out)
      go_wp2_with fail
      clear x0 x1 x2 y0 y1 y2
      refine (HOF.out _ HB7.out).mono ?_; rintro e w8 ⟨a7, n7, c7, rfl, ho7, hb⟩
      rw [HXV.out] at ho7
      have HO7 := Lib.hid (owns_base ho7 (show W.heap.size + 1 + 1 ≤ _ by have := HSZ.out; have := HB7.out.size; omega))
      clear ho7
      have HB8 := Lib.hid (HB7.out.trans (hb.mono HB7.out.size))
      have HZ8 := Lib.hid ((hb.block _ (heap_ltQ HZ7.out)).trans HZ7.out)
      clear hb
      obtain ⟨⟨q0, q1, q2⟩, f0, f1, f2⟩ := cellsq HZ8.out
      have hy := (HB8.out.block _ (by have := HSZ.out; omega)).trans HY0.out
      obtain ⟨⟨p0, p1, p2⟩, f3, f4, f5⟩ := cellsq hy
      obtain ⟨w9, e9, ⟨r0, r1, r2⟩, hk, hs, hbl, _⟩ := set3q hy (.int .i64 0) (.slice none 0 0) (.slice none 0 0)
      have HE9 := Lib.hid e9
      have HR := Lib.hid (And.intro r0 (And.intro r1 r2))
      have HBE := Lib.hid (hbl W W.heap.size (by omega) (HBX.out.trans (HB8.out.mono HBX.out.size)))
      have HWC := Lib.hid (wc_none w9)
      have HNR := Lib.hid (nr_of_own (own_heapQ HO7.out hk (by have := HSZ.out; have := HG1.out; omega)))
      clear hy e9 r0 r1 r2 hk hs hbl
      go_wp2
      rw [HE9.out]
      have r0 : w9.cell? _ = _ := HR.out.1
      have r1 : w9.cell? _ = _ := HR.out.2.1
      have r2 : w9.cell? _ = _ := HR.out.2.2
      refine bodyPost_ret (v := .tuple #[.slice a7 n7 c7, .agg #[.int .i64 0, .slice none 0 0, .slice none 0 0]]) (by simp [results, Tryd.results30, go_sem, r0, r1, r2]) rfl ?_
      rw [HS.out]; exact ⟨a7, n7, c7, 0, none, 0, 0, none, 0, 0, rfl, HNR.out, HWC.out, HBE.out⟩

set_option maxHeartbeats 8000000 in
theorem refFixed_any (k r m : Int) (a : Option Addr) (T c : Nat) (tb : List Int) (W : World) (hT : RK .i64 W a T tb) (hm : T ≤ maxLen) :
    Calls Tryd.prog 31 #[ruleV k r a T c, .int .i64 m] W (RefNv W (fixedX k r tb m) (fixedE k r tb m)) := by
  have HLT := Lib.hid hT.len
  have HM := Lib.hid hm
  clear hm
  obtain ⟨w0, hw0⟩ : ∃ w0, (W.alloc (.cells #[.int .i64 k, .int .i64 r, .slice a T c] 24)).alloc (.cells #[.int .i64 0, .slice none 0 0, .slice none 0 0] 53) = w0 := ⟨_, rfl⟩
  have HSZ : Hid (w0.heap.size = W.heap.size + 2) := by show _ = _; rw [← hw0]; simp
  have HY0 : Hid (w0.heap[W.heap.size + 1]? = some (.cells #[.int .i64 0, .slice none 0 0, .slice none 0 0] 53)) := by show _ = _; rw [← hw0]; have h := heap_alloc_new ((W.alloc (.cells #[.int .i64 k, .int .i64 r, .slice a T c] 24))) (.cells #[.int .i64 0, .slice none 0 0, .slice none 0 0] 53); simpa using h
  have HP0 : Hid (w0.heap[W.heap.size]? = some (.cells #[.int .i64 k, .int .i64 r, .slice a T c] 24)) := by
    show _ = _
    rw [← hw0]
    rw [heap_alloc_old _ _ (by simp)]
    have h := heap_alloc_new (W) (.cells #[.int .i64 k, .int .i64 r, .slice a T c] 24)
    simpa using h
  have HBX : Hid (Below W.heap.size W w0) := by show Below _ _ _; rw [← hw0]; exact balloc (balloc (bnil W) _) _
  have HB0 := Lib.hid (bnil w0)
  have HWB := Lib.hid hw0
  have HT := Lib.hid (hT.up HBX.out)
  clear hw0 hT
  have hcf := refFault_any opCount k r a T c tb w0 HT.out HM.out
  cases hd : faultD opCount k r tb with
  | some y =>
    rw [hd] at hcf
    have HCF := Lib.hid hcf
    have HS : Hid (fixedE k r tb m = some y) := by show _ = _; unfold fixedE; rw [hd]; rfl
    have HX0 : Hid (fixedX k r tb m = 0) := by show _ = _; unfold fixedX; rw [HS.out]; rfl
    clear hd hcf
    go_enter Tryd.func31, Tryd.ntmps31
    obtain ⟨⟨x0, x1, x2⟩, y0, y1, y2⟩ := cellsq HP0.out
    rw [← HWB.out] at x0 x1 x2 y0 y1 y2
    go_wp2_with fail
    rw [HWB.out]
    clear x0 x1 x2 y0 y1 y2
    refine (HCF.out).mono ?_; rintro e w1 ⟨vN, va1, vn1, vc1, va2, vn2, vc2, rfl, hw, hf1, hf2, hN, h0, hb⟩
    have HWv1 := Lib.hid hw
    have HFv : Hid (Fr (W.heap.size + 1 + 1) va1 ∧ Fr (W.heap.size + 1 + 1) va2) := ⟨hf1.base (by have := HSZ.out; have := HB0.out.size; omega), hf2.base (by have := HSZ.out; have := HB0.out.size; omega)⟩
    have HNv : Hid ((vN != 0) = true) := hN
    clear hw hf1 hf2 hN h0
    have HB1 := Lib.hid (HB0.out.trans (hb.mono HB0.out.size))
    clear hb
    go_wp2_with fail
    obtain ⟨g1, hg1⟩ : ∃ g1, w1.heap.size = g1 := ⟨_, rfl⟩
    obtain ⟨w2, hw⟩ : ∃ w2, w1.alloc (.cells #[.int .i64 vN, .slice va1 vn1 vc1, .slice va2 vn2 vc2] 53) = w2 := ⟨_, rfl⟩
    have hb : Below w1.heap.size w1 w2 := by rw [← hw]; exact balloc (bnil w1) _
    have HZ2 : Hid (w2.heap[g1]? = some (.cells #[.int .i64 vN, .slice va1 vn1 vc1, .slice va2 vn2 vc2] 53)) := by show _ = _; rw [← hw, ← hg1]; exact heap_alloc_new w1 _
    have HG1 : Hid (W.heap.size + 1 + 1 ≤ g1) := by show _ ≤ _; have := HSZ.out; have := HB1.out.size; omega
    rw [hw]
    simp only [hg1]
    clear hw hg1
    have HB2 := Lib.hid (HB1.out.trans (hb.mono HB1.out.size))
    have HWv2 := Lib.hid (HWv1.out.up hb)
    clear hb
    obtain ⟨⟨q0, q1, q2⟩, f0, f1, f2⟩ := cellsq HZ2.out
    go_wp2_with fail
    clear q0 q1 q2 f0 f1 f2
    refine (refBadq vN _ _ _ true HNv.out).mono ?_; rintro e w3 ⟨rfl, hb⟩
    have HB3 := Lib.hid (HB2.out.trans (hb.mono HB2.out.size))
    have HZ3 := Lib.hid ((hb.block _ (heap_ltQ HZ2.out)).trans HZ2.out)
    have HWv3 := Lib.hid (HWv2.out.up hb)
    clear hb
    obtain ⟨⟨q0, q1, q2⟩, f0, f1, f2⟩ := cellsq HZ3.out
    have hy := (HB3.out.block _ (by have := HSZ.out; omega)).trans HY0.out
    obtain ⟨⟨p0, p1, p2⟩, f3, f4, f5⟩ := cellsq hy
    obtain ⟨w9, e9, ⟨r0, r1, r2⟩, hk, hs, hbl, _⟩ := set3q hy (.int .i64 vN) (.slice va1 vn1 vc1) (.slice va2 vn2 vc2)
    have HE9 := Lib.hid e9
    have HR := Lib.hid (And.intro r0 (And.intro r1 r2))
    have HBE := Lib.hid (hbl W W.heap.size (by omega) (HBX.out.trans (HB3.out.mono HBX.out.size)))
    have HWC : Hid (WC w9 (.agg #[.int .i64 vN, .slice va1 vn1 vc1, .slice va2 vn2 vc2]) _) := Lib.hid (HWv3.out.other hk hs HFv.out.1 HFv.out.2)
    clear hy e9 r0 r1 r2 hk hs hbl
    go_wp2
    go_region
    all_goals
      go_wp2
      rw [HE9.out]
      have r0 : w9.drew.cell? _ = _ := HR.out.1
      have r1 : w9.drew.cell? _ = _ := HR.out.2.1
      have r2 : w9.drew.cell? _ = _ := HR.out.2.2
      refine bodyPost_ret (v := .tuple #[.slice none 0 0, .agg #[.int .i64 vN, .slice va1 vn1 vc1, .slice va2 vn2 vc2]]) (by simp [results, Tryd.results31, go_sem, r0, r1, r2]) rfl ?_
      rw [HS.out]; exact ⟨none, 0, 0, _, _, _, _, _, _, _, rfl, by rw [HX0.out]; exact nr_zero _, (HWC.out.up (bnil w9).drew), (HBE.out.drew)⟩
  | none =>
    rw [hd] at hcf
    have HCF := Lib.hid hcf
    obtain ⟨kn, rn, rfl, rfl, hI, h256⟩ := faultD_none hd
    have HI := Lib.hid hI
    have HT256 : Hid (T ≤ 256) := by show _ ≤ _; rw [HLT.out]; exact h256
    by_cases hm1 : m < 1
    · have HS : Hid (fixedE kn rn tb m = some ([(opCount, 1)], 3)) := by show _ = _; unfold fixedE; rw [hd, if_neg (by simp), if_pos hm1]
      have HX0 : Hid (fixedX kn rn tb m = 0) := by show _ = _; unfold fixedX; rw [HS.out]; rfl
      clear hd hcf hI h256
      go_enter Tryd.func31, Tryd.ntmps31
      obtain ⟨⟨x0, x1, x2⟩, y0, y1, y2⟩ := cellsq HP0.out
      rw [← HWB.out] at x0 x1 x2 y0 y1 y2
      go_wp2_with fail
      rw [HWB.out]
      clear x0 x1 x2 y0 y1 y2
      refine (HCF.out).mono ?_; rintro e w1 ⟨zN, za1, zn1, zc1, za2, zn2, zc2, rfl, hw, hf1, hf2, hN, h0, hb⟩
      obtain ⟨rfl, rfl, rfl, rfl, rfl, rfl, rfl⟩ := h0 rfl
      clear hw hf1 hf2 hN h0
      have HB1 := Lib.hid (HB0.out.trans (hb.mono HB0.out.size))
      clear hb
      go_wp2_with fail
      obtain ⟨g1, hg1⟩ : ∃ g1, w1.heap.size = g1 := ⟨_, rfl⟩
      obtain ⟨w2, hw⟩ : ∃ w2, w1.alloc (.cells #[.int .i64 0, .slice none 0 0, .slice none 0 0] 53) = w2 := ⟨_, rfl⟩
      have hb : Below w1.heap.size w1 w2 := by rw [← hw]; exact balloc (bnil w1) _
      have HZ2 : Hid (w2.heap[g1]? = some (.cells #[.int .i64 0, .slice none 0 0, .slice none 0 0] 53)) := by show _ = _; rw [← hw, ← hg1]; exact heap_alloc_new w1 _
      have HG1 : Hid (W.heap.size + 1 + 1 ≤ g1) := by show _ ≤ _; have := HSZ.out; have := HB1.out.size; omega
      rw [hw]
      simp only [hg1]
      clear hw hg1
      have HB2 := Lib.hid (HB1.out.trans (hb.mono HB1.out.size))
      clear hb
      obtain ⟨⟨q0, q1, q2⟩, f0, f1, f2⟩ := cellsq HZ2.out
      go_wp2_with fail
      clear q0 q1 q2 f0 f1 f2
      refine (refBadq 0 _ _ _ false rfl).mono ?_; rintro e w3 ⟨rfl, hb⟩
      have HB3 := Lib.hid (HB2.out.trans (hb.mono HB2.out.size))
      have HZ3 := Lib.hid ((hb.block _ (heap_ltQ HZ2.out)).trans HZ2.out)
      clear hb
      go_wp2_with fail
      refine (rawNewq opCount _ _ _ rfl).mono ?_; rintro e w4 ⟨vN, va1, vn1, vc1, va2, vn2, vc2, rfl, hw, hf1, hf2, hN, h0, hb⟩
      have HWv4 := Lib.hid hw
      have HFv : Hid (Fr (W.heap.size + 1 + 1) va1 ∧ Fr (W.heap.size + 1 + 1) va2) := ⟨hf1.base (by have := HSZ.out; have := HB3.out.size; omega), hf2.base (by have := HSZ.out; have := HB3.out.size; omega)⟩
      have HNv : Hid ((vN != 0) = true) := hN
      have HGv : Hid (Fr (g1 + 1) va1 ∧ Fr (g1 + 1) va2) := ⟨hf1.base (heap_ltQ HZ3.out), hf2.base (heap_ltQ HZ3.out)⟩
      clear hw hf1 hf2 hN h0
      have HB4 := Lib.hid (HB3.out.trans (hb.mono HB3.out.size))
      have HZ4 := Lib.hid ((hb.block _ (heap_ltQ HZ3.out)).trans HZ3.out)
      clear hb
      have hy := (HB4.out.block _ (by have := HSZ.out; omega)).trans HY0.out
      obtain ⟨⟨p0, p1, p2⟩, f3, f4, f5⟩ := cellsq hy
      obtain ⟨w9, e9, ⟨r0, r1, r2⟩, hk, hs, hbl, _⟩ := set3q hy (.int .i64 vN) (.slice va1 vn1 vc1) (.slice va2 vn2 vc2)
      have HE9 := Lib.hid e9
      have HR := Lib.hid (And.intro r0 (And.intro r1 r2))
      have HBE := Lib.hid (hbl W W.heap.size (by omega) (HBX.out.trans (HB4.out.mono HBX.out.size)))
      have HWC : Hid (WC w9 (.agg #[.int .i64 vN, .slice va1 vn1 vc1, .slice va2 vn2 vc2]) _) := Lib.hid (HWv4.out.other hk hs HFv.out.1 HFv.out.2)
      clear hy e9 r0 r1 r2 hk hs hbl
      go_wp2
      rw [HE9.out]
      have r0 : w9.cell? _ = _ := HR.out.1
      have r1 : w9.cell? _ = _ := HR.out.2.1
      have r2 : w9.cell? _ = _ := HR.out.2.2
      refine bodyPost_ret (v := .tuple #[.slice none 0 0, .agg #[.int .i64 vN, .slice va1 vn1 vc1, .slice va2 vn2 vc2]]) (by simp [results, Tryd.results31, go_sem, r0, r1, r2]) rfl ?_
      rw [HS.out]; exact ⟨none, 0, 0, _, _, _, _, _, _, _, rfl, by rw [HX0.out]; exact nr_zero _, HWC.out, HBE.out⟩
    by_cases hm2 : 64 < m
    · have HS : Hid (fixedE kn rn tb m = some ([(opCount, 1)], 4)) := by show _ = _; unfold fixedE; rw [hd, if_neg (by simp), if_neg hm1, if_pos hm2]
      have HX0 : Hid (fixedX kn rn tb m = 0) := by show _ = _; unfold fixedX; rw [HS.out]; rfl
      clear hd hcf hI h256
      go_enter Tryd.func31, Tryd.ntmps31
      obtain ⟨⟨x0, x1, x2⟩, y0, y1, y2⟩ := cellsq HP0.out
      rw [← HWB.out] at x0 x1 x2 y0 y1 y2
      go_wp2_with fail
      rw [HWB.out]
      clear x0 x1 x2 y0 y1 y2
      refine (HCF.out).mono ?_; rintro e w1 ⟨zN, za1, zn1, zc1, za2, zn2, zc2, rfl, hw, hf1, hf2, hN, h0, hb⟩
      obtain ⟨rfl, rfl, rfl, rfl, rfl, rfl, rfl⟩ := h0 rfl
      clear hw hf1 hf2 hN h0
      have HB1 := Lib.hid (HB0.out.trans (hb.mono HB0.out.size))
      clear hb
      go_wp2_with fail
      obtain ⟨g1, hg1⟩ : ∃ g1, w1.heap.size = g1 := ⟨_, rfl⟩
      obtain ⟨w2, hw⟩ : ∃ w2, w1.alloc (.cells #[.int .i64 0, .slice none 0 0, .slice none 0 0] 53) = w2 := ⟨_, rfl⟩
      have hb : Below w1.heap.size w1 w2 := by rw [← hw]; exact balloc (bnil w1) _
      have HZ2 : Hid (w2.heap[g1]? = some (.cells #[.int .i64 0, .slice none 0 0, .slice none 0 0] 53)) := by show _ = _; rw [← hw, ← hg1]; exact heap_alloc_new w1 _
      have HG1 : Hid (W.heap.size + 1 + 1 ≤ g1) := by show _ ≤ _; have := HSZ.out; have := HB1.out.size; omega
      rw [hw]
      simp only [hg1]
      clear hw hg1
      have HB2 := Lib.hid (HB1.out.trans (hb.mono HB1.out.size))
      clear hb
      obtain ⟨⟨q0, q1, q2⟩, f0, f1, f2⟩ := cellsq HZ2.out
      go_wp2_with fail
      clear q0 q1 q2 f0 f1 f2
      refine (refBadq 0 _ _ _ false rfl).mono ?_; rintro e w3 ⟨rfl, hb⟩
      have HB3 := Lib.hid (HB2.out.trans (hb.mono HB2.out.size))
      have HZ3 := Lib.hid ((hb.block _ (heap_ltQ HZ2.out)).trans HZ2.out)
      clear hb
      go_wp2_with fail
      refine (rawNewq opCount _ _ _ rfl).mono ?_; rintro e w4 ⟨vN, va1, vn1, vc1, va2, vn2, vc2, rfl, hw, hf1, hf2, hN, h0, hb⟩
      have HWv4 := Lib.hid hw
      have HFv : Hid (Fr (W.heap.size + 1 + 1) va1 ∧ Fr (W.heap.size + 1 + 1) va2) := ⟨hf1.base (by have := HSZ.out; have := HB3.out.size; omega), hf2.base (by have := HSZ.out; have := HB3.out.size; omega)⟩
      have HNv : Hid ((vN != 0) = true) := hN
      have HGv : Hid (Fr (g1 + 1) va1 ∧ Fr (g1 + 1) va2) := ⟨hf1.base (heap_ltQ HZ3.out), hf2.base (heap_ltQ HZ3.out)⟩
      clear hw hf1 hf2 hN h0
      have HB4 := Lib.hid (HB3.out.trans (hb.mono HB3.out.size))
      have HZ4 := Lib.hid ((hb.block _ (heap_ltQ HZ3.out)).trans HZ3.out)
      clear hb
      have hy := (HB4.out.block _ (by have := HSZ.out; omega)).trans HY0.out
      obtain ⟨⟨p0, p1, p2⟩, f3, f4, f5⟩ := cellsq hy
      obtain ⟨w9, e9, ⟨r0, r1, r2⟩, hk, hs, hbl, _⟩ := set3q hy (.int .i64 vN) (.slice va1 vn1 vc1) (.slice va2 vn2 vc2)
      have HE9 := Lib.hid e9
      have HR := Lib.hid (And.intro r0 (And.intro r1 r2))
      have HBE := Lib.hid (hbl W W.heap.size (by omega) (HBX.out.trans (HB4.out.mono HBX.out.size)))
      have HWC : Hid (WC w9 (.agg #[.int .i64 vN, .slice va1 vn1 vc1, .slice va2 vn2 vc2]) _) := Lib.hid (HWv4.out.other hk hs HFv.out.1 HFv.out.2)
      clear hy e9 r0 r1 r2 hk hs hbl
      go_wp2
      rw [HE9.out]
      have r0 : w9.cell? _ = _ := HR.out.1
      have r1 : w9.cell? _ = _ := HR.out.2.1
      have r2 : w9.cell? _ = _ := HR.out.2.2
      refine bodyPost_ret (v := .tuple #[.slice none 0 0, .agg #[.int .i64 vN, .slice va1 vn1 vc1, .slice va2 vn2 vc2]]) (by simp [results, Tryd.results31, go_sem, r0, r1, r2]) rfl ?_
      rw [HS.out]; exact ⟨none, 0, 0, _, _, _, _, _, _, _, rfl, by rw [HX0.out]; exact nr_zero _, HWC.out, HBE.out⟩
    obtain ⟨n, rfl⟩ : ∃ n : Nat, m = (n : Int) := ⟨m.toNat, by omega⟩
    have n64 : n ≤ 64 := by omega
    have n1 : 1 ≤ n := by omega
    have HS : Hid (fixedE kn rn tb n = none) := by show _ = _; unfold fixedE; rw [hd, if_neg (by simp), if_neg hm1, if_neg hm2]
    have HXV : Hid (sumTo (kn ^ (2 * rn)) (fun u => fwd kn (kn ^ (2 * rn)) (pL kn rn tb (List.replicate n (-1))) (unitE u) n u) = fixedX kn rn tb n) := by
      show _ = _
      unfold fixedX
      rw [HS.out, ← fwd_rings (by have := hI.k1; simp only [Int.toNat_natCast]; omega) (Nat.pow_pos (by have := hI.k1; simp only [Int.toNat_natCast]; omega))]
      exact sumTo_congr fun u _ => by rw [fwd_congrP n fun i x hi => pL_mid hi]; rfl
    have HOF := Lib.hid (fun (aw : Option Addr) (cw : Nat) (V : World) (hV : Below w0.heap.size w0 V) (hA : RK .i64 V aw n (List.replicate n (-1))) => around_any kn rn (kn ^ (2 * rn)) a aw T c n cw tb _ V (HT.out.up hV) HI.out HT256.out rfl hA (by omega))
    clear hd hcf hI h256
    go_enter Tryd.func31, Tryd.ntmps31
    obtain ⟨⟨x0, x1, x2⟩, y0, y1, y2⟩ := cellsq HP0.out
    rw [← HWB.out] at x0 x1 x2 y0 y1 y2
    go_wp2_with fail
    rw [HWB.out]
    clear x0 x1 x2 y0 y1 y2
    refine (HCF.out).mono ?_; rintro e w1 ⟨zN, za1, zn1, zc1, za2, zn2, zc2, rfl, hw, hf1, hf2, hN, h0, hb⟩
    obtain ⟨rfl, rfl, rfl, rfl, rfl, rfl, rfl⟩ := h0 rfl
    clear hw hf1 hf2 hN h0
    have HB1 := Lib.hid (HB0.out.trans (hb.mono HB0.out.size))
    clear hb
    go_wp2_with fail
    obtain ⟨g1, hg1⟩ : ∃ g1, w1.heap.size = g1 := ⟨_, rfl⟩
    obtain ⟨w2, hw⟩ : ∃ w2, w1.alloc (.cells #[.int .i64 0, .slice none 0 0, .slice none 0 0] 53) = w2 := ⟨_, rfl⟩
    have hb : Below w1.heap.size w1 w2 := by rw [← hw]; exact balloc (bnil w1) _
    have HZ2 : Hid (w2.heap[g1]? = some (.cells #[.int .i64 0, .slice none 0 0, .slice none 0 0] 53)) := by show _ = _; rw [← hw, ← hg1]; exact heap_alloc_new w1 _
    have HG1 : Hid (W.heap.size + 1 + 1 ≤ g1) := by show _ ≤ _; have := HSZ.out; have := HB1.out.size; omega
    rw [hw]
    simp only [hg1]
    clear hw hg1
    have HB2 := Lib.hid (HB1.out.trans (hb.mono HB1.out.size))
    clear hb
    obtain ⟨⟨q0, q1, q2⟩, f0, f1, f2⟩ := cellsq HZ2.out
    go_wp2_with fail
    clear q0 q1 q2 f0 f1 f2
    refine (refBadq 0 _ _ _ false rfl).mono ?_; rintro e w3 ⟨rfl, hb⟩
    have HB3 := Lib.hid (HB2.out.trans (hb.mono HB2.out.size))
    have HZ3 := Lib.hid ((hb.block _ (heap_ltQ HZ2.out)).trans HZ2.out)
    clear hb
    go_wp2_with (first | (at_make; refine mk_full rfl _ _ _ rfl w3.heap.size et_int .i64 .i64 _ _ n rfl rfl rfl rfl (by omega) (by unfold maxLen; omega) (Nat.le_refl _) ?_; intro wm hown1 hb1 hsz1; rw [made_i64'] at hown1; have HOW := Lib.hid hown1; have HBM := Lib.hid hb1; clear hown1 hb1 hsz1))
    obtain ⟨gl, hgl⟩ : ∃ gl, w3.heap.size = gl := ⟨_, rfl⟩
    rw [hgl] at HOW
    simp only [hgl]
    have HGL := Lib.hid hgl
    clear hgl
    go_loopw [8] (fun ix wr => ∃ i : Nat, i ≤ n ∧ ix = .int .i64 i ∧ wr.ownsRow gl 3 1 (.slice (some ⟨gl, 0, none⟩) n n) n ((List.replicate i (-1 : Int) ++ List.replicate (n - i) 0).map (Value.int .i64)) ∧ Below w3.heap.size w3 wr) (fun ix _ => n - (intOf ix).toNat)
    case atStart => exact ⟨0, by omega, rfl, by simpa using HOW.out, HBM.out⟩
    clear HOW HBM
    case round =>
      obtain ⟨i, hi, rfl, ho, hbr⟩ := hrel
      have HO := Lib.hid ho
      have HBR := Lib.hid hbr
      by_cases hin : i < n
      · have c0 : wr.cell? ⟨gl, i, none⟩ = some (.int .i64 0) := by
          rw [ho.cellAt i (by omega)]
          rw [List.getElem?_map, List.getElem?_append_right (by simp)]; simp [show 0 < n - i by omega]
        have f0 := ho.frozenAt i
        have hst := own_set ho i (.int .i64 (-1))
        have e1 : ((List.replicate i (-1 : Int) ++ List.replicate (n - i) 0).map (Value.int .i64)).set i (.int .i64 (-1)) = (List.replicate (i + 1) (-1 : Int) ++ List.replicate (n - (i + 1)) 0).map (Value.int .i64) := by
          rw [map_set64b, List.set_append_right _ _ (by simp)]
          congr 1
          rw [List.length_replicate, Nat.sub_self, List.replicate_succ' , List.append_assoc]
          congr 1
          rw [show n - i = n - (i + 1) + 1 by omega, List.replicate_succ]; rfl
        rw [e1] at hst
        have HST := Lib.hid hst
        have i0 : (0 : Int) ≤ (i : Int) := by omega
        have i1 : (i : Int) < (n : Int) := by omega
        clear ho hbr hst e1
        go_wp2
        go_roundw
        case rel => exact ⟨i + 1, by omega, by go_num, HST.out, HBR.out.setCell (p := ⟨gl, i, none⟩) (by rw [HGL.out]; exact Nat.le_refl _) _⟩
        case measure => simp [intOf]; omega
      · obtain rfl : i = n := by omega
        have HLB : Hid (RK .i64 wr (some ⟨gl, 0, none⟩) i (List.replicate i (-1))) := by have q := RK.of_own ho; show RK _ _ _ _ _; simpa using q
        have hb := HBR.out
        clear ho hbr HO
        generalize wr = w4 at *
        skip
        have HB4 := Lib.hid (HB3.out.trans (hb.mono HB3.out.size))
        have HZ4 := Lib.hid ((hb.block _ (heap_ltQ HZ3.out)).trans HZ3.out)
        clear hb
        obtain ⟨⟨x0, x1, x2⟩, y0, y1, y2⟩ := cellsq ((HB4.out.block _ (heap_ltQ HP0.out)).trans HP0.out)
        go_wp2_with fail
        clear x0 x1 x2 y0 y1 y2
        refine (HOF.out _ _ _ HB4.out HLB.out).mono ?_; rintro e w5 ⟨a7, n7, c7, rfl, ho7, hb⟩
        rw [HXV.out] at ho7
        have HO7 := Lib.hid (owns_base ho7 (show W.heap.size + 1 + 1 ≤ _ by have := HSZ.out; have := HB4.out.size; omega))
        clear ho7
        have HB5 := Lib.hid (HB4.out.trans (hb.mono HB4.out.size))
        have HZ5 := Lib.hid ((hb.block _ (heap_ltQ HZ4.out)).trans HZ4.out)
        clear hb
        obtain ⟨⟨q0, q1, q2⟩, f0, f1, f2⟩ := cellsq HZ5.out
        have hy := (HB5.out.block _ (by have := HSZ.out; omega)).trans HY0.out
        obtain ⟨⟨p0, p1, p2⟩, f3, f4, f5⟩ := cellsq hy
        obtain ⟨w9, e9, ⟨r0, r1, r2⟩, hk, hs, hbl, _⟩ := set3q hy (.int .i64 0) (.slice none 0 0) (.slice none 0 0)
        have HE9 := Lib.hid e9
        have HR := Lib.hid (And.intro r0 (And.intro r1 r2))
        have HBE := Lib.hid (hbl W W.heap.size (by omega) (HBX.out.trans (HB5.out.mono HBX.out.size)))
        have HWC := Lib.hid (wc_none w9)
        have HNR := Lib.hid (nr_of_own (own_heapQ HO7.out hk (by have := HSZ.out; have := HG1.out; omega)))
        clear hy e9 r0 r1 r2 hk hs hbl
        go_wp2
        rw [HE9.out]
        have r0 : w9.cell? _ = _ := HR.out.1
        have r1 : w9.cell? _ = _ := HR.out.2.1
        have r2 : w9.cell? _ = _ := HR.out.2.2
        refine bodyPost_ret (v := .tuple #[.slice a7 n7 c7, .agg #[.int .i64 0, .slice none 0 0, .slice none 0 0]]) (by simp [results, Tryd.results31, go_sem, r0, r1, r2]) rfl ?_
        rw [HS.out]; exact ⟨a7, n7, c7, 0, none, 0, 0, none, 0, 0, rfl, HNR.out, HWC.out, HBE.out⟩
end Go.Proofs.YteneiianpghalaaDoor
namespace Go.Proofs.YteneiianpghalaaDoor
open Go.RowKit
set_option linter.unusedVariables false
set_option maxRecDepth 100000

/-- an error is answered, that one -/
def OneE (R : Nat → Addr) (W : World) (f : ErrD) (e : Ending) (w' : World) : Prop := ∃ g, e = .returned (.iface 120 (.pointer (some ⟨g, 0, none⟩))) ∧ EC R w' (.iface 120 (.pointer (some ⟨g, 0, none⟩))) f ∧ Below W.heap.size W w'
/-- a number and an error -/
def ProNv (R : Nat → Addr) (W : World) (x : Nat) (f : ErrD) (e : Ending) (w' : World) : Prop :=
  ∃ a' n' c' ev, e = .returned (.tuple #[.slice a' n' c', ev]) ∧ NR w' a' n' (limbs x) ∧ n' ≤ maxLen ∧ EC R w' ev f ∧ Below W.heap.size W w'
theorem wrong_ec {op : ByteArray} {at_ n : Int} {W : World} {R : Nat → Addr} (hS : Sent W R) : EC R (W.alloc (faultObj op at_ (.iface 218 (.pointer (some (R (rix n))))))) (.iface 120 (.pointer (some ⟨W.heap.size, 0, none⟩))) (some ([(op, at_)], n)) :=
  ec_err (hS.up (balloc (bnil W) _)) (isErr_new (B := W.heap.size) (R := R) (Nat.le_refl W.heap.size))

theorem rsmall_errE (k r : Int) (a : Option Addr) (n c : Nat) (l : List Int) (W : World) (R : Nat → Addr) (hS : Sent W R) (hG : Glob W R) (hR : RK .i64 W a n l) (hm : n ≤ maxLen) (y : List (ByteArray × Int) × Int) (h : smallD k r l = some y) :
    Calls Tryd.prog 117 #[ruleV k r a n c] W (OneE R W (some y)) := by
  have hm' : n ≤ 9223372036854775807 := hm
  have HL := Lib.hid hR.len
  have HS := Lib.hid hS; clear hS
  have HG := Lib.hid hG; clear hG
  have HR := Lib.hid hR; clear hR
  have hbx := balloc (bnil W) (.cells #[.int .i64 k, .int .i64 r, .slice a n c] 24)
  cases he : ruleErr k r l with
  | some at_ =>
    have hd : ruleD k r l = some ([(opRule, at_)], 1) := by unfold ruleD; rw [he]; rfl
    have hy : y = ([(opRule, at_)], 1) := by
      unfold smallD at h; rw [hd] at h; simp at h; exact h.symm
    subst hy
    have HE := Lib.hid he; clear he hd h
    go_enter Tryd.func117, Tryd.ntmps117
    go_wp2_with fail
    refine (rcheck_err k r a n c l _ R (HG.out.up hbx) (HR.out.up hbx) hm at_ HE.out).mono ?_; rintro e w2 ⟨g, rfl, he2, hb2⟩
    have HE2 := Lib.hid (ec_err (HS.out.up (hbx.trans (hb2.mono hbx.size))) he2)
    clear he2
    go_wp2
    go_ret
    exact ⟨_, rfl, HE2.out, hbx.trans (hb2.mono hbx.size)⟩
  | none =>
    obtain ⟨kn, rn, rfl, rfl, hI⟩ := ruleErr_none he
    have hd : ruleD (kn : Int) (rn : Int) l = none := by unfold ruleD; rw [he]; rfl
    have hy : 256 < n ∧ y = ([(opRule, 0)], 4) := by
      unfold smallD at h; rw [hd] at h
      by_cases h5 : 256 < l.length
      · rw [if_neg (by simp), if_pos h5] at h; simp at h; exact ⟨by rw [HL.out]; exact h5, h.symm⟩
      · rw [if_neg (by simp), if_neg h5] at h; cases h
    obtain ⟨hbig, rfl⟩ := hy
    have HI := Lib.hid hI; clear hI he hd h
    go_enter Tryd.func117, Tryd.ntmps117
    go_wp2_with fail
    refine (rcheck_ok kn rn a n c l _ (HR.out.up hbx) HI.out).mono ?_; rintro e w2 ⟨rfl, hb2⟩
    have x2 := (hb2.cell (p := ⟨W.heap.size, 2, none⟩) (by simp)).trans (show (W.alloc (.cells #[.int .i64 kn, .int .i64 rn, .slice a n c] 24)).cell? ⟨W.heap.size, 2, none⟩ = some (.slice a n c) by simp)
    have hb2W := hbx.trans (hb2.mono hbx.size)
    go_wp2_with fail
    refine (rule_wrong _ _ _ R (HG.out.up hb2W) (by rfl)).mono ?_; rintro e w' ⟨rfl, rfl⟩
    have HE2 := Lib.hid (wrong_ec (op := opRule) (at_ := 0) (n := 4) (HS.out.up hb2W))
    go_wp2
    go_ret
    exact ⟨_, rfl, HE2.out, balloc hb2W _⟩
theorem csmall_errE (k r : Int) (a : Option Addr) (n c : Nat) (l : List Int) (W : World) (R : Nat → Addr) (hS : Sent W R) (hG : Glob W R) (hR : RK .i64 W a n l) (hm : n ≤ maxLen) (y : List (ByteArray × Int) × Int) (h : faultD opCount k r l = some y) :
    Calls Tryd.prog 56 #[ruleV k r a n c] W (OneE R W (some y)) := by
  obtain ⟨es, N⟩ := y
  have h2 : ∃ y2, smallD k r l = some y2 ∧ (es, N) = ((opCount, 0) :: y2.1, y2.2) := by
    unfold faultD at h
    cases hs : smallD k r l with
    | none => rw [hs] at h; cases h
    | some y2 => rw [hs] at h; exact ⟨y2, rfl, (Option.some.inj h).symm⟩
  obtain ⟨⟨e2, N2⟩, hs2, hy⟩ := h2
  obtain ⟨rfl, rfl⟩ := Prod.mk.inj hy
  have HSM := Lib.hid hs2
  have HS := Lib.hid hS; clear hS
  have HG := Lib.hid hG; clear hG
  have HR := Lib.hid hR; clear hR hs2 h hy
  have hbx := balloc (bnil W) (.cells #[.int .i64 k, .int .i64 r, .slice a n c] 24)
  go_enter Tryd.func56, Tryd.ntmps56
  go_wp2_with fail
  refine (rsmall_errE k r a n c l _ R (HS.out.up hbx) (HG.out.up hbx) (HR.out.up hbx) hm _ HSM.out).mono ?_; rintro e w2 ⟨g, rfl, he, hb2⟩
  have hb2W := hbx.trans (hb2.mono hbx.size)
  have HE := Lib.hid (ec_under opCount 0 he)
  clear he
  go_wp2_with fail
  refine (under_err _ _ _ _ _).mono ?_; rintro e w3 ⟨rfl, rfl⟩
  go_wp2
  go_ret
  exact ⟨_, rfl, HE.out, balloc hb2W _⟩
set_option maxHeartbeats 1000000 in
theorem symbols_errE (k : Int) (a : Option Addr) (n c most : Nat) (l : List Int) (W : World) (R : Nat → Addr) (hS : Sent W R) (hG : Glob W R) (hR : RK .i64 W a n l) (hm : n ≤ maxLen) (hmo : most ≤ 4096) (y : List (ByteArray × Int) × Int) (h : wfaultD opCount k l most = some y) :
    Calls Tryd.prog 57 #[.int .i64 k, .slice a n c, .int .i64 most] W (OneE R W (some y)) := by
  have hm' : n ≤ 9223372036854775807 := hm
  have HL := Lib.hid hR.len
  have HS := Lib.hid hS; clear hS
  have HG := Lib.hid hG; clear hG
  have HR := Lib.hid hR; clear hR
  have hmf : ∀ (fn : Fn) (first cap : Array Value) (w : World), (Instr.makeFunc fn first cap).run Tryd.prog w = .ok (.func fn first cap) w := fun _ _ _ _ => rfl
  have hbx := balloc (bnil W) (.cells #[.int .i64 k] 3)
  unfold wfaultD at h
  rw [← HL.out] at h
  by_cases hbig : most < n
  · rw [if_pos (by omega)] at h
    obtain rfl := Option.some.inj h
    clear h
    go_enter Tryd.func57, Tryd.ntmps57
    go_wp2_with fail
    refine (count_wrong _ _ _ R (HG.out.up hbx) (by rfl)).mono ?_; rintro e w' ⟨rfl, rfl⟩
    have HE2 := Lib.hid (wrong_ec (op := opCount) (at_ := 1) (n := 4) (HS.out.up hbx))
    go_wp2
    go_ret
    exact ⟨_, rfl, by have q := HE2.out; rw [show (W.alloc (.cells #[.int .i64 k] 3)).heap.size = W.heap.size + 1 by simp] at q; exact q, balloc hbx _⟩
  · rw [if_neg (by omega)] at h
    have hPr : PredOf 119 #[.pointer (some ⟨W.heap.size, 0, none⟩)] (badB k) (W.alloc (.cells #[.int .i64 k] 3)) := sym_pred k W.heap.size _ (by simp) (by simp)
    have HP := Lib.hid hPr; clear hPr
    have eg : ∀ args w, (callFunc 119 args).run Tryd.prog w = .ok (.enter 119 args) w := enters_of Tryd.func119 (by kernel_rfl) rfl
    have EG := Lib.hid eg; clear eg
    obtain ⟨i, hi⟩ : ∃ i, idxI (badB k) l = i := ⟨_, rfl⟩
    rw [hi] at h
    have HI := Lib.hid hi; clear hi
    by_cases h0 : 0 ≤ i
    · rw [if_pos h0] at h
      obtain rfl := Option.some.inj h
      clear h
      go_enter Tryd.func57, Tryd.ntmps57
      go_wp2_with fail
      refine (indexFunc_any a n c l 119 _ (badB k) _ (HR.out.al _) hm EG.out HP.out).mono ?_; rintro e w' ⟨rfl, m, rfl⟩
      rw [HI.out]
      have hbm := bdrewN hbx m
      go_wp2_with fail
      refine (count_wrong _ _ _ R ((HG.out.alloc _).drewN) (by rfl)).mono ?_; rintro e w' ⟨rfl, rfl⟩
      have HE2 := Lib.hid (wrong_ec (op := opCount) (at_ := i) (n := 2) (HS.out.up hbm))
      go_wp2
      go_ret
      exact ⟨_, rfl, by have q := HE2.out; rw [show ((W.alloc (.cells #[.int .i64 k] 3)).drewN m).heap.size = W.heap.size + 1 by simp] at q; exact q, balloc hbm _⟩
    · rw [if_neg h0] at h; cases h

set_option maxHeartbeats 4000000 in
theorem pcWords (k r : Int) (a aw : Option Addr) (n c nw cw : Nat) (l wl : List Int) (W : World) (R : Nat → Addr) (hS : Sent W R) (hG : Glob W R) (hR : RK .i64 W a n l) (hW : RK .i64 W aw nw wl) (hnc : n ≤ c) (hcm : c ≤ maxLen) (hmw : nw ≤ maxLen) :
    Calls Tryd.prog 11 #[ruleV k r a n c, .slice aw nw cw] W (ProNv R W (wordsX k r l wl) (wordsE k r l wl)) := by
  have hm : n ≤ maxLen := Nat.le_trans hnc hcm
  have hL := hR.len
  have hLw := hW.len
  cases hd : faultD opCount k r l with
  | some y =>
    have he : wordsE k r l wl = some y := by unfold wordsE; rw [hd]; rfl
    have hx : wordsX k r l wl = 0 := by unfold wordsX; rw [he]; rfl
    rw [he, hx]
    have HD := Lib.hid hd
    have HS := Lib.hid hS; clear hS
    have HG := Lib.hid hG; clear hG
    have HR := Lib.hid hR; clear hR hW hL hLw hd he hx
    obtain ⟨Wb, hWb⟩ : ∃ Wb, W.alloc (.cells #[.int .i64 k, .int .i64 r, .slice a n c] 24) = Wb := ⟨_, rfl⟩
    have HBX : Hid (Below W.heap.size W Wb) := by rw [← hWb]; exact balloc (bnil W) _
    have HWB := Lib.hid hWb; clear hWb
    go_enter Tryd.func11, Tryd.ntmps11
    go_wp2_with fail
    rw [HWB.out]
    refine (csmall_errE k r a n c l _ R (HS.out.up HBX.out) (HG.out.up HBX.out) (HR.out.up HBX.out) hm _ HD.out).mono ?_; rintro e w2 ⟨g2, rfl, he, hb2⟩
    have HE := Lib.hid he
    clear he
    go_wp2
    go_ret2
    exact ⟨none, 0, 0, _, rfl, nr_zero _, Nat.zero_le _, HE.out, HBX.out.trans (hb2.mono HBX.out.size)⟩
  | none =>
    obtain ⟨kn, rn, rfl, rfl, hI, h256⟩ := faultD_none hd
    rw [← hL] at h256
    cases hw : wfaultD opCount kn wl 256 with
    | some y =>
      have he : wordsE kn rn l wl = some y := by unfold wordsE; rw [hd]; exact hw
      have hx : wordsX kn rn l wl = 0 := by unfold wordsX; rw [he]; rfl
      rw [he, hx]
      have HD := Lib.hid hw
      have HI := Lib.hid hI
      have HS := Lib.hid hS; clear hS
      have HG := Lib.hid hG; clear hG
      have HW := Lib.hid hW
      have HR := Lib.hid hR; clear hR hW hL hLw hd he hx hw hI
      obtain ⟨Wb, hWb⟩ : ∃ Wb, W.alloc (.cells #[.int .i64 (kn : Int), .int .i64 (rn : Int), .slice a n c] 24) = Wb := ⟨_, rfl⟩
      have HX : Hid (Wb.cell? ⟨W.heap.size, 0, none⟩ = some (.int .i64 kn)) := by rw [← hWb]; show World.cell? _ _ = _; simp
      have HSZ : Hid (W.heap.size < Wb.heap.size) := by show _ < _; rw [← hWb]; simp
      have HBX : Hid (Below W.heap.size W Wb) := by rw [← hWb]; exact balloc (bnil W) _
      have HWB := Lib.hid hWb; clear hWb
      go_enter Tryd.func11, Tryd.ntmps11
      go_wp2_with fail
      rw [HWB.out]
      refine (csmall_ok kn rn a n c l _ (HR.out.up HBX.out) HI.out h256).mono ?_; rintro e w2 ⟨rfl, hb2⟩
      have x0 := (hb2.cell (p := ⟨W.heap.size, 0, none⟩) HSZ.out).trans HX.out
      have hb2W := HBX.out.trans (hb2.mono HBX.out.size)
      go_wp2_with fail
      refine (symbols_errE (kn : Int) aw nw cw 256 wl _ R (HS.out.up hb2W) (HG.out.up hb2W) (HW.out.up hb2W) hmw (by decide) _ HD.out).mono ?_; rintro e w3 ⟨g3, rfl, he, hb3⟩
      have HE := Lib.hid he
      clear he
      go_wp2
      go_ret2
      exact ⟨none, 0, 0, _, rfl, nr_zero _, Nat.zero_le _, HE.out, bstep hb2W hb3⟩
    | none =>
      obtain ⟨hl, hsy⟩ := wfaultD_none hw
      have he : wordsE kn rn l wl = none := by unfold wordsE; rw [hd]; exact hw
      have hx : wordsX kn rn l wl = wordsC kn (kn ^ (2 * rn)) l wl := by unfold wordsX; rw [he]; rfl
      rw [he, hx]
      refine (countWords_ok kn rn a aw n c nw cw l wl W R hG hR hW hI h256 hnc hcm (by omega) hsy).mono ?_
      rintro e w' ⟨a', n', c', rfl, ho, hb⟩
      exact ⟨a', n', c', _, rfl, ho.ns.nr, Nat.le_trans ho.ns.le ho.ns.cm, rfl, hb⟩

set_option maxHeartbeats 4000000 in
theorem pcRings (k r : Int) (a aw : Option Addr) (n c nw cw : Nat) (l wl : List Int) (W : World) (R : Nat → Addr) (hS : Sent W R) (hG : Glob W R) (hR : RK .i64 W a n l) (hW : RK .i64 W aw nw wl) (hnc : n ≤ c) (hcm : c ≤ maxLen) (hmw : nw ≤ maxLen) :
    Calls Tryd.prog 22 #[ruleV k r a n c, .slice aw nw cw] W (ProNv R W (ringsX k r l wl) (ringsE k r l wl)) := by
  have hm : n ≤ maxLen := Nat.le_trans hnc hcm
  have hL := hR.len
  have hLw := hW.len
  have hmw' : nw ≤ 9223372036854775807 := hmw
  cases hd : faultD opCount k r l with
  | some y =>
    have he : ringsE k r l wl = some y := by unfold ringsE; rw [hd]; rfl
    have hx : ringsX k r l wl = 0 := by unfold ringsX; rw [he]; rfl
    rw [he, hx]
    have HD := Lib.hid hd
    have HS := Lib.hid hS; clear hS
    have HG := Lib.hid hG; clear hG
    have HR := Lib.hid hR; clear hR hW hL hLw hd he hx
    obtain ⟨Wb, hWb⟩ : ∃ Wb, (W.alloc (.cells #[.int .i64 k, .int .i64 r, .slice a n c] 24)).alloc (.cells #[.slice aw nw cw] 22) = Wb := ⟨_, rfl⟩
    have HBX : Hid (Below W.heap.size W Wb) := by rw [← hWb]; exact balloc (balloc (bnil W) _) _
    have HWB := Lib.hid hWb; clear hWb
    go_enter Tryd.func22, Tryd.ntmps22
    go_wp2_with fail
    rw [HWB.out]
    refine (csmall_errE k r a n c l _ R (HS.out.up HBX.out) (HG.out.up HBX.out) (HR.out.up HBX.out) hm _ HD.out).mono ?_; rintro e w2 ⟨g2, rfl, he, hb2⟩
    have HE := Lib.hid he
    clear he
    go_wp2
    go_ret2
    exact ⟨none, 0, 0, _, rfl, nr_zero _, Nat.zero_le _, HE.out, HBX.out.trans (hb2.mono HBX.out.size)⟩
  | none =>
    obtain ⟨kn, rn, rfl, rfl, hI, h256⟩ := faultD_none hd
    rw [← hL] at h256
    by_cases hn0 : nw = 0
    · have he : ringsE kn rn l wl = some ([(opCount, 1)], 3) := by unfold ringsE; rw [hd, if_neg (by simp), if_pos (by rw [← hLw]; exact hn0)]
      have hx : ringsX kn rn l wl = 0 := by unfold ringsX; rw [he]; rfl
      rw [he, hx]
      subst hn0
      have HI := Lib.hid hI
      have HS := Lib.hid hS; clear hS
      have HG := Lib.hid hG; clear hG
      have HR := Lib.hid hR; clear hR hW hL hLw hd he hx hI
      obtain ⟨Wb, hWb⟩ : ∃ Wb, (W.alloc (.cells #[.int .i64 (kn : Int), .int .i64 (rn : Int), .slice a n c] 24)).alloc (.cells #[.slice aw 0 cw] 22) = Wb := ⟨_, rfl⟩
      have HX : Hid (Wb.cell? ⟨W.heap.size + 1, 0, none⟩ = some (.slice aw 0 cw)) := by rw [← hWb]; show World.cell? _ _ = _; simp
      have HSZ : Hid (W.heap.size + 1 < Wb.heap.size) := by show _ < _; rw [← hWb]; simp
      have HBX : Hid (Below W.heap.size W Wb) := by rw [← hWb]; exact balloc (balloc (bnil W) _) _
      have HWB := Lib.hid hWb; clear hWb
      go_enter Tryd.func22, Tryd.ntmps22
      go_wp2_with fail
      rw [HWB.out]
      refine (csmall_ok kn rn a n c l _ (HR.out.up HBX.out) HI.out h256).mono ?_; rintro e w2 ⟨rfl, hb2⟩
      have x0 := (hb2.cell (p := ⟨W.heap.size + 1, 0, none⟩) HSZ.out).trans HX.out
      have hb2W := HBX.out.trans (hb2.mono HBX.out.size)
      go_wp2_with fail
      refine (count_wrong _ _ _ R (HG.out.up hb2W) (by rfl)).mono ?_; rintro e w' ⟨rfl, rfl⟩
      have HE2 := Lib.hid (wrong_ec (op := opCount) (at_ := 1) (n := 3) (HS.out.up hb2W))
      go_wp2
      go_ret2
      exact ⟨none, 0, 0, _, rfl, nr_zero _, Nat.zero_le _, HE2.out, balloc hb2W _⟩
    have hw0 : ((nw : Int) == 0) = false := by rw [beq_eq_false_iff_ne]; omega
    cases hw : wfaultD opCount kn wl 64 with
    | some y =>
      have he : ringsE kn rn l wl = some y := by unfold ringsE; rw [hd, if_neg (by simp), if_neg (by rw [← hLw]; exact hn0)]; exact hw
      have hx : ringsX kn rn l wl = 0 := by unfold ringsX; rw [he]; rfl
      rw [he, hx]
      have HD := Lib.hid hw
      have HI := Lib.hid hI
      have HS := Lib.hid hS; clear hS
      have HG := Lib.hid hG; clear hG
      have HW := Lib.hid hW
      have HR := Lib.hid hR; clear hR hW hL hLw hd he hx hw hI hn0
      obtain ⟨Wb, hWb⟩ : ∃ Wb, (W.alloc (.cells #[.int .i64 (kn : Int), .int .i64 (rn : Int), .slice a n c] 24)).alloc (.cells #[.slice aw nw cw] 22) = Wb := ⟨_, rfl⟩
      have HX : Hid (Wb.cell? ⟨W.heap.size, 0, none⟩ = some (.int .i64 kn) ∧ Wb.cell? ⟨W.heap.size + 1, 0, none⟩ = some (.slice aw nw cw)) := by rw [← hWb]; exact ⟨by simp, by simp⟩
      have HSZ : Hid (W.heap.size + 1 < Wb.heap.size) := by show _ < _; rw [← hWb]; simp
      have HBX : Hid (Below W.heap.size W Wb) := by rw [← hWb]; exact balloc (balloc (bnil W) _) _
      have HWB := Lib.hid hWb; clear hWb
      go_enter Tryd.func22, Tryd.ntmps22
      go_wp2_with fail
      rw [HWB.out]
      refine (csmall_ok kn rn a n c l _ (HR.out.up HBX.out) HI.out h256).mono ?_; rintro e w2 ⟨rfl, hb2⟩
      have x0 := (hb2.cell (p := ⟨W.heap.size, 0, none⟩) (Nat.lt_trans (Nat.lt_succ_self _) HSZ.out)).trans HX.out.1
      have x3 := (hb2.cell (p := ⟨W.heap.size + 1, 0, none⟩) HSZ.out).trans HX.out.2
      have hb2W := HBX.out.trans (hb2.mono HBX.out.size)
      go_wp2_with fail
      refine (symbols_errE (kn : Int) aw nw cw 64 wl _ R (HS.out.up hb2W) (HG.out.up hb2W) (HW.out.up hb2W) hmw (by decide) _ HD.out).mono ?_; rintro e w3 ⟨g3, rfl, he, hb3⟩
      have HE := Lib.hid he
      clear he
      go_wp2
      go_ret2
      exact ⟨none, 0, 0, _, rfl, nr_zero _, Nat.zero_le _, HE.out, bstep hb2W hb3⟩
    | none =>
      obtain ⟨hl, hsy⟩ := wfaultD_none hw
      have he : ringsE kn rn l wl = none := by unfold ringsE; rw [hd, if_neg (by simp), if_neg (by rw [← hLw]; exact hn0)]; exact hw
      have hx : ringsX kn rn l wl = ringsC kn (kn ^ (2 * rn)) n nw (fitW l wl) (kn ^ (2 * rn)) := by
        unfold ringsX
        rw [he, hLw, (hI.nodes hL).1]
        rfl
      rw [he, hx]
      refine (countRings_ok kn rn a aw n c nw cw l wl W R hG hR hW hI h256 hnc hcm (by omega) (by omega) hsy).mono ?_
      rintro e w' ⟨a', n', c', rfl, ho, hb⟩
      exact ⟨a', n', c', _, rfl, ho.ns.nr, Nat.le_trans ho.ns.le ho.ns.cm, rfl, hb⟩

set_option maxHeartbeats 4000000 in
theorem pcFixed (k r m : Int) (a : Option Addr) (n c : Nat) (l : List Int) (W : World) (R : Nat → Addr) (hS : Sent W R) (hG : Glob W R) (hR : RK .i64 W a n l) (hnc : n ≤ c) (hcm : c ≤ maxLen) :
    Calls Tryd.prog 15 #[ruleV k r a n c, .int .i64 m] W (ProNv R W (fixedX k r l m) (fixedE k r l m)) := by
  have hm : n ≤ maxLen := Nat.le_trans hnc hcm
  have hL := hR.len
  obtain ⟨Wb, hWb⟩ : ∃ Wb, W.alloc (.cells #[.int .i64 k, .int .i64 r, .slice a n c] 24) = Wb := ⟨_, rfl⟩
  have HBX : Hid (Below W.heap.size W Wb) := by rw [← hWb]; exact balloc (bnil W) _
  have HWB := Lib.hid hWb; clear hWb
  cases hd : faultD opCount k r l with
  | some y =>
    have he : fixedE k r l m = some y := by unfold fixedE; rw [hd]; rfl
    have hx : fixedX k r l m = 0 := by unfold fixedX; rw [he]; rfl
    rw [he, hx]
    have HD := Lib.hid hd
    have HS := Lib.hid hS; clear hS
    have HG := Lib.hid hG; clear hG
    have HR := Lib.hid hR; clear hR hL hd he hx
    go_enter Tryd.func15, Tryd.ntmps15
    go_wp2_with fail
    rw [HWB.out]
    refine (csmall_errE k r a n c l _ R (HS.out.up HBX.out) (HG.out.up HBX.out) (HR.out.up HBX.out) hm _ HD.out).mono ?_; rintro e w2 ⟨g2, rfl, he, hb2⟩
    have HE := Lib.hid he
    clear he
    go_wp2
    go_ret2
    exact ⟨none, 0, 0, _, rfl, nr_zero _, Nat.zero_le _, HE.out, HBX.out.trans (hb2.mono HBX.out.size)⟩
  | none =>
    obtain ⟨kn, rn, rfl, rfl, hI, h256⟩ := faultD_none hd
    rw [← hL] at h256
    by_cases hm1 : m < 1
    · have he : fixedE kn rn l m = some ([(opCount, 1)], 3) := by unfold fixedE; rw [hd, if_neg (by simp), if_pos hm1]
      have hx : fixedX kn rn l m = 0 := by unfold fixedX; rw [he]; rfl
      rw [he, hx]
      have HI := Lib.hid hI
      have HS := Lib.hid hS; clear hS
      have HG := Lib.hid hG; clear hG
      have HR := Lib.hid hR; clear hR hL hd he hx hI
      go_enter Tryd.func15, Tryd.ntmps15
      go_wp2_with fail
      rw [HWB.out]
      refine (csmall_ok kn rn a n c l _ (HR.out.up HBX.out) HI.out h256).mono ?_; rintro e w2 ⟨rfl, hb2⟩
      have hb2W := HBX.out.trans (hb2.mono HBX.out.size)
      go_wp2_with fail
      refine (count_wrong _ _ _ R (HG.out.up hb2W) (by rfl)).mono ?_; rintro e w' ⟨rfl, rfl⟩
      have HE2 := Lib.hid (wrong_ec (op := opCount) (at_ := 1) (n := 3) (HS.out.up hb2W))
      go_wp2
      go_ret2
      exact ⟨none, 0, 0, _, rfl, nr_zero _, Nat.zero_le _, HE2.out, balloc hb2W _⟩
    by_cases hm2 : 64 < m
    · have he : fixedE kn rn l m = some ([(opCount, 1)], 4) := by unfold fixedE; rw [hd, if_neg (by simp), if_neg hm1, if_pos hm2]
      have hx : fixedX kn rn l m = 0 := by unfold fixedX; rw [he]; rfl
      rw [he, hx]
      have HI := Lib.hid hI
      have HS := Lib.hid hS; clear hS
      have HG := Lib.hid hG; clear hG
      have HR := Lib.hid hR; clear hR hL hd he hx hI
      go_enter Tryd.func15, Tryd.ntmps15
      go_wp2_with fail
      rw [HWB.out]
      refine (csmall_ok kn rn a n c l _ (HR.out.up HBX.out) HI.out h256).mono ?_; rintro e w2 ⟨rfl, hb2⟩
      have hb2W := HBX.out.trans (hb2.mono HBX.out.size)
      go_wp2_with fail
      refine (count_wrong _ _ _ R (HG.out.up hb2W) (by rfl)).mono ?_; rintro e w' ⟨rfl, rfl⟩
      have HE2 := Lib.hid (wrong_ec (op := opCount) (at_ := 1) (n := 4) (HS.out.up hb2W))
      go_wp2
      go_ret2
      exact ⟨none, 0, 0, _, rfl, nr_zero _, Nat.zero_le _, HE2.out, balloc hb2W _⟩
    obtain ⟨mn, rfl⟩ : ∃ mn : Nat, m = (mn : Int) := ⟨m.toNat, by omega⟩
    have he : fixedE kn rn l mn = none := by unfold fixedE; rw [hd, if_neg (by simp), if_neg hm1, if_neg hm2]
    have hx : fixedX kn rn l mn = ringsC kn (kn ^ (2 * rn)) n mn (fitF kn (kn ^ rn) l) (kn ^ (2 * rn)) := by
      unfold fixedX
      rw [he, (hI.nodes hL).1]
      rfl
    rw [he, hx]
    refine (countFixed_ok kn rn a n c mn l W hR hI h256 hnc hcm (by omega) (by omega)).mono ?_
    rintro e w' ⟨a', n', c', rfl, ho, hb⟩
    exact ⟨a', n', c', _, rfl, ho.ns.nr, Nat.le_trans ho.ns.le ho.ns.cm, rfl, hb⟩
end Go.Proofs.YteneiianpghalaaDoor
