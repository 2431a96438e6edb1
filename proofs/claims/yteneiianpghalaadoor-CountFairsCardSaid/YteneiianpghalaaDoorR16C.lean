/- edenref16.Mul, power, Pow. -/
import Derived.Test.YteneiianpghalaaDoorR16B
namespace Go.Proofs.YteneiianpghalaaDoor
open Go.RowKit
set_option linter.unusedVariables false
set_option maxRecDepth 100000

/-- a matrix and an error of the document -/
def RefMs (W : World) (m : Nat) (F : Nat → Nat → List Nat) (f : ErrD) (e : Ending) (w' : World) : Prop :=
  ∃ a' c' N a1 n1 c1 a2 n2 c2, e = .returned (.tuple #[.slice a' m c', .agg #[.int .i64 N, .slice a1 n1 c1, .slice a2 n2 c2]]) ∧ MsR w' a' m (fun _ => m) F ∧ WC w' (.agg #[.int .i64 N, .slice a1 n1 c1, .slice a2 n2 c2]) f ∧ Below W.heap.size W w'
/-- what a product's answer is -/
def MulE (na nb : Nat) (ga gb : Nat → Nat) (m : Nat) (f : ErrD) : Prop :=
  (∃ x, MatBad na ga x ∧ m = 0 ∧ f = some ([(opMat, x.1)], x.2)) ∨ (Square na ga ∧ ∃ x, MatBad nb gb x ∧ m = 0 ∧ f = some ([(opMat, 1), (opMat, x.1)], x.2)) ∨
  (Square na ga ∧ Square nb gb ∧ na ≠ nb ∧ m = 0 ∧ f = some ([(opMat, 1)], 3)) ∨ (Square na ga ∧ Square nb gb ∧ na = nb ∧ m = na ∧ f = none)
theorem heap_ltQ {w : World} {b : Nat} {o : Obj} (h : w.heap[b]? = some o) : b < w.heap.size := (Array.getElem?_eq_some_iff.1 h).1
theorem wc_num {w : World} {N n : Int} {a1 a2 : Option Addr} {n1 c1 n2 c2 : Nat} {es : List (ByteArray × Int)} (h : WC w (.agg #[.int .i64 N, .slice a1 n1 c1, .slice a2 n2 c2]) (some (es, n))) : N = n := by
  obtain ⟨⟨ao, aa, co, ca, e, _⟩, _⟩ := h
  simp only [Value.agg.injEq, Array.mk.injEq, List.cons.injEq, Value.int.injEq] at e
  exact e.1.2
theorem ms_zero {w : World} {a : Option Addr} {g : Nat → Nat} {F : Nat → Nat → List Nat} : MsR w a 0 g F := .inl rfl

set_option maxHeartbeats 16000000 in
theorem ref16mul (aa ab : Option Addr) (na nb ca cb : Nat) (ga gb : Nat → Nat) (A B : Nat → Nat → List Nat) (W : World) (hA : MsR W aa na ga A) (hB9 : MsR W ab nb gb B) (hna : na ≤ 96) (hnb : nb ≤ 96) (hLA : ∀ i j, i < na → j < ga i → (A i j).length ≤ 90000) (hLB : ∀ i j, i < nb → j < gb i → (B i j).length ≤ 90000) (m : Nat) (f : ErrD) (hf : MulE na nb ga gb m f) :
    Calls Tryd.prog 40 #[.slice aa na ca, .slice ab nb cb] W (RefMs W m (fun i j => limbs (mm m (vM A) (vM B) i j)) f) := by
  have HLA := Lib.hid hLA
  have HLB := Lib.hid hLB
  clear hLA hLB
  obtain ⟨w0, hw0⟩ : ∃ w0, W.alloc (.cells #[.int .i64 0, .slice none 0 0, .slice none 0 0] 53) = w0 := ⟨_, rfl⟩
  have HY0 : Hid (w0.heap[W.heap.size]? = some (.cells #[.int .i64 0, .slice none 0 0, .slice none 0 0] 53)) := by show _ = _; rw [← hw0]; exact heap_alloc_new W _
  have HBX : Hid (Below W.heap.size W w0) := by show Below _ _ _; rw [← hw0]; exact balloc (bnil W) _
  have HSZ : Hid (w0.heap.size = W.heap.size + 1) := by show _ = _; rw [← hw0]; simp
  have HB0 := Lib.hid (bnil w0)
  have HWB := Lib.hid hw0
  have HA := Lib.hid (hA.up HBX.out)
  have HB9 := Lib.hid (hB9.up HBX.out)
  clear hw0 hA hB9
  rcases hf with ⟨x, hx, rfl, rfl⟩ | ⟨hs, x, hx, rfl, rfl⟩ | ⟨hs, hs2, hne, rfl, rfl⟩ | ⟨hs, hs2, rfl, rfl, rfl⟩
  · have HX : Hid (MatErr na ga (some ([(opMat, x.1)], x.2))) := .inr ⟨x, hx, rfl⟩
    clear hx
    go_enter Tryd.func40, Tryd.ntmps40
    go_wp2_with fail
    rw [HWB.out]
    refine (ref16check aa na ca ga A _ HA.out hna _ HX.out).mono ?_; rintro e w1 ⟨vN, va1, vn1, vc1, va2, vn2, vc2, rfl, hw, hf1, hf2, hN, h0, hb⟩
    have HWv1 := Lib.hid hw
    have HFv : Hid (Fr (W.heap.size + 1) va1 ∧ Fr (W.heap.size + 1) va2) := ⟨hf1.base (by have := HSZ.out; have := HB0.out.size; omega), hf2.base (by have := HSZ.out; have := HB0.out.size; omega)⟩
    have HNv : Hid ((vN != 0) = true) := hN
    clear hw hf1 hf2 hN h0
    have HB1 := Lib.hid (HB0.out.trans (hb.mono HB0.out.size))
    clear hb
    go_wp2_with fail
    obtain ⟨g1, hg1⟩ : ∃ g1, w1.heap.size = g1 := ⟨_, rfl⟩
    obtain ⟨w2, hw⟩ : ∃ w2, w1.alloc (.cells #[.int .i64 vN, .slice va1 vn1 vc1, .slice va2 vn2 vc2] 53) = w2 := ⟨_, rfl⟩
    have hb : Below w1.heap.size w1 w2 := by rw [← hw]; exact balloc (bnil w1) _
    have HZ2 : Hid (w2.heap[g1]? = some (.cells #[.int .i64 vN, .slice va1 vn1 vc1, .slice va2 vn2 vc2] 53)) := by show _ = _; rw [← hw, ← hg1]; exact heap_alloc_new w1 _
    have HG1 : Hid (W.heap.size + 1 ≤ g1) := by show _ ≤ _; have := HSZ.out; have := HB1.out.size; omega
    rw [hw]
    simp only [hg1]
    clear hw hg1
    have HB2 := Lib.hid (HB1.out.trans (hb.mono HB1.out.size))
    have HWv2 := Lib.hid (HWv1.out.up hb)
    clear hb
    refine (refBadq vN _ _ _ true HNv.out).mono ?_; rintro e w3 ⟨rfl, hb⟩
    have HB3 := Lib.hid (HB2.out.trans (hb.mono HB2.out.size))
    have HZ3 := Lib.hid ((hb.block _ (heap_ltQ HZ2.out)).trans HZ2.out)
    have HWv3 := Lib.hid (HWv2.out.up hb)
    clear hb
    obtain ⟨⟨q0, q1, q2⟩, f0, f1, f2⟩ := cellsq HZ3.out
    go_wp2_with fail
    clear q0 q1 q2 f0 f1 f2
    refine (refBadq vN _ _ _ true HNv.out).mono ?_; rintro e w4 ⟨rfl, hb⟩
    have HB4 := Lib.hid (HB3.out.trans (hb.mono HB3.out.size))
    have HZ4 := Lib.hid ((hb.block _ (heap_ltQ HZ3.out)).trans HZ3.out)
    have HWv4 := Lib.hid (HWv3.out.up hb)
    clear hb
    obtain ⟨⟨q0, q1, q2⟩, f0, f1, f2⟩ := cellsq HZ4.out
    have hy := (HB4.out.block _ (by have := HSZ.out; omega)).trans HY0.out
    obtain ⟨⟨p0, p1, p2⟩, f3, f4, f5⟩ := cellsq hy
    obtain ⟨w9, e9, ⟨r0, r1, r2⟩, hk, hs, hbl, _⟩ := set3q hy (.int .i64 vN) (.slice va1 vn1 vc1) (.slice va2 vn2 vc2)
    have HE9 := Lib.hid e9
    have HR := Lib.hid (And.intro r0 (And.intro r1 r2))
    have HBE := Lib.hid (hbl W W.heap.size (Nat.le_refl _) (HBX.out.trans (HB4.out.mono HBX.out.size)))
    have HWC : Hid (WC w9 (.agg #[.int .i64 vN, .slice va1 vn1 vc1, .slice va2 vn2 vc2]) _) := Lib.hid (HWv4.out.other hk hs HFv.out.1 HFv.out.2)
    clear hy e9 r0 r1 r2 hk hs hbl
    go_wp2
    go_region
    all_goals
      go_wp2
      rw [HE9.out]
      have r0 : w9.drew.cell? _ = _ := HR.out.1
      have r1 : w9.drew.cell? _ = _ := HR.out.2.1
      have r2 : w9.drew.cell? _ = _ := HR.out.2.2
      refine bodyPost_ret (v := .tuple #[.slice none 0 0, .agg #[.int .i64 vN, .slice va1 vn1 vc1, .slice va2 vn2 vc2]]) (by simp [results, Tryd.results40, go_sem, r0, r1, r2]) rfl ?_
      exact ⟨none, 0, vN, va1, vn1, vc1, va2, vn2, vc2, rfl, ms_zero, (HWC.out.up (bnil w9).drew), (HBE.out.drew)⟩
  · have HX : Hid (MatErr nb gb (some ([(opMat, x.1)], x.2))) := .inr ⟨x, hx, rfl⟩
    have HS : Hid (MatErr na ga none) := .inl ⟨hs, rfl⟩
    clear hx hs
    go_enter Tryd.func40, Tryd.ntmps40
    go_wp2_with fail
    rw [HWB.out]
    refine (ref16check aa na ca ga A _ HA.out hna _ HS.out).mono ?_; rintro e w1 ⟨zN, za1, zn1, zc1, za2, zn2, zc2, rfl, hw, hf1, hf2, hN, h0, hb⟩
    obtain ⟨rfl, rfl, rfl, rfl, rfl, rfl, rfl⟩ := h0 rfl
    clear hw hf1 hf2 hN h0
    have HB1 := Lib.hid (HB0.out.trans (hb.mono HB0.out.size))
    clear hb
    go_wp2_with fail
    obtain ⟨g1, hg1⟩ : ∃ g1, w1.heap.size = g1 := ⟨_, rfl⟩
    obtain ⟨w2, hw⟩ : ∃ w2, w1.alloc (.cells #[.int .i64 0, .slice none 0 0, .slice none 0 0] 53) = w2 := ⟨_, rfl⟩
    have hb : Below w1.heap.size w1 w2 := by rw [← hw]; exact balloc (bnil w1) _
    have HZ2 : Hid (w2.heap[g1]? = some (.cells #[.int .i64 0, .slice none 0 0, .slice none 0 0] 53)) := by show _ = _; rw [← hw, ← hg1]; exact heap_alloc_new w1 _
    have HG1 : Hid (W.heap.size + 1 ≤ g1) := by show _ ≤ _; have := HSZ.out; have := HB1.out.size; omega
    rw [hw]
    simp only [hg1]
    clear hw hg1
    have HB2 := Lib.hid (HB1.out.trans (hb.mono HB1.out.size))
    clear hb
    refine (refBadq 0 _ _ _ false rfl).mono ?_; rintro e w3 ⟨rfl, hb⟩
    have HB3 := Lib.hid (HB2.out.trans (hb.mono HB2.out.size))
    have HZ3 := Lib.hid ((hb.block _ (heap_ltQ HZ2.out)).trans HZ2.out)
    clear hb
    obtain ⟨⟨q0, q1, q2⟩, f0, f1, f2⟩ := cellsq HZ3.out
    go_wp2_with fail
    clear q0 q1 q2 f0 f1 f2
    refine (ref16check ab nb cb gb B _ (HB9.out.up HB3.out) hnb _ HX.out).mono ?_; rintro e w4 ⟨uN, ua1, un1, uc1, ua2, un2, uc2, rfl, hw, hf1, hf2, hN, h0, hb⟩
    have HWu4 := Lib.hid hw
    have HFu : Hid (Fr (W.heap.size + 1) ua1 ∧ Fr (W.heap.size + 1) ua2) := ⟨hf1.base (by have := HSZ.out; have := HB3.out.size; omega), hf2.base (by have := HSZ.out; have := HB3.out.size; omega)⟩
    have HNu : Hid ((uN != 0) = true) := hN
    have HGu : Hid (Fr (g1 + 1) ua1 ∧ Fr (g1 + 1) ua2) := ⟨hf1.base (heap_ltQ HZ3.out), hf2.base (heap_ltQ HZ3.out)⟩
    clear hw hf1 hf2 hN h0
    have HB4 := Lib.hid (HB3.out.trans (hb.mono HB3.out.size))
    have HZ4 := Lib.hid ((hb.block _ (heap_ltQ HZ3.out)).trans HZ3.out)
    clear hb
    obtain ⟨⟨q0, q1, q2⟩, f0, f1, f2⟩ := cellsq HZ4.out
    go_wp2_with fail
    clear q0 q1 q2 f0 f1 f2
    have HUN := Lib.hid (refUnder_some opMat 1 uN [(opMat, x.1)] ua1 ua2 un1 uc1 un2 uc2 w4 (by have h := HWu4.out; rw [← wc_num h] at h; exact h) (by simp) (by simp))
    have HNE : Hid (uN = x.2) := wc_num HWu4.out
    refine (HUN.out).mono ?_; rintro e w5 ⟨vN, va1, vn1, vc1, va2, vn2, vc2, rfl, hw, hf1, hf2, hN, h0, hb⟩
    have HWv5 := Lib.hid hw
    have HFv : Hid (Fr (W.heap.size + 1) va1 ∧ Fr (W.heap.size + 1) va2) := ⟨hf1.base (by have := HSZ.out; have := HB4.out.size; omega), hf2.base (by have := HSZ.out; have := HB4.out.size; omega)⟩
    have HNv : Hid ((vN != 0) = true) := hN
    have HGv : Hid (Fr (g1 + 1) va1 ∧ Fr (g1 + 1) va2) := ⟨hf1.base (heap_ltQ HZ4.out), hf2.base (heap_ltQ HZ4.out)⟩
    clear hw hf1 hf2 hN h0
    have HB5 := Lib.hid (HB4.out.trans (hb.mono HB4.out.size))
    have HZ5 := Lib.hid ((hb.block _ (heap_ltQ HZ4.out)).trans HZ4.out)
    clear hb
    obtain ⟨⟨q0, q1, q2⟩, f0, f1, f2⟩ := cellsq HZ5.out
    obtain ⟨w6, e9, _, hk, hs, hbl, hzz⟩ := set3q HZ5.out (.int .i64 vN) (.slice va1 vn1 vc1) (.slice va2 vn2 vc2)
    have HE6 := Lib.hid e9
    have HZ6 := Lib.hid hzz
    have HB6 := Lib.hid (hbl w0 w0.heap.size (by have := HSZ.out; have := HG1.out; omega) HB5.out)
    have HWv6 := Lib.hid (HWv5.out.other hk hs (HGv.out.1) (HGv.out.2))
    clear e9 hk hs hbl hzz
    go_wp2_with fail
    rw [HE6.out]
    clear q0 q1 q2 f0 f1 f2
    refine (refBadq vN _ _ _ true HNv.out).mono ?_; rintro e w7 ⟨rfl, hb⟩
    have HB7 := Lib.hid (HB6.out.trans (hb.mono HB6.out.size))
    have HZ7 := Lib.hid ((hb.block _ (heap_ltQ HZ6.out)).trans HZ6.out)
    have HWv7 := Lib.hid (HWv6.out.up hb)
    clear hb
    obtain ⟨⟨q0, q1, q2⟩, f0, f1, f2⟩ := cellsq HZ7.out
    have hy := (HB7.out.block _ (by have := HSZ.out; omega)).trans HY0.out
    obtain ⟨⟨p0, p1, p2⟩, f3, f4, f5⟩ := cellsq hy
    obtain ⟨w9, e9, ⟨r0, r1, r2⟩, hk, hs, hbl, _⟩ := set3q hy (.int .i64 vN) (.slice va1 vn1 vc1) (.slice va2 vn2 vc2)
    have HE9 := Lib.hid e9
    have HR := Lib.hid (And.intro r0 (And.intro r1 r2))
    have HBE := Lib.hid (hbl W W.heap.size (Nat.le_refl _) (HBX.out.trans (HB7.out.mono HBX.out.size)))
    have HWC : Hid (WC w9 (.agg #[.int .i64 vN, .slice va1 vn1 vc1, .slice va2 vn2 vc2]) _) := Lib.hid (HWv7.out.other hk hs HFv.out.1 HFv.out.2)
    clear hy e9 r0 r1 r2 hk hs hbl
    go_wp2
    go_region
    all_goals
      go_wp2
      rw [HE9.out]
      have r0 : w9.drew.cell? _ = _ := HR.out.1
      have r1 : w9.drew.cell? _ = _ := HR.out.2.1
      have r2 : w9.drew.cell? _ = _ := HR.out.2.2
      refine bodyPost_ret (v := .tuple #[.slice none 0 0, .agg #[.int .i64 vN, .slice va1 vn1 vc1, .slice va2 vn2 vc2]]) (by simp [results, Tryd.results40, go_sem, r0, r1, r2]) rfl ?_
      exact ⟨none, 0, vN, va1, vn1, vc1, va2, vn2, vc2, rfl, ms_zero, (by rw [← HNE.out]; exact (HWC.out.up (bnil w9).drew)), (HBE.out.drew)⟩
  · have HS : Hid (MatErr na ga none) := .inl ⟨hs, rfl⟩
    have HS2 : Hid (MatErr nb gb none) := .inl ⟨hs2, rfl⟩
    have hneb : ((na : Int) != (nb : Int)) = true := by simp; omega
    clear hs hs2 hne
    go_enter Tryd.func40, Tryd.ntmps40
    go_wp2_with fail
    rw [HWB.out]
    refine (ref16check aa na ca ga A _ HA.out hna _ HS.out).mono ?_; rintro e w1 ⟨zN, za1, zn1, zc1, za2, zn2, zc2, rfl, hw, hf1, hf2, hN, h0, hb⟩
    obtain ⟨rfl, rfl, rfl, rfl, rfl, rfl, rfl⟩ := h0 rfl
    clear hw hf1 hf2 hN h0
    have HB1 := Lib.hid (HB0.out.trans (hb.mono HB0.out.size))
    clear hb
    go_wp2_with fail
    obtain ⟨g1, hg1⟩ : ∃ g1, w1.heap.size = g1 := ⟨_, rfl⟩
    obtain ⟨w2, hw⟩ : ∃ w2, w1.alloc (.cells #[.int .i64 0, .slice none 0 0, .slice none 0 0] 53) = w2 := ⟨_, rfl⟩
    have hb : Below w1.heap.size w1 w2 := by rw [← hw]; exact balloc (bnil w1) _
    have HZ2 : Hid (w2.heap[g1]? = some (.cells #[.int .i64 0, .slice none 0 0, .slice none 0 0] 53)) := by show _ = _; rw [← hw, ← hg1]; exact heap_alloc_new w1 _
    have HG1 : Hid (W.heap.size + 1 ≤ g1) := by show _ ≤ _; have := HSZ.out; have := HB1.out.size; omega
    rw [hw]
    simp only [hg1]
    clear hw hg1
    have HB2 := Lib.hid (HB1.out.trans (hb.mono HB1.out.size))
    clear hb
    refine (refBadq 0 _ _ _ false rfl).mono ?_; rintro e w3 ⟨rfl, hb⟩
    have HB3 := Lib.hid (HB2.out.trans (hb.mono HB2.out.size))
    have HZ3 := Lib.hid ((hb.block _ (heap_ltQ HZ2.out)).trans HZ2.out)
    clear hb
    obtain ⟨⟨q0, q1, q2⟩, f0, f1, f2⟩ := cellsq HZ3.out
    go_wp2_with fail
    clear q0 q1 q2 f0 f1 f2
    refine (ref16check ab nb cb gb B _ (HB9.out.up HB3.out) hnb _ HS2.out).mono ?_; rintro e w4 ⟨zN, za1, zn1, zc1, za2, zn2, zc2, rfl, hw, hf1, hf2, hN, h0, hb⟩
    obtain ⟨rfl, rfl, rfl, rfl, rfl, rfl, rfl⟩ := h0 rfl
    clear hw hf1 hf2 hN h0
    have HB4 := Lib.hid (HB3.out.trans (hb.mono HB3.out.size))
    have HZ4 := Lib.hid ((hb.block _ (heap_ltQ HZ3.out)).trans HZ3.out)
    clear hb
    obtain ⟨⟨q0, q1, q2⟩, f0, f1, f2⟩ := cellsq HZ4.out
    go_wp2_with fail
    clear q0 q1 q2 f0 f1 f2
    refine (refUnder_none _ _ _).mono ?_; rintro e w5 ⟨zN, za1, zn1, zc1, za2, zn2, zc2, rfl, hw, hf1, hf2, hN, h0, hb⟩
    obtain ⟨rfl, rfl, rfl, rfl, rfl, rfl, rfl⟩ := h0 rfl
    clear hw hf1 hf2 hN h0
    have HB5 := Lib.hid (HB4.out.trans (hb.mono HB4.out.size))
    have HZ5 := Lib.hid ((hb.block _ (heap_ltQ HZ4.out)).trans HZ4.out)
    clear hb
    obtain ⟨⟨q0, q1, q2⟩, f0, f1, f2⟩ := cellsq HZ5.out
    obtain ⟨w6, e9, _, hk, hs, hbl, hzz⟩ := set3q HZ5.out (.int .i64 0) (.slice none 0 0) (.slice none 0 0)
    have HE6 := Lib.hid e9
    have HZ6 := Lib.hid hzz
    have HB6 := Lib.hid (hbl w0 w0.heap.size (by have := HSZ.out; have := HG1.out; omega) HB5.out)
    clear e9 hk hs hbl hzz
    go_wp2_with fail
    rw [HE6.out]
    clear q0 q1 q2 f0 f1 f2
    refine (refBadq 0 _ _ _ false rfl).mono ?_; rintro e w7 ⟨rfl, hb⟩
    have HB7 := Lib.hid (HB6.out.trans (hb.mono HB6.out.size))
    have HZ7 := Lib.hid ((hb.block _ (heap_ltQ HZ6.out)).trans HZ6.out)
    clear hb
    obtain ⟨⟨q0, q1, q2⟩, f0, f1, f2⟩ := cellsq HZ7.out
    go_wp2_with fail
    clear q0 q1 q2 f0 f1 f2
    refine (rawNewq _ _ _ _ rfl).mono ?_; rintro e w8 ⟨vN, va1, vn1, vc1, va2, vn2, vc2, rfl, hw, hf1, hf2, hN, h0, hb⟩
    have HWv8 := Lib.hid hw
    have HFv : Hid (Fr (W.heap.size + 1) va1 ∧ Fr (W.heap.size + 1) va2) := ⟨hf1.base (by have := HSZ.out; have := HB7.out.size; omega), hf2.base (by have := HSZ.out; have := HB7.out.size; omega)⟩
    have HNv : Hid ((vN != 0) = true) := hN
    have HGv : Hid (Fr (g1 + 1) va1 ∧ Fr (g1 + 1) va2) := ⟨hf1.base (heap_ltQ HZ7.out), hf2.base (heap_ltQ HZ7.out)⟩
    clear hw hf1 hf2 hN h0
    have HB8 := Lib.hid (HB7.out.trans (hb.mono HB7.out.size))
    have HZ8 := Lib.hid ((hb.block _ (heap_ltQ HZ7.out)).trans HZ7.out)
    clear hb
    obtain ⟨⟨q0, q1, q2⟩, f0, f1, f2⟩ := cellsq HZ8.out
    have hy := (HB8.out.block _ (by have := HSZ.out; omega)).trans HY0.out
    obtain ⟨⟨p0, p1, p2⟩, f3, f4, f5⟩ := cellsq hy
    obtain ⟨w9, e9, ⟨r0, r1, r2⟩, hk, hs, hbl, _⟩ := set3q hy (.int .i64 vN) (.slice va1 vn1 vc1) (.slice va2 vn2 vc2)
    have HE9 := Lib.hid e9
    have HR := Lib.hid (And.intro r0 (And.intro r1 r2))
    have HBE := Lib.hid (hbl W W.heap.size (Nat.le_refl _) (HBX.out.trans (HB8.out.mono HBX.out.size)))
    have HWC : Hid (WC w9 (.agg #[.int .i64 vN, .slice va1 vn1 vc1, .slice va2 vn2 vc2]) _) := Lib.hid (HWv8.out.other hk hs HFv.out.1 HFv.out.2)
    clear hy e9 r0 r1 r2 hk hs hbl
    go_wp2
    rw [HE9.out]
    have r0 : w9.cell? _ = _ := HR.out.1
    have r1 : w9.cell? _ = _ := HR.out.2.1
    have r2 : w9.cell? _ = _ := HR.out.2.2
    refine bodyPost_ret (v := .tuple #[.slice none 0 0, .agg #[.int .i64 vN, .slice va1 vn1 vc1, .slice va2 vn2 vc2]]) (by simp [results, Tryd.results40, go_sem, r0, r1, r2]) rfl ?_
    exact ⟨none, 0, vN, va1, vn1, vc1, va2, vn2, vc2, rfl, ms_zero, HWC.out, HBE.out⟩
  · have HS : Hid (MatErr m ga none) := .inl ⟨hs, rfl⟩
    have HS2 : Hid (MatErr m gb none) := .inl ⟨hs2, rfl⟩
    have HSQ := Lib.hid (And.intro hs.2 hs2.2)
    clear hs hs2
    go_enter Tryd.func40, Tryd.ntmps40
    go_wp2_with fail
    rw [HWB.out]
    refine (ref16check aa m ca ga A _ HA.out hna _ HS.out).mono ?_; rintro e w1 ⟨zN, za1, zn1, zc1, za2, zn2, zc2, rfl, hw, hf1, hf2, hN, h0, hb⟩
    obtain ⟨rfl, rfl, rfl, rfl, rfl, rfl, rfl⟩ := h0 rfl
    clear hw hf1 hf2 hN h0
    have HB1 := Lib.hid (HB0.out.trans (hb.mono HB0.out.size))
    clear hb
    go_wp2_with fail
    obtain ⟨g1, hg1⟩ : ∃ g1, w1.heap.size = g1 := ⟨_, rfl⟩
    obtain ⟨w2, hw⟩ : ∃ w2, w1.alloc (.cells #[.int .i64 0, .slice none 0 0, .slice none 0 0] 53) = w2 := ⟨_, rfl⟩
    have hb : Below w1.heap.size w1 w2 := by rw [← hw]; exact balloc (bnil w1) _
    have HZ2 : Hid (w2.heap[g1]? = some (.cells #[.int .i64 0, .slice none 0 0, .slice none 0 0] 53)) := by show _ = _; rw [← hw, ← hg1]; exact heap_alloc_new w1 _
    have HG1 : Hid (W.heap.size + 1 ≤ g1) := by show _ ≤ _; have := HSZ.out; have := HB1.out.size; omega
    rw [hw]
    simp only [hg1]
    clear hw hg1
    have HB2 := Lib.hid (HB1.out.trans (hb.mono HB1.out.size))
    clear hb
    refine (refBadq 0 _ _ _ false rfl).mono ?_; rintro e w3 ⟨rfl, hb⟩
    have HB3 := Lib.hid (HB2.out.trans (hb.mono HB2.out.size))
    have HZ3 := Lib.hid ((hb.block _ (heap_ltQ HZ2.out)).trans HZ2.out)
    clear hb
    obtain ⟨⟨q0, q1, q2⟩, f0, f1, f2⟩ := cellsq HZ3.out
    go_wp2_with fail
    clear q0 q1 q2 f0 f1 f2
    refine (ref16check ab m cb gb B _ (HB9.out.up HB3.out) hnb _ HS2.out).mono ?_; rintro e w4 ⟨zN, za1, zn1, zc1, za2, zn2, zc2, rfl, hw, hf1, hf2, hN, h0, hb⟩
    obtain ⟨rfl, rfl, rfl, rfl, rfl, rfl, rfl⟩ := h0 rfl
    clear hw hf1 hf2 hN h0
    have HB4 := Lib.hid (HB3.out.trans (hb.mono HB3.out.size))
    have HZ4 := Lib.hid ((hb.block _ (heap_ltQ HZ3.out)).trans HZ3.out)
    clear hb
    obtain ⟨⟨q0, q1, q2⟩, f0, f1, f2⟩ := cellsq HZ4.out
    go_wp2_with fail
    clear q0 q1 q2 f0 f1 f2
    refine (refUnder_none _ _ _).mono ?_; rintro e w5 ⟨zN, za1, zn1, zc1, za2, zn2, zc2, rfl, hw, hf1, hf2, hN, h0, hb⟩
    obtain ⟨rfl, rfl, rfl, rfl, rfl, rfl, rfl⟩ := h0 rfl
    clear hw hf1 hf2 hN h0
    have HB5 := Lib.hid (HB4.out.trans (hb.mono HB4.out.size))
    have HZ5 := Lib.hid ((hb.block _ (heap_ltQ HZ4.out)).trans HZ4.out)
    clear hb
    obtain ⟨⟨q0, q1, q2⟩, f0, f1, f2⟩ := cellsq HZ5.out
    obtain ⟨w6, e9, _, hk, hs, hbl, hzz⟩ := set3q HZ5.out (.int .i64 0) (.slice none 0 0) (.slice none 0 0)
    have HE6 := Lib.hid e9
    have HZ6 := Lib.hid hzz
    have HB6 := Lib.hid (hbl w0 w0.heap.size (by have := HSZ.out; have := HG1.out; omega) HB5.out)
    clear e9 hk hs hbl hzz
    go_wp2_with fail
    rw [HE6.out]
    clear q0 q1 q2 f0 f1 f2
    refine (refBadq 0 _ _ _ false rfl).mono ?_; rintro e w7 ⟨rfl, hb⟩
    have HB7 := Lib.hid (HB6.out.trans (hb.mono HB6.out.size))
    have HZ7 := Lib.hid ((hb.block _ (heap_ltQ HZ6.out)).trans HZ6.out)
    clear hb
    obtain ⟨⟨q0, q1, q2⟩, f0, f1, f2⟩ := cellsq HZ7.out
    go_wp2_with fail
    clear q0 q1 q2 f0 f1 f2
    have HPR := Lib.hid (prod16 aa ab m ca cb A B 90000 w7 ((HA.out.square HSQ.out.1).up HB7.out) ((HB9.out.square HSQ.out.2).up HB7.out) (by omega) (fun i j hi hj => HLA.out i j hi (by rw [HSQ.out.1 i hi]; exact hj)) (fun i j hi hj => HLB.out i j hi (by rw [HSQ.out.2 i hi]; exact hj)) (by omega))
    refine HPR.out.mono ?_; rintro e w8 ⟨a6, c6, rows, its, rfl, ho, hb⟩
    have HMS : Hid (MsR w8 a6 m (fun _ => m) (fun i j => limbs (mm m (vM A) (vM B) i j))) := ho.msR
    have HO := Lib.hid (ho.base (show W.heap.size + 1 ≤ _ by have := HSZ.out; have := HB7.out.size; omega))
    clear ho
    have HB8 := Lib.hid (HB7.out.trans (hb.mono HB7.out.size))
    have HZ8 := Lib.hid ((hb.block _ (heap_ltQ HZ7.out)).trans HZ7.out)
    clear hb
    obtain ⟨⟨q0, q1, q2⟩, f0, f1, f2⟩ := cellsq HZ8.out
    have hy := (HB8.out.block _ (by have := HSZ.out; omega)).trans HY0.out
    obtain ⟨⟨p0, p1, p2⟩, f3, f4, f5⟩ := cellsq hy
    obtain ⟨w9, e9, ⟨r0, r1, r2⟩, hk, hs, hbl, _⟩ := set3q hy (.int .i64 0) (.slice none 0 0) (.slice none 0 0)
    have HE9 := Lib.hid e9
    have HR := Lib.hid (And.intro r0 (And.intro r1 r2))
    have HBE := Lib.hid (hbl W W.heap.size (Nat.le_refl _) (HBX.out.trans (HB8.out.mono HBX.out.size)))
    have HWC := Lib.hid (wc_none w9)
    have HM9 := Lib.hid ((HO.out.heap (w' := w9) fun b hb => hk b (by omega))).msR
    clear hy e9 r0 r1 r2 hk hs hbl
    go_wp2
    rw [HE9.out]
    have r0 : w9.cell? _ = _ := HR.out.1
    have r1 : w9.cell? _ = _ := HR.out.2.1
    have r2 : w9.cell? _ = _ := HR.out.2.2
    refine bodyPost_ret (v := .tuple #[.slice a6 m c6, .agg #[.int .i64 0, .slice none 0 0, .slice none 0 0]]) (by simp [results, Tryd.results40, go_sem, r0, r1, r2]) rfl ?_
    exact ⟨a6, c6, 0, none, 0, 0, none, 0, 0, rfl, HM9.out, HWC.out, HBE.out⟩

set_option maxHeartbeats 8000000 in
theorem ref16power (a : Option Addr) (n c : Nat) (M : Nat → Nat → List Nat) (L : Nat) (hn : n ≤ 96) (hL : L ≤ 80) (hLM : ∀ i j, i < n → j < n → (M i j).length ≤ L) : ∀ (N : Nat) (W : World), N ≤ 1024 → MsR W a n (fun _ => n) M →
    Calls Tryd.prog 95 #[.slice a n c, .int .i64 N] W (MsRet W n fun i j => limbs (mpow n (vM M) N i j)) := by
  intro N
  induction N using Nat.strongRecOn with
  | ind N ih =>
    intro W hN hM
    have HBD : Hid (BdM n L (vM M)) := bdM_of hM hLM
    have HLM := Lib.hid hLM
    have HM := Lib.hid hM
    by_cases h0 : N = 0
    · subst h0
      clear ih hLM hM
      go_enter Tryd.func95, Tryd.ntmps95
      go_wp2_with fail
      refine (unit_any n _ hn).mono ?_; rintro e w5 ⟨a5, c5, rows, its, rfl, ho5, hb5⟩
      have HO := Lib.hid ho5
      have HB := Lib.hid hb5
      clear ho5 hb5
      go_wp2
      go_ret
      exact ⟨_, _, rows, its, rfl, HO.out, HB.out⟩
    · obtain ⟨H, hH⟩ : ∃ H, N / 2 = H := ⟨_, rfl⟩
      have HIH := Lib.hid (ih H (by omega) W (by omega) hM)
      have nz : ((N : Int) == 0) = false := by rw [beq_eq_false_iff_ne]; omega
      have d1 : (N : Int).tdiv 2 = (H : Int) := by rw [Int.tdiv_eq_ediv_of_nonneg (by omega)]; omega
      have d2 : (N : Int) / 2 = (H : Int) := by omega
      have hLL : (L + 1) * H + 1 ≤ 90000 ∧ (L + 1) * (H + H) + 1 ≤ 90000 := by
        have h1 : (L + 1) * H ≤ 81 * H := Nat.mul_le_mul_right _ (by omega)
        have h2 : (L + 1) * (H + H) ≤ 81 * (H + H) := Nat.mul_le_mul_right _ (by omega)
        omega
      have HLL := Lib.hid hLL
      have HLH : Hid (L ≤ 90000) := by show _ ≤ _; omega
      have HB2 : Hid (∀ i j, i < n → j < n → (limbs (mpow n (vM M) H i j)).length ≤ (L + 1) * H + 1) := limbs_bd (bdM_pow hn HBD.out H)
      by_cases hodd : N % 2 = 1
      · have HNE : Hid (N = H + H + 1) := by show _ = _; omega
        have r1 : (N : Int).tmod 2 = 1 := by rw [Int.tmod_eq_emod_of_nonneg (by omega)]; omega
        have r2 : (N : Int) % 2 = 1 := by omega
        have N0 : (0 : Int) ≤ (N : Int) := by omega
        clear ih hLM hM hLL hH hodd h0
        go_enter Tryd.func95, Tryd.ntmps95
        go_wp2_with fail
        refine HIH.out.mono ?_; rintro e w1 ⟨a1, c1, rows1, its1, rfl, ho1, hb1⟩
        have HM1 := Lib.hid ho1.msR
        have HB1 := Lib.hid hb1
        clear ho1 hb1
        go_wp2_with fail
        refine (prod16 a1 a1 n c1 c1 _ _ ((L + 1) * H + 1) w1 HM1.out HM1.out hn HB2.out HB2.out HLL.out.1).mono ?_; rintro e w2 ⟨a2, c2, rows2, its2, rfl, ho2, hb2⟩
        have ho2' := ho2.congr (G := fun i j => limbs (mpow n (vM M) (H + H) i j)) fun i j hi hj => by rw [vM_limbs]; exact congrArg limbs (mpow_add n (vM M) H H i j hi hj)
        have HM2 := Lib.hid ho2'.msR
        have HBB := Lib.hid (HB1.out.trans (hb2.mono HB1.out.size))
        clear ho2 ho2' hb2
        go_wp2_with fail
        refine (prod16 a2 a n c2 c _ _ 90000 w2 HM2.out (HM.out.up HBB.out) hn (fun i j hi hj => Nat.le_trans (limbs_bd (bdM_pow hn HBD.out (H + H)) i j hi hj) HLL.out.2) (fun i j hi hj => Nat.le_trans (HLM.out i j hi hj) HLH.out) (Nat.le_refl _)).mono ?_; rintro e w3 ⟨a3, c3, rows3, its3, rfl, ho3, hb3⟩
        have ho3' := (ho3.congr (G := fun i j => limbs (mpow n (vM M) N i j)) fun i j hi hj => by rw [vM_limbs, HNE.out]; rfl).base HBB.out.size
        have HO3 := Lib.hid ho3'
        have HB3 := Lib.hid (HBB.out.trans (hb3.mono HBB.out.size))
        clear ho3 ho3' hb3
        go_wp2
        go_ret
        exact ⟨_, _, rows3, its3, rfl, HO3.out, HB3.out⟩
      · have HNE : Hid (N = H + H) := by show _ = _; omega
        have r1 : (N : Int).tmod 2 = 0 := by rw [Int.tmod_eq_emod_of_nonneg (by omega)]; omega
        have r2 : (N : Int) % 2 = 0 := by omega
        have N0 : (0 : Int) ≤ (N : Int) := by omega
        clear ih hLM hM hLL hH hodd h0
        go_enter Tryd.func95, Tryd.ntmps95
        go_wp2_with fail
        refine HIH.out.mono ?_; rintro e w1 ⟨a1, c1, rows1, its1, rfl, ho1, hb1⟩
        have HM1 := Lib.hid ho1.msR
        have HB1 := Lib.hid hb1
        clear ho1 hb1
        go_wp2_with fail
        refine (prod16 a1 a1 n c1 c1 _ _ ((L + 1) * H + 1) w1 HM1.out HM1.out hn HB2.out HB2.out HLL.out.1).mono ?_; rintro e w2 ⟨a2, c2, rows2, its2, rfl, ho2, hb2⟩
        have ho2' := (ho2.congr (G := fun i j => limbs (mpow n (vM M) N i j)) fun i j hi hj => by rw [vM_limbs, HNE.out]; exact congrArg limbs (mpow_add n (vM M) H H i j hi hj)).base HB1.out.size
        have HO2 := Lib.hid ho2'
        have HBB := Lib.hid (HB1.out.trans (hb2.mono HB1.out.size))
        clear ho2 ho2' hb2
        go_wp2
        go_ret
        exact ⟨_, _, rows2, its2, rfl, HO2.out, HBB.out⟩

/-- what a power's answer is -/
def PowE (n : Nat) (ga : Nat → Nat) (N : Int) (m : Nat) (f : ErrD) : Prop :=
  (∃ x, MatBad n ga x ∧ m = 0 ∧ f = some ([(opMat, x.1)], x.2)) ∨ (Square n ga ∧ N < 0 ∧ m = 0 ∧ f = some ([(opMat, 1)], 3)) ∨
  (Square n ga ∧ 1024 < N ∧ m = 0 ∧ f = some ([(opMat, 1)], 4)) ∨ (Square n ga ∧ 0 ≤ N ∧ N ≤ 1024 ∧ m = n ∧ f = none)

set_option maxHeartbeats 16000000 in
theorem ref16pow (aa : Option Addr) (na ca : Nat) (ga : Nat → Nat) (A : Nat → Nat → List Nat) (N : Int) (W : World) (hA : MsR W aa na ga A) (hna : na ≤ 96) (hLA : ∀ i j, i < na → j < ga i → (A i j).length ≤ 80) (m : Nat) (f : ErrD) (hf : PowE na ga N m f) :
    Calls Tryd.prog 42 #[.slice aa na ca, .int .i64 N] W (RefMs W m (fun i j => limbs (mpow m (vM A) N.toNat i j)) f) := by
  have HLA := Lib.hid hLA
  clear hLA
  obtain ⟨w0, hw0⟩ : ∃ w0, W.alloc (.cells #[.int .i64 0, .slice none 0 0, .slice none 0 0] 53) = w0 := ⟨_, rfl⟩
  have HY0 : Hid (w0.heap[W.heap.size]? = some (.cells #[.int .i64 0, .slice none 0 0, .slice none 0 0] 53)) := by show _ = _; rw [← hw0]; exact heap_alloc_new W _
  have HBX : Hid (Below W.heap.size W w0) := by show Below _ _ _; rw [← hw0]; exact balloc (bnil W) _
  have HSZ : Hid (w0.heap.size = W.heap.size + 1) := by show _ = _; rw [← hw0]; simp
  have HB0 := Lib.hid (bnil w0)
  have HWB := Lib.hid hw0
  have HA := Lib.hid (hA.up HBX.out)
  clear hw0 hA
  rcases hf with ⟨x, hx, rfl, rfl⟩ | ⟨hs, hN1, rfl, rfl⟩ | ⟨hs, hN1, rfl, rfl⟩ | ⟨hs, hN0, hN1, rfl, rfl⟩
  · have HX : Hid (MatErr na ga (some ([(opMat, x.1)], x.2))) := .inr ⟨x, hx, rfl⟩
    clear hx
    go_enter Tryd.func42, Tryd.ntmps42
    go_wp2_with fail
    rw [HWB.out]
    refine (ref16check aa na ca ga A _ HA.out hna _ HX.out).mono ?_; rintro e w1 ⟨vN, va1, vn1, vc1, va2, vn2, vc2, rfl, hw, hf1, hf2, hN, h0, hb⟩
    have HWv1 := Lib.hid hw
    have HFv : Hid (Fr (W.heap.size + 1) va1 ∧ Fr (W.heap.size + 1) va2) := ⟨hf1.base (by have := HSZ.out; have := HB0.out.size; omega), hf2.base (by have := HSZ.out; have := HB0.out.size; omega)⟩
    have HNv : Hid ((vN != 0) = true) := hN
    clear hw hf1 hf2 hN h0
    have HB1 := Lib.hid (HB0.out.trans (hb.mono HB0.out.size))
    clear hb
    go_wp2_with fail
    obtain ⟨g1, hg1⟩ : ∃ g1, w1.heap.size = g1 := ⟨_, rfl⟩
    obtain ⟨w2, hw⟩ : ∃ w2, w1.alloc (.cells #[.int .i64 vN, .slice va1 vn1 vc1, .slice va2 vn2 vc2] 53) = w2 := ⟨_, rfl⟩
    have hb : Below w1.heap.size w1 w2 := by rw [← hw]; exact balloc (bnil w1) _
    have HZ2 : Hid (w2.heap[g1]? = some (.cells #[.int .i64 vN, .slice va1 vn1 vc1, .slice va2 vn2 vc2] 53)) := by show _ = _; rw [← hw, ← hg1]; exact heap_alloc_new w1 _
    have HG1 : Hid (W.heap.size + 1 ≤ g1) := by show _ ≤ _; have := HSZ.out; have := HB1.out.size; omega
    rw [hw]
    simp only [hg1]
    clear hw hg1
    have HB2 := Lib.hid (HB1.out.trans (hb.mono HB1.out.size))
    have HWv2 := Lib.hid (HWv1.out.up hb)
    clear hb
    refine (refBadq vN _ _ _ true HNv.out).mono ?_; rintro e w3 ⟨rfl, hb⟩
    have HB3 := Lib.hid (HB2.out.trans (hb.mono HB2.out.size))
    have HZ3 := Lib.hid ((hb.block _ (heap_ltQ HZ2.out)).trans HZ2.out)
    have HWv3 := Lib.hid (HWv2.out.up hb)
    clear hb
    obtain ⟨⟨q0, q1, q2⟩, f0, f1, f2⟩ := cellsq HZ3.out
    have hy := (HB3.out.block _ (by have := HSZ.out; omega)).trans HY0.out
    obtain ⟨⟨p0, p1, p2⟩, f3, f4, f5⟩ := cellsq hy
    obtain ⟨w9, e9, ⟨r0, r1, r2⟩, hk, hs, hbl, _⟩ := set3q hy (.int .i64 vN) (.slice va1 vn1 vc1) (.slice va2 vn2 vc2)
    have HE9 := Lib.hid e9
    have HR := Lib.hid (And.intro r0 (And.intro r1 r2))
    have HBE := Lib.hid (hbl W W.heap.size (Nat.le_refl _) (HBX.out.trans (HB3.out.mono HBX.out.size)))
    have HWC : Hid (WC w9 (.agg #[.int .i64 vN, .slice va1 vn1 vc1, .slice va2 vn2 vc2]) _) := Lib.hid (HWv3.out.other hk hs HFv.out.1 HFv.out.2)
    clear hy e9 r0 r1 r2 hk hs hbl
    go_wp2
    go_region
    all_goals
      go_wp2
      rw [HE9.out]
      have r0 : w9.drew.cell? _ = _ := HR.out.1
      have r1 : w9.drew.cell? _ = _ := HR.out.2.1
      have r2 : w9.drew.cell? _ = _ := HR.out.2.2
      refine bodyPost_ret (v := .tuple #[.slice none 0 0, .agg #[.int .i64 vN, .slice va1 vn1 vc1, .slice va2 vn2 vc2]]) (by simp [results, Tryd.results42, go_sem, r0, r1, r2]) rfl ?_
      exact ⟨none, 0, vN, va1, vn1, vc1, va2, vn2, vc2, rfl, ms_zero, (HWC.out.up (bnil w9).drew), (HBE.out.drew)⟩
  · have HS : Hid (MatErr na ga none) := .inl ⟨hs, rfl⟩
    clear hs
    go_enter Tryd.func42, Tryd.ntmps42
    go_wp2_with fail
    rw [HWB.out]
    refine (ref16check aa na ca ga A _ HA.out hna _ HS.out).mono ?_; rintro e w1 ⟨zN, za1, zn1, zc1, za2, zn2, zc2, rfl, hw, hf1, hf2, hN, h0, hb⟩
    obtain ⟨rfl, rfl, rfl, rfl, rfl, rfl, rfl⟩ := h0 rfl
    clear hw hf1 hf2 hN h0
    have HB1 := Lib.hid (HB0.out.trans (hb.mono HB0.out.size))
    clear hb
    go_wp2_with fail
    obtain ⟨g1, hg1⟩ : ∃ g1, w1.heap.size = g1 := ⟨_, rfl⟩
    obtain ⟨w2, hw⟩ : ∃ w2, w1.alloc (.cells #[.int .i64 0, .slice none 0 0, .slice none 0 0] 53) = w2 := ⟨_, rfl⟩
    have hb : Below w1.heap.size w1 w2 := by rw [← hw]; exact balloc (bnil w1) _
    have HZ2 : Hid (w2.heap[g1]? = some (.cells #[.int .i64 0, .slice none 0 0, .slice none 0 0] 53)) := by show _ = _; rw [← hw, ← hg1]; exact heap_alloc_new w1 _
    have HG1 : Hid (W.heap.size + 1 ≤ g1) := by show _ ≤ _; have := HSZ.out; have := HB1.out.size; omega
    rw [hw]
    simp only [hg1]
    clear hw hg1
    have HB2 := Lib.hid (HB1.out.trans (hb.mono HB1.out.size))
    clear hb
    refine (refBadq 0 _ _ _ false rfl).mono ?_; rintro e w3 ⟨rfl, hb⟩
    have HB3 := Lib.hid (HB2.out.trans (hb.mono HB2.out.size))
    have HZ3 := Lib.hid ((hb.block _ (heap_ltQ HZ2.out)).trans HZ2.out)
    clear hb
    go_wp2_with fail
    refine (rawNewq _ _ _ _ rfl).mono ?_; rintro e w4 ⟨vN, va1, vn1, vc1, va2, vn2, vc2, rfl, hw, hf1, hf2, hN, h0, hb⟩
    have HWv4 := Lib.hid hw
    have HFv : Hid (Fr (W.heap.size + 1) va1 ∧ Fr (W.heap.size + 1) va2) := ⟨hf1.base (by have := HSZ.out; have := HB3.out.size; omega), hf2.base (by have := HSZ.out; have := HB3.out.size; omega)⟩
    have HNv : Hid ((vN != 0) = true) := hN
    have HGv : Hid (Fr (g1 + 1) va1 ∧ Fr (g1 + 1) va2) := ⟨hf1.base (heap_ltQ HZ3.out), hf2.base (heap_ltQ HZ3.out)⟩
    clear hw hf1 hf2 hN h0
    have HB4 := Lib.hid (HB3.out.trans (hb.mono HB3.out.size))
    have HZ4 := Lib.hid ((hb.block _ (heap_ltQ HZ3.out)).trans HZ3.out)
    clear hb
    have hy := (HB4.out.block _ (by have := HSZ.out; omega)).trans HY0.out
    obtain ⟨⟨p0, p1, p2⟩, f3, f4, f5⟩ := cellsq hy
    obtain ⟨w9, e9, ⟨r0, r1, r2⟩, hk, hs, hbl, _⟩ := set3q hy (.int .i64 vN) (.slice va1 vn1 vc1) (.slice va2 vn2 vc2)
    have HE9 := Lib.hid e9
    have HR := Lib.hid (And.intro r0 (And.intro r1 r2))
    have HBE := Lib.hid (hbl W W.heap.size (Nat.le_refl _) (HBX.out.trans (HB4.out.mono HBX.out.size)))
    have HWC : Hid (WC w9 (.agg #[.int .i64 vN, .slice va1 vn1 vc1, .slice va2 vn2 vc2]) _) := Lib.hid (HWv4.out.other hk hs HFv.out.1 HFv.out.2)
    clear hy e9 r0 r1 r2 hk hs hbl
    go_wp2
    rw [HE9.out]
    have r0 : w9.cell? _ = _ := HR.out.1
    have r1 : w9.cell? _ = _ := HR.out.2.1
    have r2 : w9.cell? _ = _ := HR.out.2.2
    refine bodyPost_ret (v := .tuple #[.slice none 0 0, .agg #[.int .i64 vN, .slice va1 vn1 vc1, .slice va2 vn2 vc2]]) (by simp [results, Tryd.results42, go_sem, r0, r1, r2]) rfl ?_
    exact ⟨none, 0, vN, va1, vn1, vc1, va2, vn2, vc2, rfl, ms_zero, HWC.out, HBE.out⟩
  · have HS : Hid (MatErr na ga none) := .inl ⟨hs, rfl⟩
    have hN2 : ¬ N < 0 := by omega
    have hN3 : (0 : Int) ≤ N := by omega
    clear hs
    go_enter Tryd.func42, Tryd.ntmps42
    go_wp2_with fail
    rw [HWB.out]
    refine (ref16check aa na ca ga A _ HA.out hna _ HS.out).mono ?_; rintro e w1 ⟨zN, za1, zn1, zc1, za2, zn2, zc2, rfl, hw, hf1, hf2, hN, h0, hb⟩
    obtain ⟨rfl, rfl, rfl, rfl, rfl, rfl, rfl⟩ := h0 rfl
    clear hw hf1 hf2 hN h0
    have HB1 := Lib.hid (HB0.out.trans (hb.mono HB0.out.size))
    clear hb
    go_wp2_with fail
    obtain ⟨g1, hg1⟩ : ∃ g1, w1.heap.size = g1 := ⟨_, rfl⟩
    obtain ⟨w2, hw⟩ : ∃ w2, w1.alloc (.cells #[.int .i64 0, .slice none 0 0, .slice none 0 0] 53) = w2 := ⟨_, rfl⟩
    have hb : Below w1.heap.size w1 w2 := by rw [← hw]; exact balloc (bnil w1) _
    have HZ2 : Hid (w2.heap[g1]? = some (.cells #[.int .i64 0, .slice none 0 0, .slice none 0 0] 53)) := by show _ = _; rw [← hw, ← hg1]; exact heap_alloc_new w1 _
    have HG1 : Hid (W.heap.size + 1 ≤ g1) := by show _ ≤ _; have := HSZ.out; have := HB1.out.size; omega
    rw [hw]
    simp only [hg1]
    clear hw hg1
    have HB2 := Lib.hid (HB1.out.trans (hb.mono HB1.out.size))
    clear hb
    refine (refBadq 0 _ _ _ false rfl).mono ?_; rintro e w3 ⟨rfl, hb⟩
    have HB3 := Lib.hid (HB2.out.trans (hb.mono HB2.out.size))
    have HZ3 := Lib.hid ((hb.block _ (heap_ltQ HZ2.out)).trans HZ2.out)
    clear hb
    go_wp2_with fail
    refine (rawNewq _ _ _ _ rfl).mono ?_; rintro e w4 ⟨vN, va1, vn1, vc1, va2, vn2, vc2, rfl, hw, hf1, hf2, hN, h0, hb⟩
    have HWv4 := Lib.hid hw
    have HFv : Hid (Fr (W.heap.size + 1) va1 ∧ Fr (W.heap.size + 1) va2) := ⟨hf1.base (by have := HSZ.out; have := HB3.out.size; omega), hf2.base (by have := HSZ.out; have := HB3.out.size; omega)⟩
    have HNv : Hid ((vN != 0) = true) := hN
    have HGv : Hid (Fr (g1 + 1) va1 ∧ Fr (g1 + 1) va2) := ⟨hf1.base (heap_ltQ HZ3.out), hf2.base (heap_ltQ HZ3.out)⟩
    clear hw hf1 hf2 hN h0
    have HB4 := Lib.hid (HB3.out.trans (hb.mono HB3.out.size))
    have HZ4 := Lib.hid ((hb.block _ (heap_ltQ HZ3.out)).trans HZ3.out)
    clear hb
    have hy := (HB4.out.block _ (by have := HSZ.out; omega)).trans HY0.out
    obtain ⟨⟨p0, p1, p2⟩, f3, f4, f5⟩ := cellsq hy
    obtain ⟨w9, e9, ⟨r0, r1, r2⟩, hk, hs, hbl, _⟩ := set3q hy (.int .i64 vN) (.slice va1 vn1 vc1) (.slice va2 vn2 vc2)
    have HE9 := Lib.hid e9
    have HR := Lib.hid (And.intro r0 (And.intro r1 r2))
    have HBE := Lib.hid (hbl W W.heap.size (Nat.le_refl _) (HBX.out.trans (HB4.out.mono HBX.out.size)))
    have HWC : Hid (WC w9 (.agg #[.int .i64 vN, .slice va1 vn1 vc1, .slice va2 vn2 vc2]) _) := Lib.hid (HWv4.out.other hk hs HFv.out.1 HFv.out.2)
    clear hy e9 r0 r1 r2 hk hs hbl
    go_wp2
    rw [HE9.out]
    have r0 : w9.cell? _ = _ := HR.out.1
    have r1 : w9.cell? _ = _ := HR.out.2.1
    have r2 : w9.cell? _ = _ := HR.out.2.2
    refine bodyPost_ret (v := .tuple #[.slice none 0 0, .agg #[.int .i64 vN, .slice va1 vn1 vc1, .slice va2 vn2 vc2]]) (by simp [results, Tryd.results42, go_sem, r0, r1, r2]) rfl ?_
    exact ⟨none, 0, vN, va1, vn1, vc1, va2, vn2, vc2, rfl, ms_zero, HWC.out, HBE.out⟩
  · have HS : Hid (MatErr m ga none) := .inl ⟨hs, rfl⟩
    obtain ⟨K, rfl⟩ : ∃ K : Nat, N = (K : Int) := ⟨N.toNat, by omega⟩
    have HK : Hid (K ≤ 1024) := by show _ ≤ _; omega
    have HSQ := Lib.hid hs.2
    have hN2 : ¬ (K : Int) < 0 := by omega
    have hN3 : ¬ 1024 < (K : Int) := by omega
    simp only [Int.toNat_natCast]
    clear hs
    go_enter Tryd.func42, Tryd.ntmps42
    go_wp2_with fail
    rw [HWB.out]
    refine (ref16check aa m ca ga A _ HA.out hna _ HS.out).mono ?_; rintro e w1 ⟨zN, za1, zn1, zc1, za2, zn2, zc2, rfl, hw, hf1, hf2, hN, h0, hb⟩
    obtain ⟨rfl, rfl, rfl, rfl, rfl, rfl, rfl⟩ := h0 rfl
    clear hw hf1 hf2 hN h0
    have HB1 := Lib.hid (HB0.out.trans (hb.mono HB0.out.size))
    clear hb
    go_wp2_with fail
    obtain ⟨g1, hg1⟩ : ∃ g1, w1.heap.size = g1 := ⟨_, rfl⟩
    obtain ⟨w2, hw⟩ : ∃ w2, w1.alloc (.cells #[.int .i64 0, .slice none 0 0, .slice none 0 0] 53) = w2 := ⟨_, rfl⟩
    have hb : Below w1.heap.size w1 w2 := by rw [← hw]; exact balloc (bnil w1) _
    have HZ2 : Hid (w2.heap[g1]? = some (.cells #[.int .i64 0, .slice none 0 0, .slice none 0 0] 53)) := by show _ = _; rw [← hw, ← hg1]; exact heap_alloc_new w1 _
    have HG1 : Hid (W.heap.size + 1 ≤ g1) := by show _ ≤ _; have := HSZ.out; have := HB1.out.size; omega
    rw [hw]
    simp only [hg1]
    clear hw hg1
    have HB2 := Lib.hid (HB1.out.trans (hb.mono HB1.out.size))
    clear hb
    refine (refBadq 0 _ _ _ false rfl).mono ?_; rintro e w3 ⟨rfl, hb⟩
    have HB3 := Lib.hid (HB2.out.trans (hb.mono HB2.out.size))
    have HZ3 := Lib.hid ((hb.block _ (heap_ltQ HZ2.out)).trans HZ2.out)
    clear hb
    go_wp2_with fail
    refine (ref16power aa m ca A 80 hna (by omega) (fun i j hi hj => HLA.out i j hi (by rw [HSQ.out i hi]; exact hj)) K w3 HK.out ((HA.out.square HSQ.out).up HB3.out)).mono ?_; rintro e w4 ⟨a6, c6, rows, its, rfl, ho, hb⟩
    have HO := Lib.hid (ho.base (show W.heap.size + 1 ≤ _ by have := HSZ.out; have := HB3.out.size; omega))
    clear ho
    have HB4 := Lib.hid (HB3.out.trans (hb.mono HB3.out.size))
    have HZ4 := Lib.hid ((hb.block _ (heap_ltQ HZ3.out)).trans HZ3.out)
    clear hb
    have hy := (HB4.out.block _ (by have := HSZ.out; omega)).trans HY0.out
    obtain ⟨⟨p0, p1, p2⟩, f3, f4, f5⟩ := cellsq hy
    obtain ⟨w9, e9, ⟨r0, r1, r2⟩, hk, hs, hbl, _⟩ := set3q hy (.int .i64 0) (.slice none 0 0) (.slice none 0 0)
    have HE9 := Lib.hid e9
    have HR := Lib.hid (And.intro r0 (And.intro r1 r2))
    have HBE := Lib.hid (hbl W W.heap.size (Nat.le_refl _) (HBX.out.trans (HB4.out.mono HBX.out.size)))
    have HWC := Lib.hid (wc_none w9)
    have HM9 := Lib.hid ((HO.out).heap (w' := w9) fun b hb => hk b (by omega)).msR
    clear hy e9 r0 r1 r2 hk hs hbl
    go_wp2
    rw [HE9.out]
    have r0 : w9.cell? _ = _ := HR.out.1
    have r1 : w9.cell? _ = _ := HR.out.2.1
    have r2 : w9.cell? _ = _ := HR.out.2.2
    refine bodyPost_ret (v := .tuple #[.slice a6 m c6, .agg #[.int .i64 0, .slice none 0 0, .slice none 0 0]]) (by simp [results, Tryd.results42, go_sem, r0, r1, r2]) rfl ?_
    exact ⟨a6, c6, 0, none, 0, 0, none, 0, 0, rfl, HM9.out, HWC.out, HBE.out⟩
end Go.Proofs.YteneiianpghalaaDoor
