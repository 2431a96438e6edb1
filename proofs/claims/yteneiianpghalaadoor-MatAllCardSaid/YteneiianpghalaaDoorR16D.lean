/- edenref16.Trace, Go. -/
import Derived.Test.YteneiianpghalaaDoorR16C
namespace Go.Proofs.YteneiianpghalaaDoor
open Go.RowKit
set_option linter.unusedVariables false
set_option maxRecDepth 100000

/-- a number and an error of the document -/
def RefN (W : World) (l : List Nat) (f : ErrD) (e : Ending) (w' : World) : Prop :=
  ∃ a' n' c' N a1 n1 c1 a2 n2 c2, e = .returned (.tuple #[.slice a' n' c', .agg #[.int .i64 N, .slice a1 n1 c1, .slice a2 n2 c2]]) ∧ NR w' a' n' l ∧ WC w' (.agg #[.int .i64 N, .slice a1 n1 c1, .slice a2 n2 c2]) f ∧ Below W.heap.size W w'
def TraceE (n : Nat) (ga : Nat → Nat) (A : Nat → Nat → List Nat) (l : List Nat) (f : ErrD) : Prop :=
  (∃ x, MatBad n ga x ∧ l = [] ∧ f = some ([(opMat, x.1)], x.2)) ∨ (Square n ga ∧ l = limbs (trc n (vM A)) ∧ f = none)
theorem nr_nil (w : World) : NR w none 0 [] := (OwN.nil w 0).ns.nr

set_option maxHeartbeats 16000000 in
theorem ref16trace (aa : Option Addr) (na ca : Nat) (ga : Nat → Nat) (A : Nat → Nat → List Nat) (W : World) (hA : MsR W aa na ga A) (hna : na ≤ 96) (hLA : ∀ i j, i < na → j < ga i → (A i j).length ≤ 90000) (l : List Nat) (f : ErrD) (hf : TraceE na ga A l f) :
    Calls Tryd.prog 44 #[.slice aa na ca] W (RefN W l f) := by
  have HLA := Lib.hid hLA
  clear hLA
  obtain ⟨w0, hw0⟩ : ∃ w0, W.alloc (.cells #[.int .i64 0, .slice none 0 0, .slice none 0 0] 53) = w0 := ⟨_, rfl⟩
  have HY0 : Hid (w0.heap[W.heap.size]? = some (.cells #[.int .i64 0, .slice none 0 0, .slice none 0 0] 53)) := by show _ = _; rw [← hw0]; exact heap_alloc_new W _
  have HBX : Hid (Below W.heap.size W w0) := by show Below _ _ _; rw [← hw0]; exact balloc (bnil W) _
  have HSZ : Hid (w0.heap.size = W.heap.size + 1) := by show _ = _; rw [← hw0]; simp
  have HB0 := Lib.hid (bnil w0)
  have HWB := Lib.hid hw0
  have HA := Lib.hid (hA.up HBX.out)
  clear hw0 hA
  rcases hf with ⟨x, hx, rfl, rfl⟩ | ⟨hs, rfl, rfl⟩
  · have HX : Hid (MatErr na ga (some ([(opMat, x.1)], x.2))) := .inr ⟨x, hx, rfl⟩
    clear hx
    go_enter Tryd.func44, Tryd.ntmps44
    go_wp2_with fail
    rw [HWB.out]
    refine (ref16check aa na ca ga A _ HA.out hna _ HX.out).mono ?_; rintro e w1 ⟨vN, va1, vn1, vc1, va2, vn2, vc2, rfl, hw, hf1, hf2, hN, h0, hb⟩
    have HWv1 := Lib.hid hw
    have HFv : Hid (Fr (W.heap.size + 1) va1 ∧ Fr (W.heap.size + 1) va2) := ⟨hf1.base (by have := HSZ.out; have := HB0.out.size; omega), hf2.base (by have := HSZ.out; have := HB0.out.size; omega)⟩
    have HNv : Hid ((vN != 0) = true) := hN
    clear hw hf1 hf2 hN h0
    have HB1 := Lib.hid (HB0.out.trans (hb.mono HB0.out.size))
    clear hb
    go_wp2_with fail
    obtain ⟨g1, hg1⟩ : ∃ g1, w1.heap.size = g1 := ⟨_, rfl⟩
    obtain ⟨w2, hw⟩ : ∃ w2, w1.alloc (.cells #[.int .i64 vN, .slice va1 vn1 vc1, .slice va2 vn2 vc2] 53) = w2 := ⟨_, rfl⟩
    have hb : Below w1.heap.size w1 w2 := by rw [← hw]; exact balloc (bnil w1) _
    have HZ2 : Hid (w2.heap[g1]? = some (.cells #[.int .i64 vN, .slice va1 vn1 vc1, .slice va2 vn2 vc2] 53)) := by show _ = _; rw [← hw, ← hg1]; exact heap_alloc_new w1 _
    have HG1 : Hid (W.heap.size + 1 ≤ g1) := by show _ ≤ _; have := HSZ.out; have := HB1.out.size; omega
    rw [hw]
    simp only [hg1]
    clear hw hg1
    have HB2 := Lib.hid (HB1.out.trans (hb.mono HB1.out.size))
    have HWv2 := Lib.hid (HWv1.out.up hb)
    clear hb
    refine (refBadq vN _ _ _ true HNv.out).mono ?_; rintro e w3 ⟨rfl, hb⟩
    have HB3 := Lib.hid (HB2.out.trans (hb.mono HB2.out.size))
    have HZ3 := Lib.hid ((hb.block _ (heap_ltQ HZ2.out)).trans HZ2.out)
    have HWv3 := Lib.hid (HWv2.out.up hb)
    clear hb
    obtain ⟨⟨q0, q1, q2⟩, f0, f1, f2⟩ := cellsq HZ3.out
    have hy := (HB3.out.block _ (by have := HSZ.out; omega)).trans HY0.out
    obtain ⟨⟨p0, p1, p2⟩, f3, f4, f5⟩ := cellsq hy
    obtain ⟨w9, e9, ⟨r0, r1, r2⟩, hk, hs, hbl, _⟩ := set3q hy (.int .i64 vN) (.slice va1 vn1 vc1) (.slice va2 vn2 vc2)
    have HE9 := Lib.hid e9
    have HR := Lib.hid (And.intro r0 (And.intro r1 r2))
    have HBE := Lib.hid (hbl W W.heap.size (Nat.le_refl _) (HBX.out.trans (HB3.out.mono HBX.out.size)))
    have HWC : Hid (WC w9 (.agg #[.int .i64 vN, .slice va1 vn1 vc1, .slice va2 vn2 vc2]) _) := Lib.hid (HWv3.out.other hk hs HFv.out.1 HFv.out.2)
    clear hy e9 r0 r1 r2 hk hs hbl
    go_wp2
    go_region
    all_goals
      go_wp2
      rw [HE9.out]
      have r0 : w9.drew.cell? _ = _ := HR.out.1
      have r1 : w9.drew.cell? _ = _ := HR.out.2.1
      have r2 : w9.drew.cell? _ = _ := HR.out.2.2
      refine bodyPost_ret (v := .tuple #[.slice none 0 0, .agg #[.int .i64 vN, .slice va1 vn1 vc1, .slice va2 vn2 vc2]]) (by simp [results, Tryd.results44, go_sem, r0, r1, r2]) rfl ?_
      exact ⟨none, 0, 0, vN, va1, vn1, vc1, va2, vn2, vc2, rfl, nr_nil _, (HWC.out.up (bnil w9).drew), (HBE.out.drew)⟩
  · have HS : Hid (MatErr na ga none) := .inl ⟨hs, rfl⟩
    have HSQ := Lib.hid hs.2
    have HA2 := Lib.hid (HA.out.square hs.2)
    have HLA2 : Hid (∀ i j, i < na → j < na → (A i j).length ≤ 90000) := fun i j hi hj => HLA.out i j hi (by rw [hs.2 i hi]; exact hj)
    have HBD := Lib.hid (bdM_of HA2.out HLA2.out)
    clear hs
    go_enter Tryd.func44, Tryd.ntmps44
    go_wp2_with fail
    rw [HWB.out]
    refine (ref16check aa na ca ga A _ HA.out hna _ HS.out).mono ?_; rintro e w1 ⟨zN, za1, zn1, zc1, za2, zn2, zc2, rfl, hw, hf1, hf2, hN, h0, hb⟩
    obtain ⟨rfl, rfl, rfl, rfl, rfl, rfl, rfl⟩ := h0 rfl
    clear hw hf1 hf2 hN h0
    have HB1 := Lib.hid (HB0.out.trans (hb.mono HB0.out.size))
    clear hb
    go_wp2_with fail
    obtain ⟨g1, hg1⟩ : ∃ g1, w1.heap.size = g1 := ⟨_, rfl⟩
    obtain ⟨w2, hw⟩ : ∃ w2, w1.alloc (.cells #[.int .i64 0, .slice none 0 0, .slice none 0 0] 53) = w2 := ⟨_, rfl⟩
    have hb : Below w1.heap.size w1 w2 := by rw [← hw]; exact balloc (bnil w1) _
    have HZ2 : Hid (w2.heap[g1]? = some (.cells #[.int .i64 0, .slice none 0 0, .slice none 0 0] 53)) := by show _ = _; rw [← hw, ← hg1]; exact heap_alloc_new w1 _
    have HG1 : Hid (W.heap.size + 1 ≤ g1) := by show _ ≤ _; have := HSZ.out; have := HB1.out.size; omega
    rw [hw]
    simp only [hg1]
    clear hw hg1
    have HB2 := Lib.hid (HB1.out.trans (hb.mono HB1.out.size))
    clear hb
    refine (refBadq 0 _ _ _ false rfl).mono ?_; rintro e w3 ⟨rfl, hb⟩
    have HB3 := Lib.hid (HB2.out.trans (hb.mono HB2.out.size))
    have HZ3 := Lib.hid ((hb.block _ (heap_ltQ HZ2.out)).trans HZ2.out)
    clear hb
    go_wp2_with fail
    go_loopw [5, 6] (fun sv ix wr => ∃ (i : Nat) (a5 : Option Addr) (n5 c5 : Nat), i ≤ na ∧ sv = .slice a5 n5 c5 ∧ ix = .int .i64 i ∧ OwN wr (W.heap.size + 1) (a5, n5, c5) (limbs (sumTo i fun k => vM A k k)) ∧ Below w3.heap.size w3 wr) (fun _ ix _ => na - (intOf ix).toNat)
    case atStart => exact ⟨0, none, 0, 0, by omega, rfl, rfl, OwN.nil _ _, bnil _⟩
    case round =>
      obtain ⟨i, a5, n5, c5, hi, rfl, rfl, ho, hb⟩ := hrel
      have HO := Lib.hid ho
      clear ho
      have HBZ := Lib.hid (HB3.out.trans (hb.mono HB3.out.size))
      by_cases hin : i < na
      · obtain ⟨b, o, rfl, lA, hc⟩ := HA2.out.addr (by omega)
        obtain ⟨a1, c1, x0, _, _, _, hr⟩ := hc i hin
        obtain ⟨b1, o1, rfl, lA1, hc1⟩ := hr.addr (by omega)
        obtain ⟨a2, n2, c2, y0, hy⟩ := hc1 i hin
        have x1 := (HBZ.out.cell (p := ⟨b, o + i, none⟩) lA).trans x0
        have y1 := (HBZ.out.cell (p := ⟨b1, o1 + i, none⟩) lA1).trans y0
        have HY := Lib.hid (hy.up HBZ.out)
        have n2L := hy.small (HLA2.out i i hin hin)
        have hn5 := HO.out.ns.small (trc_len HBD.out hna hi)
        simp only at hn5
        clear hc x0 hr hc1 y0 hy lA lA1
        have HBS := Lib.hid hb
        clear hb
        have i0 : (0 : Int) ≤ (i : Int) := by omega
        have i1 : (i : Int) < (na : Int) := by omega
        go_wp2_with fail
        refine (add16 a5 a2 n5 n2 c5 c2 _ _ _ HO.out.ns.nr HY.out.nr (by omega) (by omega)).mono ?_; rintro e w9 ⟨a6, n6, c6, rfl, ho6, hb6⟩
        rw [val_limbs] at ho6
        have HO6 : Hid (OwN w9 (W.heap.size + 1) (a6, n6, c6) (limbs (sumTo (i + 1) fun k => vM A k k))) := ⟨owns_base ho6 (by have := HBZ.out.size; have := HSZ.out; omega), limbs_u32 _⟩
        have HB6 := Lib.hid (HBS.out.trans (hb6.mono HBS.out.size))
        clear ho6 hb6
        go_wp2
        go_roundw
        case rel => exact ⟨i + 1, a6, n6, c6, by omega, rfl, by go_num, HO6.out, HB6.out⟩
        case measure => simp [intOf]; omega
      · obtain rfl : i = na := by omega
        have HBS := Lib.hid hb
        clear hb HBZ
        generalize wr = w4 at *
        have hb := HBS.out
        have HB4 := Lib.hid (HB3.out.trans (hb.mono HB3.out.size))
        have HZ4 := Lib.hid ((hb.block _ (heap_ltQ HZ3.out)).trans HZ3.out)
        clear hb
        have hy := (HB4.out.block _ (by have := HSZ.out; omega)).trans HY0.out
        obtain ⟨⟨p0, p1, p2⟩, f3, f4, f5⟩ := cellsq hy
        obtain ⟨w9, e9, ⟨r0, r1, r2⟩, hk, hs, hbl, _⟩ := set3q hy (.int .i64 0) (.slice none 0 0) (.slice none 0 0)
        have HE9 := Lib.hid e9
        have HR := Lib.hid (And.intro r0 (And.intro r1 r2))
        have HBE := Lib.hid (hbl W W.heap.size (Nat.le_refl _) (HBX.out.trans (HB4.out.mono HBX.out.size)))
        have HWC := Lib.hid (wc_none w9)
        have HM9 := Lib.hid ((HO.out).heap (w' := w9) fun b hb => hk b (by omega)).ns.nr
        clear hy e9 r0 r1 r2 hk hs hbl
        go_wp2
        rw [HE9.out]
        have r0 : w9.cell? _ = _ := HR.out.1
        have r1 : w9.cell? _ = _ := HR.out.2.1
        have r2 : w9.cell? _ = _ := HR.out.2.2
        refine bodyPost_ret (v := .tuple #[.slice a5 n5 c5, .agg #[.int .i64 0, .slice none 0 0, .slice none 0 0]]) (by simp [results, Tryd.results44, go_sem, r0, r1, r2]) rfl ?_
        exact ⟨a5, n5, c5, 0, none, 0, 0, none, 0, 0, rfl, HM9.out, HWC.out, HBE.out⟩

def gof (v : Nat → Nat) (m : Mat) (n i j p : Nat) : List Nat := limbs (if p < i then thr v m n p else if p = i then thr v m j p else 0)
theorem gof_start (v : Nat → Nat) (m : Mat) (n p : Nat) : ([] : List Nat) = gof v m n 0 0 p := by
  unfold gof
  rw [if_neg (by omega)]
  split <;> rfl
theorem gof_next (v : Nat → Nat) (m : Mat) (n i p : Nat) : gof v m n i n p = gof v m n (i + 1) 0 p := by
  unfold gof
  by_cases h : p < i
  · rw [if_pos h, if_pos (by omega)]
  · rw [if_neg h]
    by_cases h2 : p = i
    · rw [if_pos h2, if_pos (by omega)]
    · rw [if_neg h2, if_neg (by omega)]
      split <;> rfl
theorem gof_at (v : Nat → Nat) (m : Mat) (n i j : Nat) : gof v m n i j i = limbs (thr v m j i) := by unfold gof; rw [if_neg (by omega), if_pos rfl]
theorem gof_put (v : Nat → Nat) (m : Mat) (n i j p : Nat) : upd (gof v m n i j) i (limbs (thr v m j i + v j * m j i)) p = gof v m n i (j + 1) p := by
  by_cases h : p = i
  · subst h; rw [upd_self, gof_at, thr_succ]
  · rw [upd_ne _ _ h]; unfold gof
    by_cases h2 : p < i
    · rw [if_pos h2, if_pos h2]
    · rw [if_neg h2, if_neg h2, if_neg h, if_neg h]
theorem gof_end {v : Nat → Nat} {m : Mat} {n p : Nat} (h : p < n) : gof v m n n 0 p = limbs (thr v m n p) := by unfold gof; rw [if_pos h]
/-- a row of numbers and an error of the document -/
def RefNs (W : World) (m : Nat) (F : Nat → List Nat) (f : ErrD) (e : Ending) (w' : World) : Prop :=
  ∃ a' c' N a1 n1 c1 a2 n2 c2, e = .returned (.tuple #[.slice a' m c', .agg #[.int .i64 N, .slice a1 n1 c1, .slice a2 n2 c2]]) ∧ (∃ its, OwNs w' W.heap.size (.slice a' m c') m its F) ∧ WC w' (.agg #[.int .i64 N, .slice a1 n1 c1, .slice a2 n2 c2]) f ∧ Fr W.heap.size a1 ∧ Fr W.heap.size a2 ∧ Below W.heap.size W w'
theorem owns_zero {w : World} {b : Nat} {F : Nat → List Nat} : ∃ its, OwNs w b (.slice none 0 0) 0 its F := ⟨fun _ => (none, 0, 0), World.ownsRow_nil _ _ _ _, fun j hj => by omega, fun i j hi => by omega⟩
def GoE (nv n : Nat) (ga : Nat → Nat) (m : Nat) (f : ErrD) : Prop :=
  (∃ x, MatBad n ga x ∧ m = 0 ∧ f = some ([(opMat, x.1)], x.2)) ∨ (Square n ga ∧ nv ≠ n ∧ m = 0 ∧ f = some ([(opMat, 0)], 3)) ∨ (Square n ga ∧ nv = n ∧ m = n ∧ f = none)

set_option maxHeartbeats 16000000 in
theorem ref16go (av : Option Addr) (nv cv : Nat) (V : Nat → List Nat) (aa : Option Addr) (na ca : Nat) (ga : Nat → Nat) (A : Nat → Nat → List Nat) (W : World) (hV : NsR W av nv V) (hA : MsR W aa na ga A) (hna : na ≤ 96) (hnv : nv ≤ 96) (hLV : ∀ i, i < nv → (V i).length ≤ 80) (hLA : ∀ i j, i < na → j < ga i → (A i j).length ≤ 80) (m : Nat) (f : ErrD) (hf : GoE nv na ga m f) :
    Calls Tryd.prog 49 #[.slice av nv cv, .slice aa na ca] W (RefNs W m (fun j => limbs (thr (vN V) (vM A) m j)) f) := by
  have HLA := Lib.hid hLA
  have HLV := Lib.hid hLV
  clear hLA hLV
  obtain ⟨w0, hw0⟩ : ∃ w0, W.alloc (.cells #[.int .i64 0, .slice none 0 0, .slice none 0 0] 53) = w0 := ⟨_, rfl⟩
  have HY0 : Hid (w0.heap[W.heap.size]? = some (.cells #[.int .i64 0, .slice none 0 0, .slice none 0 0] 53)) := by show _ = _; rw [← hw0]; exact heap_alloc_new W _
  have HBX : Hid (Below W.heap.size W w0) := by show Below _ _ _; rw [← hw0]; exact balloc (bnil W) _
  have HSZ : Hid (w0.heap.size = W.heap.size + 1) := by show _ = _; rw [← hw0]; simp
  have HB0 := Lib.hid (bnil w0)
  have HWB := Lib.hid hw0
  have HA := Lib.hid (hA.up HBX.out)
  have HV := Lib.hid (hV.up HBX.out)
  clear hw0 hA hV
  rcases hf with ⟨x, hx, rfl, rfl⟩ | ⟨hs, hne, rfl, rfl⟩ | ⟨hs, rfl, rfl, rfl⟩
  · have HX : Hid (MatErr na ga (some ([(opMat, x.1)], x.2))) := .inr ⟨x, hx, rfl⟩
    clear hx
    go_enter Tryd.func49, Tryd.ntmps49
    go_wp2_with fail
    rw [HWB.out]
    refine (ref16check aa na ca ga A _ HA.out hna _ HX.out).mono ?_; rintro e w1 ⟨vN, va1, vn1, vc1, va2, vn2, vc2, rfl, hw, hf1, hf2, hN, h0, hb⟩
    have HWv1 := Lib.hid hw
    have HFv : Hid (Fr (W.heap.size + 1) va1 ∧ Fr (W.heap.size + 1) va2) := ⟨hf1.base (by have := HSZ.out; have := HB0.out.size; omega), hf2.base (by have := HSZ.out; have := HB0.out.size; omega)⟩
    have HNv : Hid ((vN != 0) = true) := hN
    clear hw hf1 hf2 hN h0
    have HB1 := Lib.hid (HB0.out.trans (hb.mono HB0.out.size))
    clear hb
    go_wp2_with fail
    obtain ⟨g1, hg1⟩ : ∃ g1, w1.heap.size = g1 := ⟨_, rfl⟩
    obtain ⟨w2, hw⟩ : ∃ w2, w1.alloc (.cells #[.int .i64 vN, .slice va1 vn1 vc1, .slice va2 vn2 vc2] 53) = w2 := ⟨_, rfl⟩
    have hb : Below w1.heap.size w1 w2 := by rw [← hw]; exact balloc (bnil w1) _
    have HZ2 : Hid (w2.heap[g1]? = some (.cells #[.int .i64 vN, .slice va1 vn1 vc1, .slice va2 vn2 vc2] 53)) := by show _ = _; rw [← hw, ← hg1]; exact heap_alloc_new w1 _
    have HG1 : Hid (W.heap.size + 1 ≤ g1) := by show _ ≤ _; have := HSZ.out; have := HB1.out.size; omega
    rw [hw]
    simp only [hg1]
    clear hw hg1
    have HB2 := Lib.hid (HB1.out.trans (hb.mono HB1.out.size))
    have HWv2 := Lib.hid (HWv1.out.up hb)
    clear hb
    refine (refBadq vN _ _ _ true HNv.out).mono ?_; rintro e w3 ⟨rfl, hb⟩
    have HB3 := Lib.hid (HB2.out.trans (hb.mono HB2.out.size))
    have HZ3 := Lib.hid ((hb.block _ (heap_ltQ HZ2.out)).trans HZ2.out)
    have HWv3 := Lib.hid (HWv2.out.up hb)
    clear hb
    obtain ⟨⟨q0, q1, q2⟩, f0, f1, f2⟩ := cellsq HZ3.out
    have hy := (HB3.out.block _ (by have := HSZ.out; omega)).trans HY0.out
    obtain ⟨⟨p0, p1, p2⟩, f3, f4, f5⟩ := cellsq hy
    obtain ⟨w9, e9, ⟨r0, r1, r2⟩, hk, hs, hbl, _⟩ := set3q hy (.int .i64 vN) (.slice va1 vn1 vc1) (.slice va2 vn2 vc2)
    have HE9 := Lib.hid e9
    have HR := Lib.hid (And.intro r0 (And.intro r1 r2))
    have HBE := Lib.hid (hbl W W.heap.size (Nat.le_refl _) (HBX.out.trans (HB3.out.mono HBX.out.size)))
    have HWC : Hid (WC w9 (.agg #[.int .i64 vN, .slice va1 vn1 vc1, .slice va2 vn2 vc2]) _) := Lib.hid (HWv3.out.other hk hs HFv.out.1 HFv.out.2)
    clear hy e9 r0 r1 r2 hk hs hbl
    go_wp2
    go_region
    all_goals
      go_wp2
      rw [HE9.out]
      have r0 : w9.drew.cell? _ = _ := HR.out.1
      have r1 : w9.drew.cell? _ = _ := HR.out.2.1
      have r2 : w9.drew.cell? _ = _ := HR.out.2.2
      refine bodyPost_ret (v := .tuple #[.slice none 0 0, .agg #[.int .i64 vN, .slice va1 vn1 vc1, .slice va2 vn2 vc2]]) (by simp [results, Tryd.results49, go_sem, r0, r1, r2]) rfl ?_
      exact ⟨none, 0, vN, va1, vn1, vc1, va2, vn2, vc2, rfl, owns_zero, (HWC.out.up (bnil w9).drew), HFv.out.1.base (by omega), HFv.out.2.base (by omega), (HBE.out.drew)⟩
  · have HS : Hid (MatErr na ga none) := .inl ⟨hs, rfl⟩
    have hneb : ((nv : Int) != (na : Int)) = true := by simp; omega
    clear hs hne
    go_enter Tryd.func49, Tryd.ntmps49
    go_wp2_with fail
    rw [HWB.out]
    refine (ref16check aa na ca ga A _ HA.out hna _ HS.out).mono ?_; rintro e w1 ⟨zN, za1, zn1, zc1, za2, zn2, zc2, rfl, hw, hf1, hf2, hN, h0, hb⟩
    obtain ⟨rfl, rfl, rfl, rfl, rfl, rfl, rfl⟩ := h0 rfl
    clear hw hf1 hf2 hN h0
    have HB1 := Lib.hid (HB0.out.trans (hb.mono HB0.out.size))
    clear hb
    go_wp2_with fail
    obtain ⟨g1, hg1⟩ : ∃ g1, w1.heap.size = g1 := ⟨_, rfl⟩
    obtain ⟨w2, hw⟩ : ∃ w2, w1.alloc (.cells #[.int .i64 0, .slice none 0 0, .slice none 0 0] 53) = w2 := ⟨_, rfl⟩
    have hb : Below w1.heap.size w1 w2 := by rw [← hw]; exact balloc (bnil w1) _
    have HZ2 : Hid (w2.heap[g1]? = some (.cells #[.int .i64 0, .slice none 0 0, .slice none 0 0] 53)) := by show _ = _; rw [← hw, ← hg1]; exact heap_alloc_new w1 _
    have HG1 : Hid (W.heap.size + 1 ≤ g1) := by show _ ≤ _; have := HSZ.out; have := HB1.out.size; omega
    rw [hw]
    simp only [hg1]
    clear hw hg1
    have HB2 := Lib.hid (HB1.out.trans (hb.mono HB1.out.size))
    clear hb
    refine (refBadq 0 _ _ _ false rfl).mono ?_; rintro e w3 ⟨rfl, hb⟩
    have HB3 := Lib.hid (HB2.out.trans (hb.mono HB2.out.size))
    have HZ3 := Lib.hid ((hb.block _ (heap_ltQ HZ2.out)).trans HZ2.out)
    clear hb
    go_wp2_with fail
    refine (rawNewq _ _ _ _ rfl).mono ?_; rintro e w4 ⟨vN, va1, vn1, vc1, va2, vn2, vc2, rfl, hw, hf1, hf2, hN, h0, hb⟩
    have HWv4 := Lib.hid hw
    have HFv : Hid (Fr (W.heap.size + 1) va1 ∧ Fr (W.heap.size + 1) va2) := ⟨hf1.base (by have := HSZ.out; have := HB3.out.size; omega), hf2.base (by have := HSZ.out; have := HB3.out.size; omega)⟩
    have HNv : Hid ((vN != 0) = true) := hN
    have HGv : Hid (Fr (g1 + 1) va1 ∧ Fr (g1 + 1) va2) := ⟨hf1.base (heap_ltQ HZ3.out), hf2.base (heap_ltQ HZ3.out)⟩
    clear hw hf1 hf2 hN h0
    have HB4 := Lib.hid (HB3.out.trans (hb.mono HB3.out.size))
    have HZ4 := Lib.hid ((hb.block _ (heap_ltQ HZ3.out)).trans HZ3.out)
    clear hb
    have hy := (HB4.out.block _ (by have := HSZ.out; omega)).trans HY0.out
    obtain ⟨⟨p0, p1, p2⟩, f3, f4, f5⟩ := cellsq hy
    obtain ⟨w9, e9, ⟨r0, r1, r2⟩, hk, hs, hbl, _⟩ := set3q hy (.int .i64 vN) (.slice va1 vn1 vc1) (.slice va2 vn2 vc2)
    have HE9 := Lib.hid e9
    have HR := Lib.hid (And.intro r0 (And.intro r1 r2))
    have HBE := Lib.hid (hbl W W.heap.size (Nat.le_refl _) (HBX.out.trans (HB4.out.mono HBX.out.size)))
    have HWC : Hid (WC w9 (.agg #[.int .i64 vN, .slice va1 vn1 vc1, .slice va2 vn2 vc2]) _) := Lib.hid (HWv4.out.other hk hs HFv.out.1 HFv.out.2)
    clear hy e9 r0 r1 r2 hk hs hbl
    go_wp2
    rw [HE9.out]
    have r0 : w9.cell? _ = _ := HR.out.1
    have r1 : w9.cell? _ = _ := HR.out.2.1
    have r2 : w9.cell? _ = _ := HR.out.2.2
    refine bodyPost_ret (v := .tuple #[.slice none 0 0, .agg #[.int .i64 vN, .slice va1 vn1 vc1, .slice va2 vn2 vc2]]) (by simp [results, Tryd.results49, go_sem, r0, r1, r2]) rfl ?_
    exact ⟨none, 0, vN, va1, vn1, vc1, va2, vn2, vc2, rfl, owns_zero, HWC.out, HFv.out.1.base (by omega), HFv.out.2.base (by omega), HBE.out⟩
  · have HS : Hid (MatErr m ga none) := .inl ⟨hs, rfl⟩
    have HA2 := Lib.hid (HA.out.square hs.2)
    have HLA2 : Hid (∀ i j, i < m → j < m → (A i j).length ≤ 80) := fun i j hi hj => HLA.out i j hi (by rw [hs.2 i hi]; exact hj)
    have HLEN : Hid (∀ i j, i ≤ m → j < m → (limbs (thr (vN V) (vM A) i j)).length ≤ 80 + 80 + 1) := fun i j hi hj => thr_len (v := vN V) hi hj hna (fun k hk => ⟨HV.out.u32 k hk, HLV.out k hk⟩) (fun k q hk hq => ⟨HA2.out.u32 k q hk hq, HLA2.out k q hk hq⟩)
    clear hs
    go_enter Tryd.func49, Tryd.ntmps49
    go_wp2_with fail
    rw [HWB.out]
    refine (ref16check aa m ca ga A _ HA.out hna _ HS.out).mono ?_; rintro e w1 ⟨zN, za1, zn1, zc1, za2, zn2, zc2, rfl, hw, hf1, hf2, hN, h0, hb⟩
    obtain ⟨rfl, rfl, rfl, rfl, rfl, rfl, rfl⟩ := h0 rfl
    clear hw hf1 hf2 hN h0
    have HB1 := Lib.hid (HB0.out.trans (hb.mono HB0.out.size))
    clear hb
    go_wp2_with fail
    obtain ⟨g1, hg1⟩ : ∃ g1, w1.heap.size = g1 := ⟨_, rfl⟩
    obtain ⟨w2, hw⟩ : ∃ w2, w1.alloc (.cells #[.int .i64 0, .slice none 0 0, .slice none 0 0] 53) = w2 := ⟨_, rfl⟩
    have hb : Below w1.heap.size w1 w2 := by rw [← hw]; exact balloc (bnil w1) _
    have HZ2 : Hid (w2.heap[g1]? = some (.cells #[.int .i64 0, .slice none 0 0, .slice none 0 0] 53)) := by show _ = _; rw [← hw, ← hg1]; exact heap_alloc_new w1 _
    have HG1 : Hid (W.heap.size + 1 ≤ g1) := by show _ ≤ _; have := HSZ.out; have := HB1.out.size; omega
    rw [hw]
    simp only [hg1]
    clear hw hg1
    have HB2 := Lib.hid (HB1.out.trans (hb.mono HB1.out.size))
    clear hb
    refine (refBadq 0 _ _ _ false rfl).mono ?_; rintro e w3 ⟨rfl, hb⟩
    have HB3 := Lib.hid (HB2.out.trans (hb.mono HB2.out.size))
    have HZ3 := Lib.hid ((hb.block _ (heap_ltQ HZ2.out)).trans HZ2.out)
    clear hb
    go_wp2_with (first
      | (at_make; refine mk_full rfl _ _ _ rfl w3.heap.size et_nats .i64 .i64 _ _ m rfl rfl rfl rfl (by omega) (by unfold maxLen; omega) (Nat.le_refl _) ?_; intro w4 hown hb hsz1; rw [made_nats] at hown))
    have HBK : Hid (Below w3.heap.size w3 w4) := hb
    have HST := Lib.hid ((OwNs.made hown).congr (G := gof (vN V) (vM A) m 0 0) fun p _ => gof_start _ _ _ p)
    clear hown
    obtain ⟨g, hg⟩ : ∃ g, w3.heap.size = g := ⟨_, rfl⟩
    have HG0 : Hid (W.heap.size + 1 ≤ g) := by show _ ≤ _; have := HSZ.out; have := HB3.out.size; omega
    have HGE : Hid (g = w3.heap.size) := hg.symm
    rw [hg] at HST
    simp only [hg]
    clear hg
    have HB4 := Lib.hid (HB3.out.trans (hb.mono HB3.out.size))
    have HZ4 := Lib.hid ((hb.block _ (heap_ltQ HZ3.out)).trans HZ3.out)
    clear hb
    go_loopw [8] (fun ix wr => ∃ (i : Nat) (its : Nat → It), i ≤ m ∧ ix = .int .i64 i ∧ OwNs wr g (.slice (some ⟨g, 0, none⟩) m m) m its (gof (vN V) (vM A) m i 0) ∧ Below w3.heap.size w3 wr) (fun ix _ => m - (intOf ix).toNat)
    case atStart => exact ⟨0, _, by omega, rfl, HST.out, HBK.out⟩
    case round =>
      clear HST HBK HB4 HZ4
      obtain ⟨i, its, hi, rfl, ho, hb⟩ := hrel
      have HO := Lib.hid ho
      have HBS := Lib.hid hb
      clear ho hb
      by_cases hin : i < m
      · have i0 : (0 : Int) ≤ (i : Int) := by omega
        have i1 : (i : Int) < (m : Int) := by omega
        generalize wr = wz at *
        go_wp2_with fail
        go_loopw [9] (fun jx wr => ∃ (j : Nat) (its : Nat → It), j ≤ m ∧ jx = .int .i64 j ∧ OwNs wr g (.slice (some ⟨g, 0, none⟩) m m) m its (gof (vN V) (vM A) m i j) ∧ Below w3.heap.size w3 wr) (fun jx _ => m - (intOf jx).toNat)
        case atStart => exact ⟨0, its, by omega, rfl, HO.out, HBS.out⟩
        case round =>
          clear HO HBS
          clear its
          obtain ⟨j, its, hj, rfl, ho, hb⟩ := hrel
          have HBW := Lib.hid (HB3.out.trans (hb.mono HB3.out.size))
          have HO := Lib.hid ho
          have HBS := Lib.hid hb
          clear ho hb
          by_cases hjn : j < m
          · obtain ⟨b, o, rfl, lA, hc⟩ := HA2.out.addr (by omega)
            obtain ⟨a1, c1, x0, _, _, _, hr⟩ := hc j hjn
            obtain ⟨b1, o1, rfl, lA1, hc1⟩ := hr.addr (by omega)
            obtain ⟨a2, n2, c2, y0, hy⟩ := hc1 i hin
            obtain ⟨bv, ov, rfl, lV, hcv⟩ := HV.out.addr (by omega)
            obtain ⟨a3, n3, c3, z0, hx⟩ := hcv j hjn
            have x1 := (HBW.out.cell (p := ⟨b, o + j, none⟩) lA).trans x0
            have y1 := (HBW.out.cell (p := ⟨b1, o1 + i, none⟩) lA1).trans y0
            have z1 := (HBW.out.cell (p := ⟨bv, ov + j, none⟩) lV).trans z0
            have HY := Lib.hid (hy.up HBW.out)
            have HX := Lib.hid (hx.up HBW.out)
            have n2L := hy.small (HLA2.out j i hjn hin)
            have n3L := hx.small (HLV.out j hjn)
            have HL9 : Hid (b < wr.heap.size ∧ b1 < wr.heap.size ∧ bv < wr.heap.size) := by have := HBW.out.size; refine ⟨?_, ?_, ?_⟩ <;> omega
            have hcell := HO.out.row.cellAt i (by omega)
            rw [range_at _ hin] at hcell
            have f0 := HO.out.row.frozenAt i
            have hnk := (HO.out.num i hin).ns
            rw [gof_at] at hnk
            have hlk := hnk.small (HLEN.out j i (by omega) hin)
            obtain ⟨a4, n4, c4, hit⟩ : ∃ a4 n4 c4, its i = (a4, n4, c4) := ⟨_, _, _, rfl⟩
            rw [hit] at hcell hnk hlk
            simp only [IV] at hcell hnk hlk
            have HNK := Lib.hid hnk
            have hgl : g < wr.heap.size := own_lt HO.out.row g rfl
            have HGL := Lib.hid hgl
            clear hc x0 hr hc1 y0 hy lA lA1 hcv z0 hx lV hnk hit hgl
            have j0 : (0 : Int) ≤ (j : Int) := by omega
            have j1 : (j : Int) < (m : Int) := by omega
            have HXd := Lib.hid (HX.out.up (bnil _).drew)
            have HYd := Lib.hid (HY.out.up (bnil _).drew)
            go_wp2_with fail
            go_region_with (first
              | (go_at_call 98; refine (mul16 a3 a2 n3 n2 c3 c2 (V j) (A j i) _ HXd.out.nr HYd.out.nr (by omega) (by omega)).mono ?_; rintro e w4 ⟨a5, n5, c5, rfl, ho5, hb5⟩; have HB5 := Lib.hid ((bnil wr).drew.trans hb5); have H5 : Hid (OwN w4 0 (a5, n5, c5) (limbs (val (V j) * val (A j i)))) := ⟨owns_base ho5 (Nat.zero_le _), limbs_u32 _⟩; have hn5 : n5 ≤ n3 + n2 := by { have := H5.out.ns.nr.len; have := mul_len HXd.out HYd.out; simp only at *; omega }; have c4' := (HB5.out.cell (p := ⟨g, i, none⟩) HGL.out).trans hcell; have x4 := (HB5.out.cell (p := ⟨b, o + j, none⟩) HL9.out.1).trans x1; clear ho5 hb5)
              | (go_at_call 96; refine (add16 a4 a5 n4 n5 c4 c5 _ _ _ (HNK.out.up HB5.out).nr H5.out.ns.nr (by omega) (by omega)).mono ?_; rintro e w6 ⟨a6, n6, c6, rfl, ho6, hb6⟩; rw [val_limbs, val_limbs] at ho6; have HB6 := Lib.hid (HB5.out.trans (hb6.mono HB5.out.size)); have H6 : Hid (OwN w6 wr.heap.size (a6, n6, c6) (limbs (thr (vN V) (vM A) j i + vN V j * vM A j i))) := ⟨owns_base ho6 HB5.out.size, limbs_u32 _⟩; have c6' := (HB6.out.cell (p := ⟨g, i, none⟩) HGL.out).trans hcell; have f6' := (HB6.out.frozen (p := ⟨g, i, none⟩) HGL.out).trans f0; clear ho6 hb6))
            all_goals
              have HST := Lib.hid (((HO.out.up HB6.out).store (p := (a6, n6, c6)) hin (H6.out.base (by have := HGL.out; omega)) fun r hr _ => ap_after (HO.out.num r hr).own H6.out.own (Nat.le_refl _)).congr fun p _ => gof_put _ _ _ _ _ p)
              have HB9 := Lib.hid ((HBS.out.trans (HB6.out.mono HBS.out.size)).setCell (p := ⟨g, i, none⟩) (by rw [HGE.out]; exact Nat.le_refl _) (.slice a6 n6 c6))
              clear HO HB6 HBS
              go_wp2
              go_roundw
              case rel => exact ⟨j + 1, _, by omega, by go_num, HST.out, HB9.out⟩
              case measure => simp [intOf]; omega
          · obtain rfl : j = m := by omega
            have HN := Lib.hid (HO.out.congr (G := gof (vN V) (vM A) j (i + 1) 0) fun p _ => gof_next _ _ _ _ p)
            clear HO
            go_wp2
            go_roundw
            case rel => exact ⟨i + 1, its, by omega, by go_num, HN.out, HBS.out⟩
            case measure => simp [intOf]; omega
      · obtain rfl : i = m := by omega
        generalize wr = w4 at *
        have HB4 := Lib.hid (HB3.out.trans (HBS.out.mono HB3.out.size))
        have hy := (HB4.out.block _ (by have := HSZ.out; omega)).trans HY0.out
        obtain ⟨⟨p0, p1, p2⟩, f3, f4, f5⟩ := cellsq hy
        obtain ⟨w9, e9, ⟨r0, r1, r2⟩, hk, hs, hbl, _⟩ := set3q hy (.int .i64 0) (.slice none 0 0) (.slice none 0 0)
        have HE9 := Lib.hid e9
        have HR := Lib.hid (And.intro r0 (And.intro r1 r2))
        have HBE := Lib.hid (hbl W W.heap.size (Nat.le_refl _) (HBX.out.trans (HB4.out.mono HBX.out.size)))
        have HWC := Lib.hid (wc_none w9)
        have HM9 := Lib.hid ((((HO.out.heap (w' := w9) fun b hb => hk b (by have := HG0.out; omega))).congr (G := fun j => limbs (thr (vN V) (vM A) i j)) fun p hp => gof_end hp).base (show W.heap.size ≤ g by have := HG0.out; omega))
        clear hy e9 r0 r1 r2 hk hs hbl
        go_wp2
        rw [HE9.out]
        have r0 : w9.cell? _ = _ := HR.out.1
        have r1 : w9.cell? _ = _ := HR.out.2.1
        have r2 : w9.cell? _ = _ := HR.out.2.2
        refine bodyPost_ret (v := .tuple #[.slice (some ⟨g, 0, none⟩) i i, .agg #[.int .i64 0, .slice none 0 0, .slice none 0 0]]) (by simp [results, Tryd.results49, go_sem, r0, r1, r2]) rfl ?_
        exact ⟨_, _, 0, none, 0, 0, none, 0, 0, rfl, ⟨its, HM9.out⟩, HWC.out, fr_none, fr_none, HBE.out⟩
end Go.Proofs.YteneiianpghalaaDoor
