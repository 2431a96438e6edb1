/- edenref03.At and word.At for all arguments. -/
import Derived.Test.YtnmegpplfbkpcaaDoorR03C
import Derived.Test.YtnmegpplfbkpcaaDoorWordJ
namespace Go.Proofs.YtnmegpplfbkpcaaDoor
open Go.RowKit
set_option linter.unusedVariables false
set_option maxRecDepth 100000

def AtE (k n : Int) (I : Nat) (l : List Int) (f : ErrD) : Prop :=
  ((alphB k = false ∨ n < 0) ∧ l = [] ∧ f = some ([(opWord, 0)], 3)) ∨
  (alphB k = true ∧ 256 < n ∧ l = [] ∧ f = some ([(opWord, 0)], 4)) ∨
  (alphB k = true ∧ 0 ≤ n ∧ n ≤ 256 ∧ k.toNat ^ n.toNat ≤ I ∧ l = [] ∧ f = some ([(opWord, 0)], 3)) ∨
  (alphB k = true ∧ 0 ≤ n ∧ n ≤ 256 ∧ I < k.toNat ^ n.toNat ∧ l = digs k.toNat n.toNat I ∧ f = none)
theorem atE_or (k n : Int) (I : Nat) : ∃ l f, AtE k n I l f := by
  by_cases h : alphB k = true
  · by_cases h0 : n < 0
    · exact ⟨_, _, .inl ⟨.inr h0, rfl, rfl⟩⟩
    · by_cases h1 : 256 < n
      · exact ⟨_, _, .inr (.inl ⟨h, h1, rfl, rfl⟩)⟩
      · by_cases h2 : I < k.toNat ^ n.toNat
        · exact ⟨_, _, .inr (.inr (.inr ⟨h, by omega, by omega, h2, rfl, rfl⟩))⟩
        · exact ⟨_, _, .inr (.inr (.inl ⟨h, by omega, by omega, by omega, rfl, rfl⟩))⟩
  · exact ⟨_, _, .inl ⟨.inl (by simpa using h), rfl, rfl⟩⟩
theorem atE_len {k n : Int} {I : Nat} {l : List Int} {f : ErrD} (h : AtE k n I l f) : l.length ≤ 256 := by
  rcases h with ⟨_, rfl, _⟩ | ⟨_, _, rfl, _⟩ | ⟨_, _, _, _, rfl, _⟩ | ⟨_, _, _, _, rfl, _⟩
  · exact Nat.zero_le _
  · exact Nat.zero_le _
  · exact Nat.zero_le _
  · rw [digs_len]; omega
theorem cmpN_neg {x y : Nat} (h : x < y) : cmpN x y = -1 := by unfold cmpN; rw [if_pos h]
theorem cmpN_nn {x y : Nat} (h : y ≤ x) : 0 ≤ cmpN x y := by unfold cmpN; rw [if_neg (by omega)]; split <;> decide

theorem pat (k n : Int) (a : Option Addr) (n1 c1 : Nat) (l : List Nat) (W : World) (R : Nat → Addr) (hS : Sent W R) (hG : Glob W R) (hN : NR W a n1 l) (hm : n1 ≤ 1000000) (hnc : n1 ≤ c1) (hcm : c1 ≤ maxLen) (lr : List Int) (f : ErrD) (hf : AtE k n (val l) lr f) :
    Calls Tryd.prog 50 #[.int .i64 k, .int .i64 n, .slice a n1 c1] W (ProL R W lr f) := by
  rcases hf with ⟨h, rfl, rfl⟩ | ⟨h, h1, rfl, rfl⟩ | ⟨h, h0, h1, h2, rfl, rfl⟩ | ⟨h, h0, h1, h2, rfl, rfl⟩
  · refine (at_err k n _ W R hG 3 (.inl ⟨h, rfl⟩)).mono ?_; rintro e w' ⟨g, rfl, he, hb⟩
    exact ⟨_, _, _, _, rfl, RK.nil, ec_err (hS.up hb) he, hb⟩
  · refine (at_err k n _ W R hG 4 (.inr ⟨h, h1, rfl⟩)).mono ?_; rintro e w' ⟨g, rfl, he, hb⟩
    exact ⟨_, _, _, _, rfl, RK.nil, ec_err (hS.up hb) he, hb⟩
  · obtain ⟨k1, k4⟩ := alph_true.1 h
    obtain ⟨kn, rfl⟩ : ∃ kn : Nat, k = (kn : Int) := ⟨k.toNat, by omega⟩
    obtain ⟨nn, rfl⟩ : ∃ nn : Nat, n = (nn : Int) := ⟨n.toNat, by omega⟩
    simp only [Int.toNat_natCast] at h2
    refine (at_any kn nn a n1 c1 l W R hG hN hm hnc hcm (by omega) (by omega) (by omega)).mono ?_; rintro e w' ⟨hb, _, hq⟩
    obtain ⟨g, rfl, he⟩ := hq h2
    exact ⟨_, _, _, _, rfl, RK.nil, ec_err (hS.up hb) he, hb⟩
  · obtain ⟨k1, k4⟩ := alph_true.1 h
    obtain ⟨kn, rfl⟩ : ∃ kn : Nat, k = (kn : Int) := ⟨k.toNat, by omega⟩
    obtain ⟨nn, rfl⟩ : ∃ nn : Nat, n = (nn : Int) := ⟨n.toNat, by omega⟩
    simp only [Int.toNat_natCast] at h2 ⊢
    refine (at_any kn nn a n1 c1 l W R hG hN hm hnc hcm (by omega) (by omega) (by omega)).mono ?_; rintro e w' ⟨hb, hq, _⟩
    obtain ⟨a', c', rfl, ho⟩ := hq h2
    exact ⟨_, _, _, _, rfl, RK.of_own ho, rfl, hb⟩

set_option maxHeartbeats 8000000 in
theorem ref03at (k n : Int) (a : Option Addr) (n1 c1 : Nat) (l : List Nat) (W : World) (hN : NR W a n1 l) (hm : n1 ≤ 1000) (lr : List Int) (f : ErrD) (hf : AtE k n (val l) lr f) :
    Calls Tryd.prog 51 #[.int .i64 k, .int .i64 n, .slice a n1 c1] W (RefL W lr f) := by
  have HLN := Lib.hid hN.len
  obtain ⟨w0, hw0⟩ : ∃ w0, W.alloc (.cells #[.int .i64 0, .slice none 0 0, .slice none 0 0] 78) = w0 := ⟨_, rfl⟩
  have HSZ : Hid (w0.heap.size = W.heap.size + 1) := by show _ = _; rw [← hw0]; simp
  have HY0 : Hid (w0.heap[W.heap.size]? = some (.cells #[.int .i64 0, .slice none 0 0, .slice none 0 0] 78)) := by show _ = _; rw [← hw0]; have h := heap_alloc_new (W) (.cells #[.int .i64 0, .slice none 0 0, .slice none 0 0] 78); simpa using h
  have HBX : Hid (Below W.heap.size W w0) := by show Below _ _ _; rw [← hw0]; exact balloc (bnil W) _
  have HB0 := Lib.hid (bnil w0)
  have HWB := Lib.hid hw0
  have HN := Lib.hid (hN.up HBX.out)
  clear hw0 hN
  rcases hf with ⟨h, rfl, rfl⟩ | ⟨h, h1, rfl, rfl⟩ | ⟨h, h0, h1, h2, rfl, rfl⟩ | ⟨h, h0, h1, h2, rfl, rfl⟩
  · by_cases c0 : k < 1
    · clear h
      go_enter Tryd.func51, Tryd.ntmps51
      go_wp2_with fail
      rw [HWB.out]
      refine (rawNewq opWord _ _ _ rfl).mono ?_; rintro e w1 ⟨vN, va1, vn1, vc1, va2, vn2, vc2, rfl, hw, hf1, hf2, hN, h0, hb⟩
      have HWv1 := Lib.hid hw
      have HFv : Hid (Fr (W.heap.size + 1) va1 ∧ Fr (W.heap.size + 1) va2) := ⟨hf1.base (by have := HSZ.out; have := HB0.out.size; omega), hf2.base (by have := HSZ.out; have := HB0.out.size; omega)⟩
      have HNv : Hid ((vN != 0) = true) := hN
      clear hw hf1 hf2 hN h0
      have HB1 := Lib.hid (HB0.out.trans (hb.mono HB0.out.size))
      clear hb
      have hy := (HB1.out.block _ (by have := HSZ.out; omega)).trans HY0.out
      obtain ⟨⟨p0, p1, p2⟩, f3, f4, f5⟩ := cellsq hy
      obtain ⟨w9, e9, ⟨r0, r1, r2⟩, hk, hs, hbl, _⟩ := set3q hy (.int .i64 vN) (.slice va1 vn1 vc1) (.slice va2 vn2 vc2)
      have HE9 := Lib.hid e9
      have HR := Lib.hid (And.intro r0 (And.intro r1 r2))
      have HBE := Lib.hid (hbl W W.heap.size (by omega) (HBX.out.trans (HB1.out.mono HBX.out.size)))
      have HWC : Hid (WC w9 (.agg #[.int .i64 vN, .slice va1 vn1 vc1, .slice va2 vn2 vc2]) _) := Lib.hid (HWv1.out.other hk hs HFv.out.1 HFv.out.2)
      clear hy e9 r0 r1 r2 hk hs hbl
      go_wp2
      rw [HE9.out]
      have r0 : w9.cell? _ = _ := HR.out.1
      have r1 : w9.cell? _ = _ := HR.out.2.1
      have r2 : w9.cell? _ = _ := HR.out.2.2
      refine bodyPost_ret (v := .tuple #[.slice none 0 0, .agg #[.int .i64 vN, .slice va1 vn1 vc1, .slice va2 vn2 vc2]]) (by simp [results, Tryd.results51, go_sem, r0, r1, r2]) rfl ?_
      exact ⟨none, 0, 0, _, _, _, _, _, _, _, rfl, RK.nil, HWC.out, HBE.out⟩
    by_cases c1 : 4 < k
    · clear h
      go_enter Tryd.func51, Tryd.ntmps51
      go_wp2_with fail
      rw [HWB.out]
      refine (rawNewq opWord _ _ _ rfl).mono ?_; rintro e w1 ⟨vN, va1, vn1, vc1, va2, vn2, vc2, rfl, hw, hf1, hf2, hN, h0, hb⟩
      have HWv1 := Lib.hid hw
      have HFv : Hid (Fr (W.heap.size + 1) va1 ∧ Fr (W.heap.size + 1) va2) := ⟨hf1.base (by have := HSZ.out; have := HB0.out.size; omega), hf2.base (by have := HSZ.out; have := HB0.out.size; omega)⟩
      have HNv : Hid ((vN != 0) = true) := hN
      clear hw hf1 hf2 hN h0
      have HB1 := Lib.hid (HB0.out.trans (hb.mono HB0.out.size))
      clear hb
      have hy := (HB1.out.block _ (by have := HSZ.out; omega)).trans HY0.out
      obtain ⟨⟨p0, p1, p2⟩, f3, f4, f5⟩ := cellsq hy
      obtain ⟨w9, e9, ⟨r0, r1, r2⟩, hk, hs, hbl, _⟩ := set3q hy (.int .i64 vN) (.slice va1 vn1 vc1) (.slice va2 vn2 vc2)
      have HE9 := Lib.hid e9
      have HR := Lib.hid (And.intro r0 (And.intro r1 r2))
      have HBE := Lib.hid (hbl W W.heap.size (by omega) (HBX.out.trans (HB1.out.mono HBX.out.size)))
      have HWC : Hid (WC w9 (.agg #[.int .i64 vN, .slice va1 vn1 vc1, .slice va2 vn2 vc2]) _) := Lib.hid (HWv1.out.other hk hs HFv.out.1 HFv.out.2)
      clear hy e9 r0 r1 r2 hk hs hbl
      go_wp2
      rw [HE9.out]
      have r0 : w9.cell? _ = _ := HR.out.1
      have r1 : w9.cell? _ = _ := HR.out.2.1
      have r2 : w9.cell? _ = _ := HR.out.2.2
      refine bodyPost_ret (v := .tuple #[.slice none 0 0, .agg #[.int .i64 vN, .slice va1 vn1 vc1, .slice va2 vn2 vc2]]) (by simp [results, Tryd.results51, go_sem, r0, r1, r2]) rfl ?_
      exact ⟨none, 0, 0, _, _, _, _, _, _, _, rfl, RK.nil, HWC.out, HBE.out⟩
    have c2 : n < 0 := by
      rcases h with h | h
      · rw [alph_true.2 ⟨by omega, by omega⟩] at h; cases h
      · exact h
    clear h
    go_enter Tryd.func51, Tryd.ntmps51
    go_wp2_with fail
    rw [HWB.out]
    refine (rawNewq opWord _ _ _ rfl).mono ?_; rintro e w1 ⟨vN, va1, vn1, vc1, va2, vn2, vc2, rfl, hw, hf1, hf2, hN, h0, hb⟩
    have HWv1 := Lib.hid hw
    have HFv : Hid (Fr (W.heap.size + 1) va1 ∧ Fr (W.heap.size + 1) va2) := ⟨hf1.base (by have := HSZ.out; have := HB0.out.size; omega), hf2.base (by have := HSZ.out; have := HB0.out.size; omega)⟩
    have HNv : Hid ((vN != 0) = true) := hN
    clear hw hf1 hf2 hN h0
    have HB1 := Lib.hid (HB0.out.trans (hb.mono HB0.out.size))
    clear hb
    have hy := (HB1.out.block _ (by have := HSZ.out; omega)).trans HY0.out
    obtain ⟨⟨p0, p1, p2⟩, f3, f4, f5⟩ := cellsq hy
    obtain ⟨w9, e9, ⟨r0, r1, r2⟩, hk, hs, hbl, _⟩ := set3q hy (.int .i64 vN) (.slice va1 vn1 vc1) (.slice va2 vn2 vc2)
    have HE9 := Lib.hid e9
    have HR := Lib.hid (And.intro r0 (And.intro r1 r2))
    have HBE := Lib.hid (hbl W W.heap.size (by omega) (HBX.out.trans (HB1.out.mono HBX.out.size)))
    have HWC : Hid (WC w9 (.agg #[.int .i64 vN, .slice va1 vn1 vc1, .slice va2 vn2 vc2]) _) := Lib.hid (HWv1.out.other hk hs HFv.out.1 HFv.out.2)
    clear hy e9 r0 r1 r2 hk hs hbl
    go_wp2
    rw [HE9.out]
    have r0 : w9.cell? _ = _ := HR.out.1
    have r1 : w9.cell? _ = _ := HR.out.2.1
    have r2 : w9.cell? _ = _ := HR.out.2.2
    refine bodyPost_ret (v := .tuple #[.slice none 0 0, .agg #[.int .i64 vN, .slice va1 vn1 vc1, .slice va2 vn2 vc2]]) (by simp [results, Tryd.results51, go_sem, r0, r1, r2]) rfl ?_
    exact ⟨none, 0, 0, _, _, _, _, _, _, _, rfl, RK.nil, HWC.out, HBE.out⟩
  · obtain ⟨k1, k4⟩ := alph_true.1 h
    have k2 : ¬ k < 1 := by omega
    have k3 : ¬ 4 < k := by omega
    have n2 : ¬ n < 0 := by omega
    clear h
    go_enter Tryd.func51, Tryd.ntmps51
    go_wp2_with fail
    rw [HWB.out]
    refine (rawNewq opWord _ _ _ rfl).mono ?_; rintro e w1 ⟨vN, va1, vn1, vc1, va2, vn2, vc2, rfl, hw, hf1, hf2, hN, h0, hb⟩
    have HWv1 := Lib.hid hw
    have HFv : Hid (Fr (W.heap.size + 1) va1 ∧ Fr (W.heap.size + 1) va2) := ⟨hf1.base (by have := HSZ.out; have := HB0.out.size; omega), hf2.base (by have := HSZ.out; have := HB0.out.size; omega)⟩
    have HNv : Hid ((vN != 0) = true) := hN
    clear hw hf1 hf2 hN h0
    have HB1 := Lib.hid (HB0.out.trans (hb.mono HB0.out.size))
    clear hb
    have hy := (HB1.out.block _ (by have := HSZ.out; omega)).trans HY0.out
    obtain ⟨⟨p0, p1, p2⟩, f3, f4, f5⟩ := cellsq hy
    obtain ⟨w9, e9, ⟨r0, r1, r2⟩, hk, hs, hbl, _⟩ := set3q hy (.int .i64 vN) (.slice va1 vn1 vc1) (.slice va2 vn2 vc2)
    have HE9 := Lib.hid e9
    have HR := Lib.hid (And.intro r0 (And.intro r1 r2))
    have HBE := Lib.hid (hbl W W.heap.size (by omega) (HBX.out.trans (HB1.out.mono HBX.out.size)))
    have HWC : Hid (WC w9 (.agg #[.int .i64 vN, .slice va1 vn1 vc1, .slice va2 vn2 vc2]) _) := Lib.hid (HWv1.out.other hk hs HFv.out.1 HFv.out.2)
    clear hy e9 r0 r1 r2 hk hs hbl
    go_wp2
    rw [HE9.out]
    have r0 : w9.cell? _ = _ := HR.out.1
    have r1 : w9.cell? _ = _ := HR.out.2.1
    have r2 : w9.cell? _ = _ := HR.out.2.2
    refine bodyPost_ret (v := .tuple #[.slice none 0 0, .agg #[.int .i64 vN, .slice va1 vn1 vc1, .slice va2 vn2 vc2]]) (by simp [results, Tryd.results51, go_sem, r0, r1, r2]) rfl ?_
    exact ⟨none, 0, 0, _, _, _, _, _, _, _, rfl, RK.nil, HWC.out, HBE.out⟩
  · skip
    obtain ⟨k1, k4⟩ := alph_true.1 h
    obtain ⟨kn, rfl⟩ : ∃ kn : Nat, k = (kn : Int) := ⟨k.toNat, by omega⟩
    obtain ⟨nn, rfl⟩ : ∃ nn : Nat, n = (nn : Int) := ⟨n.toNat, by omega⟩
    simp only [Int.toNat_natCast] at h2 ⊢
    have k3 : ¬ (4 : Int) < (kn : Int) := by omega
    have n3 : ¬ (256 : Int) < (nn : Int) := by omega
    have kw : IntKind.u32.wrap (kn : Int) = (kn : Int) := wr32 _ (by omega)
    have hn256 : nn ≤ 256 := by omega
    have hk4 : kn ≤ 4 := by omega
    obtain ⟨I, hI⟩ : ∃ I, val l = I := ⟨_, rfl⟩
    rw [hI] at h2
    try rw [hI]
    have HI := Lib.hid hI
    have HC := Lib.hid h2
    clear h hI h2 h0 h1
    go_enter Tryd.func51, Tryd.ntmps51
    go_wp2_with fail
    rw [HWB.out]
    refine (pow16 kn nn _ hk4 hn256).mono ?_; rintro e w1 ⟨aP, nP, cP, rfl, hNP, hb⟩
    have HP0 := Lib.hid hNP
    clear hNP
    have HB1 := Lib.hid (HB0.out.trans (hb.mono HB0.out.size))
    clear hb
    go_wp2_with fail
    obtain ⟨g1, hg1⟩ : ∃ g1, w1.heap.size = g1 := ⟨_, rfl⟩
    obtain ⟨w2, hw⟩ : ∃ w2, w1.alloc (.cells #[.int .i64 0, .slice none 0 0, .slice none 0 0] 78) = w2 := ⟨_, rfl⟩
    have hb : Below w1.heap.size w1 w2 := by rw [← hw]; exact balloc (bnil w1) _
    have HBP := Lib.hid hb
    have HZ2 : Hid (w2.heap[g1]? = some (.cells #[.int .i64 0, .slice none 0 0, .slice none 0 0] 78)) := by show _ = _; rw [← hw, ← hg1]; exact heap_alloc_new w1 _
    have HG1 : Hid (W.heap.size + 1 ≤ g1) := by show _ ≤ _; have := HSZ.out; have := HB1.out.size; omega
    rw [hw]
    simp only [hg1]
    clear hw hg1
    have HB2 := Lib.hid (HB1.out.trans (hb.mono HB1.out.size))
    clear hb
    skip
    have hnp : nP ≤ 257 := by rw [HP0.out.len]; exact Nat.le_trans (pow_len (show kn < 4294967296 by omega) nn) (by omega)
    refine (cmp16 a aP n1 nP c1 cP l (limbs (kn ^ nn)) _ (HN.out.up HB2.out) (HP0.out.up HBP.out) (by omega) (by omega)).mono ?_; rintro e w3 ⟨rfl, hb⟩
    rw [HI.out, val_limbs]
    have HB3 := Lib.hid (HB2.out.trans (hb.mono HB2.out.size))
    clear hb
    have hge := cmpN_nn HC.out
    generalize cmpN I (kn ^ nn) = q at *
    go_wp2_with fail
    refine (rawNewq opWord _ _ _ rfl).mono ?_; rintro e w4 ⟨vN, va1, vn1, vc1, va2, vn2, vc2, rfl, hw, hf1, hf2, hN, h0, hb⟩
    have HWv4 := Lib.hid hw
    have HFv : Hid (Fr (W.heap.size + 1) va1 ∧ Fr (W.heap.size + 1) va2) := ⟨hf1.base (by have := HSZ.out; have := HB3.out.size; omega), hf2.base (by have := HSZ.out; have := HB3.out.size; omega)⟩
    have HNv : Hid ((vN != 0) = true) := hN
    clear hw hf1 hf2 hN h0
    have HB4 := Lib.hid (HB3.out.trans (hb.mono HB3.out.size))
    clear hb
    have hy := (HB4.out.block _ (by have := HSZ.out; omega)).trans HY0.out
    obtain ⟨⟨p0, p1, p2⟩, f3, f4, f5⟩ := cellsq hy
    obtain ⟨w9, e9, ⟨r0, r1, r2⟩, hk, hs, hbl, _⟩ := set3q hy (.int .i64 vN) (.slice va1 vn1 vc1) (.slice va2 vn2 vc2)
    have HE9 := Lib.hid e9
    have HR := Lib.hid (And.intro r0 (And.intro r1 r2))
    have HBE := Lib.hid (hbl W W.heap.size (by omega) (HBX.out.trans (HB4.out.mono HBX.out.size)))
    have HWC : Hid (WC w9 (.agg #[.int .i64 vN, .slice va1 vn1 vc1, .slice va2 vn2 vc2]) _) := Lib.hid (HWv4.out.other hk hs HFv.out.1 HFv.out.2)
    clear hy e9 r0 r1 r2 hk hs hbl
    go_wp2
    rw [HE9.out]
    have r0 : w9.cell? _ = _ := HR.out.1
    have r1 : w9.cell? _ = _ := HR.out.2.1
    have r2 : w9.cell? _ = _ := HR.out.2.2
    refine bodyPost_ret (v := .tuple #[.slice none 0 0, .agg #[.int .i64 vN, .slice va1 vn1 vc1, .slice va2 vn2 vc2]]) (by simp [results, Tryd.results51, go_sem, r0, r1, r2]) rfl ?_
    exact ⟨none, 0, 0, _, _, _, _, _, _, _, rfl, RK.nil, HWC.out, HBE.out⟩
  · skip
    obtain ⟨k1, k4⟩ := alph_true.1 h
    obtain ⟨kn, rfl⟩ : ∃ kn : Nat, k = (kn : Int) := ⟨k.toNat, by omega⟩
    obtain ⟨nn, rfl⟩ : ∃ nn : Nat, n = (nn : Int) := ⟨n.toNat, by omega⟩
    simp only [Int.toNat_natCast] at h2 ⊢
    have k3 : ¬ (4 : Int) < (kn : Int) := by omega
    have n3 : ¬ (256 : Int) < (nn : Int) := by omega
    have kw : IntKind.u32.wrap (kn : Int) = (kn : Int) := wr32 _ (by omega)
    have hn256 : nn ≤ 256 := by omega
    have hk4 : kn ≤ 4 := by omega
    obtain ⟨I, hI⟩ : ∃ I, val l = I := ⟨_, rfl⟩
    rw [hI] at h2
    try rw [hI]
    have HI := Lib.hid hI
    have HC := Lib.hid h2
    clear h hI h2 h0 h1
    go_enter Tryd.func51, Tryd.ntmps51
    go_wp2_with fail
    rw [HWB.out]
    refine (pow16 kn nn _ hk4 hn256).mono ?_; rintro e w1 ⟨aP, nP, cP, rfl, hNP, hb⟩
    have HP0 := Lib.hid hNP
    clear hNP
    have HB1 := Lib.hid (HB0.out.trans (hb.mono HB0.out.size))
    clear hb
    go_wp2_with fail
    obtain ⟨g1, hg1⟩ : ∃ g1, w1.heap.size = g1 := ⟨_, rfl⟩
    obtain ⟨w2, hw⟩ : ∃ w2, w1.alloc (.cells #[.int .i64 0, .slice none 0 0, .slice none 0 0] 78) = w2 := ⟨_, rfl⟩
    have hb : Below w1.heap.size w1 w2 := by rw [← hw]; exact balloc (bnil w1) _
    have HBP := Lib.hid hb
    have HZ2 : Hid (w2.heap[g1]? = some (.cells #[.int .i64 0, .slice none 0 0, .slice none 0 0] 78)) := by show _ = _; rw [← hw, ← hg1]; exact heap_alloc_new w1 _
    have HG1 : Hid (W.heap.size + 1 ≤ g1) := by show _ ≤ _; have := HSZ.out; have := HB1.out.size; omega
    rw [hw]
    simp only [hg1]
    clear hw hg1
    have HB2 := Lib.hid (HB1.out.trans (hb.mono HB1.out.size))
    clear hb
    skip
    have hnp : nP ≤ 257 := by rw [HP0.out.len]; exact Nat.le_trans (pow_len (show kn < 4294967296 by omega) nn) (by omega)
    refine (cmp16 a aP n1 nP c1 cP l (limbs (kn ^ nn)) _ (HN.out.up HB2.out) (HP0.out.up HBP.out) (by omega) (by omega)).mono ?_; rintro e w3 ⟨rfl, hb⟩
    rw [HI.out, val_limbs]
    have HB3 := Lib.hid (HB2.out.trans (hb.mono HB2.out.size))
    clear hb
    rw [cmpN_neg HC.out]
    have k0 : 1 ≤ kn := by omega
    have HK : Hid (0 < kn ^ nn) := Nat.pow_pos (by omega)
    go_wp2_with (first
      | (at_make; refine mk_full rfl _ _ _ rfl w3.heap.size et_int .i64 .i64 _ _ nn rfl rfl rfl rfl (by omega) (by unfold maxLen; omega) (Nat.le_refl _) ?_; intro w4 hown1 hb hsz1; rw [made_i64z] at hown1; have HO := Lib.hid hown1; clear hown1 hsz1))
    obtain ⟨gO, hgO⟩ : ∃ gO, w3.heap.size = gO := ⟨_, rfl⟩
    rw [hgO] at HO
    simp only [hgO]
    have HGO : Hid (W.heap.size + 1 ≤ gO) := by show _ ≤ _; have := HSZ.out; have := HB3.out.size; omega
    have HGL : Hid (gO < w4.heap.size) := own_lt HO.out gO rfl
    have HB4 := Lib.hid (HB3.out.trans (hb.mono HB3.out.size))
    clear hb
    clear hgO
    refine (norm16 a n1 c1 l _ (HN.out.up HB4.out) (by omega)).mono ?_; rintro e w5 ⟨aX, nX, cX, rfl, hoX, hb⟩
    rw [HI.out] at hoX
    have HX : Hid (NR w5 aX nX (limbs I)) := nr_ofV hoX
    have HFX : Hid (Fr (gO + 1) aX) := (own_frV hoX).base (by have := HGL.out; omega)
    have HO1 := Lib.hid (own_up HO.out hb)
    have hxl : nX ≤ 1000 := by
      rw [HX.out.len]
      have h1 := limbs_len_le (m := n1) (x := I) (by rw [← HI.out, HLN.out]; exact val_lt HN.out.2)
      omega
    clear hoX HO
    have HB5 := Lib.hid (HB4.out.trans (hb.mono HB4.out.size))
    clear hb
    go_wp2_with fail
    go_loopw [11, 12] (fun sx px wr => ∃ (p : Nat) (a2 : Option Addr) (n2 c2 : Nat) (cur : List Int), p ≤ nn ∧ px = .int .i64 ((p : Int) - 1) ∧ sx = .slice a2 n2 c2 ∧ NR wr a2 n2 (limbs (I / kn ^ (nn - p))) ∧ n2 ≤ 1000 ∧ Fr (gO + 1) a2 ∧ AtAt kn nn I cur p ∧ wr.ownsRow gO 3 1 (.slice (some ⟨gO, 0, none⟩) nn nn) nn (cur.map (Value.int .i64)) ∧ Below w0.heap.size w0 wr) (fun _ px _ => (intOf px + 1).toNat)
    case atStart => exact ⟨nn, aX, nX, cX, _, Nat.le_refl _, rfl, rfl, by rw [Nat.sub_self, Nat.pow_zero, Nat.div_one]; exact HX.out, hxl, HFX.out, ⟨by simp, fun q h1 h2 => by omega⟩, HO1.out, HB5.out⟩
    case round =>
      clear HO1 HX HFX
      obtain ⟨p, a2, n2, c2, cur, hp, rfl, rfl, hv, hn2, hfr, hat, ho, hb⟩ := hrel
      generalize wr = w6 at *
      have HB6 := Lib.hid hb
      have HV := Lib.hid hv
      have HFR := Lib.hid hfr
      have HAT := Lib.hid hat
      have HO := Lib.hid ho
      clear hv hfr hb hat ho
      cases p with
      | zero =>
        have e0 : ((0 : Nat) : Int) - 1 = -1 := by omega
        rw [e0]
        have hcur := atAt_end HAT.out
        subst hcur
        have hy := (HB6.out.block _ (by have := HSZ.out; omega)).trans HY0.out
        obtain ⟨⟨p0, p1, p2⟩, f3, f4, f5⟩ := cellsq hy
        obtain ⟨w9, e9, ⟨r0, r1, r2⟩, hk, hs, hbl, _⟩ := set3q hy (.int .i64 0) (.slice none 0 0) (.slice none 0 0)
        have HE9 := Lib.hid e9
        have HR := Lib.hid (And.intro r0 (And.intro r1 r2))
        have HBE := Lib.hid (hbl W W.heap.size (by omega) (HBX.out.trans (HB6.out.mono HBX.out.size)))
        have HWC := Lib.hid (wc_none w9)
        have HN9 := Lib.hid (rk_heapV (RK.of_own HO.out) hk hs (.inl (fr_some (by have := HGO.out; omega))))
        clear hy e9 r0 r1 r2 hk hs hbl
        go_wp2
        rw [HE9.out]
        have r0 : w9.cell? _ = _ := HR.out.1
        have r1 : w9.cell? _ = _ := HR.out.2.1
        have r2 : w9.cell? _ = _ := HR.out.2.2
        refine bodyPost_ret (v := .tuple #[.slice (some ⟨gO, 0, none⟩) nn nn, .agg #[.int .i64 0, .slice none 0 0, .slice none 0 0]]) (by simp [results, Tryd.results51, go_sem, r0, r1, r2]) rfl ?_
        exact ⟨_, _, _, 0, none, 0, 0, none, 0, 0, rfl, HN9.out, HWC.out, HBE.out⟩
      | succ t =>
        have ej : ((t + 1 : Nat) : Int) - 1 = (t : Int) := by omega
        rw [ej]
        have hov := over16 a2 n2 c2 (limbs (I / kn ^ (nn - (t + 1)))) kn w6 HV.out (by omega) (by omega) (by omega)
        rw [val_limbs, left_step (by omega)] at hov
        have hnx := atAt_step HAT.out (by omega)
        have hrk : I / kn ^ (nn - (t + 1)) % kn < 4 := Nat.lt_of_lt_of_le (Nat.mod_lt _ k0) hk4
        have hdl : (limbs (I / kn ^ (nn - t))).length ≤ 1000 := by
          have h1 := div_len (k := kn) HV.out.2
          rw [val_limbs, left_step (by omega)] at h1
          have h2 := HV.out.len
          omega
        have htl : t < cur.length := by rw [HAT.out.1]; omega
        have HNX := Lib.hid hnx
        have HDL := Lib.hid hdl
        have HOV := Lib.hid hov
        have HTL := Lib.hid htl
        clear hnx hdl hov htl ej HV HAT
        generalize I / kn ^ (nn - (t + 1)) % kn = r at *
        have i0 : (0 : Int) ≤ (t : Int) := by omega
        have i1 : (t : Int) < (nn : Int) := by omega
        have rw1 : IntKind.i64.wrap (r : Int) = (r : Int) := IntWalk.i64_in _ (by omega)
        go_wp2_with fail
        refine HOV.out.mono ?_; rintro e w7 ⟨a3, n3, c3, rfl, hv3, hf3, hb⟩
        have hv3l := hv3.len
        have hfr3 : Fr (gO + 1) a3 := fun b o e => by have h1 := hf3 b o e; have h2 := own_lt HO.out gO rfl; omega
        have HV3 := Lib.hid hv3
        have HF3 := Lib.hid hfr3
        have HO3 := Lib.hid (own_up HO.out hb)
        have hn3 : n3 ≤ 1000 := by rw [hv3l]; exact HDL.out
        clear hv3 hf3 hfr3 hv3l HO HOV
        have HB7 := Lib.hid (HB6.out.trans (hb.mono HB6.out.size))
        clear hb
        obtain ⟨w8, hw⟩ : ∃ w8, w7.alloc (.cells #[.int .i64 0, .slice none 0 0, .slice none 0 0] 78) = w8 := ⟨_, rfl⟩
        have hb : Below w7.heap.size w7 w8 := by rw [← hw]; exact balloc (bnil w7) _
        have HV4 := Lib.hid (HV3.out.up hb)
        have HO4 := Lib.hid (own_up HO3.out hb)
        have HB8 := Lib.hid (HB7.out.trans (hb.mono HB7.out.size))
        clear hb
        have z0 : w8.cell? ⟨gO, t, none⟩ = some (.int .i64 (cur.getD t 0)) := by
          rw [HO4.out.cellAt t (by omega)]
          have := HTL.out
          simp [this]
        have f0 := HO4.out.frozenAt t
        have hst := own_set HO4.out t (.int .i64 (r : Int))
        rw [← List.map_set] at hst
        have hb9 := HB8.out.setCell (p := ⟨gO, t, none⟩) (by show _ ≤ gO; have := HGO.out; have := HSZ.out; omega) (.int .i64 (r : Int))
        have hv9 : NR (w8.setCell ⟨gO, t, none⟩ (.int .i64 (r : Int))) a3 n3 (limbs (I / kn ^ (nn - t))) := nr_heapV HV4.out (g := gO) (fun b hb => Below.heap_setCell _ _ _ _ hb) (by simp [World.setCell]) (.inl HF3.out)
        have HST := Lib.hid hst
        have HB9 := Lib.hid hb9
        have HV9 := Lib.hid hv9
        clear hst hb9 hv9 HO3 HV3 HO4 HV4
        generalize cur.getD t 0 = z at *
        rw [← hw] at z0 f0
        have HWX := Lib.hid hw
        clear hw
        go_wp2
        rw [HWX.out]
        go_roundw
        case rel => exact ⟨t, a3, n3, c3, _, by omega, by go_num, rfl, HV9.out, hn3, HF3.out, HNX.out, HST.out, HB9.out⟩
        case measure => first | (simp [intOf]; done) | (simp [intOf]; omega)
end Go.Proofs.YtnmegpplfbkpcaaDoor
