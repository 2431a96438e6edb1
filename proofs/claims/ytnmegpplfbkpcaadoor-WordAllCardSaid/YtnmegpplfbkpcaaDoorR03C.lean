/- edenref03.Index and word.Index for all arguments. -/
import Derived.Test.YtnmegpplfbkpcaaDoorR03B
import Derived.Test.YtnmegpplfbkpcaaDoorWordI
namespace Go.Proofs.YtnmegpplfbkpcaaDoor
open Go.RowKit
set_option linter.unusedVariables false
set_option maxRecDepth 100000

/-- a number and an error: the program's, the document's -/
def ProU (R : Nat → Addr) (W : World) (x : Nat) (f : ErrD) (e : Ending) (w' : World) : Prop :=
  ∃ a' n' c' ev, e = .returned (.tuple #[.slice a' n' c', ev]) ∧ NR w' a' n' (limbs x) ∧ EC R w' ev f ∧ Below W.heap.size W w'
def RefU (W : World) (x : Nat) (f : ErrD) (e : Ending) (w' : World) : Prop :=
  ∃ a' n' c' N a1 n1 c1 a2 n2 c2, e = .returned (.tuple #[.slice a' n' c', .agg #[.int .i64 N, .slice a1 n1 c1, .slice a2 n2 c2]]) ∧ NR w' a' n' (limbs x) ∧ WC w' (.agg #[.int .i64 N, .slice a1 n1 c1, .slice a2 n2 c2]) f ∧ Below W.heap.size W w'
theorem nr_nilV (w : World) : NR w none 0 (limbs 0) := ⟨RK.nil, limbs_u32 0⟩
theorem own_frV {w : World} {B sz n c m : Nat} {e : TypeId} {a : Option Addr} {cs : List Value} (h : w.ownsRow B e sz (.slice a n c) m cs) : Fr B a := by
  intro b o e
  rcases h.2 with ⟨h1, _⟩ | ⟨g, cap, cur, h1, h2, _⟩
  · cases h1; cases e
  · cases h1; cases e; exact h2
theorem nr_heapV {w w' : World} {a : Option Addr} {n : Nat} {l : List Nat} (h : NR w a n l) {g : Nat} (hk : ∀ k, k ≠ g → w'.heap[k]? = w.heap[k]?) (hs : w'.heap.size = w.heap.size) (hf : Fr (g + 1) a ∨ n = 0) : NR w' a n l := ⟨rk_heapV h.1 hk hs hf, h.2⟩
theorem prod_lenW {X k m : Nat} (h : (limbs X).length ≤ m) (hk : k ≤ 4) : (limbs (X * k)).length ≤ m + 1 := by
  refine limbs_len_le ?_
  have h1 := val_lt (limbs_u32 X)
  rw [val_limbs] at h1
  have h2 : B32 ^ (limbs X).length ≤ B32 ^ m := Nat.pow_le_pow_right (by decide) h
  rw [Nat.pow_succ]
  exact Nat.mul_lt_mul'' (Nat.lt_of_lt_of_le h1 h2) (by show k < 4294967296; omega)
theorem prod_lenV {X k : Nat} (h : (limbs X).length ≤ 256) (hk : k ≤ 4) : (limbs (X * k)).length ≤ 200000 := Nat.le_trans (prod_lenW h hk) (by decide)
def IndexE (k : Int) (l : List Int) (x : Nat) (f : ErrD) : Prop :=
  (∃ y, chkErr k l = some y ∧ x = 0 ∧ f = some ([(opWord, y.1)], y.2)) ∨
  (chkErr k l = none ∧ 256 < l.length ∧ x = 0 ∧ f = some ([(opWord, 0)], 4)) ∨
  (chkErr k l = none ∧ l.length ≤ 256 ∧ x = horn k.toNat l ∧ f = none)
theorem indexE_or (k : Int) (l : List Int) : ∃ x f, IndexE k l x f := by
  cases h : chkErr k l with
  | some x => exact ⟨_, _, .inl ⟨x, h, rfl, rfl⟩⟩
  | none =>
    by_cases h4 : 256 < l.length
    · exact ⟨_, _, .inr (.inl ⟨h, h4, rfl, rfl⟩)⟩
    · exact ⟨_, _, .inr (.inr ⟨h, by omega, rfl, rfl⟩)⟩

set_option maxHeartbeats 2000000 in
theorem index_big (k : Int) (a : Option Addr) (n c : Nat) (l : List Int) (W : World) (R : Nat → Addr) (hG : Glob W R) (hR : RK .i64 W a n l) (hm : n ≤ maxLen) (he : chkErr k l = none) (hn : 256 < n) :
    Calls Tryd.prog 47 #[.int .i64 k, .slice a n c] W fun e w' => ∃ g, e = .returned (.tuple #[.slice none 0 0, .iface 100 (.pointer (some ⟨g, 0, none⟩))]) ∧ IsErr W.heap.size R w' (.iface 100 (.pointer (some ⟨g, 0, none⟩))) opWord 0 4 ∧ Below W.heap.size W w' := by
  have HE := Lib.hid he; clear he
  have HG := Lib.hid hG; clear hG
  have HR := Lib.hid hR; clear hR
  go_enter Tryd.func47, Tryd.ntmps47
  go_wp2_with fail
  refine (check_ok k a n c l _ R HG.out HR.out hm HE.out).mono ?_; rintro e w2 ⟨rfl, hb2⟩
  have HB2 := Lib.hid hb2; clear hb2
  go_wp2_with fail
  refine (word_wrong _ _ _ R (HG.out.up HB2.out) rfl).mono ?_; rintro e w' ⟨rfl, rfl⟩
  go_wp2
  go_ret2
  exact ⟨_, rfl, isErr_at rfl HB2.out.size, balloc HB2.out _⟩

theorem pindex (k : Int) (a : Option Addr) (n c : Nat) (l : List Int) (W : World) (R : Nat → Addr) (hS : Sent W R) (hG : Glob W R) (hR : RK .i64 W a n l) (hm : n ≤ maxLen) (x : Nat) (f : ErrD) (hf : IndexE k l x f) :
    Calls Tryd.prog 47 #[.int .i64 k, .slice a n c] W (ProU R W x f) := by
  have hl := hR.len
  rcases hf with ⟨x, hx, rfl, rfl⟩ | ⟨hc, h2, rfl, rfl⟩ | ⟨hc, h2, rfl, rfl⟩
  · refine (index_err k a n c l W R hG hR hm x hx).mono ?_; rintro e w' ⟨g, rfl, he, hb⟩
    exact ⟨_, _, _, _, rfl, nr_nilV _, ec_err (hS.up hb) he, hb⟩
  · refine (index_big k a n c l W R hG hR hm hc (by omega)).mono ?_; rintro e w' ⟨g, rfl, he, hb⟩
    exact ⟨_, _, _, _, rfl, nr_nilV _, ec_err (hS.up hb) he, hb⟩
  · refine (index_ok k a n c l W R hG hR hc (by omega)).mono ?_; rintro e w' ⟨a', n', c', rfl, ho, hb⟩
    exact ⟨_, _, _, _, rfl, ho.nr, rfl, hb⟩

set_option maxHeartbeats 8000000 in
theorem ref03index (k : Int) (a : Option Addr) (n c : Nat) (l : List Int) (W : World) (hR : RK .i64 W a n l) (hml : n ≤ maxLen) (x : Nat) (f : ErrD) (hf : IndexE k l x f) :
    Calls Tryd.prog 48 #[.int .i64 k, .slice a n c] W (RefU W x f) := by
  have HL := Lib.hid hR.len
  obtain ⟨w0, hw0⟩ : ∃ w0, W.alloc (.cells #[.int .i64 0, .slice none 0 0, .slice none 0 0] 78) = w0 := ⟨_, rfl⟩
  have HSZ : Hid (w0.heap.size = W.heap.size + 1) := by show _ = _; rw [← hw0]; simp
  have HY0 : Hid (w0.heap[W.heap.size]? = some (.cells #[.int .i64 0, .slice none 0 0, .slice none 0 0] 78)) := by show _ = _; rw [← hw0]; have h := heap_alloc_new (W) (.cells #[.int .i64 0, .slice none 0 0, .slice none 0 0] 78); simpa using h
  have HBX : Hid (Below W.heap.size W w0) := by show Below _ _ _; rw [← hw0]; exact balloc (bnil W) _
  have HB0 := Lib.hid (bnil w0)
  have HWB := Lib.hid hw0
  have HR := Lib.hid (hR.up HBX.out)
  clear hw0 hR
  have hck := ref03check k a n c l w0 HR.out hml
  rcases hf with ⟨y, hc, rfl, rfl⟩ | ⟨hc, h2, rfl, rfl⟩ | ⟨hc, h2, rfl, rfl⟩
  · rw [wordD_some hc] at hck
    have HCK := Lib.hid hck
    clear hck hc
    go_enter Tryd.func48, Tryd.ntmps48
    go_wp2_with fail
    rw [HWB.out]
    refine (HCK.out).mono ?_; rintro e w1 ⟨vN, va1, vn1, vc1, va2, vn2, vc2, rfl, hw, hf1, hf2, hN, h0, hb⟩
    have HWv1 := Lib.hid hw
    have HFv : Hid (Fr (W.heap.size + 1) va1 ∧ Fr (W.heap.size + 1) va2) := ⟨hf1.base (by have := HSZ.out; have := HB0.out.size; omega), hf2.base (by have := HSZ.out; have := HB0.out.size; omega)⟩
    have HNv : Hid ((vN != 0) = true) := hN
    clear hw hf1 hf2 hN h0
    have HB1 := Lib.hid (HB0.out.trans (hb.mono HB0.out.size))
    clear hb
    go_wp2_with fail
    obtain ⟨g1, hg1⟩ : ∃ g1, w1.heap.size = g1 := ⟨_, rfl⟩
    obtain ⟨w2, hw⟩ : ∃ w2, w1.alloc (.cells #[.int .i64 vN, .slice va1 vn1 vc1, .slice va2 vn2 vc2] 78) = w2 := ⟨_, rfl⟩
    have hb : Below w1.heap.size w1 w2 := by rw [← hw]; exact balloc (bnil w1) _
    have HZ2 : Hid (w2.heap[g1]? = some (.cells #[.int .i64 vN, .slice va1 vn1 vc1, .slice va2 vn2 vc2] 78)) := by show _ = _; rw [← hw, ← hg1]; exact heap_alloc_new w1 _
    have HG1 : Hid (W.heap.size + 1 ≤ g1) := by show _ ≤ _; have := HSZ.out; have := HB1.out.size; omega
    rw [hw]
    simp only [hg1]
    clear hw hg1
    have HB2 := Lib.hid (HB1.out.trans (hb.mono HB1.out.size))
    have HWv2 := Lib.hid (HWv1.out.up hb)
    clear hb
    obtain ⟨⟨q0, q1, q2⟩, f0, f1, f2⟩ := cellsq HZ2.out
    go_wp2_with fail
    clear q0 q1 q2 f0 f1 f2
    refine (refBadq vN _ _ _ true HNv.out).mono ?_; rintro e w3 ⟨rfl, hb⟩
    have HB3 := Lib.hid (HB2.out.trans (hb.mono HB2.out.size))
    have HZ3 := Lib.hid ((hb.block _ (heap_ltQ HZ2.out)).trans HZ2.out)
    have HWv3 := Lib.hid (HWv2.out.up hb)
    clear hb
    obtain ⟨⟨q0, q1, q2⟩, f0, f1, f2⟩ := cellsq HZ3.out
    have hy := (HB3.out.block _ (by have := HSZ.out; omega)).trans HY0.out
    obtain ⟨⟨p0, p1, p2⟩, f3, f4, f5⟩ := cellsq hy
    obtain ⟨w9, e9, ⟨r0, r1, r2⟩, hk, hs, hbl, _⟩ := set3q hy (.int .i64 vN) (.slice va1 vn1 vc1) (.slice va2 vn2 vc2)
    have HE9 := Lib.hid e9
    have HR := Lib.hid (And.intro r0 (And.intro r1 r2))
    have HBE := Lib.hid (hbl W W.heap.size (by omega) (HBX.out.trans (HB3.out.mono HBX.out.size)))
    have HWC : Hid (WC w9 (.agg #[.int .i64 vN, .slice va1 vn1 vc1, .slice va2 vn2 vc2]) _) := Lib.hid (HWv3.out.other hk hs HFv.out.1 HFv.out.2)
    clear hy e9 r0 r1 r2 hk hs hbl
    go_wp2
    go_region
    all_goals
      go_wp2
      rw [HE9.out]
      have r0 : w9.drew.cell? _ = _ := HR.out.1
      have r1 : w9.drew.cell? _ = _ := HR.out.2.1
      have r2 : w9.drew.cell? _ = _ := HR.out.2.2
      refine bodyPost_ret (v := .tuple #[.slice none 0 0, .agg #[.int .i64 vN, .slice va1 vn1 vc1, .slice va2 vn2 vc2]]) (by simp [results, Tryd.results48, go_sem, r0, r1, r2]) rfl ?_
      exact ⟨none, 0, 0, _, _, _, _, _, _, _, rfl, nr_nilV _, (HWC.out.up (bnil w9).drew), (HBE.out.drew)⟩
  · rw [wordD_none hc] at hck
    have HCK := Lib.hid hck
    have hn2 : 256 < n := by have := HL.out; omega
    clear hck hc h2
    go_enter Tryd.func48, Tryd.ntmps48
    go_wp2_with fail
    rw [HWB.out]
    refine (HCK.out).mono ?_; rintro e w1 ⟨zN, za1, zn1, zc1, za2, zn2, zc2, rfl, hw, hf1, hf2, hN, h0, hb⟩
    obtain ⟨rfl, rfl, rfl, rfl, rfl, rfl, rfl⟩ := h0 rfl
    clear hw hf1 hf2 hN h0
    have HB1 := Lib.hid (HB0.out.trans (hb.mono HB0.out.size))
    clear hb
    go_wp2_with fail
    obtain ⟨g1, hg1⟩ : ∃ g1, w1.heap.size = g1 := ⟨_, rfl⟩
    obtain ⟨w2, hw⟩ : ∃ w2, w1.alloc (.cells #[.int .i64 0, .slice none 0 0, .slice none 0 0] 78) = w2 := ⟨_, rfl⟩
    have hb : Below w1.heap.size w1 w2 := by rw [← hw]; exact balloc (bnil w1) _
    have HZ2 : Hid (w2.heap[g1]? = some (.cells #[.int .i64 0, .slice none 0 0, .slice none 0 0] 78)) := by show _ = _; rw [← hw, ← hg1]; exact heap_alloc_new w1 _
    have HG1 : Hid (W.heap.size + 1 ≤ g1) := by show _ ≤ _; have := HSZ.out; have := HB1.out.size; omega
    rw [hw]
    simp only [hg1]
    clear hw hg1
    have HB2 := Lib.hid (HB1.out.trans (hb.mono HB1.out.size))
    clear hb
    obtain ⟨⟨q0, q1, q2⟩, f0, f1, f2⟩ := cellsq HZ2.out
    go_wp2_with fail
    clear q0 q1 q2 f0 f1 f2
    refine (refBadq 0 _ _ _ false rfl).mono ?_; rintro e w3 ⟨rfl, hb⟩
    have HB3 := Lib.hid (HB2.out.trans (hb.mono HB2.out.size))
    have HZ3 := Lib.hid ((hb.block _ (heap_ltQ HZ2.out)).trans HZ2.out)
    clear hb
    go_wp2_with fail
    refine (rawNewq opWord _ _ _ rfl).mono ?_; rintro e w4 ⟨vN, va1, vn1, vc1, va2, vn2, vc2, rfl, hw, hf1, hf2, hN, h0, hb⟩
    have HWv4 := Lib.hid hw
    have HFv : Hid (Fr (W.heap.size + 1) va1 ∧ Fr (W.heap.size + 1) va2) := ⟨hf1.base (by have := HSZ.out; have := HB3.out.size; omega), hf2.base (by have := HSZ.out; have := HB3.out.size; omega)⟩
    have HNv : Hid ((vN != 0) = true) := hN
    have HGv : Hid (Fr (g1 + 1) va1 ∧ Fr (g1 + 1) va2) := ⟨hf1.base (heap_ltQ HZ3.out), hf2.base (heap_ltQ HZ3.out)⟩
    clear hw hf1 hf2 hN h0
    have HB4 := Lib.hid (HB3.out.trans (hb.mono HB3.out.size))
    have HZ4 := Lib.hid ((hb.block _ (heap_ltQ HZ3.out)).trans HZ3.out)
    clear hb
    have hy := (HB4.out.block _ (by have := HSZ.out; omega)).trans HY0.out
    obtain ⟨⟨p0, p1, p2⟩, f3, f4, f5⟩ := cellsq hy
    obtain ⟨w9, e9, ⟨r0, r1, r2⟩, hk, hs, hbl, _⟩ := set3q hy (.int .i64 vN) (.slice va1 vn1 vc1) (.slice va2 vn2 vc2)
    have HE9 := Lib.hid e9
    have HR := Lib.hid (And.intro r0 (And.intro r1 r2))
    have HBE := Lib.hid (hbl W W.heap.size (by omega) (HBX.out.trans (HB4.out.mono HBX.out.size)))
    have HWC : Hid (WC w9 (.agg #[.int .i64 vN, .slice va1 vn1 vc1, .slice va2 vn2 vc2]) _) := Lib.hid (HWv4.out.other hk hs HFv.out.1 HFv.out.2)
    clear hy e9 r0 r1 r2 hk hs hbl
    go_wp2
    rw [HE9.out]
    have r0 : w9.cell? _ = _ := HR.out.1
    have r1 : w9.cell? _ = _ := HR.out.2.1
    have r2 : w9.cell? _ = _ := HR.out.2.2
    refine bodyPost_ret (v := .tuple #[.slice none 0 0, .agg #[.int .i64 vN, .slice va1 vn1 vc1, .slice va2 vn2 vc2]]) (by simp [results, Tryd.results48, go_sem, r0, r1, r2]) rfl ?_
    exact ⟨none, 0, 0, _, _, _, _, _, _, _, rfl, nr_nilV _, HWC.out, HBE.out⟩
  · rw [wordD_none hc] at hck
    have HCK := Lib.hid hck
    have hn2 : n ≤ 256 := by have := HL.out; omega
    obtain ⟨k1, k2, h4096, hall⟩ := chk_none hc
    obtain ⟨kn, rfl⟩ : ∃ kn : Nat, k = (kn : Int) := ⟨k.toNat, by omega⟩
    simp only [Int.toNat_natCast]
    have kn4 : kn ≤ 4 := by omega
    have HALL := Lib.hid hall
    have m1 : IntKind.u64.wrap (kn : Int) = (kn : Int) := wr64 _ (by omega)
    clear hck hc h2 h4096 hall hml
    go_enter Tryd.func48, Tryd.ntmps48
    go_wp2_with fail
    rw [HWB.out]
    refine (HCK.out).mono ?_; rintro e w1 ⟨zN, za1, zn1, zc1, za2, zn2, zc2, rfl, hw, hf1, hf2, hN, h0, hb⟩
    obtain ⟨rfl, rfl, rfl, rfl, rfl, rfl, rfl⟩ := h0 rfl
    clear hw hf1 hf2 hN h0
    have HB1 := Lib.hid (HB0.out.trans (hb.mono HB0.out.size))
    clear hb
    go_wp2_with fail
    obtain ⟨g1, hg1⟩ : ∃ g1, w1.heap.size = g1 := ⟨_, rfl⟩
    obtain ⟨w2, hw⟩ : ∃ w2, w1.alloc (.cells #[.int .i64 0, .slice none 0 0, .slice none 0 0] 78) = w2 := ⟨_, rfl⟩
    have hb : Below w1.heap.size w1 w2 := by rw [← hw]; exact balloc (bnil w1) _
    have HZ2 : Hid (w2.heap[g1]? = some (.cells #[.int .i64 0, .slice none 0 0, .slice none 0 0] 78)) := by show _ = _; rw [← hw, ← hg1]; exact heap_alloc_new w1 _
    have HG1 : Hid (W.heap.size + 1 ≤ g1) := by show _ ≤ _; have := HSZ.out; have := HB1.out.size; omega
    rw [hw]
    simp only [hg1]
    clear hw hg1
    have HB2 := Lib.hid (HB1.out.trans (hb.mono HB1.out.size))
    clear hb
    obtain ⟨⟨q0, q1, q2⟩, f0, f1, f2⟩ := cellsq HZ2.out
    go_wp2_with fail
    clear q0 q1 q2 f0 f1 f2
    refine (refBadq 0 _ _ _ false rfl).mono ?_; rintro e w3 ⟨rfl, hb⟩
    have HB3 := Lib.hid (HB2.out.trans (hb.mono HB2.out.size))
    have HZ3 := Lib.hid ((hb.block _ (heap_ltQ HZ2.out)).trans HZ2.out)
    clear hb
    go_wp2_with fail
    go_loopw [7, 8] (fun sx ix wr => ∃ (j : Nat) (a1 : Option Addr) (n1 c1 : Nat), j ≤ n ∧ ix = .int .i64 j ∧ sx = .slice a1 n1 c1 ∧ NR wr a1 n1 (limbs (horn kn (l.take j))) ∧ Fr (W.heap.size + 1) a1 ∧ Below w0.heap.size w0 wr) (fun _ ix _ => n - (intOf ix).toNat)
    case atStart => exact ⟨0, none, 0, 0, by omega, rfl, rfl, nr_nilV _, fr_none, HB3.out⟩
    case round =>
      obtain ⟨j, a1, n1, c1, hj, rfl, rfl, hv, hfr, hb⟩ := hrel
      generalize wr = w4 at *
      have HB4 := Lib.hid hb
      have HV := Lib.hid hv
      have HFR := Lib.hid hfr
      clear hv hfr hb
      by_cases hjn : j < n
      · obtain ⟨b, o, rfl, hbl, hx⟩ := (HR.out.up HB4.out).addr (by omega)
        have x0 := hx j hjn
        have hjl : j < l.length := by have := HL.out; omega
        have hxx := HALL.out (l.getD j 0) (by simp [hjl])
        have hnx := horn_take (k := kn) hjl
        have hn1 : n1 ≤ 256 := by
          rw [HV.out.len]
          have := horn_len (k := kn) (l := l) (j := j) kn4 HALL.out
          have := HL.out
          omega
        obtain ⟨y, hy⟩ : ∃ y : Nat, l.getD j 0 = (y : Int) := ⟨(l.getD j 0).toNat, by omega⟩
        rw [hy] at x0 hnx hxx
        simp only [Int.toNat_natCast] at hnx
        have HNX := Lib.hid hnx
        have y4 : y < 4 := by omega
        have j0 : (0 : Int) ≤ (j : Int) := by omega
        have j1 : (j : Int) < (n : Int) := by omega
        have m2 : IntKind.u64.wrap (y : Int) = (y : Int) := wr64 _ (by omega)
        have HS0 : Hid (w4.drew.cell? ⟨b, o + j, none⟩ = some (.int .i64 (y : Nat))) := x0
        have HBL := Lib.hid hbl
        have HNN := Lib.hid hn1
        clear hnx hxx hjl hy hx hn1 hbl x0
        obtain ⟨X, hX⟩ : ∃ X, horn kn (l.take j) = X := ⟨_, rfl⟩
        rw [hX] at HV HNX
        clear hX
        go_wp2_with fail
        go_region_held3 (fun w' => w'.cell? ⟨b, o + j, none⟩ = some (.int .i64 (y : Nat)))
          (first | with_reducible exact HS8.out | with_reducible exact HS7.out | with_reducible exact HS6.out | with_reducible exact HS5.out | with_reducible exact HS0.out | go_keep)
          (first
            | (go_at_call 85; have q9 := HO7; refine (add16 _ _ _ _ _ _ (limbs (X * kn)) (limbs y) _ HM7.out (nr_ofV HO7.out) HN6.out HN7.out).mono ?_; rintro e w8 ⟨a8, n8, c8, rfl, ho8, hb8⟩; have HO8 := Lib.hid ho8; have HD8 := Lib.hid (bstep HD7.out hb8); have HS8 := Lib.hid (cp16 hb8 HS7.out); clear ho8 hb8)
            | (go_at_call 87; have q9 := HO6; refine (from16 y _ (by omega)).mono ?_; rintro e w7 ⟨a7, n7, c7, rfl, ho7, hb7⟩; have HO7 := Lib.hid ho7; have HD7 := Lib.hid (bstep HD6.out hb7); have HS7 := Lib.hid (cp16 hb7 HS6.out); have HM7 := Lib.hid ((nr_ofV HO6.out).up hb7); have HN7 : Hid (n7 ≤ 200000) := (by show _ ≤ _; rw [(nr_ofV ho7).len]; exact Nat.le_trans (limbs_len_le (m := 1) (by show y < 4294967296 ^ 1; omega)) (by decide)); clear ho7 hb7 HO6)
            | (go_at_call 86; have q9 := HO5; refine (mul16 _ _ _ _ _ _ (limbs X) (limbs kn) _ (HV.out.up HD5.out) (nr_ofV HO5.out) (by have := HNN.out; omega) HN5.out).mono ?_; rintro e w6 ⟨a6, n6, c6, rfl, ho6, hb6⟩; rw [val_limbs, val_limbs] at ho6; have HO6 := Lib.hid ho6; have HD6 := Lib.hid (bstep HD5.out hb6); have HN6 : Hid (n6 ≤ 200000) := (by show _ ≤ _; rw [(nr_ofV ho6).len]; have h1 := HNN.out; rw [HV.out.len] at h1; exact prod_lenV h1 kn4); have HS6 := Lib.hid (cp16 hb6 HS5.out); clear ho6 hb6 HO5)
            | (go_at_call 87; refine (from16 kn _ (by omega)).mono ?_; rintro e w5 ⟨a5, n5, c5, rfl, ho5, hb5⟩; have HO5 := Lib.hid ho5; have HD5 := Lib.hid ((bnil w4).drew.trans hb5); have HN5 : Hid (n5 ≤ 200000) := (by show _ ≤ _; rw [(nr_ofV ho5).len]; exact Nat.le_trans (limbs_len_le (m := 1) (by show kn < 4294967296 ^ 1; omega)) (by decide)); have HS5 := Lib.hid (cp16 hb5 HS0.out); clear ho5 hb5))
        all_goals
          have ho9 := HO8.out
          rw [val_limbs, val_limbs, ← HNX.out] at ho9
          have hb9 : Below w4.heap.size w4 w8 := HD8.out
          have hbs : w4.heap.size ≤ w7.heap.size := HD7.out.size
          have HFR9 : Hid (Fr (W.heap.size + 1) a8) := by show Fr _ _; have h1 := own_frV ho9; exact h1.base (by have := HSZ.out; have := HB4.out.size; omega)
          have HV9 := Lib.hid (nr_ofV ho9)
          have HB9 := Lib.hid (HB4.out.trans (hb9.mono HB4.out.size))
          clear ho9 hb9 hbs
          go_wp2
          go_roundw
          case rel => exact ⟨j + 1, a8, n8, c8, by omega, by go_num, rfl, HV9.out, HFR9.out, HB9.out⟩
          case measure => simp [intOf]; omega
      · obtain rfl : j = n := by omega
        have htk : l.take j = l := List.take_of_length_le (by have := HL.out; omega)
        have hv9 := HV.out
        rw [htk] at hv9
        have HV9 := Lib.hid hv9
        clear hv9 htk
        have hy := (HB4.out.block _ (by have := HSZ.out; omega)).trans HY0.out
        obtain ⟨⟨p0, p1, p2⟩, f3, f4, f5⟩ := cellsq hy
        obtain ⟨w9, e9, ⟨r0, r1, r2⟩, hk, hs, hbl, _⟩ := set3q hy (.int .i64 0) (.slice none 0 0) (.slice none 0 0)
        have HE9 := Lib.hid e9
        have HR := Lib.hid (And.intro r0 (And.intro r1 r2))
        have HBE := Lib.hid (hbl W W.heap.size (by omega) (HBX.out.trans (HB4.out.mono HBX.out.size)))
        have HWC := Lib.hid (wc_none w9)
        have HN9 := Lib.hid (nr_heapV HV9.out hk hs (.inl HFR.out))
        clear hy e9 r0 r1 r2 hk hs hbl
        go_wp2
        rw [HE9.out]
        have r0 : w9.cell? _ = _ := HR.out.1
        have r1 : w9.cell? _ = _ := HR.out.2.1
        have r2 : w9.cell? _ = _ := HR.out.2.2
        refine bodyPost_ret (v := .tuple #[.slice a1 n1 c1, .agg #[.int .i64 0, .slice none 0 0, .slice none 0 0]]) (by simp [results, Tryd.results48, go_sem, r0, r1, r2]) rfl ?_
        exact ⟨_, _, _, 0, none, 0, 0, none, 0, 0, rfl, HN9.out, HWC.out, HBE.out⟩
end Go.Proofs.YtnmegpplfbkpcaaDoor
