/- edenref03.Next and word.Next for all arguments. -/
import Derived.Test.YtnmegpplfbkpcaaDoorR03A
import Derived.Test.YtnmegpplfbkpcaaDoorR02E
import Derived.Test.YtnmegpplfbkpcaaDoorWordE
import Derived.Test.YtnmegpplfbkpcaaDoorLent
namespace Go.Proofs.YtnmegpplfbkpcaaDoor
open Go.RowKit
set_option linter.unusedVariables false
set_option maxRecDepth 100000

/-- numbers and an error: the program's, the document's -/
def ProL (R : Nat → Addr) (W : World) (l : List Int) (f : ErrD) (e : Ending) (w' : World) : Prop :=
  ∃ a' n' c' ev, e = .returned (.tuple #[.slice a' n' c', ev]) ∧ RK .i64 w' a' n' l ∧ EC R w' ev f ∧ Below W.heap.size W w'
def RefL (W : World) (l : List Int) (f : ErrD) (e : Ending) (w' : World) : Prop :=
  ∃ a' n' c' N a1 n1 c1 a2 n2 c2, e = .returned (.tuple #[.slice a' n' c', .agg #[.int .i64 N, .slice a1 n1 c1, .slice a2 n2 c2]]) ∧ RK .i64 w' a' n' l ∧ WC w' (.agg #[.int .i64 N, .slice a1 n1 c1, .slice a2 n2 c2]) f ∧ Below W.heap.size W w'
theorem wordD_none {k : Int} {l : List Int} (h : chkErr k l = none) : wordD k l = none := by unfold wordD; rw [h]; rfl
theorem wordD_some {k : Int} {l : List Int} {x : Int × Int} (h : chkErr k l = some x) : wordD k l = some ([(opWord, x.1)], x.2) := by unfold wordD; rw [h]; rfl
theorem rk_heapV {k : IntKind} {w w' : World} {a : Option Addr} {n : Nat} {l : List Int} (h : RK k w a n l) {g : Nat} (hk : ∀ k, k ≠ g → w'.heap[k]? = w.heap[k]?) (hs : w'.heap.size = w.heap.size) (hf : Fr (g + 1) a ∨ n = 0) : RK k w' a n l := by
  refine ⟨h.1, h.2.1, ?_⟩
  rcases h.2.2 with h0 | ⟨b, o, rfl, hb, hc⟩
  · exact .inl h0
  · rcases hf with hf | h0
    · refine .inr ⟨b, o, rfl, by omega, fun j u hu => ?_⟩
      have hbg := hf b o rfl
      rw [World.cell?_of_block (w := w)]
      · exact hc j u hu
      · exact hk b (by omega)
    · exact .inl h0

def NextE (k : Int) (l lr : List Int) (f : ErrD) : Prop :=
  (∃ x, chkErr k l = some x ∧ lr = [] ∧ f = some ([(opWord, x.1)], x.2)) ∨
  (chkErr k l = none ∧ ∃ i, LastUp k l i ∧ lr = bump l i ∧ f = none) ∨
  (chkErr k l = none ∧ NoUp k l ∧ l.length < 4096 ∧ lr = List.replicate (l.length + 1) 0 ∧ f = none) ∨
  (chkErr k l = none ∧ NoUp k l ∧ ¬ l.length < 4096 ∧ lr = [] ∧ f = some ([(opWord, 0)], 4))
theorem nextE_or (k : Int) (l : List Int) : ∃ lr f, NextE k l lr f := by
  cases h : chkErr k l with
  | some x => exact ⟨_, _, .inl ⟨x, h, rfl, rfl⟩⟩
  | none =>
    rcases lastUp_or k l with ⟨i, hi⟩ | hn
    · exact ⟨_, _, .inr (.inl ⟨h, i, hi, rfl, rfl⟩)⟩
    · by_cases h4 : l.length < 4096
      · exact ⟨_, _, .inr (.inr (.inl ⟨h, hn, h4, rfl, rfl⟩))⟩
      · exact ⟨_, _, .inr (.inr (.inr ⟨h, hn, h4, rfl, rfl⟩))⟩
theorem nextE_up {k : Int} {l lr : List Int} {f : ErrD} (h : NextE k l lr f) (hc : chkErr k l = none) {i : Nat} (hu : LastUp k l i) : lr = bump l i ∧ f = none := by
  rcases h with ⟨x, hx, _⟩ | ⟨_, j, hj, h1, h2⟩ | ⟨_, hn, _⟩ | ⟨_, hn, _⟩
  · rw [hc] at hx; cases hx
  · have e : j = i := by
      rcases Nat.lt_trichotomy j i with h | h | h
      · exact absurd hu.2.1 (hj.2.2 i h hu.1)
      · exact h
      · exact absurd hj.2.1 (hu.2.2 j h hj.1)
    subst e
    exact ⟨h1, h2⟩
  · exact absurd hu.2.1 (hn i hu.1)
  · exact absurd hu.2.1 (hn i hu.1)
theorem nextE_no {k : Int} {l lr : List Int} {f : ErrD} (h : NextE k l lr f) (hc : chkErr k l = none) (hu : NoUp k l) : (l.length < 4096 → lr = List.replicate (l.length + 1) 0 ∧ f = none) ∧ (¬ l.length < 4096 → lr = [] ∧ f = some ([(opWord, 0)], 4)) := by
  rcases h with ⟨x, hx, _⟩ | ⟨_, j, hj, h1, h2⟩ | ⟨_, hn, h1, h2⟩ | ⟨_, hn, h1, h2⟩
  · rw [hc] at hx; cases hx
  · exact absurd hj.2.1 (hu j hj.1)
  · exact ⟨fun _ => h2, fun h => absurd h1 h⟩
  · exact ⟨fun h => absurd h h1, fun _ => h2⟩
theorem nextE_len {k : Int} {l lr : List Int} {f : ErrD} (h : NextE k l lr f) : lr.length ≤ 4096 := by
  rcases h with ⟨x, hx, rfl, _⟩ | ⟨hc, j, hj, rfl, _⟩ | ⟨_, hn, h1, rfl, _⟩ | ⟨_, hn, h1, rfl, _⟩
  · exact Nat.zero_le _
  · rw [bump_len hj.1]; exact (chk_none hc).2.2.1
  · simp; omega
  · exact Nat.zero_le _

set_option maxHeartbeats 4000000 in
theorem pnext (k : Int) (a : Option Addr) (n c : Nat) (l : List Int) (W : World) (R : Nat → Addr) (hS : Sent W R) (hG : Glob W R) (hR : RK .i64 W a n l) (hm : n * 8 ≤ 140737488351232) (hnc : n ≤ c) (hcap : a = none → c = 0) (lr : List Int) (f : ErrD) (hf : NextE k l lr f) :
    Calls Tryd.prog 39 #[.int .i64 k, .slice a n c] W (ProL R W lr f) := by
  have hl := hR.len
  rcases hf with ⟨x, hx, rfl, rfl⟩ | ⟨hc, i, hu, rfl, rfl⟩ | ⟨hc, hu, h4, rfl, rfl⟩ | ⟨hc, hu, h4, rfl, rfl⟩
  · refine (next_err0 k a n c l W R hG hR (by unfold maxLen; omega) x hx).mono ?_; rintro e w' ⟨g, rfl, he, hb⟩
    exact ⟨_, _, _, _, rfl, RK.nil, ec_err (hS.up hb) he, hb⟩
  · refine (next_up k a n c l W R hG hR hm hnc hcap hc i hu).mono ?_; rintro e w' ⟨a', c', rfl, ho, hb⟩
    exact ⟨_, _, _, _, rfl, RK.of_own ho, rfl, hb⟩
  · refine (next_all k a n c l W R hG hR hm hnc hcap hc hu).mono ?_; rintro e w' ⟨h1, _⟩
    obtain ⟨a', c', rfl, ho, hb⟩ := h1 (by omega)
    exact ⟨_, _, _, _, rfl, by have h := RK.of_own ho; rw [← hl]; exact h, rfl, hb⟩
  · refine (next_all k a n c l W R hG hR hm hnc hcap hc hu).mono ?_; rintro e w' ⟨_, h2⟩
    obtain ⟨g, rfl, he, hb⟩ := h2 (by omega)
    exact ⟨_, _, _, _, rfl, RK.nil, ec_err (hS.up hb) he, hb⟩

set_option maxHeartbeats 8000000 in
theorem ref03next (k : Int) (a : Option Addr) (n c : Nat) (l : List Int) (W : World) (hR : RK .i64 W a n l) (hm : n * 8 ≤ 140737488351232) (hcap : a = none → c = 0) (lr : List Int) (f : ErrD) (hf : NextE k l lr f) :
    Calls Tryd.prog 46 #[.int .i64 k, .slice a n c] W (RefL W lr f) := by
  have HL := Lib.hid hR.len
  have hml : n ≤ maxLen := by unfold maxLen; omega
  have HCAP := Lib.hid hcap
  clear hcap
  obtain ⟨w0, hw0⟩ : ∃ w0, W.alloc (.cells #[.int .i64 0, .slice none 0 0, .slice none 0 0] 78) = w0 := ⟨_, rfl⟩
  have HSZ : Hid (w0.heap.size = W.heap.size + 1) := by show _ = _; rw [← hw0]; simp
  have HY0 : Hid (w0.heap[W.heap.size]? = some (.cells #[.int .i64 0, .slice none 0 0, .slice none 0 0] 78)) := by show _ = _; rw [← hw0]; have h := heap_alloc_new (W) (.cells #[.int .i64 0, .slice none 0 0, .slice none 0 0] 78); simpa using h
  have HBX : Hid (Below W.heap.size W w0) := by show Below _ _ _; rw [← hw0]; exact balloc (bnil W) _
  have HB0 := Lib.hid (bnil w0)
  have HWB := Lib.hid hw0
  have HR := Lib.hid (hR.up HBX.out)
  clear hw0 hR
  have hck := ref03check k a n c l w0 HR.out hml
  cases hc : chkErr k l with
  | some x =>
    rw [wordD_some hc] at hck
    have HCK := Lib.hid hck
    have hlf : lr = [] ∧ f = some ([(opWord, x.1)], x.2) := by
      rcases hf with ⟨y, hy, h1, h2⟩ | ⟨h, _⟩ | ⟨h, _⟩ | ⟨h, _⟩
      · rw [hc] at hy; cases hy; exact ⟨h1, h2⟩
      · rw [hc] at h; cases h
      · rw [hc] at h; cases h
      · rw [hc] at h; cases h
    have HLF := Lib.hid hlf
    clear hck hf hc hlf
    go_enter Tryd.func46, Tryd.ntmps46
    go_wp2_with fail
    rw [HWB.out]
    refine (HCK.out).mono ?_; rintro e w1 ⟨vN, va1, vn1, vc1, va2, vn2, vc2, rfl, hw, hf1, hf2, hN, h0, hb⟩
    have HWv1 := Lib.hid hw
    have HFv : Hid (Fr (W.heap.size + 1) va1 ∧ Fr (W.heap.size + 1) va2) := ⟨hf1.base (by have := HSZ.out; have := HB0.out.size; omega), hf2.base (by have := HSZ.out; have := HB0.out.size; omega)⟩
    have HNv : Hid ((vN != 0) = true) := hN
    clear hw hf1 hf2 hN h0
    have HB1 := Lib.hid (HB0.out.trans (hb.mono HB0.out.size))
    clear hb
    go_wp2_with fail
    obtain ⟨g1, hg1⟩ : ∃ g1, w1.heap.size = g1 := ⟨_, rfl⟩
    obtain ⟨w2, hw⟩ : ∃ w2, w1.alloc (.cells #[.int .i64 vN, .slice va1 vn1 vc1, .slice va2 vn2 vc2] 78) = w2 := ⟨_, rfl⟩
    have hb : Below w1.heap.size w1 w2 := by rw [← hw]; exact balloc (bnil w1) _
    have HZ2 : Hid (w2.heap[g1]? = some (.cells #[.int .i64 vN, .slice va1 vn1 vc1, .slice va2 vn2 vc2] 78)) := by show _ = _; rw [← hw, ← hg1]; exact heap_alloc_new w1 _
    have HG1 : Hid (W.heap.size + 1 ≤ g1) := by show _ ≤ _; have := HSZ.out; have := HB1.out.size; omega
    rw [hw]
    simp only [hg1]
    clear hw hg1
    have HB2 := Lib.hid (HB1.out.trans (hb.mono HB1.out.size))
    have HWv2 := Lib.hid (HWv1.out.up hb)
    clear hb
    obtain ⟨⟨q0, q1, q2⟩, f0, f1, f2⟩ := cellsq HZ2.out
    go_wp2_with fail
    clear q0 q1 q2 f0 f1 f2
    refine (refBadq vN _ _ _ true HNv.out).mono ?_; rintro e w3 ⟨rfl, hb⟩
    have HB3 := Lib.hid (HB2.out.trans (hb.mono HB2.out.size))
    have HZ3 := Lib.hid ((hb.block _ (heap_ltQ HZ2.out)).trans HZ2.out)
    have HWv3 := Lib.hid (HWv2.out.up hb)
    clear hb
    obtain ⟨⟨q0, q1, q2⟩, f0, f1, f2⟩ := cellsq HZ3.out
    have hy := (HB3.out.block _ (by have := HSZ.out; omega)).trans HY0.out
    obtain ⟨⟨p0, p1, p2⟩, f3, f4, f5⟩ := cellsq hy
    obtain ⟨w9, e9, ⟨r0, r1, r2⟩, hk, hs, hbl, _⟩ := set3q hy (.int .i64 vN) (.slice va1 vn1 vc1) (.slice va2 vn2 vc2)
    have HE9 := Lib.hid e9
    have HR := Lib.hid (And.intro r0 (And.intro r1 r2))
    have HBE := Lib.hid (hbl W W.heap.size (by omega) (HBX.out.trans (HB3.out.mono HBX.out.size)))
    have HWC : Hid (WC w9 (.agg #[.int .i64 vN, .slice va1 vn1 vc1, .slice va2 vn2 vc2]) _) := Lib.hid (HWv3.out.other hk hs HFv.out.1 HFv.out.2)
    clear hy e9 r0 r1 r2 hk hs hbl
    go_wp2
    go_region
    all_goals
      go_wp2
      rw [HE9.out]
      have r0 : w9.drew.cell? _ = _ := HR.out.1
      have r1 : w9.drew.cell? _ = _ := HR.out.2.1
      have r2 : w9.drew.cell? _ = _ := HR.out.2.2
      refine bodyPost_ret (v := .tuple #[.slice none 0 0, .agg #[.int .i64 vN, .slice va1 vn1 vc1, .slice va2 vn2 vc2]]) (by simp [results, Tryd.results46, go_sem, r0, r1, r2]) rfl ?_
      rw [HLF.out.1, HLF.out.2]; exact ⟨none, 0, 0, _, _, _, _, _, _, _, rfl, RK.nil, (HWC.out.up (bnil w9).drew), (HBE.out.drew)⟩
  | none =>
    obtain ⟨k1, k2, h4096, hall⟩ := chk_none hc
    rw [wordD_none hc] at hck
    have HCK := Lib.hid hck
    have HF := Lib.hid hf
    have HC := Lib.hid hc
    have HALL := Lib.hid hall
    have hn4 : n ≤ 4096 := by have := HL.out; omega
    have wk1 : IntKind.i64.wrap (k - 1) = k - 1 := IntWalk.i64_in _ (by omega)
    clear hck hf hc hall h4096
    go_enter Tryd.func46, Tryd.ntmps46
    go_wp2_with fail
    rw [HWB.out]
    refine (HCK.out).mono ?_; rintro e w1 ⟨zN, za1, zn1, zc1, za2, zn2, zc2, rfl, hw, hf1, hf2, hN, h0, hb⟩
    obtain ⟨rfl, rfl, rfl, rfl, rfl, rfl, rfl⟩ := h0 rfl
    clear hw hf1 hf2 hN h0
    have HB1 := Lib.hid (HB0.out.trans (hb.mono HB0.out.size))
    clear hb
    go_wp2_with fail
    obtain ⟨g1, hg1⟩ : ∃ g1, w1.heap.size = g1 := ⟨_, rfl⟩
    obtain ⟨w2, hw⟩ : ∃ w2, w1.alloc (.cells #[.int .i64 0, .slice none 0 0, .slice none 0 0] 78) = w2 := ⟨_, rfl⟩
    have hb : Below w1.heap.size w1 w2 := by rw [← hw]; exact balloc (bnil w1) _
    have HZ2 : Hid (w2.heap[g1]? = some (.cells #[.int .i64 0, .slice none 0 0, .slice none 0 0] 78)) := by show _ = _; rw [← hw, ← hg1]; exact heap_alloc_new w1 _
    have HG1 : Hid (W.heap.size + 1 ≤ g1) := by show _ ≤ _; have := HSZ.out; have := HB1.out.size; omega
    rw [hw]
    simp only [hg1]
    clear hw hg1
    have HB2 := Lib.hid (HB1.out.trans (hb.mono HB1.out.size))
    clear hb
    obtain ⟨⟨q0, q1, q2⟩, f0, f1, f2⟩ := cellsq HZ2.out
    go_wp2_with fail
    clear q0 q1 q2 f0 f1 f2
    refine (refBadq 0 _ _ _ false rfl).mono ?_; rintro e w3 ⟨rfl, hb⟩
    have HB3 := Lib.hid (HB2.out.trans (hb.mono HB2.out.size))
    have HZ3 := Lib.hid ((hb.block _ (heap_ltQ HZ2.out)).trans HZ2.out)
    clear hb
    go_wp2_with fail
    refine (copy_any a n c l _ (HR.out.up HB3.out) hm HCAP.out).mono ?_; rintro e w4 ⟨a2, c2, rfl, hown2, hb⟩
    have hown3 : w4.ownsRow w3.heap.size 3 1 (.slice a2 n c2) n ((zeroed l n).map (Value.int .i64)) := by rw [show zeroed l n = l from by rw [HL.out]; exact zeroed_all l]; exact hown2
    have HO3 := Lib.hid hown3
    have HLE : Hid (W.heap.size + 1 ≤ w3.heap.size) := by show _ ≤ _; have := HSZ.out; have := HB3.out.size; omega
    have HSQ : Hid (w3.heap.size ≤ w4.heap.size) := hb.size
    clear hown2 hown3
    have HB4 := Lib.hid (HB3.out.trans (hb.mono HB3.out.size))
    have HZ4 := Lib.hid ((hb.block _ (heap_ltQ HZ3.out)).trans HZ3.out)
    clear hb
    go_wp2_with fail
    go_loopw [8] (fun ix wr => ∃ (j : Nat), j ≤ n ∧ ix = .int .i64 ((j : Int) - 1) ∧ wr.ownsRow w3.heap.size 3 1 (.slice a2 n c2) n ((zeroed l j).map (Value.int .i64)) ∧ (∀ q, j ≤ q → q < n → l.getD q 0 = k - 1) ∧ w3.heap.size ≤ wr.heap.size ∧ Below w0.heap.size w0 wr) (fun ix _ => (intOf ix + 1).toNat)
    case atStart => exact ⟨n, Nat.le_refl _, rfl, HO3.out, fun q h1 h2 => by omega, HSQ.out, HB4.out⟩
    case round =>
      clear HO3
      obtain ⟨j, hj, rfl, hown, hq, hsz, hb⟩ := hrel
      generalize wr = w5 at *
      have HO := Lib.hid hown
      have HQ := Lib.hid hq
      have HB5 := Lib.hid hb
      clear hown hq hb HSQ
      cases j with
      | zero =>
        have e0 : ((0 : Nat) : Int) - 1 = -1 := by omega
        rw [e0]
        clear e0
        have hno : NoUp k l := fun q hql => by have := HQ.out q (Nat.zero_le _) (by have := HL.out; omega); omega
        have hlf := nextE_no HF.out HC.out hno
        have HZ0 : Hid (zeroed l 0 = List.replicate n 0) := by show _ = _; unfold zeroed; rw [HL.out]; simp
        clear hno
        by_cases h4 : n < 4096
        · have heq : ((n : Int) == 4096) = false := by simp; omega
          have HLF := Lib.hid (hlf.1 (by have := HL.out; omega))
          clear hlf
          have hgr := HLE.out
          have HYK := Lib.hid ((HB5.out.block _ (by have := HSZ.out; omega)).trans HY0.out)
          go_wp2_with (first
            | (at_builtin; refine apl rfl _ _ _ rfl w3.heap.size et_int _ n _ HO.out rfl 1 _ _ rfl rfl rfl rfl (by unfold maxLen; omega) (by omega) (by omega) ?_; intro a6 c6 w6 h6; have H6 := Lib.hid h6; have hy6 := (h6.below.block W.heap.size (by have := HSZ.out; omega)).trans HYK.out; have HYL : Hid (w6.heap[W.heap.size]? = some (.cells #[.int .i64 0, .slice none 0 0, .slice none 0 0] 78)) := hy6; obtain ⟨⟨p0, p1, p2⟩, f3, f4, f5⟩ := cellsq hy6; clear hy6; clear h6))
          have HO6 := Lib.hid (show w6.ownsRow w3.heap.size 3 1 (.slice a6 (n + 1) c6) (n + 1) ((zeroed l 0 ++ [0]).map (Value.int .i64)) by rw [List.map_append]; exact H6.out.own)
          have HB6 := Lib.hid (HB5.out.trans (H6.out.below.mono (by have := HLE.out; have := HSZ.out; omega)))
          obtain ⟨w9, e9, ⟨r0, r1, r2⟩, hk, hs, hbl, _⟩ := set3q HYL.out (.int .i64 0) (.slice none 0 0) (.slice none 0 0)
          have HBE := Lib.hid (hbl W W.heap.size (by omega) (HBX.out.trans (HB6.out.mono HBX.out.size)))
          have HWC := Lib.hid (wc_none w9)
          have HRK9 := Lib.hid (RK.of_own (l := zeroed l 0 ++ [0]) (own_heapV HO6.out hk (by have := HLE.out; omega)))
          rw [e9]
          refine bodyPost_ret (v := .tuple #[.slice a6 (n + 1) c6, .agg #[.int .i64 0, .slice none 0 0, .slice none 0 0]]) (by simp [results, Tryd.results46, go_sem, r0, r1, r2]) rfl ?_
          rw [HLF.out.1, HLF.out.2]; exact ⟨_, _, _, 0, none, 0, 0, none, 0, 0, rfl, by rw [← HL.out, List.replicate_succ', ← HZ0.out]; exact HRK9.out, HWC.out, HBE.out⟩
        · have heq : ((n : Int) == 4096) = true := by simp; omega
          have HLF := Lib.hid (hlf.2 (by have := HL.out; omega))
          clear hlf
          go_wp2_with fail
          refine (rawNewq opWord _ _ _ rfl).mono ?_; rintro e w6 ⟨vN, va1, vn1, vc1, va2, vn2, vc2, rfl, hw, hf1, hf2, hN, h0, hb⟩
          have HWv6 := Lib.hid hw
          have HFv : Hid (Fr (W.heap.size + 1) va1 ∧ Fr (W.heap.size + 1) va2) := ⟨hf1.base (by have := HSZ.out; have := HB5.out.size; omega), hf2.base (by have := HSZ.out; have := HB5.out.size; omega)⟩
          have HNv : Hid ((vN != 0) = true) := hN
          clear hw hf1 hf2 hN h0
          have HB6 := Lib.hid (HB5.out.trans (hb.mono HB5.out.size))
          clear hb
          have hy := (HB6.out.block _ (by have := HSZ.out; omega)).trans HY0.out
          obtain ⟨⟨p0, p1, p2⟩, f3, f4, f5⟩ := cellsq hy
          obtain ⟨w9, e9, ⟨r0, r1, r2⟩, hk, hs, hbl, _⟩ := set3q hy (.int .i64 vN) (.slice va1 vn1 vc1) (.slice va2 vn2 vc2)
          have HE9 := Lib.hid e9
          have HR := Lib.hid (And.intro r0 (And.intro r1 r2))
          have HBE := Lib.hid (hbl W W.heap.size (by omega) (HBX.out.trans (HB6.out.mono HBX.out.size)))
          have HWC : Hid (WC w9 (.agg #[.int .i64 vN, .slice va1 vn1 vc1, .slice va2 vn2 vc2]) _) := Lib.hid (HWv6.out.other hk hs HFv.out.1 HFv.out.2)
          clear hy e9 r0 r1 r2 hk hs hbl
          go_wp2
          rw [HE9.out]
          have r0 : w9.cell? _ = _ := HR.out.1
          have r1 : w9.cell? _ = _ := HR.out.2.1
          have r2 : w9.cell? _ = _ := HR.out.2.2
          refine bodyPost_ret (v := .tuple #[.slice none 0 0, .agg #[.int .i64 vN, .slice va1 vn1 vc1, .slice va2 vn2 vc2]]) (by simp [results, Tryd.results46, go_sem, r0, r1, r2]) rfl ?_
          rw [HLF.out.1, HLF.out.2]; exact ⟨none, 0, 0, _, _, _, _, _, _, _, rfl, RK.nil, HWC.out, HBE.out⟩
      | succ j =>
        have ej : ((j + 1 : Nat) : Int) - 1 = (j : Int) := by omega
        rw [ej]
        clear ej
        obtain ⟨gg, rfl, hg1, hg2⟩ := own_form HO.out (by omega)
        have c0 : w5.cell? ⟨gg, j, none⟩ = some (.int .i64 (l.getD j 0)) := by
          rw [HO.out.cellAt j (by omega), map_at _ _ _ (by rw [zeroed_len _ _ (by have := HL.out; omega)]; have := HL.out; omega), zeroed_at _ _ _ (by have := HL.out; omega) (by omega)]
        have f0 := HO.out.frozenAt j
        have i0 : (0 : Int) ≤ (j : Int) := by omega
        have i1 : (j : Int) < (n : Int) := by omega
        have hz2 := HALL.out (l.getD j 0) (by have := HL.out; simp [show j < l.length by omega])
        by_cases hzk : l.getD j 0 = k - 1
        · have hst := own_set HO.out j (.int .i64 0)
          rw [map_set64, zeroed_set _ _ (by have := HL.out; omega)] at hst
          have HST := Lib.hid hst
          have HQ2 : Hid (∀ q, j ≤ q → q < n → l.getD q 0 = k - 1) := fun q h1 h2 => by
            by_cases e : q = j
            · subst e; exact hzk
            · exact HQ.out q (by omega) h2
          have HBW := Lib.hid (HB5.out.setCell (p := ⟨gg, j, none⟩) (by have := HLE.out; have := HSZ.out; show _ ≤ gg; omega) (.int .i64 0))
          have heq : (l.getD j 0 == k - 1) = true := by rw [beq_iff_eq]; exact hzk
          generalize l.getD j 0 = z at *
          clear hst hzk HO HQ
          go_wp2
          go_roundw
          case rel => exact ⟨j, by omega, by go_num, HST.out, HQ2.out, by simpa using hsz, HBW.out⟩
          case measure => first | (simp [intOf]; done) | (simp [intOf]; omega)
        · have hup : LastUp k l j := ⟨by have := HL.out; omega, by omega, fun q h1 h2 => by have := HQ.out q (by omega) (by have := HL.out; omega); omega⟩
          have HLF := Lib.hid (nextE_up HF.out HC.out hup)
          have hst := own_set HO.out j (.int .i64 (l.getD j 0 + 1))
          rw [map_set64, zeroed_bump _ _ (by have := HL.out; omega)] at hst
          have HRK := Lib.hid (RK.of_own hst)
          have heq : (l.getD j 0 == k - 1) = false := by rw [beq_eq_false_iff_ne]; exact hzk
          have HB6 := Lib.hid (HB5.out.setCell (p := ⟨gg, j, none⟩) (by have := HLE.out; have := HSZ.out; show _ ≤ gg; omega) (.int .i64 (l.getD j 0 + 1)))
          generalize l.getD j 0 = z at *
          obtain ⟨w6, hw⟩ : ∃ w6, w5.setCell ⟨gg, j, none⟩ (.int .i64 (z + 1)) = w6 := ⟨_, rfl⟩
          rw [hw] at HB6 HRK
          have HWE := Lib.hid hw
          clear hst hzk HO HQ hup hw
          go_upto_region 11 with (fail)
          rw [HWE.out]
          have hy := (HB6.out.block _ (by have := HSZ.out; omega)).trans HY0.out
          obtain ⟨⟨p0, p1, p2⟩, f3, f4, f5⟩ := cellsq hy
          obtain ⟨w9, e9, ⟨r0, r1, r2⟩, hk, hs, hbl, _⟩ := set3q hy (.int .i64 0) (.slice none 0 0) (.slice none 0 0)
          have HE9 := Lib.hid e9
          have HR := Lib.hid (And.intro r0 (And.intro r1 r2))
          have HBE := Lib.hid (hbl W W.heap.size (by omega) (HBX.out.trans (HB6.out.mono HBX.out.size)))
          have HWC := Lib.hid (wc_none w9)
          have HRK9 := Lib.hid (rk_heapV HRK.out hk hs (.inl (fr_some (by have := HLE.out; omega))))
          clear hy e9 r0 r1 r2 hk hs hbl
          go_wp2
          rw [HE9.out]
          have r0 : w9.cell? _ = _ := HR.out.1
          have r1 : w9.cell? _ = _ := HR.out.2.1
          have r2 : w9.cell? _ = _ := HR.out.2.2
          refine bodyPost_ret (v := .tuple #[.slice (some ⟨gg, 0, none⟩) n c2, .agg #[.int .i64 0, .slice none 0 0, .slice none 0 0]]) (by simp [results, Tryd.results46, go_sem, r0, r1, r2]) rfl ?_
          rw [HLF.out.1, HLF.out.2]; exact ⟨_, _, _, 0, none, 0, 0, none, 0, 0, rfl, HRK9.out, HWC.out, HBE.out⟩
end Go.Proofs.YtnmegpplfbkpcaaDoor
