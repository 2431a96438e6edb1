/- edenlaw25.EveKeeps returns true. -/
import Derived.Test.YtoaooblodgejdaaDoorAwk25
import Derived.Test.YtoaooblodgejdaaDoorEvE
import Derived.Test.YtoaooblodgejdaaDoorLent
import Derived.Test.YtoaooblodgejdaaDoorApart
import Derived.Test.YtoaooblodgejdaaDoorApartN
import Derived.Deep.RegionHeld3
import Derived.Deep.Cut
import Derived.Deep.QuietTactic
import Derived.BigQuiet
namespace Go.Proofs.YtoaooblodgejdaaDoor
open Go.RowKit
set_option linter.unusedVariables false
set_option maxRecDepth 100000

abbrev BG : Nat := 1099511627776
theorem set5_cellF {w : World} {a : Addr} {v u0 u1 u2 u3 u4 : Value} {g : Nat} (h : w.cell? a = some v) (hne : a.block ≠ g) : (((((w.setCell ⟨g, 0, none⟩ u0).setCell ⟨g, 1, none⟩ u1).setCell ⟨g, 2, none⟩ u2).setCell ⟨g, 3, none⟩ u3).setCell ⟨g, 4, none⟩ u4).cell? a = some v := by
  rw [World.cell?_of_block (w := w)]
  · exact h
  · rw [Below.heap_setCell _ _ _ _ hne, Below.heap_setCell _ _ _ _ hne, Below.heap_setCell _ _ _ _ hne, Below.heap_setCell _ _ _ _ hne, Below.heap_setCell _ _ _ _ hne]
theorem f_box5 {w : World} {g : Nat} {x0 x1 x2 x3 x4 : Value} {t : TypeId} {fr : Nat × Nat} (h : w.heap[g]? = some (.cells #[x0, x1, x2, x3, x4] t fr)) (u0 u1 u2 u3 u4 : Value) : (((((w.setCell ⟨g, 0, none⟩ u0).setCell ⟨g, 1, none⟩ u1).setCell ⟨g, 2, none⟩ u2).setCell ⟨g, 3, none⟩ u3).setCell ⟨g, 4, none⟩ u4).heap[g]? = some (.cells #[u0, u1, u2, u3, u4] t fr) := by
  simp [World.setCell, Array.getElem?_modify, h]
theorem ap_tyK {w : World} {b1 b2 sz1 sz2 n1 n2 : Nat} {e1 e2 : TypeId} {v1 v2 : Value} {c1 c2 : List Value} (h1 : w.ownsRow b1 e1 sz1 v1 n1 c1) (h2 : w.ownsRow b2 e2 sz2 v2 n2 c2) (hne : e1 ≠ e2) : ∀ g, v1.ownBlock = some g → v2.ownBlock ≠ some g := by
  intro g hg1 hg2
  rcases h1.2 with ⟨rfl, _⟩ | ⟨g1, _, _, rfl, _, k1, _⟩
  · cases hg1
  rcases h2.2 with ⟨rfl, _⟩ | ⟨g2, _, _, rfl, _, k2, _⟩
  · cases hg2
  cases hg1; cases hg2
  rw [k1] at k2
  cases k2
  exact hne rfl
theorem two_cases {P : Nat → Prop} (h0 : P 0) (h1 : P 1) {q : Nat} (hq : q < 2) : P q := by
  rcases Nat.lt_or_ge q 1 with h | h
  · obtain rfl : q = 0 := by omega
    exact h0
  · obtain rfl : q = 1 := by omega
    exact h1
theorem apart_two (W0 : World) (base : Nat) (v1 v2 : ApI.It) (hbase : base ≤ W0.heap.size) (h1 : ∃ xs, W0.ownsRow base 3 1 (ApI.IV v1) v1.2.1 xs) (h2 : ∃ xs, W0.ownsRow base 3 1 (ApI.IV v2) v2.2.1 xs) (hap : Ap (ApI.IV v1) (ApI.IV v2)) (s1 : v1.2.1 * 8 ≤ 140737488350000) (s2 : v2.2.1 * 8 ≤ 140737488350000) :
    Calls Tryd.prog 20 #[.slice (some ⟨W0.heap.size, 0, none⟩) 2 2] (W0.alloc (.cells #[ApI.IV v1, ApI.IV v2] 22)) fun e w' => e = .returned (.bool true) ∧ Below base W0 w' ∧ ∀ b, b < W0.heap.size → (ApI.IV v1).ownBlock ≠ some b → (ApI.IV v2).ownBlock ≠ some b → w'.heap[b]? = W0.heap[b]? := by
  obtain ⟨x1, h1⟩ := h1
  obtain ⟨x2, h2⟩ := h2
  have S : ApI.St W0.heap.size [v1, v2] := by
    refine ⟨fun p q hp hq hne => ?_, fun q hq e => ?_, fun q hq => ?_, by simp⟩
    · have hp2 : p < 2 := hp
      have hq2 : q < 2 := hq
      rcases Nat.lt_or_ge p 1 with h | h
      · obtain rfl : p = 0 := by omega
        obtain rfl : q = 1 := by omega
        exact hap
      · obtain rfl : p = 1 := by omega
        obtain rfl : q = 0 := by omega
        exact hap.symm
    · have hq2 : q < 2 := hq
      rcases Nat.lt_or_ge q 1 with h | h
      · obtain rfl : q = 0 := by omega
        have := (h1.lt _ e).2
        omega
      · obtain rfl : q = 1 := by omega
        have := (h2.lt _ e).2
        omega
    · have hq2 : q < 2 := hq
      rcases Nat.lt_or_ge q 1 with h | h
      · obtain rfl : q = 0 := by omega
        exact s1
      · obtain rfl : q = 1 := by omega
        exact s2
  refine (ApI.apart_any W0.heap.size base [v1, v2] (W0.alloc (.cells #[ApI.IV v1, ApI.IV v2] 22)) S (by simp) (by simp; omega) (fun q hq => ?_) (fun q hq => ?_) 2 2 rfl).mono ?_
  · have hq2 : q < 2 := hq
    rcases Nat.lt_or_ge q 1 with h | h
    · obtain rfl : q = 0 := by omega
      exact cnw (by simp) rfl
    · obtain rfl : q = 1 := by omega
      exact cnw (by simp) rfl
  · have hq2 : q < 2 := hq
    rcases Nat.lt_or_ge q 1 with h | h
    · obtain rfl : q = 0 := by omega
      exact ⟨x1, h1.alloc _⟩
    · obtain rfl : q = 1 := by omega
      exact ⟨x2, h2.alloc _⟩
  · rintro e w' ⟨rfl, hb, ho⟩
    refine ⟨rfl, ((balloc (bnil W0) _).mono hbase).trans hb, fun b hb2 n1 n2 => ?_⟩
    rw [ho b (by simp; omega) (fun q hq => ?_)]
    · exact (balloc (bnil W0) _).block b hb2
    · have hq2 : q < 2 := hq
      rcases Nat.lt_or_ge q 1 with h | h
      · obtain rfl : q = 0 := by omega
        exact n1
      · obtain rfl : q = 1 := by omega
        exact n2
theorem apart_twoN (W0 : World) (base : Nat) (v1 v2 : ApN.It) (hbase : base ≤ W0.heap.size) (h1 : ∃ xs, W0.ownsRow base 47 1 (ApN.IV v1) v1.2.1 xs) (h2 : ∃ xs, W0.ownsRow base 47 1 (ApN.IV v2) v2.2.1 xs) (hap : Ap (ApN.IV v1) (ApN.IV v2)) (s1 : v1.2.1 * 8 ≤ 140737488350000) (s2 : v2.2.1 * 8 ≤ 140737488350000) :
    Calls Tryd.prog 21 #[.slice (some ⟨W0.heap.size, 0, none⟩) 2 2] (W0.alloc (.cells #[ApN.IV v1, ApN.IV v2] 34)) fun e w' => e = .returned (.bool true) ∧ Below base W0 w' ∧ ∀ b, b < W0.heap.size → (ApN.IV v1).ownBlock ≠ some b → (ApN.IV v2).ownBlock ≠ some b → w'.heap[b]? = W0.heap[b]? := by
  obtain ⟨x1, h1⟩ := h1
  obtain ⟨x2, h2⟩ := h2
  have S : ApN.St W0.heap.size [v1, v2] := by
    refine ⟨fun p q hp hq hne => ?_, fun q hq e => ?_, fun q hq => ?_, by simp⟩
    · have hp2 : p < 2 := hp
      have hq2 : q < 2 := hq
      rcases Nat.lt_or_ge p 1 with h | h
      · obtain rfl : p = 0 := by omega
        obtain rfl : q = 1 := by omega
        exact hap
      · obtain rfl : p = 1 := by omega
        obtain rfl : q = 0 := by omega
        exact hap.symm
    · have hq2 : q < 2 := hq
      rcases Nat.lt_or_ge q 1 with h | h
      · obtain rfl : q = 0 := by omega
        have := (h1.lt _ e).2
        omega
      · obtain rfl : q = 1 := by omega
        have := (h2.lt _ e).2
        omega
    · have hq2 : q < 2 := hq
      rcases Nat.lt_or_ge q 1 with h | h
      · obtain rfl : q = 0 := by omega
        exact s1
      · obtain rfl : q = 1 := by omega
        exact s2
  refine (ApN.apart_any W0.heap.size base [v1, v2] (W0.alloc (.cells #[ApN.IV v1, ApN.IV v2] 34)) S (by simp) (by simp; omega) (fun q hq => ?_) (fun q hq => ?_) 2 2 rfl).mono ?_
  · have hq2 : q < 2 := hq
    rcases Nat.lt_or_ge q 1 with h | h
    · obtain rfl : q = 0 := by omega
      exact cnw (by simp) rfl
    · obtain rfl : q = 1 := by omega
      exact cnw (by simp) rfl
  · have hq2 : q < 2 := hq
    rcases Nat.lt_or_ge q 1 with h | h
    · obtain rfl : q = 0 := by omega
      exact ⟨x1, h1.alloc _⟩
    · obtain rfl : q = 1 := by omega
      exact ⟨x2, h2.alloc _⟩
  · rintro e w' ⟨rfl, hb, ho⟩
    refine ⟨rfl, ((balloc (bnil W0) _).mono hbase).trans hb, fun b hb2 n1 n2 => ?_⟩
    rw [ho b (by simp; omega) (fun q hq => ?_)]
    · exact (balloc (bnil W0) _).block b hb2
    · have hq2 : q < 2 := hq
      rcases Nat.lt_or_ge q 1 with h | h
      · obtain rfl : q = 0 := by omega
        exact n1
      · obtain rfl : q = 1 := by omega
        exact n2
/-- with so many tries the budget is never used up -/
theorem keep_end {t l : List Int} {w h : Nat} (ht : IsTab t) (hp : IsPatch w h l) (w8 : w ≤ 8) (h4 : h ≤ 4) : (seekF t (colL w h l) h (4 * 2 ^ h) w (granted BG)).2 ≠ none := by
  have hs := seek_end ht hp w8 h4 (granted BG)
  have hb := (enough_le w8 h4).2
  have e1 : granted BG = 1099511627776 := by decide
  intro e
  have := (hs.err e).2; omega
set_option maxHeartbeats 32000000 in
theorem eve_keeps (w h : Int) (a aT : Option Addr) (n c nT cT : Nat) (l t : List Int) (W : World) (R : Nat → Addr) (hE : Sent W R) (hR : RK .i64 W a n l) (hm : n ≤ maxLen) (hx : I64 l) (hT : RK .i64 W aT nT t) (hmT : nT ≤ maxLen) :
    Calls Tryd.prog 3 #[.slice aT nT cT, patV w h a n c] W (TrueBelow W) := by
  have HI6 := Lib.hid hx

  have T0 := Tk.nil W
  have T1 := T0.add (fun wv => Below W.heap.size W wv) (bnil W)
  clear T0
  have T2 := T1.add (fun wv => Sent wv R) (hE)
  clear T1
  have T3 := T2.add (fun wv => RK .i64 wv a n l) (hR)
  clear T2
  have T4 := T3.add (fun wv => RK .i64 wv aT nT t) (hT)
  clear T3
  clear hE hR hx hT
  cases hed : evD t w h l with
  | some d =>
    have HED := Lib.hid hed
    have HCS : Hid (∀ aL nL W, Sent W R → RK .i64 W a n l → RK .i64 W aT nT t → NR W aL nL (limbs BG) → nL ≤ 2 → _) := fun aL nL W hS hR hT _ _ => evsearch_er w h a aT n c nT cT l t W R hS hR hm HI6.out hT hmT d HED.out aL nL 2
    clear hed
    obtain ⟨Wb, hWb⟩ : ∃ Wb, W.alloc (.cells #[.int .i64 w, .int .i64 h, .slice a n c] 24) = Wb := ⟨_, rfl⟩
    have hbWb : Below W.heap.size W Wb := by rw [← hWb]; exact balloc (bnil W) _
    have T5 := T4.up hbWb
    clear T4
    have T6 := T5.add (fun wv => wv.cell? ⟨W.heap.size, 0, none⟩ = some (.int .i64 w) ∧ wv.cell? ⟨W.heap.size, 1, none⟩ = some (.int .i64 h) ∧ wv.cell? ⟨W.heap.size, 2, none⟩ = some (.slice a n c)) (by rw [← hWb]; exact ⟨cnw (by simp) rfl, cnw (by simp) rfl, cnw (by simp) rfl⟩)
    clear T5
    have HWb := Lib.hid hWb
    clear hWb hbWb
    go_enter Tryd.func3, Tryd.ntmps3
    go_wp2_with fail
    rw [HWb.out]
    refine (awake25_any Wb R T6.out.1.1.1.2).mono ?_; rintro e wk1 ⟨rfl, hbwk1⟩
    have T7 := T6.up hbwk1
    clear T6
    by_cases q3 : (3 : Int) < w
    · skip
      have v_p0 : wk1.cell? ⟨W.heap.size, 0, none⟩ = some (.int .i64 w) := T7.out.2.1
      have v_p1 : wk1.cell? ⟨W.heap.size, 1, none⟩ = some (.int .i64 h) := T7.out.2.2.1
      have v_p2 : wk1.cell? ⟨W.heap.size, 2, none⟩ = some (.slice a n c) := T7.out.2.2.2
      go_wp2
      go_ret
      exact ⟨rfl, T7.out.1.1.1.1.2⟩
    by_cases q4 : (2 : Int) < h
    · skip
      have v_p0 : wk1.cell? ⟨W.heap.size, 0, none⟩ = some (.int .i64 w) := T7.out.2.1
      have v_p1 : wk1.cell? ⟨W.heap.size, 1, none⟩ = some (.int .i64 h) := T7.out.2.2.1
      have v_p2 : wk1.cell? ⟨W.heap.size, 2, none⟩ = some (.slice a n c) := T7.out.2.2.2
      go_wp2
      go_ret
      exact ⟨rfl, T7.out.1.1.1.1.2⟩
    have HS0 : Hid (wk1.drew.cell? ⟨W.heap.size, 0, none⟩ = some (.int .i64 w) ∧ wk1.drew.cell? ⟨W.heap.size, 1, none⟩ = some (.int .i64 h) ∧ wk1.drew.cell? ⟨W.heap.size, 2, none⟩ = some (.slice a n c)) := ⟨T7.out.2.1, T7.out.2.2.1, T7.out.2.2.2⟩
    have HS1 : Hid ((wk1.alloc fz).drew.cell? ⟨W.heap.size, 0, none⟩ = some (.int .i64 w) ∧ (wk1.alloc fz).drew.cell? ⟨W.heap.size, 1, none⟩ = some (.int .i64 h) ∧ (wk1.alloc fz).drew.cell? ⟨W.heap.size, 2, none⟩ = some (.slice a n c)) := ⟨al000 (T7.out.2.1), al000 (T7.out.2.2.1), al000 (T7.out.2.2.2)⟩
    have D0 : Hid (Below wk1.heap.size wk1 wk1.drew) := Below.drew (bnil _)
    have hgw : W.heap.size < wk1.heap.size := World.block_lt_of_cell? _ _ (T7.out.2.1)
    have HGW := Lib.hid hgw
    clear hgw
    have HRP := Lib.hid (T7.out.1.1.2)
    have HRT := Lib.hid (T7.out.1.2)
    have HSE := Lib.hid (T7.out.1.1.1.2)
    have HJ : Hid (∀ (w' : World) (aL : Option Addr) (nL : Nat), Below wk1.heap.size wk1 w' → NR w' aL nL (limbs BG) → nL ≤ 2 → Calls Tryd.prog 15 #[.slice aT nT cT, .agg #[.int .i64 w, .int .i64 h, .slice a n c], .slice aL nL 2] w' (fun e w2 => ∃ t9 p9, e = .returned (.tuple #[.agg #[.int .i64 0, .int .i64 0, .int .i64 0, .slice none 0 0, .slice none 0 0], .int .i64 0, .iface t9 p9]) ∧ Below w'.heap.size w' w2 ∧ Below wk1.heap.size wk1 w2)) := by
      intro w' aL nL hb h3 hn2
      refine (HCS.out aL nL w' (HSE.out.up hb) (HRP.out.up hb) (HRT.out.up hb) h3 hn2).mono ?_
      rintro e w2 ⟨t9, p9, rfl, _, hb2⟩
      exact ⟨_, _, rfl, hb2, bstep hb hb2⟩
    have v_p0 : wk1.cell? ⟨W.heap.size, 0, none⟩ = some (.int .i64 w) := T7.out.2.1
    have v_p1 : wk1.cell? ⟨W.heap.size, 1, none⟩ = some (.int .i64 h) := T7.out.2.2.1
    have v_p2 : wk1.cell? ⟨W.heap.size, 2, none⟩ = some (.slice a n c) := T7.out.2.2.2
    go_upto_region 5 with (fail)
    go_cut [5, 6, 7] from 19 (fun sf sn se wx => ∃ (g : Nat) (t9 : TypeId) (p9 : Value), sf = .pointer (some ⟨g, 0, none⟩) ∧ sn = .int .i64 0 ∧ se = .iface t9 p9 ∧ wk1.heap.size ≤ g ∧ wx.heap[g]? = some (.cells #[.int .i64 0, .int .i64 0, .int .i64 0, .slice none 0 0, .slice none 0 0] 28) ∧ Below wk1.heap.size wk1 wx)
    case first =>
      go_region_held3 (fun w' => w'.cell? ⟨W.heap.size, 0, none⟩ = some (.int .i64 w) ∧ w'.cell? ⟨W.heap.size, 1, none⟩ = some (.int .i64 h) ∧ w'.cell? ⟨W.heap.size, 2, none⟩ = some (.slice a n c))
        (first | with_reducible exact HS6.out | with_reducible exact HS5.out | with_reducible exact HS0.out | with_reducible exact HS1.out | with_reducible exact ⟨al000 HS6.out.1, al000 HS6.out.2.1, al000 HS6.out.2.2⟩ | with_reducible exact ⟨al000 HS5.out.1, al000 HS5.out.2.1, al000 HS5.out.2.2⟩ | with_reducible exact ⟨set5_cellF (HS6.out).1 (by have q := HG8.out; show W.heap.size ≠ _; omega), set5_cellF (HS6.out).2.1 (by have q := HG8.out; show W.heap.size ≠ _; omega), set5_cellF (HS6.out).2.2 (by have q := HG8.out; show W.heap.size ≠ _; omega)⟩ | go_keep)
        (first
          | (go_at_call 16; refine (from_any 1099511627776 _ (by decide)).mono ?_; rintro e w1 ⟨n1, rfl, ho1, hn1, hb1⟩; have HN1 := Lib.hid hn1.le; (first | (have HB1 : Hid (Below wk1.heap.size wk1 w1) := Lib.hid (by with_reducible exact bstep D0.out hb1); have HR1 : Hid (NR w1 (some ⟨wk1.heap.size, 0, none⟩) n1 (limbs BG)) := hn1.nr; have HS5 := Lib.hid (And.intro (cpa hb1 (HS0.out).1) (And.intro (cpa hb1 (HS0.out).2.1) (cpa hb1 (HS0.out).2.2)))) | (have HB1 : Hid (Below wk1.heap.size wk1 w1) := bstep (Below.drew (balloc (bnil _) _)) hb1; have HR1 : Hid (NR w1 (some ⟨wk1.heap.size + 1, 0, none⟩) n1 (limbs BG)) := (by have q := hn1.nr; rw [show (wk1.alloc fz).drew.heap.size = wk1.heap.size + 1 from (by show (wk1.alloc fz).heap.size = _; simp)] at q; exact q); have HS5 := Lib.hid (And.intro (cpa hb1 (HS1.out).1) (And.intro (cpa hb1 (HS1.out).2.1) (cpa hb1 (HS1.out).2.2))); refine contF (show Hid (w1.heap[wk1.heap.size]? = some fz) from heapF hb1 ?_) ?_; (focus ((repeat (first | with_reducible exact hnewF rfl | with_reducible refine hnewF (Eq.refl _) | (with_reducible refine hnewF ?_; (focus (simp; done))) | with_reducible refine hallocF ?_ | with_reducible refine hdrewF ?_)); done)); intro HZ1)); clear ho1 hn1 hb1)
          | (go_at_call 15; (first
              | ((with_reducible refine (HJ.out w1 _ _ HB1.out HR1.out HN1.out).mono ?_); rintro e w2 ⟨t9, p9, rfl, hb2, hb3⟩; have HB2 := Lib.hid hb3; have HS6 := Lib.hid (And.intro (cpa hb2 (HS5.out).1) (And.intro (cpa hb2 (HS5.out).2.1) (cpa hb2 (HS5.out).2.2))); (first | (have q := HZ1; have HZ2 : Hid (w2.heap[wk1.heap.size]? = some fz) := heapF hb2 q.out; have HG8 : Hid (W.heap.size < wk1.heap.size ∧ wk1.heap.size ≤ wk1.heap.size ∧ wk1.heap.size < w1.heap.size) := ⟨HGW.out, Nat.le_refl _, heap_ltT q.out⟩; have zz := f_cells HZ2.out; have z0 := zz.1.1; have z1 := zz.1.2.1; have z2 := zz.1.2.2.1; have z3 := zz.1.2.2.2.1; have z4 := zz.1.2.2.2.2; have zf0 := zz.2 0; have zf1 := zz.2 1; have zf2 := zz.2 2; have zf3 := zz.2 3; have zf4 := zz.2 4; clear zz) | skip); clear hb2 hb3)
              | ((with_reducible refine (HJ.out (w1.alloc fz) _ _ (balloc HB1.out _) (HR1.out.up (balloc (bnil _) _)) HN1.out).mono ?_); rintro e w2 ⟨t9, p9, rfl, hb2, hb3⟩; have HB2 := Lib.hid hb3; have HS6 := Lib.hid (And.intro (cpa hb2 (al000 (HS5.out).1)) (And.intro (cpa hb2 (al000 (HS5.out).2.1)) (cpa hb2 (al000 (HS5.out).2.2)))); (have HZ2 : Hid (w2.heap[w1.heap.size]? = some fz) := heapF hb2 (hnewF rfl); have HG8 : Hid (W.heap.size < w1.heap.size ∧ wk1.heap.size ≤ w1.heap.size ∧ w1.heap.size < (w1.alloc fz).heap.size) := ⟨Nat.lt_of_lt_of_le HGW.out HB1.out.size, HB1.out.size, by simp⟩; have zz := f_cells HZ2.out; have z0 := zz.1.1; have z1 := zz.1.2.1; have z2 := zz.1.2.2.1; have z3 := zz.1.2.2.2.1; have z4 := zz.1.2.2.2.2; have zf0 := zz.2 0; have zf1 := zz.2 1; have zf2 := zz.2 2; have zf3 := zz.2 3; have zf4 := zz.2 4; clear zz); clear hb2 hb3))))
      all_goals
        go_wp2_with fail
        go_meet
        first
          | (have q := HZ2; obtain ⟨wA, eA, r, hkA, hsA, hbA⟩ := set5f q.out (.int .i64 0) (.int .i64 0) (.int .i64 0) (.slice none 0 0) (.slice none 0 0); have eB := f_box5 q.out (.int .i64 0) (.int .i64 0) (.int .i64 0) (.slice none 0 0) (.slice none 0 0); rw [eA] at eB ⊢; exact ⟨_, _, _, rfl, rfl, rfl, HG8.out.2.1, eB, hbA _ _ HG8.out.2.1 HB2.out⟩)
          | (exact ⟨_, _, _, rfl, rfl, rfl, HB2.out.size, heap_alloc_new w2 _, balloc HB2.out _⟩)
    case rest =>
      clear v_p0 v_p1 v_p2
      obtain ⟨g5, t5, p5, rfl, rfl, rfl, hgl, hgb, hbx⟩ := hcut
      clear HS0 HS1 D0 HGW HRP HRT HSE HJ
      generalize wc = wa at *
      have T8 := T7.up hbx
      clear T7
      clear hgl hgb hbx
      have HS0 : Hid (wa.drew.cell? ⟨W.heap.size, 0, none⟩ = some (.int .i64 w) ∧ wa.drew.cell? ⟨W.heap.size, 1, none⟩ = some (.int .i64 h) ∧ wa.drew.cell? ⟨W.heap.size, 2, none⟩ = some (.slice a n c)) := ⟨T8.out.2.1, T8.out.2.2.1, T8.out.2.2.2⟩
      have HS1 : Hid ((wa.alloc fz).drew.cell? ⟨W.heap.size, 0, none⟩ = some (.int .i64 w) ∧ (wa.alloc fz).drew.cell? ⟨W.heap.size, 1, none⟩ = some (.int .i64 h) ∧ (wa.alloc fz).drew.cell? ⟨W.heap.size, 2, none⟩ = some (.slice a n c)) := ⟨al000 (T8.out.2.1), al000 (T8.out.2.2.1), al000 (T8.out.2.2.2)⟩
      have D0 : Hid (Below wa.heap.size wa wa.drew) := Below.drew (bnil _)
      have hgw : W.heap.size < wa.heap.size := World.block_lt_of_cell? _ _ (T8.out.2.1)
      have HGW := Lib.hid hgw
      clear hgw
      have HRP := Lib.hid (T8.out.1.1.2)
      have HRT := Lib.hid (T8.out.1.2)
      have HSE := Lib.hid (T8.out.1.1.1.2)
      have HJ : Hid (∀ (w' : World) (aL : Option Addr) (nL : Nat), Below wa.heap.size wa w' → NR w' aL nL (limbs BG) → nL ≤ 2 → Calls Tryd.prog 15 #[.slice aT nT cT, .agg #[.int .i64 w, .int .i64 h, .slice a n c], .slice aL nL 2] w' (fun e w2 => ∃ t9 p9, e = .returned (.tuple #[.agg #[.int .i64 0, .int .i64 0, .int .i64 0, .slice none 0 0, .slice none 0 0], .int .i64 0, .iface t9 p9]) ∧ Below w'.heap.size w' w2 ∧ Below wa.heap.size wa w2)) := by
        intro w' aL nL hb h3 hn2
        refine (HCS.out aL nL w' (HSE.out.up hb) (HRP.out.up hb) (HRT.out.up hb) h3 hn2).mono ?_
        rintro e w2 ⟨t9, p9, rfl, _, hb2⟩
        exact ⟨_, _, rfl, hb2, bstep hb hb2⟩
      have v_p0 : wa.cell? ⟨W.heap.size, 0, none⟩ = some (.int .i64 w) := T8.out.2.1
      have v_p1 : wa.cell? ⟨W.heap.size, 1, none⟩ = some (.int .i64 h) := T8.out.2.2.1
      have v_p2 : wa.cell? ⟨W.heap.size, 2, none⟩ = some (.slice a n c) := T8.out.2.2.2
      go_upto_region 6 with (fail)
      go_cut [8, 9, 10] from 19 (fun sf sn se wx => ∃ (g : Nat) (t9 : TypeId) (p9 : Value), sf = .pointer (some ⟨g, 0, none⟩) ∧ sn = .int .i64 0 ∧ se = .iface t9 p9 ∧ wa.heap.size ≤ g ∧ wx.heap[g]? = some (.cells #[.int .i64 0, .int .i64 0, .int .i64 0, .slice none 0 0, .slice none 0 0] 28) ∧ Below wa.heap.size wa wx)
      case first =>
        go_region_held3 (fun w' => w'.cell? ⟨W.heap.size, 0, none⟩ = some (.int .i64 w) ∧ w'.cell? ⟨W.heap.size, 1, none⟩ = some (.int .i64 h) ∧ w'.cell? ⟨W.heap.size, 2, none⟩ = some (.slice a n c))
          (first | with_reducible exact HS6.out | with_reducible exact HS5.out | with_reducible exact HS0.out | with_reducible exact HS1.out | with_reducible exact ⟨al000 HS6.out.1, al000 HS6.out.2.1, al000 HS6.out.2.2⟩ | with_reducible exact ⟨al000 HS5.out.1, al000 HS5.out.2.1, al000 HS5.out.2.2⟩ | with_reducible exact ⟨set5_cellF (HS6.out).1 (by have q := HG8.out; show W.heap.size ≠ _; omega), set5_cellF (HS6.out).2.1 (by have q := HG8.out; show W.heap.size ≠ _; omega), set5_cellF (HS6.out).2.2 (by have q := HG8.out; show W.heap.size ≠ _; omega)⟩ | go_keep)
          (first
            | (go_at_call 16; refine (from_any 1099511627776 _ (by decide)).mono ?_; rintro e w1 ⟨n1, rfl, ho1, hn1, hb1⟩; have HN1 := Lib.hid hn1.le; (first | (have HB1 : Hid (Below wa.heap.size wa w1) := Lib.hid (by with_reducible exact bstep D0.out hb1); have HR1 : Hid (NR w1 (some ⟨wa.heap.size, 0, none⟩) n1 (limbs BG)) := hn1.nr; have HS5 := Lib.hid (And.intro (cpa hb1 (HS0.out).1) (And.intro (cpa hb1 (HS0.out).2.1) (cpa hb1 (HS0.out).2.2)))) | (have HB1 : Hid (Below wa.heap.size wa w1) := bstep (Below.drew (balloc (bnil _) _)) hb1; have HR1 : Hid (NR w1 (some ⟨wa.heap.size + 1, 0, none⟩) n1 (limbs BG)) := (by have q := hn1.nr; rw [show (wa.alloc fz).drew.heap.size = wa.heap.size + 1 from (by show (wa.alloc fz).heap.size = _; simp)] at q; exact q); have HS5 := Lib.hid (And.intro (cpa hb1 (HS1.out).1) (And.intro (cpa hb1 (HS1.out).2.1) (cpa hb1 (HS1.out).2.2))); refine contF (show Hid (w1.heap[wa.heap.size]? = some fz) from heapF hb1 ?_) ?_; (focus ((repeat (first | with_reducible exact hnewF rfl | with_reducible refine hnewF (Eq.refl _) | (with_reducible refine hnewF ?_; (focus (simp; done))) | with_reducible refine hallocF ?_ | with_reducible refine hdrewF ?_)); done)); intro HZ1)); clear ho1 hn1 hb1)
            | (go_at_call 15; (first
                | ((with_reducible refine (HJ.out w1 _ _ HB1.out HR1.out HN1.out).mono ?_); rintro e w2 ⟨t9, p9, rfl, hb2, hb3⟩; have HB2 := Lib.hid hb3; have HS6 := Lib.hid (And.intro (cpa hb2 (HS5.out).1) (And.intro (cpa hb2 (HS5.out).2.1) (cpa hb2 (HS5.out).2.2))); (first | (have q := HZ1; have HZ2 : Hid (w2.heap[wa.heap.size]? = some fz) := heapF hb2 q.out; have HG8 : Hid (W.heap.size < wa.heap.size ∧ wa.heap.size ≤ wa.heap.size ∧ wa.heap.size < w1.heap.size) := ⟨HGW.out, Nat.le_refl _, heap_ltT q.out⟩; have zz := f_cells HZ2.out; have z0 := zz.1.1; have z1 := zz.1.2.1; have z2 := zz.1.2.2.1; have z3 := zz.1.2.2.2.1; have z4 := zz.1.2.2.2.2; have zf0 := zz.2 0; have zf1 := zz.2 1; have zf2 := zz.2 2; have zf3 := zz.2 3; have zf4 := zz.2 4; clear zz) | skip); clear hb2 hb3)
                | ((with_reducible refine (HJ.out (w1.alloc fz) _ _ (balloc HB1.out _) (HR1.out.up (balloc (bnil _) _)) HN1.out).mono ?_); rintro e w2 ⟨t9, p9, rfl, hb2, hb3⟩; have HB2 := Lib.hid hb3; have HS6 := Lib.hid (And.intro (cpa hb2 (al000 (HS5.out).1)) (And.intro (cpa hb2 (al000 (HS5.out).2.1)) (cpa hb2 (al000 (HS5.out).2.2)))); (have HZ2 : Hid (w2.heap[w1.heap.size]? = some fz) := heapF hb2 (hnewF rfl); have HG8 : Hid (W.heap.size < w1.heap.size ∧ wa.heap.size ≤ w1.heap.size ∧ w1.heap.size < (w1.alloc fz).heap.size) := ⟨Nat.lt_of_lt_of_le HGW.out HB1.out.size, HB1.out.size, by simp⟩; have zz := f_cells HZ2.out; have z0 := zz.1.1; have z1 := zz.1.2.1; have z2 := zz.1.2.2.1; have z3 := zz.1.2.2.2.1; have z4 := zz.1.2.2.2.2; have zf0 := zz.2 0; have zf1 := zz.2 1; have zf2 := zz.2 2; have zf3 := zz.2 3; have zf4 := zz.2 4; clear zz); clear hb2 hb3))))
        all_goals
          go_wp2_with fail
          go_meet
          first
            | (have q := HZ2; obtain ⟨wA, eA, r, hkA, hsA, hbA⟩ := set5f q.out (.int .i64 0) (.int .i64 0) (.int .i64 0) (.slice none 0 0) (.slice none 0 0); have eB := f_box5 q.out (.int .i64 0) (.int .i64 0) (.int .i64 0) (.slice none 0 0) (.slice none 0 0); rw [eA] at eB ⊢; exact ⟨_, _, _, rfl, rfl, rfl, HG8.out.2.1, eB, hbA _ _ HG8.out.2.1 HB2.out⟩)
            | (exact ⟨_, _, _, rfl, rfl, rfl, HB2.out.size, heap_alloc_new w2 _, balloc HB2.out _⟩)
      case rest =>
        clear v_p0 v_p1 v_p2
        obtain ⟨g6, t6, p6, rfl, rfl, rfl, hgl, hgb, hbx⟩ := hcut
        clear HS0 HS1 D0 HGW HRP HRT HSE HJ
        generalize wc = wb at *
        have T9 := T8.up hbx
        clear T8
        clear hgl hgb hbx
        have v_p0 : wb.cell? ⟨W.heap.size, 0, none⟩ = some (.int .i64 w) := T9.out.2.1
        have v_p1 : wb.cell? ⟨W.heap.size, 1, none⟩ = some (.int .i64 h) := T9.out.2.2.1
        have v_p2 : wb.cell? ⟨W.heap.size, 2, none⟩ = some (.slice a n c) := T9.out.2.2.2
        go_wp2_with fail
        refine (evcount_er w h a aT n c nT cT l t wb R T9.out.1.1.1.2 T9.out.1.1.2 hm HI6.out T9.out.1.2 hmT d HED.out).mono ?_; rintro e wc7 ⟨t7, p7, rfl, _, hbwc7⟩
        clear v_p0 v_p1 v_p2
        have T10 := T9.up hbwc7
        clear T9
        have v_p0 : wc7.cell? ⟨W.heap.size, 0, none⟩ = some (.int .i64 w) := T10.out.2.1
        have v_p1 : wc7.cell? ⟨W.heap.size, 1, none⟩ = some (.int .i64 h) := T10.out.2.2.1
        have v_p2 : wc7.cell? ⟨W.heap.size, 2, none⟩ = some (.slice a n c) := T10.out.2.2.2
        go_wp2_with fail
        refine (evcount_er w h a aT n c nT cT l t wc7 R T10.out.1.1.1.2 T10.out.1.1.2 hm HI6.out T10.out.1.2 hmT d HED.out).mono ?_; rintro e wc8 ⟨t8, p8, rfl, _, hbwc8⟩
        clear v_p0 v_p1 v_p2
        have T11 := T10.up hbwc8
        clear T10
        go_wp2
        go_ret
        exact ⟨rfl, T11.out.1.1.1.1.2⟩
  | none =>
    obtain ⟨w, h, rfl, rfl, hpp, htb, hw8, hh4⟩ := evD_none hed
    have HPP := Lib.hid hpp
    have HT := Lib.hid htb
    have hse := seek_end htb hpp hw8 hh4 (granted BG)
    have hke := keep_end htb hpp hw8 hh4
    have c_s := fun bT oT aL nL W hS hR hT hL hn2 => evsearch_ok w h a n c bT oT cT l t aL nL 2 (limbs BG) W R hS hR hm HI6.out hT hL hn2 (by unfold maxLen; omega) htb hpp hw8 hh4
    rw [val_limbs] at c_s
    obtain ⟨X, hX⟩ : ∃ X, seekF t (colL w h l) h (4 * 2 ^ h) w (granted BG) = X := ⟨_, rfl⟩
    obtain ⟨CN, hCN⟩ : ∃ CN, cntN t (colL w h l) h (4 * 2 ^ h) w = CN := ⟨_, rfl⟩
    have c_c := fun bT oT W hS hR hT => evcount_ok w h a n c bT oT cT l t W R hS hR hm HI6.out hT htb hpp hw8 hh4
    simp only [hX] at c_s
    simp only [hCN] at c_c
    rw [hX] at hse hke
    obtain ⟨S, o⟩ := X
    obtain ⟨T, hTT⟩ : ∃ T, S.tries = T := ⟨_, rfl⟩
    simp only [hTT] at c_s
    have HC9 := Lib.hid c_s
    have HCC := Lib.hid c_c
    have HSN := Lib.hid hse
    clear hpp htb c_s c_c hX hCN hed hTT hse
    obtain rfl : nT = 512 := (T4.out.2).len.trans HT.out.len
    obtain ⟨bT, oT, hbo, _⟩ := (T4.out.2).addr (by omega)
    subst hbo
    cases o with
    | none => exact absurd rfl hke
    | some o8 =>
      clear hke
      cases o8 with
      | true =>
        obtain ⟨v, hv1, hv2, hv3, hv4, hv5⟩ := HSN.out.patch rfl
        have hll := hv4.len
        obtain ⟨L, hL⟩ : ∃ L, joinL (h + 2) (colsV v w) = L := ⟨_, rfl⟩
        rw [hL] at hll
        have hL60 : L.length ≤ 60 := by rw [hll]; exact Nat.mul_le_mul (show w + 2 ≤ 10 by omega) (show h + 2 ≤ 6 by omega)
        obtain ⟨A, hA⟩ : ∃ A, w + 2 = A := ⟨_, rfl⟩
        obtain ⟨B, hB⟩ : ∃ B, h + 2 = B := ⟨_, rfl⟩
        have HCS : Hid (∀ aL nL W, Sent W R → RK .i64 W a n l → RK .i64 W (some ⟨bT, oT, none⟩) 512 t → NR W aL nL (limbs BG) → nL ≤ 2 → Calls Tryd.prog 15 #[.slice (some ⟨bT, oT, none⟩) 512 cT, .agg #[.int .i64 (w : Nat), .int .i64 (h : Nat), .slice a n c], .slice aL nL 2] W (fun e w' => ∃ a8 n8 c8, e = .returned (.tuple #[.agg #[.int .i64 1, .int .i64 (A : Nat), .int .i64 (B : Nat), .slice a8 n8 c8, .slice none 0 0], .int .i64 (T : Nat), .nilIface]) ∧ OwI w' W.heap.size a8 n8 c8 L ∧ Below W.heap.size W w')) := by
          intro aL nL W hS hR hT hL8 hn2
          refine (HC9.out bT oT aL nL W hS hR hT hL8 hn2).mono ?_
          rintro e w2 ⟨vf, ev, rfl, hb2, hq⟩
          obtain ⟨a8, n8, c8, rfl, rfl, ho8⟩ : ∃ a n c, vf = fndV 1 ((w + 2 : Nat) : Int) ((h + 2 : Nat) : Int) a n c none 0 0 ∧ ev = .nilIface ∧ OwI w2 _ a n c (joinL (h + 2) S.way.reverse) := hq
          rw [hv1, hL] at ho8
          rw [hA, hB]
          exact ⟨a8, n8, c8, rfl, ho8, hb2⟩
        clear hv1 hv2 hv3 hv4 hv5 hll hL hA hB
        have HL60 := Lib.hid hL60
        clear hL60
        obtain ⟨Wb, hWb⟩ : ∃ Wb, W.alloc (.cells #[.int .i64 w, .int .i64 h, .slice a n c] 24) = Wb := ⟨_, rfl⟩
        have hbWb : Below W.heap.size W Wb := by rw [← hWb]; exact balloc (bnil W) _
        have T5 := T4.up hbWb
        clear T4
        have T6 := T5.add (fun wv => wv.cell? ⟨W.heap.size, 0, none⟩ = some (.int .i64 w) ∧ wv.cell? ⟨W.heap.size, 1, none⟩ = some (.int .i64 h) ∧ wv.cell? ⟨W.heap.size, 2, none⟩ = some (.slice a n c)) (by rw [← hWb]; exact ⟨cnw (by simp) rfl, cnw (by simp) rfl, cnw (by simp) rfl⟩)
        clear T5
        have HWb := Lib.hid hWb
        clear hWb hbWb
        go_enter Tryd.func3, Tryd.ntmps3
        go_wp2_with fail
        rw [HWb.out]
        refine (awake25_any Wb R T6.out.1.1.1.2).mono ?_; rintro e wk1 ⟨rfl, hbwk1⟩
        have T7 := T6.up hbwk1
        clear T6
        by_cases q3 : (3 : Int) < w
        · skip
          have v_p0 : wk1.cell? ⟨W.heap.size, 0, none⟩ = some (.int .i64 w) := T7.out.2.1
          have v_p1 : wk1.cell? ⟨W.heap.size, 1, none⟩ = some (.int .i64 h) := T7.out.2.2.1
          have v_p2 : wk1.cell? ⟨W.heap.size, 2, none⟩ = some (.slice a n c) := T7.out.2.2.2
          go_wp2
          go_ret
          exact ⟨rfl, T7.out.1.1.1.1.2⟩
        by_cases q4 : (2 : Int) < h
        · skip
          have v_p0 : wk1.cell? ⟨W.heap.size, 0, none⟩ = some (.int .i64 w) := T7.out.2.1
          have v_p1 : wk1.cell? ⟨W.heap.size, 1, none⟩ = some (.int .i64 h) := T7.out.2.2.1
          have v_p2 : wk1.cell? ⟨W.heap.size, 2, none⟩ = some (.slice a n c) := T7.out.2.2.2
          go_wp2
          go_ret
          exact ⟨rfl, T7.out.1.1.1.1.2⟩
        have HS5z : Hid (W.heap.size ≤ wk1.heap.size) := (T7.out.1.1.1.1.2).size
        have HS0 : Hid (wk1.drew.cell? ⟨W.heap.size, 0, none⟩ = some (.int .i64 w) ∧ wk1.drew.cell? ⟨W.heap.size, 1, none⟩ = some (.int .i64 h) ∧ wk1.drew.cell? ⟨W.heap.size, 2, none⟩ = some (.slice a n c)) := ⟨T7.out.2.1, T7.out.2.2.1, T7.out.2.2.2⟩
        have HS1 : Hid ((wk1.alloc fz).drew.cell? ⟨W.heap.size, 0, none⟩ = some (.int .i64 w) ∧ (wk1.alloc fz).drew.cell? ⟨W.heap.size, 1, none⟩ = some (.int .i64 h) ∧ (wk1.alloc fz).drew.cell? ⟨W.heap.size, 2, none⟩ = some (.slice a n c)) := ⟨al000 (T7.out.2.1), al000 (T7.out.2.2.1), al000 (T7.out.2.2.2)⟩
        have D0 : Hid (Below wk1.heap.size wk1 wk1.drew) := Below.drew (bnil _)
        have hgw : W.heap.size < wk1.heap.size := World.block_lt_of_cell? _ _ (T7.out.2.1)
        have HGW := Lib.hid hgw
        clear hgw
        have HRP := Lib.hid (T7.out.1.1.2)
        have HRT := Lib.hid (T7.out.1.2)
        have HSE := Lib.hid (T7.out.1.1.1.2)
        have HJ : Hid (∀ (w' : World) (aL : Option Addr) (nL : Nat), Below wk1.heap.size wk1 w' → NR w' aL nL (limbs BG) → nL ≤ 2 → Calls Tryd.prog 15 #[.slice (some ⟨bT, oT, none⟩) 512 cT, .agg #[.int .i64 w, .int .i64 h, .slice a n c], .slice aL nL 2] w' (fun e w2 => ∃ a8 n8 c8, e = .returned (.tuple #[.agg #[.int .i64 1, .int .i64 (A : Nat), .int .i64 (B : Nat), .slice a8 n8 c8, .slice none 0 0], .int .i64 (T : Nat), .nilIface]) ∧ OwI w2 w'.heap.size a8 n8 c8 L ∧ Below w'.heap.size w' w2 ∧ Below wk1.heap.size wk1 w2)) := by
          intro w' aL nL hb h3 hn2
          refine (HCS.out aL nL w' (HSE.out.up hb) (HRP.out.up hb) (HRT.out.up hb) h3 hn2).mono ?_
          rintro e w2 ⟨a8, n8, c8, rfl, how, hb2⟩
          exact ⟨a8, n8, c8, rfl, how, hb2, bstep hb hb2⟩
        have v_p0 : wk1.cell? ⟨W.heap.size, 0, none⟩ = some (.int .i64 w) := T7.out.2.1
        have v_p1 : wk1.cell? ⟨W.heap.size, 1, none⟩ = some (.int .i64 h) := T7.out.2.2.1
        have v_p2 : wk1.cell? ⟨W.heap.size, 2, none⟩ = some (.slice a n c) := T7.out.2.2.2
        go_upto_region 5 with (fail)
        go_cut [5, 6, 7] from 19 (fun sf sn se wx => ∃ (g : Nat) (a8 : Option Addr) (n8 c8 : Nat), sf = .pointer (some ⟨g, 0, none⟩) ∧ sn = .int .i64 (T : Nat) ∧ se = .nilIface ∧ wk1.heap.size ≤ g ∧ wx.heap[g]? = some (.cells #[.int .i64 1, .int .i64 (A : Nat), .int .i64 (B : Nat), .slice a8 n8 c8, .slice none 0 0] 28) ∧ OwI wx wk1.heap.size a8 n8 c8 L ∧ Below wk1.heap.size wk1 wx)
        case first =>
          go_region_held3 (fun w' => w'.cell? ⟨W.heap.size, 0, none⟩ = some (.int .i64 w) ∧ w'.cell? ⟨W.heap.size, 1, none⟩ = some (.int .i64 h) ∧ w'.cell? ⟨W.heap.size, 2, none⟩ = some (.slice a n c))
            (first | with_reducible exact HS6.out | with_reducible exact HS5.out | with_reducible exact HS0.out | with_reducible exact HS1.out | with_reducible exact ⟨al000 HS6.out.1, al000 HS6.out.2.1, al000 HS6.out.2.2⟩ | with_reducible exact ⟨al000 HS5.out.1, al000 HS5.out.2.1, al000 HS5.out.2.2⟩ | with_reducible exact ⟨set5_cellF (HS6.out).1 (by have q := HG8.out; show W.heap.size ≠ _; omega), set5_cellF (HS6.out).2.1 (by have q := HG8.out; show W.heap.size ≠ _; omega), set5_cellF (HS6.out).2.2 (by have q := HG8.out; show W.heap.size ≠ _; omega)⟩ | go_keep)
            (first
              | (go_at_call 16; refine (from_any 1099511627776 _ (by decide)).mono ?_; rintro e w1 ⟨n1, rfl, ho1, hn1, hb1⟩; have HN1 := Lib.hid hn1.le; (first | (have HB1 : Hid (Below wk1.heap.size wk1 w1) := Lib.hid (by with_reducible exact bstep D0.out hb1); have HR1 : Hid (NR w1 (some ⟨wk1.heap.size, 0, none⟩) n1 (limbs BG)) := hn1.nr; have HS5 := Lib.hid (And.intro (cpa hb1 (HS0.out).1) (And.intro (cpa hb1 (HS0.out).2.1) (cpa hb1 (HS0.out).2.2)))) | (have HB1 : Hid (Below wk1.heap.size wk1 w1) := bstep (Below.drew (balloc (bnil _) _)) hb1; have HR1 : Hid (NR w1 (some ⟨wk1.heap.size + 1, 0, none⟩) n1 (limbs BG)) := (by have q := hn1.nr; rw [show (wk1.alloc fz).drew.heap.size = wk1.heap.size + 1 from (by show (wk1.alloc fz).heap.size = _; simp)] at q; exact q); have HS5 := Lib.hid (And.intro (cpa hb1 (HS1.out).1) (And.intro (cpa hb1 (HS1.out).2.1) (cpa hb1 (HS1.out).2.2))); refine contF (show Hid (w1.heap[wk1.heap.size]? = some fz) from heapF hb1 ?_) ?_; (focus ((repeat (first | with_reducible exact hnewF rfl | with_reducible refine hnewF (Eq.refl _) | (with_reducible refine hnewF ?_; (focus (simp; done))) | with_reducible refine hallocF ?_ | with_reducible refine hdrewF ?_)); done)); intro HZ1)); clear ho1 hn1 hb1)
              | (go_at_call 15; (first
                  | ((with_reducible refine (HJ.out w1 _ _ HB1.out HR1.out HN1.out).mono ?_); rintro e w2 ⟨a8, n8, c8, rfl, how, hb2, hb3⟩; have HB2 := Lib.hid hb3; have HS6 := Lib.hid (And.intro (cpa hb2 (HS5.out).1) (And.intro (cpa hb2 (HS5.out).2.1) (cpa hb2 (HS5.out).2.2))); have HOW := Lib.hid how; clear how; (first | (have q := HZ1; have HZ2 : Hid (w2.heap[wk1.heap.size]? = some fz) := heapF hb2 q.out; have HG8 : Hid (W.heap.size < wk1.heap.size ∧ wk1.heap.size ≤ wk1.heap.size ∧ wk1.heap.size < w1.heap.size) := ⟨HGW.out, Nat.le_refl _, heap_ltT q.out⟩; have zz := f_cells HZ2.out; have z0 := zz.1.1; have z1 := zz.1.2.1; have z2 := zz.1.2.2.1; have z3 := zz.1.2.2.2.1; have z4 := zz.1.2.2.2.2; have zf0 := zz.2 0; have zf1 := zz.2 1; have zf2 := zz.2 2; have zf3 := zz.2 3; have zf4 := zz.2 4; clear zz) | skip); clear hb2 hb3)
                  | ((with_reducible refine (HJ.out (w1.alloc fz) _ _ (balloc HB1.out _) (HR1.out.up (balloc (bnil _) _)) HN1.out).mono ?_); rintro e w2 ⟨a8, n8, c8, rfl, how, hb2, hb3⟩; have HB2 := Lib.hid hb3; have HS6 := Lib.hid (And.intro (cpa hb2 (al000 (HS5.out).1)) (And.intro (cpa hb2 (al000 (HS5.out).2.1)) (cpa hb2 (al000 (HS5.out).2.2)))); have HOW := Lib.hid how; clear how; (have HZ2 : Hid (w2.heap[w1.heap.size]? = some fz) := heapF hb2 (hnewF rfl); have HG8 : Hid (W.heap.size < w1.heap.size ∧ wk1.heap.size ≤ w1.heap.size ∧ w1.heap.size < (w1.alloc fz).heap.size) := ⟨Nat.lt_of_lt_of_le HGW.out HB1.out.size, HB1.out.size, by simp⟩; have zz := f_cells HZ2.out; have z0 := zz.1.1; have z1 := zz.1.2.1; have z2 := zz.1.2.2.1; have z3 := zz.1.2.2.2.1; have z4 := zz.1.2.2.2.2; have zf0 := zz.2 0; have zf1 := zz.2 1; have zf2 := zz.2 2; have zf3 := zz.2 3; have zf4 := zz.2 4; clear zz); clear hb2 hb3))))
          all_goals
            go_wp2_with fail
            go_meet
            first
              | (have q := HZ2; obtain ⟨wA, eA, r, hkA, hsA, hbA⟩ := set5f q.out (.int .i64 1) (.int .i64 (A : Nat)) (.int .i64 (B : Nat)) (.slice a8 n8 c8) (.slice none 0 0); have eB := f_box5 q.out (.int .i64 1) (.int .i64 (A : Nat)) (.int .i64 (B : Nat)) (.slice a8 n8 c8) (.slice none 0 0); rw [eA] at eB ⊢; exact ⟨_, a8, n8, c8, rfl, rfl, rfl, HG8.out.2.1, eB, ⟨own_of_heap' (owns_base HOW.out.own (Nat.le_trans HG8.out.2.1 (Nat.le_of_lt HG8.out.2.2))) (fun b hb => hkA b (by have q1 := (HOW.out.own.lt b hb).1; have q2 := HG8.out.2.2; omega))⟩, hbA _ _ HG8.out.2.1 HB2.out⟩)
              | (exact ⟨_, a8, n8, c8, rfl, rfl, rfl, HB2.out.size, heap_alloc_new w2 _, (HOW.out.base HB1.out.size).up (balloc (bnil w2) _), balloc HB2.out _⟩)
        case rest =>
          clear v_p0 v_p1 v_p2
          obtain ⟨g5, aF, nF, cF, rfl, rfl, rfl, hgl, hgb, how, hbx⟩ := hcut
          clear HS0 HS1 D0 HGW HRP HRT HSE HJ
          generalize wc = wa at *
          have T8 := T7.up hbx
          clear T7
          have HS6z : Hid (W.heap.size ≤ wa.heap.size) := (T8.out.1.1.1.1.2).size
          have T9 := T8.add (fun wv => wv.heap[g5]? = some (.cells #[.int .i64 1, .int .i64 (A : Nat), .int .i64 (B : Nat), .slice aF nF cF, .slice none 0 0] 28)) (hgb)
          clear T8
          have T10 := T9.add (fun wv => OwI wv W.heap.size aF nF cF L) (how.base HS5z.out)
          clear T9
          have HOF := Lib.hid how
          clear hgl hgb hbx how
          have HS0 : Hid (wa.drew.cell? ⟨W.heap.size, 0, none⟩ = some (.int .i64 w) ∧ wa.drew.cell? ⟨W.heap.size, 1, none⟩ = some (.int .i64 h) ∧ wa.drew.cell? ⟨W.heap.size, 2, none⟩ = some (.slice a n c)) := ⟨T10.out.1.1.2.1, T10.out.1.1.2.2.1, T10.out.1.1.2.2.2⟩
          have HS1 : Hid ((wa.alloc fz).drew.cell? ⟨W.heap.size, 0, none⟩ = some (.int .i64 w) ∧ (wa.alloc fz).drew.cell? ⟨W.heap.size, 1, none⟩ = some (.int .i64 h) ∧ (wa.alloc fz).drew.cell? ⟨W.heap.size, 2, none⟩ = some (.slice a n c)) := ⟨al000 (T10.out.1.1.2.1), al000 (T10.out.1.1.2.2.1), al000 (T10.out.1.1.2.2.2)⟩
          have D0 : Hid (Below wa.heap.size wa wa.drew) := Below.drew (bnil _)
          have hgw : W.heap.size < wa.heap.size := World.block_lt_of_cell? _ _ (T10.out.1.1.2.1)
          have HGW := Lib.hid hgw
          clear hgw
          have HRP := Lib.hid (T10.out.1.1.1.1.2)
          have HRT := Lib.hid (T10.out.1.1.1.2)
          have HSE := Lib.hid (T10.out.1.1.1.1.1.2)
          have HJ : Hid (∀ (w' : World) (aL : Option Addr) (nL : Nat), Below wa.heap.size wa w' → NR w' aL nL (limbs BG) → nL ≤ 2 → Calls Tryd.prog 15 #[.slice (some ⟨bT, oT, none⟩) 512 cT, .agg #[.int .i64 w, .int .i64 h, .slice a n c], .slice aL nL 2] w' (fun e w2 => ∃ a8 n8 c8, e = .returned (.tuple #[.agg #[.int .i64 1, .int .i64 (A : Nat), .int .i64 (B : Nat), .slice a8 n8 c8, .slice none 0 0], .int .i64 (T : Nat), .nilIface]) ∧ OwI w2 w'.heap.size a8 n8 c8 L ∧ Below w'.heap.size w' w2 ∧ Below wa.heap.size wa w2)) := by
            intro w' aL nL hb h3 hn2
            refine (HCS.out aL nL w' (HSE.out.up hb) (HRP.out.up hb) (HRT.out.up hb) h3 hn2).mono ?_
            rintro e w2 ⟨a8, n8, c8, rfl, how, hb2⟩
            exact ⟨a8, n8, c8, rfl, how, hb2, bstep hb hb2⟩
          have v_p0 : wa.cell? ⟨W.heap.size, 0, none⟩ = some (.int .i64 w) := T10.out.1.1.2.1
          have v_p1 : wa.cell? ⟨W.heap.size, 1, none⟩ = some (.int .i64 h) := T10.out.1.1.2.2.1
          have v_p2 : wa.cell? ⟨W.heap.size, 2, none⟩ = some (.slice a n c) := T10.out.1.1.2.2.2
          go_upto_region 6 with (fail)
          go_cut [8, 9, 10] from 19 (fun sf sn se wx => ∃ (g : Nat) (a8 : Option Addr) (n8 c8 : Nat), sf = .pointer (some ⟨g, 0, none⟩) ∧ sn = .int .i64 (T : Nat) ∧ se = .nilIface ∧ wa.heap.size ≤ g ∧ wx.heap[g]? = some (.cells #[.int .i64 1, .int .i64 (A : Nat), .int .i64 (B : Nat), .slice a8 n8 c8, .slice none 0 0] 28) ∧ OwI wx wa.heap.size a8 n8 c8 L ∧ Below wa.heap.size wa wx)
          case first =>
            go_region_held3 (fun w' => w'.cell? ⟨W.heap.size, 0, none⟩ = some (.int .i64 w) ∧ w'.cell? ⟨W.heap.size, 1, none⟩ = some (.int .i64 h) ∧ w'.cell? ⟨W.heap.size, 2, none⟩ = some (.slice a n c))
              (first | with_reducible exact HS6.out | with_reducible exact HS5.out | with_reducible exact HS0.out | with_reducible exact HS1.out | with_reducible exact ⟨al000 HS6.out.1, al000 HS6.out.2.1, al000 HS6.out.2.2⟩ | with_reducible exact ⟨al000 HS5.out.1, al000 HS5.out.2.1, al000 HS5.out.2.2⟩ | with_reducible exact ⟨set5_cellF (HS6.out).1 (by have q := HG8.out; show W.heap.size ≠ _; omega), set5_cellF (HS6.out).2.1 (by have q := HG8.out; show W.heap.size ≠ _; omega), set5_cellF (HS6.out).2.2 (by have q := HG8.out; show W.heap.size ≠ _; omega)⟩ | go_keep)
              (first
                | (go_at_call 16; refine (from_any 1099511627776 _ (by decide)).mono ?_; rintro e w1 ⟨n1, rfl, ho1, hn1, hb1⟩; have HN1 := Lib.hid hn1.le; (first | (have HB1 : Hid (Below wa.heap.size wa w1) := Lib.hid (by with_reducible exact bstep D0.out hb1); have HR1 : Hid (NR w1 (some ⟨wa.heap.size, 0, none⟩) n1 (limbs BG)) := hn1.nr; have HS5 := Lib.hid (And.intro (cpa hb1 (HS0.out).1) (And.intro (cpa hb1 (HS0.out).2.1) (cpa hb1 (HS0.out).2.2)))) | (have HB1 : Hid (Below wa.heap.size wa w1) := bstep (Below.drew (balloc (bnil _) _)) hb1; have HR1 : Hid (NR w1 (some ⟨wa.heap.size + 1, 0, none⟩) n1 (limbs BG)) := (by have q := hn1.nr; rw [show (wa.alloc fz).drew.heap.size = wa.heap.size + 1 from (by show (wa.alloc fz).heap.size = _; simp)] at q; exact q); have HS5 := Lib.hid (And.intro (cpa hb1 (HS1.out).1) (And.intro (cpa hb1 (HS1.out).2.1) (cpa hb1 (HS1.out).2.2))); refine contF (show Hid (w1.heap[wa.heap.size]? = some fz) from heapF hb1 ?_) ?_; (focus ((repeat (first | with_reducible exact hnewF rfl | with_reducible refine hnewF (Eq.refl _) | (with_reducible refine hnewF ?_; (focus (simp; done))) | with_reducible refine hallocF ?_ | with_reducible refine hdrewF ?_)); done)); intro HZ1)); clear ho1 hn1 hb1)
                | (go_at_call 15; (first
                    | ((with_reducible refine (HJ.out w1 _ _ HB1.out HR1.out HN1.out).mono ?_); rintro e w2 ⟨a8, n8, c8, rfl, how, hb2, hb3⟩; have HB2 := Lib.hid hb3; have HS6 := Lib.hid (And.intro (cpa hb2 (HS5.out).1) (And.intro (cpa hb2 (HS5.out).2.1) (cpa hb2 (HS5.out).2.2))); have HOW := Lib.hid how; clear how; (first | (have q := HZ1; have HZ2 : Hid (w2.heap[wa.heap.size]? = some fz) := heapF hb2 q.out; have HG8 : Hid (W.heap.size < wa.heap.size ∧ wa.heap.size ≤ wa.heap.size ∧ wa.heap.size < w1.heap.size) := ⟨HGW.out, Nat.le_refl _, heap_ltT q.out⟩; have zz := f_cells HZ2.out; have z0 := zz.1.1; have z1 := zz.1.2.1; have z2 := zz.1.2.2.1; have z3 := zz.1.2.2.2.1; have z4 := zz.1.2.2.2.2; have zf0 := zz.2 0; have zf1 := zz.2 1; have zf2 := zz.2 2; have zf3 := zz.2 3; have zf4 := zz.2 4; clear zz) | skip); clear hb2 hb3)
                    | ((with_reducible refine (HJ.out (w1.alloc fz) _ _ (balloc HB1.out _) (HR1.out.up (balloc (bnil _) _)) HN1.out).mono ?_); rintro e w2 ⟨a8, n8, c8, rfl, how, hb2, hb3⟩; have HB2 := Lib.hid hb3; have HS6 := Lib.hid (And.intro (cpa hb2 (al000 (HS5.out).1)) (And.intro (cpa hb2 (al000 (HS5.out).2.1)) (cpa hb2 (al000 (HS5.out).2.2)))); have HOW := Lib.hid how; clear how; (have HZ2 : Hid (w2.heap[w1.heap.size]? = some fz) := heapF hb2 (hnewF rfl); have HG8 : Hid (W.heap.size < w1.heap.size ∧ wa.heap.size ≤ w1.heap.size ∧ w1.heap.size < (w1.alloc fz).heap.size) := ⟨Nat.lt_of_lt_of_le HGW.out HB1.out.size, HB1.out.size, by simp⟩; have zz := f_cells HZ2.out; have z0 := zz.1.1; have z1 := zz.1.2.1; have z2 := zz.1.2.2.1; have z3 := zz.1.2.2.2.1; have z4 := zz.1.2.2.2.2; have zf0 := zz.2 0; have zf1 := zz.2 1; have zf2 := zz.2 2; have zf3 := zz.2 3; have zf4 := zz.2 4; clear zz); clear hb2 hb3))))
            all_goals
              go_wp2_with fail
              go_meet
              first
                | (have q := HZ2; obtain ⟨wA, eA, r, hkA, hsA, hbA⟩ := set5f q.out (.int .i64 1) (.int .i64 (A : Nat)) (.int .i64 (B : Nat)) (.slice a8 n8 c8) (.slice none 0 0); have eB := f_box5 q.out (.int .i64 1) (.int .i64 (A : Nat)) (.int .i64 (B : Nat)) (.slice a8 n8 c8) (.slice none 0 0); rw [eA] at eB ⊢; exact ⟨_, a8, n8, c8, rfl, rfl, rfl, HG8.out.2.1, eB, ⟨own_of_heap' (owns_base HOW.out.own (Nat.le_trans HG8.out.2.1 (Nat.le_of_lt HG8.out.2.2))) (fun b hb => hkA b (by have q1 := (HOW.out.own.lt b hb).1; have q2 := HG8.out.2.2; omega))⟩, hbA _ _ HG8.out.2.1 HB2.out⟩)
                | (exact ⟨_, a8, n8, c8, rfl, rfl, rfl, HB2.out.size, heap_alloc_new w2 _, (HOW.out.base HB1.out.size).up (balloc (bnil w2) _), balloc HB2.out _⟩)
          case rest =>
            clear v_p0 v_p1 v_p2
            obtain ⟨g6, aG, nG, cG, rfl, rfl, rfl, hgl, hgb, how, hbx⟩ := hcut
            clear HS0 HS1 D0 HGW HRP HRT HSE HJ
            generalize wc = wb at *
            have T11 := T10.up hbx
            clear T10
            have HAP : Hid (Ap (.slice aF nF cF) (.slice aG nG cG)) := ap_later HOF.out.own how.own (Nat.le_refl _)
            have T12 := T11.add (fun wv => wv.heap[g6]? = some (.cells #[.int .i64 1, .int .i64 (A : Nat), .int .i64 (B : Nat), .slice aG nG cG, .slice none 0 0] 28)) (hgb)
            clear T11
            have T13 := T12.add (fun wv => OwI wv W.heap.size aG nG cG L) (how.base HS6z.out)
            clear T12
            clear hgl hgb hbx how HOF
            have HS7z : Hid (W.heap.size ≤ wb.heap.size) := (T13.out.1.1.1.1.1.1.1.1.2).size
            have v_p0 : wb.cell? ⟨W.heap.size, 0, none⟩ = some (.int .i64 w) := T13.out.1.1.1.1.2.1
            have v_p1 : wb.cell? ⟨W.heap.size, 1, none⟩ = some (.int .i64 h) := T13.out.1.1.1.1.2.2.1
            have v_p2 : wb.cell? ⟨W.heap.size, 2, none⟩ = some (.slice a n c) := T13.out.1.1.1.1.2.2.2
            go_wp2_with fail
            refine (HCC.out bT oT wb T13.out.1.1.1.1.1.1.1.2 T13.out.1.1.1.1.1.1.2 T13.out.1.1.1.1.1.2).mono ?_; rintro e wc1 ⟨g1, n1, rfl, ho1, hn1, hbwc1⟩
            clear v_p0 v_p1 v_p2
            have T14 := T13.up hbwc1
            clear T13
            have HO1 := Lib.hid ho1
            have hn1le : n1 ≤ 2 := hn1.le
            have T15 := T14.add (fun wv => wv.ownsRow W.heap.size 47 1 (.slice (some ⟨g1, 0, none⟩) n1 2) n1 ((ofN (limbs CN)).map (Value.int .u32))) (owns_base ho1 HS7z.out)
            clear T14
            have T16 := T15.add (fun wv => NR wv (some ⟨g1, 0, none⟩) n1 (limbs CN)) (hn1.nr)
            clear T15
            clear ho1 hn1
            have HS8z : Hid (W.heap.size ≤ wc1.heap.size) := (T16.out.1.1.1.1.1.1.1.1.1.1.2).size
            have v_p0 : wc1.cell? ⟨W.heap.size, 0, none⟩ = some (.int .i64 w) := T16.out.1.1.1.1.1.1.2.1
            have v_p1 : wc1.cell? ⟨W.heap.size, 1, none⟩ = some (.int .i64 h) := T16.out.1.1.1.1.1.1.2.2.1
            have v_p2 : wc1.cell? ⟨W.heap.size, 2, none⟩ = some (.slice a n c) := T16.out.1.1.1.1.1.1.2.2.2
            go_wp2_with fail
            refine (HCC.out bT oT wc1 T16.out.1.1.1.1.1.1.1.1.1.2 T16.out.1.1.1.1.1.1.1.1.2 T16.out.1.1.1.1.1.1.1.2).mono ?_; rintro e wd ⟨g2, n2, rfl, ho2, hn2, hbwd⟩
            clear v_p0 v_p1 v_p2
            have T17 := T16.up hbwd
            clear T16
            have HAQ : Hid (Ap (.slice (some ⟨g1, 0, none⟩) n1 2) (.slice (some ⟨g2, 0, none⟩) n2 2)) := ap_later HO1.out ho2 (Nat.le_refl _)
            have hn2le : n2 ≤ 2 := hn2.le
            have T18 := T17.add (fun wv => wv.ownsRow W.heap.size 47 1 (.slice (some ⟨g2, 0, none⟩) n2 2) n2 ((ofN (limbs CN)).map (Value.int .u32))) (owns_base ho2 HS8z.out)
            clear T17
            have T19 := T18.add (fun wv => NR wv (some ⟨g2, 0, none⟩) n2 (limbs CN)) (hn2.nr)
            clear T18
            clear ho2 hn2 HO1
            obtain ⟨⟨x0, x1, x2, x3, x4⟩, xf⟩ := f_cells (T19.out.1.1.1.1.1.1.1.2)
            obtain ⟨⟨y0, y1, y2, y3, y4⟩, yf⟩ := f_cells (T19.out.1.1.1.1.1.2)
            go_wp2_with fail
            refine (patches_eq A B aF aG nF nG cF cG L wd (T19.out.1.1.1.1.1.1.2).rk (T19.out.1.1.1.1.2).rk (by have := (T19.out.1.1.1.1.1.1.2).rk.len; have := HL60.out; unfold maxLen; omega)).mono ?_; rintro e we ⟨rfl, hbwe⟩
            have T20 := T19.up hbwe
            clear T19
            clear x0 x1 x2 x3 x4 xf y0 y1 y2 y3 y4 yf
            obtain ⟨⟨x0, x1, x2, x3, x4⟩, xf⟩ := f_cells (T20.out.1.1.1.1.1.1.1.2)
            obtain ⟨⟨y0, y1, y2, y3, y4⟩, yf⟩ := f_cells (T20.out.1.1.1.1.1.2)
            have cv0 := conv_str (w := we) (c := 0) Tryd.underlying26 Tryd.underlying5 Tryd.underlying9 ((show Rd we none 0 1 (([] : List Int).map (Value.int .u8)) from ⟨rfl, .inl rfl⟩))
            go_wp2_with fail
            refine (nats_eqW (some ⟨g1, 0, none⟩) (some ⟨g2, 0, none⟩) n1 n2 2 2 (limbs CN) we T20.out.1.1.2 T20.out.2 (by unfold maxLen; omega)).mono ?_; rintro e wf ⟨rfl, hbwf⟩
            have T21 := T20.up hbwf
            clear T20
            clear x0 x1 x2 x3 x4 xf y0 y1 y2 y3 y4 yf cv0
            obtain ⟨⟨x0, x1, x2, x3, x4⟩, xf⟩ := f_cells (T21.out.1.1.1.1.1.1.1.2)
            obtain ⟨⟨y0, y1, y2, y3, y4⟩, yf⟩ := f_cells (T21.out.1.1.1.1.1.2)
            have cv0 := conv_str (w := wf) (c := 0) Tryd.underlying26 Tryd.underlying5 Tryd.underlying9 ((show Rd wf none 0 1 (([] : List Int).map (Value.int .u8)) from ⟨rfl, .inl rfl⟩))
            go_wp2_with fail
            go_loopw [16] (fun ix wr => ix = .int .i64 0 ∧ wr = wf) (fun _ _ => 0)
            case atStart => exact ⟨rfl, rfl⟩
            case round =>
              obtain ⟨rfl, hwr⟩ := hrel
              obtain rfl : wf = wr := hwr.symm
              go_wp2_with fail
              go_loopw [17, 18] (fun sx si w9 => ∃ (j : Nat) (a9 : Option Addr) (c9 : Nat), j ≤ 20 ∧ si = .int .i64 (j : Nat) ∧ sx = .slice a9 j c9 ∧ w9.ownsRow wf.heap.size 5 1 (.slice a9 j c9) j (List.replicate j (.int .u8 255)) ∧ Below wf.heap.size wf w9) (fun _ i _ => 20 - (intOf i).toNat)
              case atStart => exact ⟨0, none, 0, by omega, rfl, rfl, World.ownsRow_nil _ _ _ _, bnil _⟩
              case round =>
                obtain ⟨j, a9, c9, hj, rfl, rfl, hown, hb9⟩ := hrel
                have HB9 := Lib.hid hb9
                have HO9 := Lib.hid hown
                clear hb9 hown
                by_cases hjl : j < 20
                · skip
                  have j1 : (j : Int) < 20 := by omega
                  clear x0 x1 x2 x3 x4 xf y0 y1 y2 y3 y4 yf cv0
                  go_wp2_with ((at_builtin; refine apl rfl _ _ _ rfl wf.heap.size et_u8 _ j _ HO9.out rfl 1 _ _ rfl rfl rfl rfl (by unfold maxLen; omega) (by omega) (HB9.out.size) ?_; intro a7 c7 w7 h7))
                  go_roundw
                  case rel =>
                    refine ⟨j + 1, a7, c7, by omega, by go_num, rfl, ?_, HB9.out.trans h7.below⟩
                    have q := h7.own
                    rw [List.replicate_succ']
                    exact q
                  case measure => simp [intOf]; omega
                · skip
                  obtain rfl : j = 20 := by omega
                  have j2 : ¬ ((20 : Nat) : Int) < 20 := by omega
                  have hbz := HB9.out
                  clear x0 x1 x2 x3 x4 xf y0 y1 y2 y3 y4 yf cv0
                  have T22 := T21.up hbz
                  clear T21
                  clear hbz
                  obtain ⟨⟨x0, x1, x2, x3, x4⟩, xf⟩ := f_cells (T22.out.1.1.1.1.1.1.1.2)
                  obtain ⟨⟨y0, y1, y2, y3, y4⟩, yf⟩ := f_cells (T22.out.1.1.1.1.1.2)
                  have cv0 := conv_str (w := wr) (c := 0) Tryd.underlying26 Tryd.underlying5 Tryd.underlying9 ((show Rd wr none 0 1 (([] : List Int).map (Value.int .u8)) from ⟨rfl, .inl rfl⟩))
                  go_wp2_with fail
                  have hbw0 : Below W.heap.size W wr := T22.out.1.1.1.1.1.1.1.1.1.1.1.1.2
                  have hsw := hbw0.size
                  have hoc := T22.out.1.1.1.2
                  have hod := T22.out.1.2
                  have hof := (T22.out.1.1.1.1.1.1.2).own
                  have hog := (T22.out.1.1.1.1.2).own
                  have hn60 : nF ≤ 60 ∧ nG ≤ 60 := by have q1 := (T22.out.1.1.1.1.1.1.2).rk.len; have q2 := (T22.out.1.1.1.1.2).rk.len; have q3 := HL60.out; omega
                  refine (apart_two wr W.heap.size (aF, nF, cF) (aG, nG, cG) hsw ⟨_, hof⟩ ⟨_, hog⟩ HAP.out (by show nF * 8 ≤ _; omega) (by show nG * 8 ≤ _; omega)).mono ?_; rintro e wx ⟨rfl, hbx, hox⟩
                  have hoc2 := own_of_heap' (w' := wx) hoc (fun b hb => hox b (hoc.lt b hb).2 (fun q => ap_tyK hof hoc (by decide) b q hb) (fun q => ap_tyK hog hoc (by decide) b q hb))
                  have hod2 := own_of_heap' (w' := wx) hod (fun b hb => hox b (hod.lt b hb).2 (fun q => ap_tyK hof hod (by decide) b q hb) (fun q => ap_tyK hog hod (by decide) b q hb))
                  have HBX := Lib.hid (hbw0.trans hbx)
                  have HOC := Lib.hid (And.intro hoc2 hod2)
                  clear hoc hod hof hog hox hbx hoc2 hod2 hbw0
                  clear x0 x1 x2 x3 x4 xf y0 y1 y2 y3 y4 yf cv0
                  go_wp2_with fail
                  refine (apart_twoN wx W.heap.size (some ⟨g1, 0, none⟩, n1, 2) (some ⟨g2, 0, none⟩, n2, 2) HBX.out.size ⟨_, HOC.out.1⟩ ⟨_, HOC.out.2⟩ HAQ.out (by show n1 * 8 ≤ _; omega) (by show n2 * 8 ≤ _; omega)).mono ?_; rintro e wy ⟨rfl, hby, _⟩
                  have HBY := Lib.hid (HBX.out.trans hby)
                  clear hby
                  go_wp2
                  go_ret
                  exact ⟨rfl, HBY.out⟩
      | false =>
        have hj := True.intro
        have hbd := encL_bd HSN.out.enc
        have hle := encL_len (w : Int) (h : Int) S.order
        have hl43 : S.order.length ≤ 43689 := HSN.out.enc.len
        obtain ⟨bs, hbs⟩ : ∃ bs, encL (w : Int) (h : Int) S.order = bs := ⟨_, rfl⟩
        rw [hbs] at hle
        obtain ⟨LN, hLN⟩ : ∃ LN, 4 + 3 * S.order.length = LN := ⟨_, rfl⟩
        rw [hLN] at hle
        have hLN1 : LN ≤ 200000 := by omega
        have hLN0 : 0 < LN := by omega
        have HCS : Hid (∀ aL nL W, Sent W R → RK .i64 W a n l → RK .i64 W (some ⟨bT, oT, none⟩) 512 t → NR W aL nL (limbs BG) → nL ≤ 2 → Calls Tryd.prog 15 #[.slice (some ⟨bT, oT, none⟩) 512 cT, .agg #[.int .i64 (w : Nat), .int .i64 (h : Nat), .slice a n c], .slice aL nL 2] W (fun e w' => ∃ a8 c8, e = .returned (.tuple #[.agg #[.int .i64 2, .int .i64 0, .int .i64 0, .slice none 0 0, .slice a8 LN c8], .int .i64 (T : Nat), .nilIface]) ∧ w'.ownsRow W.heap.size 5 1 (.slice a8 LN c8) LN (bs.map (Value.int .u8)) ∧ Below W.heap.size W w')) := by
          intro aL nL W hS hR hT hL8 hn2
          refine (HC9.out bT oT aL nL W hS hR hT hL8 hn2).mono ?_
          rintro e w2 ⟨vf, ev, rfl, hb2, hq⟩
          obtain ⟨a8, c8, rfl, rfl, ho8⟩ : ∃ a c, vf = fndV 2 0 0 none 0 0 a (4 + 3 * S.order.length) c ∧ ev = .nilIface ∧ w2.ownsRow _ 5 1 (.slice a (4 + 3 * S.order.length) c) (4 + 3 * S.order.length) ((encL (w : Int) (h : Int) S.order).map (Value.int .u8)) := hq
          rw [hbs, hLN] at ho8
          rw [hLN]
          exact ⟨a8, c8, rfl, ho8, hb2⟩
        have HLE := Lib.hid hle
        clear hj hbd hl43 hbs hLN hle
        obtain ⟨Wb, hWb⟩ : ∃ Wb, W.alloc (.cells #[.int .i64 w, .int .i64 h, .slice a n c] 24) = Wb := ⟨_, rfl⟩
        have hbWb : Below W.heap.size W Wb := by rw [← hWb]; exact balloc (bnil W) _
        have T5 := T4.up hbWb
        clear T4
        have T6 := T5.add (fun wv => wv.cell? ⟨W.heap.size, 0, none⟩ = some (.int .i64 w) ∧ wv.cell? ⟨W.heap.size, 1, none⟩ = some (.int .i64 h) ∧ wv.cell? ⟨W.heap.size, 2, none⟩ = some (.slice a n c)) (by rw [← hWb]; exact ⟨cnw (by simp) rfl, cnw (by simp) rfl, cnw (by simp) rfl⟩)
        clear T5
        have HWb := Lib.hid hWb
        clear hWb hbWb
        go_enter Tryd.func3, Tryd.ntmps3
        go_wp2_with fail
        rw [HWb.out]
        refine (awake25_any Wb R T6.out.1.1.1.2).mono ?_; rintro e wk1 ⟨rfl, hbwk1⟩
        have T7 := T6.up hbwk1
        clear T6
        by_cases q3 : (3 : Int) < w
        · skip
          have v_p0 : wk1.cell? ⟨W.heap.size, 0, none⟩ = some (.int .i64 w) := T7.out.2.1
          have v_p1 : wk1.cell? ⟨W.heap.size, 1, none⟩ = some (.int .i64 h) := T7.out.2.2.1
          have v_p2 : wk1.cell? ⟨W.heap.size, 2, none⟩ = some (.slice a n c) := T7.out.2.2.2
          go_wp2
          go_ret
          exact ⟨rfl, T7.out.1.1.1.1.2⟩
        by_cases q4 : (2 : Int) < h
        · skip
          have v_p0 : wk1.cell? ⟨W.heap.size, 0, none⟩ = some (.int .i64 w) := T7.out.2.1
          have v_p1 : wk1.cell? ⟨W.heap.size, 1, none⟩ = some (.int .i64 h) := T7.out.2.2.1
          have v_p2 : wk1.cell? ⟨W.heap.size, 2, none⟩ = some (.slice a n c) := T7.out.2.2.2
          go_wp2
          go_ret
          exact ⟨rfl, T7.out.1.1.1.1.2⟩
        have HS5z : Hid (W.heap.size ≤ wk1.heap.size) := (T7.out.1.1.1.1.2).size
        have HS0 : Hid (wk1.drew.cell? ⟨W.heap.size, 0, none⟩ = some (.int .i64 w) ∧ wk1.drew.cell? ⟨W.heap.size, 1, none⟩ = some (.int .i64 h) ∧ wk1.drew.cell? ⟨W.heap.size, 2, none⟩ = some (.slice a n c)) := ⟨T7.out.2.1, T7.out.2.2.1, T7.out.2.2.2⟩
        have HS1 : Hid ((wk1.alloc fz).drew.cell? ⟨W.heap.size, 0, none⟩ = some (.int .i64 w) ∧ (wk1.alloc fz).drew.cell? ⟨W.heap.size, 1, none⟩ = some (.int .i64 h) ∧ (wk1.alloc fz).drew.cell? ⟨W.heap.size, 2, none⟩ = some (.slice a n c)) := ⟨al000 (T7.out.2.1), al000 (T7.out.2.2.1), al000 (T7.out.2.2.2)⟩
        have D0 : Hid (Below wk1.heap.size wk1 wk1.drew) := Below.drew (bnil _)
        have hgw : W.heap.size < wk1.heap.size := World.block_lt_of_cell? _ _ (T7.out.2.1)
        have HGW := Lib.hid hgw
        clear hgw
        have HRP := Lib.hid (T7.out.1.1.2)
        have HRT := Lib.hid (T7.out.1.2)
        have HSE := Lib.hid (T7.out.1.1.1.2)
        have HJ : Hid (∀ (w' : World) (aL : Option Addr) (nL : Nat), Below wk1.heap.size wk1 w' → NR w' aL nL (limbs BG) → nL ≤ 2 → Calls Tryd.prog 15 #[.slice (some ⟨bT, oT, none⟩) 512 cT, .agg #[.int .i64 w, .int .i64 h, .slice a n c], .slice aL nL 2] w' (fun e w2 => ∃ a8 c8, e = .returned (.tuple #[.agg #[.int .i64 2, .int .i64 0, .int .i64 0, .slice none 0 0, .slice a8 LN c8], .int .i64 (T : Nat), .nilIface]) ∧ w2.ownsRow w'.heap.size 5 1 (.slice a8 LN c8) LN (bs.map (Value.int .u8)) ∧ Below w'.heap.size w' w2 ∧ Below wk1.heap.size wk1 w2)) := by
          intro w' aL nL hb h3 hn2
          refine (HCS.out aL nL w' (HSE.out.up hb) (HRP.out.up hb) (HRT.out.up hb) h3 hn2).mono ?_
          rintro e w2 ⟨a8, c8, rfl, how, hb2⟩
          exact ⟨a8, c8, rfl, how, hb2, bstep hb hb2⟩
        have v_p0 : wk1.cell? ⟨W.heap.size, 0, none⟩ = some (.int .i64 w) := T7.out.2.1
        have v_p1 : wk1.cell? ⟨W.heap.size, 1, none⟩ = some (.int .i64 h) := T7.out.2.2.1
        have v_p2 : wk1.cell? ⟨W.heap.size, 2, none⟩ = some (.slice a n c) := T7.out.2.2.2
        go_upto_region 5 with (fail)
        go_cut [5, 6, 7] from 19 (fun sf sn se wx => ∃ (g : Nat) (a8 : Option Addr) (c8 : Nat), sf = .pointer (some ⟨g, 0, none⟩) ∧ sn = .int .i64 (T : Nat) ∧ se = .nilIface ∧ wk1.heap.size ≤ g ∧ wx.heap[g]? = some (.cells #[.int .i64 2, .int .i64 0, .int .i64 0, .slice none 0 0, .slice a8 LN c8] 28) ∧ wx.ownsRow wk1.heap.size 5 1 (.slice a8 LN c8) LN (bs.map (Value.int .u8)) ∧ Below wk1.heap.size wk1 wx)
        case first =>
          go_region_held3 (fun w' => w'.cell? ⟨W.heap.size, 0, none⟩ = some (.int .i64 w) ∧ w'.cell? ⟨W.heap.size, 1, none⟩ = some (.int .i64 h) ∧ w'.cell? ⟨W.heap.size, 2, none⟩ = some (.slice a n c))
            (first | with_reducible exact HS6.out | with_reducible exact HS5.out | with_reducible exact HS0.out | with_reducible exact HS1.out | with_reducible exact ⟨al000 HS6.out.1, al000 HS6.out.2.1, al000 HS6.out.2.2⟩ | with_reducible exact ⟨al000 HS5.out.1, al000 HS5.out.2.1, al000 HS5.out.2.2⟩ | with_reducible exact ⟨set5_cellF (HS6.out).1 (by have q := HG8.out; show W.heap.size ≠ _; omega), set5_cellF (HS6.out).2.1 (by have q := HG8.out; show W.heap.size ≠ _; omega), set5_cellF (HS6.out).2.2 (by have q := HG8.out; show W.heap.size ≠ _; omega)⟩ | go_keep)
            (first
              | (go_at_call 16; refine (from_any 1099511627776 _ (by decide)).mono ?_; rintro e w1 ⟨n1, rfl, ho1, hn1, hb1⟩; have HN1 := Lib.hid hn1.le; (first | (have HB1 : Hid (Below wk1.heap.size wk1 w1) := Lib.hid (by with_reducible exact bstep D0.out hb1); have HR1 : Hid (NR w1 (some ⟨wk1.heap.size, 0, none⟩) n1 (limbs BG)) := hn1.nr; have HS5 := Lib.hid (And.intro (cpa hb1 (HS0.out).1) (And.intro (cpa hb1 (HS0.out).2.1) (cpa hb1 (HS0.out).2.2)))) | (have HB1 : Hid (Below wk1.heap.size wk1 w1) := bstep (Below.drew (balloc (bnil _) _)) hb1; have HR1 : Hid (NR w1 (some ⟨wk1.heap.size + 1, 0, none⟩) n1 (limbs BG)) := (by have q := hn1.nr; rw [show (wk1.alloc fz).drew.heap.size = wk1.heap.size + 1 from (by show (wk1.alloc fz).heap.size = _; simp)] at q; exact q); have HS5 := Lib.hid (And.intro (cpa hb1 (HS1.out).1) (And.intro (cpa hb1 (HS1.out).2.1) (cpa hb1 (HS1.out).2.2))); refine contF (show Hid (w1.heap[wk1.heap.size]? = some fz) from heapF hb1 ?_) ?_; (focus ((repeat (first | with_reducible exact hnewF rfl | with_reducible refine hnewF (Eq.refl _) | (with_reducible refine hnewF ?_; (focus (simp; done))) | with_reducible refine hallocF ?_ | with_reducible refine hdrewF ?_)); done)); intro HZ1)); clear ho1 hn1 hb1)
              | (go_at_call 15; (first
                  | ((with_reducible refine (HJ.out w1 _ _ HB1.out HR1.out HN1.out).mono ?_); rintro e w2 ⟨a8, c8, rfl, how, hb2, hb3⟩; have HB2 := Lib.hid hb3; have HS6 := Lib.hid (And.intro (cpa hb2 (HS5.out).1) (And.intro (cpa hb2 (HS5.out).2.1) (cpa hb2 (HS5.out).2.2))); have HOW := Lib.hid how; clear how; (first | (have q := HZ1; have HZ2 : Hid (w2.heap[wk1.heap.size]? = some fz) := heapF hb2 q.out; have HG8 : Hid (W.heap.size < wk1.heap.size ∧ wk1.heap.size ≤ wk1.heap.size ∧ wk1.heap.size < w1.heap.size) := ⟨HGW.out, Nat.le_refl _, heap_ltT q.out⟩; have zz := f_cells HZ2.out; have z0 := zz.1.1; have z1 := zz.1.2.1; have z2 := zz.1.2.2.1; have z3 := zz.1.2.2.2.1; have z4 := zz.1.2.2.2.2; have zf0 := zz.2 0; have zf1 := zz.2 1; have zf2 := zz.2 2; have zf3 := zz.2 3; have zf4 := zz.2 4; clear zz) | skip); clear hb2 hb3)
                  | ((with_reducible refine (HJ.out (w1.alloc fz) _ _ (balloc HB1.out _) (HR1.out.up (balloc (bnil _) _)) HN1.out).mono ?_); rintro e w2 ⟨a8, c8, rfl, how, hb2, hb3⟩; have HB2 := Lib.hid hb3; have HS6 := Lib.hid (And.intro (cpa hb2 (al000 (HS5.out).1)) (And.intro (cpa hb2 (al000 (HS5.out).2.1)) (cpa hb2 (al000 (HS5.out).2.2)))); have HOW := Lib.hid how; clear how; (have HZ2 : Hid (w2.heap[w1.heap.size]? = some fz) := heapF hb2 (hnewF rfl); have HG8 : Hid (W.heap.size < w1.heap.size ∧ wk1.heap.size ≤ w1.heap.size ∧ w1.heap.size < (w1.alloc fz).heap.size) := ⟨Nat.lt_of_lt_of_le HGW.out HB1.out.size, HB1.out.size, by simp⟩; have zz := f_cells HZ2.out; have z0 := zz.1.1; have z1 := zz.1.2.1; have z2 := zz.1.2.2.1; have z3 := zz.1.2.2.2.1; have z4 := zz.1.2.2.2.2; have zf0 := zz.2 0; have zf1 := zz.2 1; have zf2 := zz.2 2; have zf3 := zz.2 3; have zf4 := zz.2 4; clear zz); clear hb2 hb3))))
          all_goals
            go_wp2_with fail
            go_meet
            first
              | (have q := HZ2; obtain ⟨wA, eA, r, hkA, hsA, hbA⟩ := set5f q.out (.int .i64 2) (.int .i64 0) (.int .i64 0) (.slice none 0 0) (.slice a8 LN c8); have eB := f_box5 q.out (.int .i64 2) (.int .i64 0) (.int .i64 0) (.slice none 0 0) (.slice a8 LN c8); rw [eA] at eB ⊢; exact ⟨_, a8, c8, rfl, rfl, rfl, HG8.out.2.1, eB, own_of_heap' (owns_base HOW.out (Nat.le_trans HG8.out.2.1 (Nat.le_of_lt HG8.out.2.2))) (fun b hb => hkA b (by have q1 := (HOW.out.lt b hb).1; have q2 := HG8.out.2.2; omega)), hbA _ _ HG8.out.2.1 HB2.out⟩)
              | (exact ⟨_, a8, c8, rfl, rfl, rfl, HB2.out.size, heap_alloc_new w2 _, (owns_base HOW.out HB1.out.size).alloc _, balloc HB2.out _⟩)
        case rest =>
          clear v_p0 v_p1 v_p2
          obtain ⟨g5, aF, cF, rfl, rfl, rfl, hgl, hgb, how, hbx⟩ := hcut
          clear HS0 HS1 D0 HGW HRP HRT HSE HJ
          generalize wc = wa at *
          have T8 := T7.up hbx
          clear T7
          have HS6z : Hid (W.heap.size ≤ wa.heap.size) := (T8.out.1.1.1.1.2).size
          obtain ⟨bF, rfl, _, _⟩ := own_form how hLN0
          have T9 := T8.add (fun wv => wv.heap[g5]? = some (.cells #[.int .i64 2, .int .i64 0, .int .i64 0, .slice none 0 0, .slice (some ⟨bF, 0, none⟩) LN cF] 28)) (hgb)
          clear T8
          have T10 := T9.add (fun wv => wv.ownsRow W.heap.size 5 1 (.slice (some ⟨bF, 0, none⟩) LN cF) LN (bs.map (Value.int .u8))) (owns_base how HS5z.out)
          clear T9
          have HOF := Lib.hid how
          clear hgl hgb hbx how
          have HS0 : Hid (wa.drew.cell? ⟨W.heap.size, 0, none⟩ = some (.int .i64 w) ∧ wa.drew.cell? ⟨W.heap.size, 1, none⟩ = some (.int .i64 h) ∧ wa.drew.cell? ⟨W.heap.size, 2, none⟩ = some (.slice a n c)) := ⟨T10.out.1.1.2.1, T10.out.1.1.2.2.1, T10.out.1.1.2.2.2⟩
          have HS1 : Hid ((wa.alloc fz).drew.cell? ⟨W.heap.size, 0, none⟩ = some (.int .i64 w) ∧ (wa.alloc fz).drew.cell? ⟨W.heap.size, 1, none⟩ = some (.int .i64 h) ∧ (wa.alloc fz).drew.cell? ⟨W.heap.size, 2, none⟩ = some (.slice a n c)) := ⟨al000 (T10.out.1.1.2.1), al000 (T10.out.1.1.2.2.1), al000 (T10.out.1.1.2.2.2)⟩
          have D0 : Hid (Below wa.heap.size wa wa.drew) := Below.drew (bnil _)
          have hgw : W.heap.size < wa.heap.size := World.block_lt_of_cell? _ _ (T10.out.1.1.2.1)
          have HGW := Lib.hid hgw
          clear hgw
          have HRP := Lib.hid (T10.out.1.1.1.1.2)
          have HRT := Lib.hid (T10.out.1.1.1.2)
          have HSE := Lib.hid (T10.out.1.1.1.1.1.2)
          have HJ : Hid (∀ (w' : World) (aL : Option Addr) (nL : Nat), Below wa.heap.size wa w' → NR w' aL nL (limbs BG) → nL ≤ 2 → Calls Tryd.prog 15 #[.slice (some ⟨bT, oT, none⟩) 512 cT, .agg #[.int .i64 w, .int .i64 h, .slice a n c], .slice aL nL 2] w' (fun e w2 => ∃ a8 c8, e = .returned (.tuple #[.agg #[.int .i64 2, .int .i64 0, .int .i64 0, .slice none 0 0, .slice a8 LN c8], .int .i64 (T : Nat), .nilIface]) ∧ w2.ownsRow w'.heap.size 5 1 (.slice a8 LN c8) LN (bs.map (Value.int .u8)) ∧ Below w'.heap.size w' w2 ∧ Below wa.heap.size wa w2)) := by
            intro w' aL nL hb h3 hn2
            refine (HCS.out aL nL w' (HSE.out.up hb) (HRP.out.up hb) (HRT.out.up hb) h3 hn2).mono ?_
            rintro e w2 ⟨a8, c8, rfl, how, hb2⟩
            exact ⟨a8, c8, rfl, how, hb2, bstep hb hb2⟩
          have v_p0 : wa.cell? ⟨W.heap.size, 0, none⟩ = some (.int .i64 w) := T10.out.1.1.2.1
          have v_p1 : wa.cell? ⟨W.heap.size, 1, none⟩ = some (.int .i64 h) := T10.out.1.1.2.2.1
          have v_p2 : wa.cell? ⟨W.heap.size, 2, none⟩ = some (.slice a n c) := T10.out.1.1.2.2.2
          go_upto_region 6 with (fail)
          go_cut [8, 9, 10] from 19 (fun sf sn se wx => ∃ (g : Nat) (a8 : Option Addr) (c8 : Nat), sf = .pointer (some ⟨g, 0, none⟩) ∧ sn = .int .i64 (T : Nat) ∧ se = .nilIface ∧ wa.heap.size ≤ g ∧ wx.heap[g]? = some (.cells #[.int .i64 2, .int .i64 0, .int .i64 0, .slice none 0 0, .slice a8 LN c8] 28) ∧ wx.ownsRow wa.heap.size 5 1 (.slice a8 LN c8) LN (bs.map (Value.int .u8)) ∧ Below wa.heap.size wa wx)
          case first =>
            go_region_held3 (fun w' => w'.cell? ⟨W.heap.size, 0, none⟩ = some (.int .i64 w) ∧ w'.cell? ⟨W.heap.size, 1, none⟩ = some (.int .i64 h) ∧ w'.cell? ⟨W.heap.size, 2, none⟩ = some (.slice a n c))
              (first | with_reducible exact HS6.out | with_reducible exact HS5.out | with_reducible exact HS0.out | with_reducible exact HS1.out | with_reducible exact ⟨al000 HS6.out.1, al000 HS6.out.2.1, al000 HS6.out.2.2⟩ | with_reducible exact ⟨al000 HS5.out.1, al000 HS5.out.2.1, al000 HS5.out.2.2⟩ | with_reducible exact ⟨set5_cellF (HS6.out).1 (by have q := HG8.out; show W.heap.size ≠ _; omega), set5_cellF (HS6.out).2.1 (by have q := HG8.out; show W.heap.size ≠ _; omega), set5_cellF (HS6.out).2.2 (by have q := HG8.out; show W.heap.size ≠ _; omega)⟩ | go_keep)
              (first
                | (go_at_call 16; refine (from_any 1099511627776 _ (by decide)).mono ?_; rintro e w1 ⟨n1, rfl, ho1, hn1, hb1⟩; have HN1 := Lib.hid hn1.le; (first | (have HB1 : Hid (Below wa.heap.size wa w1) := Lib.hid (by with_reducible exact bstep D0.out hb1); have HR1 : Hid (NR w1 (some ⟨wa.heap.size, 0, none⟩) n1 (limbs BG)) := hn1.nr; have HS5 := Lib.hid (And.intro (cpa hb1 (HS0.out).1) (And.intro (cpa hb1 (HS0.out).2.1) (cpa hb1 (HS0.out).2.2)))) | (have HB1 : Hid (Below wa.heap.size wa w1) := bstep (Below.drew (balloc (bnil _) _)) hb1; have HR1 : Hid (NR w1 (some ⟨wa.heap.size + 1, 0, none⟩) n1 (limbs BG)) := (by have q := hn1.nr; rw [show (wa.alloc fz).drew.heap.size = wa.heap.size + 1 from (by show (wa.alloc fz).heap.size = _; simp)] at q; exact q); have HS5 := Lib.hid (And.intro (cpa hb1 (HS1.out).1) (And.intro (cpa hb1 (HS1.out).2.1) (cpa hb1 (HS1.out).2.2))); refine contF (show Hid (w1.heap[wa.heap.size]? = some fz) from heapF hb1 ?_) ?_; (focus ((repeat (first | with_reducible exact hnewF rfl | with_reducible refine hnewF (Eq.refl _) | (with_reducible refine hnewF ?_; (focus (simp; done))) | with_reducible refine hallocF ?_ | with_reducible refine hdrewF ?_)); done)); intro HZ1)); clear ho1 hn1 hb1)
                | (go_at_call 15; (first
                    | ((with_reducible refine (HJ.out w1 _ _ HB1.out HR1.out HN1.out).mono ?_); rintro e w2 ⟨a8, c8, rfl, how, hb2, hb3⟩; have HB2 := Lib.hid hb3; have HS6 := Lib.hid (And.intro (cpa hb2 (HS5.out).1) (And.intro (cpa hb2 (HS5.out).2.1) (cpa hb2 (HS5.out).2.2))); have HOW := Lib.hid how; clear how; (first | (have q := HZ1; have HZ2 : Hid (w2.heap[wa.heap.size]? = some fz) := heapF hb2 q.out; have HG8 : Hid (W.heap.size < wa.heap.size ∧ wa.heap.size ≤ wa.heap.size ∧ wa.heap.size < w1.heap.size) := ⟨HGW.out, Nat.le_refl _, heap_ltT q.out⟩; have zz := f_cells HZ2.out; have z0 := zz.1.1; have z1 := zz.1.2.1; have z2 := zz.1.2.2.1; have z3 := zz.1.2.2.2.1; have z4 := zz.1.2.2.2.2; have zf0 := zz.2 0; have zf1 := zz.2 1; have zf2 := zz.2 2; have zf3 := zz.2 3; have zf4 := zz.2 4; clear zz) | skip); clear hb2 hb3)
                    | ((with_reducible refine (HJ.out (w1.alloc fz) _ _ (balloc HB1.out _) (HR1.out.up (balloc (bnil _) _)) HN1.out).mono ?_); rintro e w2 ⟨a8, c8, rfl, how, hb2, hb3⟩; have HB2 := Lib.hid hb3; have HS6 := Lib.hid (And.intro (cpa hb2 (al000 (HS5.out).1)) (And.intro (cpa hb2 (al000 (HS5.out).2.1)) (cpa hb2 (al000 (HS5.out).2.2)))); have HOW := Lib.hid how; clear how; (have HZ2 : Hid (w2.heap[w1.heap.size]? = some fz) := heapF hb2 (hnewF rfl); have HG8 : Hid (W.heap.size < w1.heap.size ∧ wa.heap.size ≤ w1.heap.size ∧ w1.heap.size < (w1.alloc fz).heap.size) := ⟨Nat.lt_of_lt_of_le HGW.out HB1.out.size, HB1.out.size, by simp⟩; have zz := f_cells HZ2.out; have z0 := zz.1.1; have z1 := zz.1.2.1; have z2 := zz.1.2.2.1; have z3 := zz.1.2.2.2.1; have z4 := zz.1.2.2.2.2; have zf0 := zz.2 0; have zf1 := zz.2 1; have zf2 := zz.2 2; have zf3 := zz.2 3; have zf4 := zz.2 4; clear zz); clear hb2 hb3))))
            all_goals
              go_wp2_with fail
              go_meet
              first
                | (have q := HZ2; obtain ⟨wA, eA, r, hkA, hsA, hbA⟩ := set5f q.out (.int .i64 2) (.int .i64 0) (.int .i64 0) (.slice none 0 0) (.slice a8 LN c8); have eB := f_box5 q.out (.int .i64 2) (.int .i64 0) (.int .i64 0) (.slice none 0 0) (.slice a8 LN c8); rw [eA] at eB ⊢; exact ⟨_, a8, c8, rfl, rfl, rfl, HG8.out.2.1, eB, own_of_heap' (owns_base HOW.out (Nat.le_trans HG8.out.2.1 (Nat.le_of_lt HG8.out.2.2))) (fun b hb => hkA b (by have q1 := (HOW.out.lt b hb).1; have q2 := HG8.out.2.2; omega)), hbA _ _ HG8.out.2.1 HB2.out⟩)
                | (exact ⟨_, a8, c8, rfl, rfl, rfl, HB2.out.size, heap_alloc_new w2 _, (owns_base HOW.out HB1.out.size).alloc _, balloc HB2.out _⟩)
          case rest =>
            clear v_p0 v_p1 v_p2
            obtain ⟨g6, aG, cG, rfl, rfl, rfl, hgl, hgb, how, hbx⟩ := hcut
            clear HS0 HS1 D0 HGW HRP HRT HSE HJ
            generalize wc = wb at *
            have T11 := T10.up hbx
            clear T10
            obtain ⟨bG, rfl, _, _⟩ := own_form how hLN0
            have HAP : Hid (bF ≠ bG) := fun e => (ap_later HOF.out how (Nat.le_refl _)) bF rfl (by rw [e]; rfl)
            have T12 := T11.add (fun wv => wv.heap[g6]? = some (.cells #[.int .i64 2, .int .i64 0, .int .i64 0, .slice none 0 0, .slice (some ⟨bG, 0, none⟩) LN cG] 28)) (hgb)
            clear T11
            have T13 := T12.add (fun wv => wv.ownsRow W.heap.size 5 1 (.slice (some ⟨bG, 0, none⟩) LN cG) LN (bs.map (Value.int .u8))) (owns_base how HS6z.out)
            clear T12
            clear hgl hgb hbx how HOF
            have HS7z : Hid (W.heap.size ≤ wb.heap.size) := (T13.out.1.1.1.1.1.1.1.1.2).size
            have v_p0 : wb.cell? ⟨W.heap.size, 0, none⟩ = some (.int .i64 w) := T13.out.1.1.1.1.2.1
            have v_p1 : wb.cell? ⟨W.heap.size, 1, none⟩ = some (.int .i64 h) := T13.out.1.1.1.1.2.2.1
            have v_p2 : wb.cell? ⟨W.heap.size, 2, none⟩ = some (.slice a n c) := T13.out.1.1.1.1.2.2.2
            go_wp2_with fail
            refine (HCC.out bT oT wb T13.out.1.1.1.1.1.1.1.2 T13.out.1.1.1.1.1.1.2 T13.out.1.1.1.1.1.2).mono ?_; rintro e wc1 ⟨g1, n1, rfl, ho1, hn1, hbwc1⟩
            clear v_p0 v_p1 v_p2
            have T14 := T13.up hbwc1
            clear T13
            have HO1 := Lib.hid ho1
            have hn1le : n1 ≤ 2 := hn1.le
            have T15 := T14.add (fun wv => wv.ownsRow W.heap.size 47 1 (.slice (some ⟨g1, 0, none⟩) n1 2) n1 ((ofN (limbs CN)).map (Value.int .u32))) (owns_base ho1 HS7z.out)
            clear T14
            have T16 := T15.add (fun wv => NR wv (some ⟨g1, 0, none⟩) n1 (limbs CN)) (hn1.nr)
            clear T15
            clear ho1 hn1
            have HS8z : Hid (W.heap.size ≤ wc1.heap.size) := (T16.out.1.1.1.1.1.1.1.1.1.1.2).size
            have v_p0 : wc1.cell? ⟨W.heap.size, 0, none⟩ = some (.int .i64 w) := T16.out.1.1.1.1.1.1.2.1
            have v_p1 : wc1.cell? ⟨W.heap.size, 1, none⟩ = some (.int .i64 h) := T16.out.1.1.1.1.1.1.2.2.1
            have v_p2 : wc1.cell? ⟨W.heap.size, 2, none⟩ = some (.slice a n c) := T16.out.1.1.1.1.1.1.2.2.2
            go_wp2_with fail
            refine (HCC.out bT oT wc1 T16.out.1.1.1.1.1.1.1.1.1.2 T16.out.1.1.1.1.1.1.1.1.2 T16.out.1.1.1.1.1.1.1.2).mono ?_; rintro e wd ⟨g2, n2, rfl, ho2, hn2, hbwd⟩
            clear v_p0 v_p1 v_p2
            have T17 := T16.up hbwd
            clear T16
            have HAQ : Hid (Ap (.slice (some ⟨g1, 0, none⟩) n1 2) (.slice (some ⟨g2, 0, none⟩) n2 2)) := ap_later HO1.out ho2 (Nat.le_refl _)
            have hn2le : n2 ≤ 2 := hn2.le
            have T18 := T17.add (fun wv => wv.ownsRow W.heap.size 47 1 (.slice (some ⟨g2, 0, none⟩) n2 2) n2 ((ofN (limbs CN)).map (Value.int .u32))) (owns_base ho2 HS8z.out)
            clear T17
            have T19 := T18.add (fun wv => NR wv (some ⟨g2, 0, none⟩) n2 (limbs CN)) (hn2.nr)
            clear T18
            clear ho2 hn2 HO1
            obtain ⟨⟨x0, x1, x2, x3, x4⟩, xf⟩ := f_cells (T19.out.1.1.1.1.1.1.1.2)
            obtain ⟨⟨y0, y1, y2, y3, y4⟩, yf⟩ := f_cells (T19.out.1.1.1.1.1.2)
            go_wp2_with fail
            refine (patches_eq 0 0 none none 0 0 0 0 [] wd RK.nil RK.nil (by simp)).mono ?_; rintro e we ⟨rfl, hbwe⟩
            have T20 := T19.up hbwe
            clear T19
            clear x0 x1 x2 x3 x4 xf y0 y1 y2 y3 y4 yf
            obtain ⟨⟨x0, x1, x2, x3, x4⟩, xf⟩ := f_cells (T20.out.1.1.1.1.1.1.1.2)
            obtain ⟨⟨y0, y1, y2, y3, y4⟩, yf⟩ := f_cells (T20.out.1.1.1.1.1.2)
            have cv1 := conv_str (w := we) (c := cF) Tryd.underlying26 Tryd.underlying5 Tryd.underlying9 ((owns_rd (T20.out.1.1.1.1.1.1.2)).2)
            have cv2 := conv_str (w := we) (c := cG) Tryd.underlying26 Tryd.underlying5 Tryd.underlying9 ((owns_rd (T20.out.1.1.1.1.2)).2)
            go_wp2_with fail
            refine (nats_eqW (some ⟨g1, 0, none⟩) (some ⟨g2, 0, none⟩) n1 n2 2 2 (limbs CN) we T20.out.1.1.2 T20.out.2 (by unfold maxLen; omega)).mono ?_; rintro e wf ⟨rfl, hbwf⟩
            have T21 := T20.up hbwf
            clear T20
            clear cv1 cv2 x0 x1 x2 x3 x4 xf y0 y1 y2 y3 y4 yf
            obtain ⟨⟨x0, x1, x2, x3, x4⟩, xf⟩ := f_cells (T21.out.1.1.1.1.1.1.1.2)
            obtain ⟨⟨y0, y1, y2, y3, y4⟩, yf⟩ := f_cells (T21.out.1.1.1.1.1.2)
            have cv1 := conv_str (w := wf) (c := cF) Tryd.underlying26 Tryd.underlying5 Tryd.underlying9 ((owns_rd (T21.out.1.1.1.1.1.1.2)).2)
            have cv2 := conv_str (w := wf) (c := cG) Tryd.underlying26 Tryd.underlying5 Tryd.underlying9 ((owns_rd (T21.out.1.1.1.1.2)).2)
            have HWF := Lib.hid (And.intro (T21.out.1.1.1.1.1.1.1.2) (And.intro (T21.out.1.1.1.1.1.2) (And.intro (T21.out.1.1.1.1.1.1.2) (T21.out.1.1.1.1.2))))
            have HWO := Lib.hid (And.intro (T21.out.1.1.1.2) (T21.out.1.2))
            have HBW := Lib.hid (T21.out.1.1.1.1.1.1.1.1.1.1.1.1.2)
            have hn5 : g5 ≠ bF := fun e => own_nF (T21.out.1.1.1.1.1.1.2) (by decide) (T21.out.1.1.1.1.1.1.1.2) (by rw [e]; rfl)
            have hn6 : g6 ≠ bF := fun e => own_nF (T21.out.1.1.1.1.1.1.2) (by decide) (T21.out.1.1.1.1.1.2) (by rw [e]; rfl)
            have hbFW : W.heap.size ≤ bF := ((T21.out.1.1.1.1.1.1.2).lt bF rfl).1
            have hbFl : bF < wf.heap.size := ((T21.out.1.1.1.1.1.1.2).lt bF rfl).2
            have HNE := Lib.hid (And.intro hn5 (And.intro hn6 (And.intro hbFW hbFl)))
            clear hn5 hn6 hbFW hbFl
            obtain ⟨st, hst⟩ : ∃ st, strOfNums bs = st := ⟨_, rfl⟩
            rw [hst] at cv1 cv2
            have HST := Lib.hid hst
            clear hst
            go_wp2_with fail
            go_loopw [16] (fun ix wr => ∃ i : Nat, i ≤ LN ∧ ix = .int .i64 (i : Nat) ∧ wr.ownsRow W.heap.size 5 1 (.slice (some ⟨bF, 0, none⟩) LN cF) LN (List.replicate i (.int .u8 255) ++ (bs.map (Value.int .u8)).drop i) ∧ (∀ b, b ≠ bF → wr.heap[b]? = wf.heap[b]?) ∧ wr.heap.size = wf.heap.size ∧ Below W.heap.size W wr) (fun ix _ => LN - (intOf ix).toNat)
            case atStart => exact ⟨0, by omega, rfl, HWF.out.2.2.1, fun _ _ => rfl, rfl, HBW.out⟩
            case round =>
              obtain ⟨i, hi, rfl, hown, hk, hs, hb⟩ := hrel
              have HOW := Lib.hid hown
              have HK := Lib.hid (And.intro hk (And.intro hs hb))
              clear cv1 cv2 x0 x1 x2 x3 x4 xf y0 y1 y2 y3 y4 yf
              obtain ⟨⟨x0, x1, x2, x3, x4⟩, xf⟩ := f_cells ((hk g5 HNE.out.1).trans HWF.out.1)
              obtain ⟨⟨y0, y1, y2, y3, y4⟩, yf⟩ := f_cells ((hk g6 HNE.out.2.1).trans HWF.out.2.1)
              by_cases hil : i < LN
              · skip
                have i1 : (i : Int) < (LN : Int) := by omega
                have i0 : (0 : Int) ≤ (i : Int) := by omega
                have hlb := HLE.out
                have z0 : wr.cell? ⟨bF, i, none⟩ = some ((bs.map (Value.int .u8))[i]'(by simp; omega)) := by
                  rw [hown.cellAt i (by omega), List.getElem?_append_right (by simp), List.getElem?_drop]
                  simp [show i < bs.length by omega]
                have zf := hown.frozenAt i
                generalize ((bs.map (Value.int .u8))[i]'(by simp; omega)) = zv at z0
                clear hown hk hs hb
                go_wp2_with fail
                go_roundw
                case rel =>
                  refine ⟨i + 1, by omega, by go_num, ?_, fun b hb => (Below.heap_setCell _ _ _ _ hb).trans (HK.out.1 b hb), by simp [World.setCell]; exact HK.out.2.1, HK.out.2.2.setCell (p := ⟨bF, i, none⟩) HNE.out.2.2.1 _⟩
                  have q := own_set HOW.out i (.int .u8 255)
                  rw [set_step i _ _ (by simp; omega)] at q
                  exact q
                case measure => simp [intOf]; omega
              · skip
                obtain rfl : i = LN := by omega
                have i2 : ¬ (i : Int) < (i : Int) := by omega
                rw [List.drop_eq_nil_of_le (by simp; have := HLE.out; omega), List.append_nil] at hown
                have HOX := Lib.hid hown
                generalize wr = wh at *
                clear hown hk hs hb HOW
                go_wp2_with fail
                go_loopw [17, 18] (fun sx si wr => ∃ (j : Nat) (a9 : Option Addr) (c9 : Nat), j ≤ 20 ∧ si = .int .i64 (j : Nat) ∧ sx = .slice a9 (i + j) c9 ∧ wr.ownsRow W.heap.size 5 1 (.slice a9 (i + j) c9) (i + j) (List.replicate (i + j) (.int .u8 255)) ∧ (∀ b, b < wh.heap.size → b ≠ bF → wr.heap[b]? = wh.heap[b]?) ∧ wh.heap.size ≤ wr.heap.size ∧ ((Value.slice a9 (i + j) c9).ownBlock = some bF ∨ ∃ g, (Value.slice a9 (i + j) c9).ownBlock = some g ∧ wh.heap.size ≤ g) ∧ Below W.heap.size W wr) (fun _ j _ => 20 - (intOf j).toNat)
                case atStart => exact ⟨0, some ⟨bF, 0, none⟩, cF, by omega, rfl, rfl, HOX.out, fun _ _ _ => rfl, Nat.le_refl _, .inl rfl, HK.out.2.2⟩
                case round =>
                  obtain ⟨j, a9, c9, hj, rfl, rfl, hown, hk, hs, hat, hb⟩ := hrel
                  have HOW := Lib.hid hown
                  have HKJ := Lib.hid (And.intro hk (And.intro hs (And.intro hat hb)))
                  clear x0 x1 x2 x3 x4 xf y0 y1 y2 y3 y4 yf
                  by_cases hjl : j < 20
                  · skip
                    have j1 : (j : Int) < 20 := by omega
                    clear hown hk hs hat hb
                    go_wp2_with ((at_builtin; refine apl rfl _ _ _ rfl W.heap.size et_u8 _ (i + j) _ HOW.out rfl 1 _ _ rfl rfl rfl rfl (by unfold maxLen; omega) (by omega) (HKJ.out.2.2.2.size) ?_; intro a7 c7 w7 h7))
                    go_roundw
                    case rel =>
                      refine ⟨j + 1, a7, c7, by omega, by go_num, rfl, ?_, fun b hb1 hb2 => ?_, Nat.le_trans HKJ.out.2.1 h7.grew, ?_, HKJ.out.2.2.2.trans h7.below⟩
                      · have q := h7.own
                        rw [show i + (j + 1) = i + j + 1 from rfl, List.replicate_succ']
                        exact q
                      · rw [h7.row.block b (Nat.lt_of_lt_of_le hb1 HKJ.out.2.1) (fun q => by rcases HKJ.out.2.2.1 with e2 | ⟨g, e2, e3⟩; (rw [e2] at q; cases q; exact hb2 rfl); (rw [e2] at q; cases q; omega))]
                        exact HKJ.out.1 b hb1 hb2
                      · rcases h7.at_ with e2 | ⟨g, e2, e3⟩
                        · rcases HKJ.out.2.2.1 with e4 | ⟨g, e4, e5⟩
                          · exact .inl (e2.trans e4)
                          · exact .inr ⟨g, e2.trans e4, e5⟩
                        · exact .inr ⟨g, e2, Nat.le_trans HKJ.out.2.1 e3⟩
                    case measure => simp [intOf]; omega
                  · skip
                    obtain rfl : j = 20 := by omega
                    have j2 : ¬ ((20 : Nat) : Int) < 20 := by omega
                    have hall : ∀ b, b < wf.heap.size → b ≠ bF → wr.heap[b]? = wf.heap[b]? := fun b h1 h2 => (hk b (by rw [HK.out.2.1]; exact h1) h2).trans (HK.out.1 b h2)
                    obtain ⟨⟨x0, x1, x2, x3, x4⟩, xf⟩ := f_cells ((hall g5 (heap_ltT HWF.out.1) HNE.out.1).trans HWF.out.1)
                    obtain ⟨⟨y0, y1, y2, y3, y4⟩, yf⟩ := f_cells ((hall g6 (heap_ltT HWF.out.2.1) HNE.out.2.1).trans HWF.out.2.1)
                    have hoG := own_of_heap' (w' := wr) HWF.out.2.2.2 (fun b hb => hall b (HWF.out.2.2.2.lt b hb).2 (fun q => HAP.out (by subst q; exact (Option.some.inj hb).symm)))
                    have hoc := own_of_heap' (w' := wr) HWO.out.1 (fun b hb => hall b (HWO.out.1.lt b hb).2 (fun q => ap_tyK HWF.out.2.2.1 HWO.out.1 (by decide) bF rfl (by rw [← q]; exact hb)))
                    have hod := own_of_heap' (w' := wr) HWO.out.2 (fun b hb => hall b (HWO.out.2.lt b hb).2 (fun q => ap_tyK HWF.out.2.2.1 HWO.out.2 (by decide) bF rfl (by rw [← q]; exact hb)))
                    have cv2 := conv_str (w := wr) (c := cG) Tryd.underlying26 Tryd.underlying5 Tryd.underlying9 (owns_rd hoG).2
                    rw [HST.out] at cv2
                    have l1 : IntKind.i64.wrap ((i : Int) + 20) = (i : Int) + 20 := IntWalk.i64_in _ (by omega)
                    have HOC0 := Lib.hid (And.intro hoc hod)
                    have HB0 := Lib.hid hb
                    clear hown hk hs hat hb hall hoG hoc hod HOW HKJ
                    go_wp2_with fail
                    refine (apart_two wr W.heap.size (none, 0, 0) (none, 0, 0) HB0.out.size ⟨[], World.ownsRow_nil _ _ _ _⟩ ⟨[], World.ownsRow_nil _ _ _ _⟩ (fun g hg => by cases hg) (by decide) (by decide)).mono ?_; rintro e wx ⟨rfl, hbx, hox⟩
                    have hoc2 := own_of_heap' (w' := wx) HOC0.out.1 (fun b hb => hox b (HOC0.out.1.lt b hb).2 (fun q => by cases q) (fun q => by cases q))
                    have hod2 := own_of_heap' (w' := wx) HOC0.out.2 (fun b hb => hox b (HOC0.out.2.lt b hb).2 (fun q => by cases q) (fun q => by cases q))
                    have HBX := Lib.hid (HB0.out.trans hbx)
                    have HOC := Lib.hid (And.intro hoc2 hod2)
                    clear hox hbx hoc2 hod2 x0 x1 x2 x3 x4 xf y0 y1 y2 y3 y4 yf cv2
                    go_wp2_with fail
                    refine (apart_twoN wx W.heap.size (some ⟨g1, 0, none⟩, n1, 2) (some ⟨g2, 0, none⟩, n2, 2) HBX.out.size ⟨_, HOC.out.1⟩ ⟨_, HOC.out.2⟩ HAQ.out (by show n1 * 8 ≤ _; omega) (by show n2 * 8 ≤ _; omega)).mono ?_; rintro e wy ⟨rfl, hby, _⟩
                    have HBY := Lib.hid (HBX.out.trans hby)
                    clear hby
                    go_wp2
                    go_ret
                    exact ⟨rfl, HBY.out⟩
theorem eve_keeps_row (aT : Option Addr) (cT : Nat) (t : List Int) (w h : Int) (a : Option Addr) (n c : Nat) (l : List Int) (W : World) (R : Nat → Addr) (hE : Sent W R)
    (hR0 : Rd W aT t.length 1 (t.map (Value.int .i64))) (hl0 : t.length ≤ cT) (hz0 : cT * 8 ≤ 140737488351232) (hn0 : aT = none → cT = 0) (hx0 : ∀ x ∈ t, -9223372036854775808 ≤ x ∧ x ≤ 9223372036854775807) (hM : SlI W a n c l) (hx : I64 l) :
    Calls Tryd.prog 3 #[.slice aT t.length cT, patV w h a n c] W (TrueBelow W) :=
  eve_keeps w h a aT n c t.length cT l t W R hE hM.rk hM.nm hx ⟨rfl, hR0⟩ (by unfold maxLen; omega)
end Go.Proofs.YtoaooblodgejdaaDoor
