/- The contract of (*plane.reader).take. -/
import Derived.Test.YtocfkmdoalhjmaaDoorPlaB
import Derived.Test.YtocfkmdoalhjmaaDoorRefPD
import Derived.BigRegion
namespace Go.Proofs.YtocfkmdoalhjmaaDoor
open Go.RowKit
set_option linter.unusedVariables false
set_option maxRecDepth 100000

/-- a reader's block -/
abbrev RB (w : World) (g : Nat) (a : Int) (b : Int) (c d : Int) : Prop := w.heap[g]? = some (.cells #[.int .i64 a, .int .i64 b, .int .i64 c, .int .i64 d] 96)
theorem rb_cells {w : World} {g : Nat} {a b c d : Int} (h : RB w g a b c d) : (w.cell? ⟨g, 0, none⟩ = some (.int .i64 a) ∧ w.cell? ⟨g, 1, none⟩ = some (.int .i64 b) ∧ w.cell? ⟨g, 2, none⟩ = some (.int .i64 c) ∧ w.cell? ⟨g, 3, none⟩ = some (.int .i64 d)) ∧
    w.frozen? ⟨g, 0, none⟩ = false ∧ w.frozen? ⟨g, 1, none⟩ = false ∧ w.frozen? ⟨g, 2, none⟩ = false ∧ w.frozen? ⟨g, 3, none⟩ = false := by
  have h2 : w.heap[g]? = _ := h
  simp [World.cell?, World.frozen?, h2]
theorem RB.set0 {w : World} {g : Nat} {a b c d : Int} (h : RB w g a b c d) (u : Int) : RB (w.setCell ⟨g, 0, none⟩ (.int .i64 u)) g u b c d := by
  have h2 : w.heap[g]? = _ := h
  show (w.setCell ⟨g, 0, none⟩ (.int .i64 u)).heap[g]? = _
  simp [World.setCell, Array.getElem?_modify, h2]
theorem RB.set1 {w : World} {g : Nat} {a b c d : Int} (h : RB w g a b c d) (u : Int) : RB (w.setCell ⟨g, 1, none⟩ (.int .i64 u)) g a u c d := by
  have h2 : w.heap[g]? = _ := h
  show (w.setCell ⟨g, 1, none⟩ (.int .i64 u)).heap[g]? = _
  simp [World.setCell, Array.getElem?_modify, h2]
theorem RB.set2 {w : World} {g : Nat} {a b c d : Int} (h : RB w g a b c d) (u : Int) : RB (w.setCell ⟨g, 2, none⟩ (.int .i64 u)) g a b u d := by
  have h2 : w.heap[g]? = _ := h
  show (w.setCell ⟨g, 2, none⟩ (.int .i64 u)).heap[g]? = _
  simp [World.setCell, Array.getElem?_modify, h2]
theorem RB.set3 {w : World} {g : Nat} {a b c d : Int} (h : RB w g a b c d) (u : Int) : RB (w.setCell ⟨g, 3, none⟩ (.int .i64 u)) g a b c u := by
  have h2 : w.heap[g]? = _ := h
  show (w.setCell ⟨g, 3, none⟩ (.int .i64 u)).heap[g]? = _
  simp [World.setCell, Array.getElem?_modify, h2]
/-- what a take leaves -/
def TakeOk (W : World) (g : Nat) (r : Nat × Int × Nat × Nat) (e : Ending) (w' : World) : Prop := e = .returned (.bool true) ∧ RB w' g r.1 r.2.1 r.2.2.1 r.2.2.2 ∧ Below g W w' ∧ W.heap.size ≤ w'.heap.size
def TakeNo (W : World) (g : Nat) (e : Ending) (w' : World) : Prop := e = .returned (.bool false) ∧ Below g W w' ∧ W.heap.size ≤ w'.heap.size

set_option maxHeartbeats 8000000 in
theorem take_some (g st s0 s1 : Nat) (last : Int) (c : UInt8) (W : World) (hz : RB W g st last s0 s1) (hR : RdSt st last s0 s1) (r : Nat × Int × Nat × Nat) (hr : takeF st last s0 s1 c = some r) :
    Calls Tryd.prog 53 #[.pointer (some ⟨g, 0, none⟩), .int .u8 c.toNat] W (TakeOk W g r) := by
  have hst := hR.s3
  unfold takeF at hr
  obtain ⟨cn, hcn⟩ : ∃ cn, c.toNat = cn := ⟨_, rfl⟩
  rw [hcn] at hr ⊢
  by_cases c0 : st = 0
  · subst c0
    rw [if_pos rfl] at hr
    split at hr
    · rename_i hc
      cases hr
      obtain rfl : cn = 66 := by rw [← hcn, hc]; rfl
      obtain ⟨⟨u0, u1, u2, u3⟩, g0, g1, g2, g3⟩ := rb_cells hz
      have hz0 := hz.set0 1
      obtain ⟨⟨x0, x1, x2, x3⟩, y0, y1, y2, y3⟩ := rb_cells hz0
      have HZ2 := Lib.hid (hz0.set1 (-1))
      have HB2 := Lib.hid (((Below.refl g W).setCell (p := ⟨g, 0, none⟩) (Nat.le_refl g) (.int .i64 1)).setCell (p := ⟨g, 1, none⟩) (Nat.le_refl g) (.int .i64 (-1)))
      clear hz hz0 hR hcn hc
      go_enter Tryd.func53, Tryd.ntmps53
      go_wp2
      go_ret
      exact ⟨rfl, HZ2.out, HB2.out, HB2.out.size⟩
    · cases hr
  rw [if_neg c0] at hr
  by_cases c2 : st = 2
  · subst c2
    rw [if_pos rfl] at hr
    split at hr
    · rename_i hc
      cases hr
      obtain rfl : cn = 83 := by rw [← hcn, hc]; rfl
      obtain ⟨⟨u0, u1, u2, u3⟩, g0, g1, g2, g3⟩ := rb_cells hz
      have hz0 := hz.set0 3
      obtain ⟨⟨x0, x1, x2, x3⟩, y0, y1, y2, y3⟩ := rb_cells hz0
      have HZ2 := Lib.hid (hz0.set1 (-1))
      have HB2 := Lib.hid (((Below.refl g W).setCell (p := ⟨g, 0, none⟩) (Nat.le_refl g) (.int .i64 3)).setCell (p := ⟨g, 1, none⟩) (Nat.le_refl g) (.int .i64 (-1)))
      clear hz hz0 hR hcn hc
      go_enter Tryd.func53, Tryd.ntmps53
      go_wp2
      go_ret
      exact ⟨rfl, HZ2.out, HB2.out, HB2.out.size⟩
    · cases hr
  rw [if_neg c2] at hr
  by_cases c1 : st = 1 ∧ c = 47
  · rw [if_pos c1] at hr
    cases hr
    obtain ⟨rfl, hc⟩ := c1
    obtain rfl : cn = 47 := by rw [← hcn, hc]; rfl
    obtain ⟨⟨u0, u1, u2, u3⟩, g0, g1, g2, g3⟩ := rb_cells hz
    have HZ2 := Lib.hid (hz.set0 2)
    have HB2 := Lib.hid ((Below.refl g W).setCell (p := ⟨g, 0, none⟩) (Nat.le_refl g) (.int .i64 2))
    clear hz hR hcn hc
    go_enter Tryd.func53, Tryd.ntmps53
    go_wp2
    go_ret
    exact ⟨rfl, HZ2.out, HB2.out, HB2.out.size⟩
  rw [if_neg c1] at hr
  split at hr
  · cases hr
  rename_i hdd
  split at hr
  · rename_i hs
    subst hs
    have hr2 := Option.some.inj hr
    have h47 : cn ≠ 47 := fun h => c1 ⟨rfl, UInt8.toNat_inj.1 (by rw [hcn, h]; rfl)⟩
    clear c0 c1 c2 hcn hr
    have hlo := hR.lo
    have hhi := hR.hi
    have hb0 := hR.b0
    have hb1 := hR.b1
    obtain ⟨d, hd⟩ : ∃ d, cn = d + 48 := ⟨cn - 48, by omega⟩
    subst hd
    have hd8 : d ≤ 8 := by omega
    have hld : last < (d : Int) := by omega
    have hg := pow_grow (hR.g0 rfl) hlo hld hd8
    obtain ⟨P, hP⟩ : ∃ P, 2 ^ d = P := ⟨_, rfl⟩
    have hPI : (2 : Int) ^ d = (P : Int) := by rw [← hP, Int.natCast_pow]; rfl
    have hor0 := or_at (a := s0) (c := 1) (Y := d) hg.1
    rw [Nat.one_mul, hP] at hor0
    rw [hP] at hg
    have hP2 : P ≤ 600 := by omega
    have hor : bits .or .i64 (s0 : Int) (P : Int) = ((s0 + P : Nat) : Int) := by rw [or_i64 (by omega) (by omega), hor0]
    have hPw : IntKind.i64.wrap (P : Int) = (P : Int) := IntWalk.i64_in _ (by omega)
    have hdc : ((d + 48 : Nat) : Int) - 48 = (d : Int) := by omega
    have hdw : IntKind.i64.wrap ((d + 48 : Nat) : Int) = ((d + 48 : Nat) : Int) := IntWalk.i64_in _ (by omega)
    have hn1 : ¬ (d : Int) ≤ last := by omega
    have hn2 : ¬ (8 : Int) < (d : Int) := by omega
    have d0 : (0 : Int) ≤ (d : Int) := by omega
    have d64 : (d : Int) ≤ 64 := by omega
    obtain ⟨⟨u0, u1, u2, u3⟩, g0, g1, g2, g3⟩ := rb_cells hz
    have hz1 := hz.set1 (d : Int)
    obtain ⟨⟨x0, x1, x2, x3⟩, y0, y1, y2, y3⟩ := rb_cells hz1
    have HZ2 := Lib.hid (hz1.set2 ((s0 + P : Nat) : Int))
    have HB2 := Lib.hid (((Below.refl g W).setCell (p := ⟨g, 1, none⟩) (Nat.le_refl g) (.int .i64 (d : Int))).setCell (p := ⟨g, 2, none⟩) (Nat.le_refl g) (.int .i64 ((s0 + P : Nat) : Int)))
    have HS2 : Hid (W.heap.size ≤ ((W.setCell ⟨g, 1, none⟩ (.int .i64 (d : Int))).setCell ⟨g, 2, none⟩ (.int .i64 ((s0 + P : Nat) : Int))).heap.size) := HB2.out.size
    have hrr : r = (1, (d : Int), s0 + P, s1) := by rw [← hr2, hdc, Nat.add_sub_cancel, hP]
    have HRR := Lib.hid hrr
    generalize s0 + P = Z at *
    clear hz hz1 hR hg hP hor0 hr2 hrr
    have h47I : ¬ d + 48 = 47 := by omega
    go_enter Tryd.func53, Tryd.ntmps53
    go_wp2_with fail
    go_region
    go_wp2
    go_ret
    rw [HRR.out]
    exact ⟨rfl, HZ2.out, Below.drew HB2.out, HB2.out.size⟩
  · have hs : st = 3 := by have : st ≠ 1 := by assumption
                           omega
    subst hs
    have hr2 := Option.some.inj hr
    clear c0 c1 c2 hcn hr
    have hlo := hR.lo
    have hhi := hR.hi
    have hb0 := hR.b0
    have hb1 := hR.b1
    obtain ⟨d, hd⟩ : ∃ d, cn = d + 48 := ⟨cn - 48, by omega⟩
    subst hd
    have hd8 : d ≤ 8 := by omega
    have hld : last < (d : Int) := by omega
    have hg := pow_grow (hR.g1 rfl) hlo hld hd8
    obtain ⟨P, hP⟩ : ∃ P, 2 ^ d = P := ⟨_, rfl⟩
    have hPI : (2 : Int) ^ d = (P : Int) := by rw [← hP, Int.natCast_pow]; rfl
    have hor0 := or_at (a := s1) (c := 1) (Y := d) hg.1
    rw [Nat.one_mul, hP] at hor0
    rw [hP] at hg
    have hP2 : P ≤ 600 := by omega
    have hor : bits .or .i64 (s1 : Int) (P : Int) = ((s1 + P : Nat) : Int) := by rw [or_i64 (by omega) (by omega), hor0]
    have hPw : IntKind.i64.wrap (P : Int) = (P : Int) := IntWalk.i64_in _ (by omega)
    have hdc : ((d + 48 : Nat) : Int) - 48 = (d : Int) := by omega
    have hdw : IntKind.i64.wrap ((d + 48 : Nat) : Int) = ((d + 48 : Nat) : Int) := IntWalk.i64_in _ (by omega)
    have hn1 : ¬ (d : Int) ≤ last := by omega
    have hn2 : ¬ (8 : Int) < (d : Int) := by omega
    have d0 : (0 : Int) ≤ (d : Int) := by omega
    have d64 : (d : Int) ≤ 64 := by omega
    obtain ⟨⟨u0, u1, u2, u3⟩, g0, g1, g2, g3⟩ := rb_cells hz
    have hz1 := hz.set1 (d : Int)
    obtain ⟨⟨x0, x1, x2, x3⟩, y0, y1, y2, y3⟩ := rb_cells hz1
    have HZ2 := Lib.hid (hz1.set3 ((s1 + P : Nat) : Int))
    have HB2 := Lib.hid (((Below.refl g W).setCell (p := ⟨g, 1, none⟩) (Nat.le_refl g) (.int .i64 (d : Int))).setCell (p := ⟨g, 3, none⟩) (Nat.le_refl g) (.int .i64 ((s1 + P : Nat) : Int)))
    have HS2 : Hid (W.heap.size ≤ ((W.setCell ⟨g, 1, none⟩ (.int .i64 (d : Int))).setCell ⟨g, 3, none⟩ (.int .i64 ((s1 + P : Nat) : Int))).heap.size) := HB2.out.size
    have hrr : r = (3, (d : Int), s0, s1 + P) := by rw [← hr2, hdc, Nat.add_sub_cancel, hP]
    have HRR := Lib.hid hrr
    generalize s1 + P = Z at *
    clear hz hz1 hR hg hP hor0 hr2 hrr
    go_enter Tryd.func53, Tryd.ntmps53
    go_wp2_with fail
    go_region
    go_wp2
    go_ret
    rw [HRR.out]
    exact ⟨rfl, HZ2.out, Below.drew HB2.out, HB2.out.size⟩

set_option maxHeartbeats 8000000 in
theorem take_none (g st s0 s1 : Nat) (last : Int) (c : UInt8) (W : World) (hz : RB W g st last s0 s1) (hR : RdSt st last s0 s1) (hr : takeF st last s0 s1 c = none) :
    Calls Tryd.prog 53 #[.pointer (some ⟨g, 0, none⟩), .int .u8 c.toNat] W (TakeNo W g) := by
  have hst := hR.s3
  unfold takeF at hr
  obtain ⟨cn, hcn⟩ : ∃ cn, c.toNat = cn := ⟨_, rfl⟩
  have hcb : cn < 256 := by rw [← hcn]; exact c.toNat_lt
  rw [hcn] at hr ⊢
  by_cases c0 : st = 0
  · subst c0
    rw [if_pos rfl] at hr
    split at hr
    · cases hr
    rename_i hc
    have n66 : ¬ cn = 66 := fun h => hc (UInt8.toNat_inj.1 (by rw [hcn, h]; rfl))
    have n66b : ((cn : Int) == 66) = false := by rw [beq_eq_false_iff_ne]; omega
    obtain ⟨⟨u0, u1, u2, u3⟩, g0, g1, g2, g3⟩ := rb_cells hz
    have hz0 := hz.set0 1
    obtain ⟨⟨x0, x1, x2, x3⟩, y0, y1, y2, y3⟩ := rb_cells hz0
    have HB2 := Lib.hid (((Below.refl g W).setCell (p := ⟨g, 0, none⟩) (Nat.le_refl g) (.int .i64 1)).setCell (p := ⟨g, 1, none⟩) (Nat.le_refl g) (.int .i64 (-1)))
    clear hz hz0 hR hcn hc hr
    go_enter Tryd.func53, Tryd.ntmps53
    go_wp2
    go_ret
    exact ⟨rfl, HB2.out, HB2.out.size⟩
  rw [if_neg c0] at hr
  by_cases c2 : st = 2
  · subst c2
    rw [if_pos rfl] at hr
    split at hr
    · cases hr
    rename_i hc
    have n83 : ¬ cn = 83 := fun h => hc (UInt8.toNat_inj.1 (by rw [hcn, h]; rfl))
    have n83b : ((cn : Int) == 83) = false := by rw [beq_eq_false_iff_ne]; omega
    obtain ⟨⟨u0, u1, u2, u3⟩, g0, g1, g2, g3⟩ := rb_cells hz
    have hz0 := hz.set0 3
    obtain ⟨⟨x0, x1, x2, x3⟩, y0, y1, y2, y3⟩ := rb_cells hz0
    have HB2 := Lib.hid (((Below.refl g W).setCell (p := ⟨g, 0, none⟩) (Nat.le_refl g) (.int .i64 3)).setCell (p := ⟨g, 1, none⟩) (Nat.le_refl g) (.int .i64 (-1)))
    clear hz hz0 hR hcn hc hr
    go_enter Tryd.func53, Tryd.ntmps53
    go_wp2
    go_ret
    exact ⟨rfl, HB2.out, HB2.out.size⟩
  rw [if_neg c2] at hr
  by_cases c1 : st = 1 ∧ c = 47
  · rw [if_pos c1] at hr
    cases hr
  rw [if_neg c1] at hr
  split at hr
  · rename_i hdd
    have hlo := hR.lo
    have hhi := hR.hi
    obtain ⟨⟨u0, u1, u2, u3⟩, g0, g1, g2, g3⟩ := rb_cells hz
    have hdw : IntKind.i64.wrap (cn : Int) = (cn : Int) := IntWalk.i64_in _ (by omega)
    have hs : st = 1 ∨ st = 3 := by omega
    rcases hs with rfl | rfl
    · have h47 : ¬ cn = 47 := fun h => c1 ⟨rfl, UInt8.toNat_inj.1 (by rw [hcn, h]; rfl)⟩
      by_cases hl : (cn : Int) - 48 ≤ last
      · clear hz hR hcn hr c0 c1 c2 hdd
        go_enter Tryd.func53, Tryd.ntmps53
        go_wp2
        go_ret
        exact ⟨rfl, Below.refl g W, Nat.le_refl _⟩
      · have h8 : (8 : Int) < (cn : Int) - 48 := by omega
        have hl2 : last < (cn : Int) - 48 := by omega
        have hl3 : last + 48 < (cn : Int) := by omega
        have h83 : (56 : Int) < (cn : Int) := by omega
        clear hz hR hcn hr c0 c1 c2 hdd hl
        go_enter Tryd.func53, Tryd.ntmps53
        go_wp2
        go_ret
        exact ⟨rfl, Below.refl g W, Nat.le_refl _⟩
    · skip
      by_cases hl : (cn : Int) - 48 ≤ last
      · clear hz hR hcn hr c0 c1 c2 hdd
        go_enter Tryd.func53, Tryd.ntmps53
        go_wp2
        go_ret
        exact ⟨rfl, Below.refl g W, Nat.le_refl _⟩
      · have h8 : (8 : Int) < (cn : Int) - 48 := by omega
        have hl2 : last < (cn : Int) - 48 := by omega
        have hl3 : last + 48 < (cn : Int) := by omega
        have h83 : (56 : Int) < (cn : Int) := by omega
        clear hz hR hcn hr c0 c1 c2 hdd hl
        go_enter Tryd.func53, Tryd.ntmps53
        go_wp2
        go_ret
        exact ⟨rfl, Below.refl g W, Nat.le_refl _⟩
  · split at hr <;> cases hr
end Go.Proofs.YtocfkmdoalhjmaaDoor
