/- The contracts of slices.Grow at nil, slices.Concat of two, word.Turn, slices.Reverse, word.Back. -/
import Derived.Test.YtnmegpplfbkpcaaDoorWordE
import Derived.Lib.AppendZerosOnto
import Derived.Lib.SliceRun
import Derived.WalkKit
import Derived.Deep.RegionWith
import Derived.BigRegion
import Derived.Lib.Hide
namespace Go.Proofs.YtnmegpplfbkpcaaDoor
open Go.RowKit
set_option linter.unusedVariables false
set_option maxRecDepth 100000

theorem run_growNil {w : World} {t ty e ki : TypeId} (base : Nat) {z : Value} {size bytes n : Nat} (T : ET Tryd.prog t e z size bytes) (hk : Tryd.prog.underlying ki = some (.int .i64)) (hb : base ≤ w.heap.size) (hn : 0 < n) (hbig : n * bytes ≤ 140737488355328) (h63 : n ≤ 4611686018427387904) :
    ∃ G w', (Builtin.append_ #[t, ki] ty #[.slice none 0 0, .int .i64 n]).run Tryd.prog w = .ok (.slice (some ⟨w.heap.size, 0, none⟩) n G) w' ∧ n ≤ G ∧ G ≤ maxLen ∧ w'.ownsRow base e size (.slice (some ⟨w.heap.size, 0, none⟩) 0 G) 0 [] ∧ Below w.heap.size w w' := by
  obtain ⟨i, hi, hz, h4, h5⟩ := T.hi
  subst h4 h5
  have hold : (Builtin.firstCells i.size 0 (.slice none 0 0)).run Tryd.prog w.drew = .ok ([] : List Value).toArray w.drew := run_firstCells_none w.drew i.size 0 0 0
  have h := Lib.run_append_grow_zeros w t ki ty e i z .i64 .i64 T.ht hk hi hz none 0 0 [] hold n (by omega) T.hsz (by omega) (by omega) (by omega) (by rw [Nat.zero_add]; exact growslice_fits hn hbig)
  have hge := grownCap_ge w n 0 e
  have hm : n ≤ maxLen := by unfold maxLen; omega
  have hle := grownCap_le_maxLen w n 0 e hm
  rw [Nat.zero_add] at h
  refine ⟨_, _, h, hge, hle, ⟨by simp, .inr ⟨w.heap.size, _, _, rfl, hb, heap_alloc_new w.drew _, Nat.zero_le _, hle, ?_, by simp⟩⟩, balloc (Below.drew (bnil w)) _⟩
  have e1 : (Builtin.zeroCells z.cells n).size = n * i.size := by rw [size_zeroCells, T.hzs]
  have e2 : (Builtin.zeroCells z.cells (grownCap w n 0 e - n)).size = (grownCap w n 0 e - n) * i.size := by rw [size_zeroCells, T.hzs]
  simp only [Array.size_append, e1, e2]
  simp only [List.size_toArray, List.length_nil, Nat.zero_add, ← Nat.add_mul]
  congr 1
  omega

theorem grow_nil (n : Nat) (W : World) (hbig : n * 8 ≤ 140737488355328) :
    Calls Tryd.prog 112 #[.slice none 0 0, .int .i64 n] W fun e w' => ∃ a' c', e = .returned (.slice a' 0 c') ∧ w'.ownsRow W.heap.size 3 1 (.slice a' 0 c') 0 [] ∧ Below W.heap.size W w' := by
  by_cases h0 : n = 0
  · subst h0
    go_enter Tryd.func112, Tryd.ntmps112
    go_wp2
    go_ret
    exact ⟨_, _, rfl, World.ownsRow_nil _ _ _ _, bnil W⟩
  · obtain ⟨G, w1, hrun, hG1, hG2, hown, hb⟩ := run_growNil (w := W) (ty := 22) (ki := 3) W.heap.size et_int Tryd.underlying3 (Nat.le_refl _) (n := n) (by omega) hbig (by omega)
    have hG3 : G ≤ 9223372036854775807 := hG2
    have hn1 : (0 : Int) < (n : Int) := by omega
    have HO := Lib.hid hown; clear hown
    go_enter Tryd.func112, Tryd.ntmps112
    go_wp2_with (at_builtin; refine Lib.wpList_append_run _ rfl _ _ _ _ rfl _ _ rfl rfl _ _ hrun ?_)
    go_ret
    exact ⟨_, _, rfl, HO.out, hb⟩

theorem concat2 (N g : Nat) (a1 a2 : Option Addr) (n1 n2 c1 c2 : Nat) (l1 l2 : List Int) (W : World) (hW : W.cell? ⟨g, 0, none⟩ = some (.slice a1 n1 c1) ∧ W.cell? ⟨g, 1, none⟩ = some (.slice a2 n2 c2)) (hg : g < W.heap.size) (hR1 : RK .i64 W a1 n1 l1) (hR2 : RK .i64 W a2 n2 l2) (hN : n1 + n2 = N) (hb : (n1 + n2) * 8 ≤ 140737488351232) (hc1 : a1 = none → c1 = 0) (hc2 : a2 = none → c2 = 0) :
    Calls Tryd.prog 96 #[.slice (some ⟨g, 0, none⟩) 2 2] W fun e w' => ∃ a' c', e = .returned (.slice a' N c') ∧ w'.ownsRow W.heap.size 3 1 (.slice a' N c') N ((l1 ++ l2).map (Value.int .i64)) ∧ Below W.heap.size W w' := by
  subst hN
  obtain ⟨h0, h1⟩ := hW
  have HR1 := Lib.hid hR1; clear hR1
  have HR2 := Lib.hid hR2; clear hR2
  go_enter Tryd.func96, Tryd.ntmps96
  go_wp2_with fail
  refine wp_loop_rounds 3 ?_
  rw [rounds_succ]; go_wp2
  rw [rounds_succ]; go_wp2
  rw [rounds_succ]; go_wp2_with fail
  refine (grow_nil (n1 + n2) _ (by omega)).mono ?_; rintro e w1 ⟨a3, c3, rfl, hown3, hb3⟩
  have k0 := (hb3.cell (p := ⟨g, 0, none⟩) hg).trans h0
  have k1 := (hb3.cell (p := ⟨g, 1, none⟩) hg).trans h1
  go_wp2_with fail
  refine wp_loop_rounds 3 ?_
  rw [rounds_succ]
  go_wp2_with (first
    | (at_builtin; refine apx rfl _ _ _ rfl W.heap.size et_int _ 0 [] hown3 rfl _ n1 _ _ rfl hc1 (HR1.out.up hb3).2 (nums_one _ _) (by unfold maxLen; omega) (by omega) hb3.size ?_; intro a4 c4 w4 h4; have o4 := h4.own; simp only [Nat.zero_add, List.nil_append] at o4; have HO4 := Lib.hid o4; clear o4))
  have k3 := (h4.below.cell (p := ⟨g, 1, none⟩) hg).trans k1
  have hb4 : Below W.heap.size W w4 := hb3.trans h4.below
  clear h4 hown3 k0 k1
  rw [rounds_succ]
  go_wp2_with (first
    | (at_builtin; refine apx rfl _ _ _ rfl W.heap.size et_int _ n1 _ HO4.out rfl _ n2 _ _ rfl hc2 (HR2.out.up hb4).2 (nums_one _ _) (by unfold maxLen; omega) (by omega) hb4.size ?_; intro a5 c5 w5 h5; have HO5 := Lib.hid h5.own; have hb5 := h5.below; clear h5))
  rw [rounds_succ]
  go_wp2
  go_ret
  exact ⟨_, _, rfl, by rw [List.map_append]; exact HO5.out, hb4.trans hb5⟩

/-! ### word.Turn -/
/-- the place that a number means in a word -/
def turnAt (n : Int) (L : Nat) : Nat := (n % (L : Int)).toNat
theorem turn_int (n : Int) (L : Nat) (hL : 0 < L) : n.tmod L % L = (turnAt n L : Int) ∧ turnAt n L < L := by
  have h1 : 0 ≤ n % (L : Int) := Int.emod_nonneg _ (by omega)
  have h2 : n % (L : Int) < (L : Int) := Int.emod_lt_of_pos _ (by omega)
  have h3 : n.tmod L % L = n % (L : Int) := by
    rw [Int.tmod_eq_emod]
    split
    · simp
    · simp
  exact ⟨by rw [h3]; unfold turnAt; omega, by unfold turnAt; omega⟩

set_option maxHeartbeats 2000000 in
theorem turn_any (a : Option Addr) (n c : Nat) (l : List Int) (t : Int) (W : World) (hR : RK .i64 W a n l) (hnc : n ≤ c) (hn8 : n * 8 ≤ 140737488351232) (hcm : c ≤ maxLen) (hcap : a = none → c = 0) :
    Calls Tryd.prog 60 #[.slice a n c, .int .i64 t] W fun e w' => ∃ a' c', e = .returned (.slice a' n c') ∧ w'.ownsRow W.heap.size 3 1 (.slice a' n c') n ((rot l (turnAt t n)).map (Value.int .i64)) ∧ Below W.heap.size W w' := by
  have hcm' : c ≤ 9223372036854775807 := hcm
  by_cases h0 : n = 0
  · subst h0
    have hl : l = [] := List.eq_nil_of_length_eq_zero hR.len.symm
    subst hl
    clear hR
    go_enter Tryd.func60, Tryd.ntmps60
    go_wp2
    go_ret
    exact ⟨_, _, rfl, by simpa [rot] using World.ownsRow_nil W W.heap.size 3 1, bnil W⟩
  · obtain ⟨hti, htl⟩ := turn_int t n (by omega)
    obtain ⟨T, hT⟩ : ∃ T, turnAt t n = T := ⟨_, rfl⟩
    rw [hT] at hti htl ⊢
    clear hT
    obtain ⟨b, o, rfl, hbo, hcell⟩ := hR.addr (by omega)
    have hlen := hR.len
    have hr1 : RK .i64 W (some ⟨b, o + T, none⟩) (n - T) (l.drop T) := by
      refine ⟨by simp; omega, by simp; omega, .inr ⟨b, o + T, rfl, hbo, fun j u hu => ?_⟩⟩
      obtain ⟨b', o', e, _, hc⟩ := hR.2.2.resolve_left (by omega)
      cases e
      rw [Nat.add_assoc]
      refine hc (T + j) u ?_
      rw [← hu, List.map_drop, List.getElem?_drop]
    have hr2 : RK .i64 W (some ⟨b, o, none⟩) T (l.take T) := by
      refine ⟨by simp; omega, ?_⟩
      have := hR.2.take (k := T) (by omega)
      rwa [Nat.mul_one, ← List.map_take] at this
    have HR1 := Lib.hid hr1; have HR2 := Lib.hid hr2
    clear hr1 hr2 hcell hR hlen
    have p1 := Int.lt_tmod_of_pos t (show (0 : Int) < (n : Int) by omega)
    have p2 := Int.tmod_lt_of_pos t (show (0 : Int) < (n : Int) by omega)
    have hnz : ((n : Int) == 0) = false := by rw [beq_eq_false_iff_ne]; omega
    have i0 : (0 : Int) ≤ (T : Int) := by omega
    have i1 : (T : Int) ≤ (n : Int) := by omega
    have i2 : (n : Int) ≤ (c : Int) := by omega
    have i3 : (T : Int) ≤ (c : Int) := by omega
    have e0 : ((if c = T then some ⟨b, o, none⟩ else some ⟨b, o + T, none⟩ : Option Addr)) = some ⟨b, o + T, none⟩ := if_neg (by omega)
    go_enter Tryd.func60, Tryd.ntmps60
    go_wp2_with fail
    go_region_with (go_at_call 96; refine (concat2 n W.heap.size (some ⟨b, o + T, none⟩) (some ⟨b, o, none⟩) (n - T) T (c - T) c (l.drop T) (l.take T) _ ⟨by simp, by simp⟩ (by simp) (HR1.out.up (Below.drew (balloc (bnil W) _))) (HR2.out.up (Below.drew (balloc (bnil W) _))) (by omega) (by omega) (fun e => by cases e) (fun e => by cases e)).mono ?_; rintro e w5 ⟨a5, c5, rfl, hown5, hb5⟩)
    have hbW := (Below.drew (balloc (bnil W) _)).trans (hb5.mono (by simp))
    go_simp
    go_wp2
    go_ret
    exact ⟨_, _, rfl, owns_base hown5 (by simp), hbW⟩
end Go.Proofs.YtnmegpplfbkpcaaDoor
