/- The contracts of edenraw.LentNat and KeptNat (the front and the end of MatK, for seats without matrices). -/
import Derived.Test.YtnmegpplfbkpcaaDoorNatA
import Derived.Test.YtnmegpplfbkpcaaDoorBase
import Derived.Laws.OwnMore
import Derived.Deep.Cut
import Derived.Deep.QuietTactic
import Derived.BigQuiet
namespace Go.Proofs.YtnmegpplfbkpcaaDoor
open Go.RowKit
set_option linter.unusedVariables false
set_option maxRecDepth 100000

def marksNW : List Int := [7001, 7002]
theorem rk_frontW {k : IntKind} {w : World} {a : Option Addr} {n m : Nat} {l r : List Int} (h : RK k w a m (l ++ r)) (hn : n = l.length) : RK k w a n l := by
  have hl := h.1
  simp at hl
  refine ⟨hn, ?_⟩
  have := h.2.take (k := n) (by omega)
  rwa [Nat.mul_one, List.map_append, List.take_left' (by simp; omega)] at this
theorem made_u32zW (n : Nat) : (madeCells (Value.int .u32 0).cells (n * 1)).toList = (List.replicate n (0 : Int)).map (Value.int .u32) := by
  rw [show (Value.int .u32 0).cells = #[.int .u32 0] from by rfl, toList_madeCells_one]
  simp

set_option maxHeartbeats 2000000 in
theorem lentN_anyW (a : Option Addr) (n c : Nat) (l : List Int) (W : World) (hR : RK .u32 W a n l) (hn8 : n * 8 ≤ 140737488351232) :
    Calls Tryd.prog 16 #[.slice a n c] W fun e w' => e = .returned (.slice (some ⟨W.heap.size, 0, none⟩) n (n + 2)) ∧ w'.ownsRow W.heap.size 73 1 (.slice (some ⟨W.heap.size, 0, none⟩) (n + 2) (n + 2)) (n + 2) ((l ++ marksNW).map (Value.int .u32)) ∧ Below W.heap.size W w' := by
  have HL := Lib.hid hR.len
  have HR := Lib.hid hR; clear hR
  have i0 : (0 : Int) ≤ (n : Int) := by omega
  have hmin : Nat.min n (n + 2) = n := Nat.min_eq_left (by omega)
  have HMIN := Lib.hid hmin; clear hmin
  go_enter Tryd.func16, Tryd.ntmps16
  go_wp2_with (first
    | (at_make; refine mk_full rfl _ _ _ rfl W.heap.size et_nat .i64 .i64 _ _ (n + 2) rfl rfl (by omega) (by omega) (by omega) (by unfold maxLen; omega) (Nat.le_refl _) ?_; intro w1 hown1 hb1 hsz1; rw [made_u32zW] at hown1)
    | (refine cpy rfl _ _ _ _ rfl W.heap.size et_nat hown1 _ _ 0 _ _ _ _ n _ rfl rfl HMIN.out (fun _ => rfl) (HR.out.up hb1).2 (nums_one _ _) (by omega) ?_; intro w2 hc2; have hown2 := hc2.own;
       have c0 : w2.cell? ⟨W.heap.size, n, none⟩ = some (.int .u32 0) := (by
         rw [hown2.cellAt n (by omega)]
         have hl := HL.out
         unfold splice
         rw [List.take_of_length_le (l := List.map (Value.int IntKind.u32) l) (by simp; omega), List.getElem?_append_right (by simp), List.getElem?_append_right (by simp; omega), List.getElem?_drop]
         simp [hl]);
       have c1 : w2.cell? ⟨W.heap.size, n + 1, none⟩ = some (.int .u32 0) := (by
         rw [hown2.cellAt (n + 1) (by omega)]
         have hl := HL.out
         unfold splice
         rw [List.take_of_length_le (l := List.map (Value.int IntKind.u32) l) (by simp; omega), List.getElem?_append_right (by simp), List.getElem?_append_right (by simp; omega), List.getElem?_drop]
         simp [hl]);
       have f0 := hown2.frozenAt n; have f1 := hown2.frozenAt (n + 1);
       have HO2 := Lib.hid hown2; have HB2 := Lib.hid (hb1.trans hc2.below); clear hown2 hc2 hown1))
  go_ret
  refine ⟨rfl, ?_, ((HB2.out.setCell (p := ⟨W.heap.size, n, none⟩) (Nat.le_refl _) _).setCell (p := ⟨W.heap.size, n + 1, none⟩) (Nat.le_refl _) _)⟩
  have := own_set (own_set HO2.out n (.int .u32 7001)) (n + 1) (.int .u32 7002)
  have e : ((splice (List.map (Value.int IntKind.u32) (List.replicate (n + 2) 0)) 0 (List.take n (List.map (Value.int IntKind.u32) l))).set n (.int .u32 7001)).set (n + 1) (.int .u32 7002) = (l ++ marksNW).map (Value.int .u32) := by
    have hl := HL.out
    subst hl
    unfold splice
    rw [List.take_of_length_le (l := List.map (Value.int IntKind.u32) l) (by simp)]
    simp only [List.take_zero, List.nil_append, Nat.zero_add, List.length_map]
    rw [← List.map_drop, List.drop_replicate, show l.length + 2 - l.length = 2 by omega]
    rw [List.set_append_right _ _ (by simp), List.set_append_right _ _ (by simp)]
    simp [marksNW]
  rw [e] at this
  exact this

set_option maxHeartbeats 2000000 in
theorem nats_qW (a1 a2 : Option Addr) (n1 n2 c1 c2 : Nat) (l : List Nat) (W : World) (h1 : NR W a1 n1 l) (h2 : NR W a2 n2 l) (hm : n1 ≤ maxLen) :
    Calls Tryd.prog 49 #[.slice a1 n1 c1, .slice a2 n2 c2] W fun e w' => e = .returned (.bool true) ∧ ∃ q, w' = W.drewN q := by
  have hmm : n1 ≤ 9223372036854775807 := hm
  obtain rfl : n1 = n2 := h1.len.trans h2.len.symm
  have H1 := Lib.hid h1; clear h1
  have H2 := Lib.hid h2; clear h2
  go_enter Tryd.func49, Tryd.ntmps49
  go_wp2_with fail
  go_loopw [5] (fun ix wr => ∃ k q : Nat, k ≤ n1 ∧ ix = .int .i64 k ∧ wr = W.drewN q) (fun ix _ => n1 - (intOf ix).toNat)
  case atStart => exact ⟨0, 0, by omega, rfl, rfl⟩
  case round =>
    obtain ⟨k, q, hk, rfl, rfl⟩ := hrel
    by_cases hlt : k < n1
    · obtain ⟨b1, o1, rfl, _, hc1⟩ := H1.out.addr (by omega)
      obtain ⟨b2, o2, rfl, _, hc2⟩ := H2.out.addr (by omega)
      have x0 := hc1 k hlt
      have y0 := hc2 k hlt
      clear hc1 hc2
      have i0 : (0 : Int) ≤ (k : Int) := by omega
      have i1 : (k : Int) < (n1 : Int) := by omega
      generalize l.getD k 0 = z at *
      go_wp2_with fail
      go_quiet (fail)
      go_wp2
      go_roundw
      case rel => exact ⟨k + 1, q + nq, by omega, by go_num, by simp⟩
      case measure => simp [intOf]; omega
    · go_wp2
      go_ret
      exact ⟨rfl, q, rfl⟩

set_option maxHeartbeats 2000000 in
theorem keptN_qW (g n c1 c2 : Nat) (a : Option Addr) (l : List Nat) (W : World) (hM : RK .u32 W (some ⟨g, 0, none⟩) (n + 2) (ofN l ++ marksNW)) (hu : U32 l) (hc : n + 2 ≤ c1) (hcm : c1 ≤ maxLen) (hR : NR W a n l) (hn8 : n ≤ 1000000) :
    Calls Tryd.prog 19 #[.slice (some ⟨g, 0, none⟩) n c1, .slice a n c2] W fun e w' => e = .returned (.bool true) ∧ ∃ q, w' = W.drewN q := by
  have hcm' : c1 ≤ 9223372036854775807 := hcm
  have hl := hR.len
  have hM1 : NR W (some ⟨g, 0, none⟩) n l := ⟨rk_frontW hM (by rw [ofN_len]; exact hl), hu⟩
  obtain ⟨b, o, e, hbo, hcell⟩ := hM.addr (by omega)
  cases e
  have x0 : W.cell? ⟨g, n, none⟩ = some (.int .u32 7001) := by
    have := hcell n (by omega)
    rw [Nat.zero_add] at this
    rw [this]
    simp [hl, marksNW, ofN]
  have x1 : W.cell? ⟨g, n + 1, none⟩ = some (.int .u32 7002) := by
    have := hcell (n + 1) (by omega)
    rw [Nat.zero_add] at this
    rw [this]
    simp [hl, marksNW, ofN]
  clear hcell
  have HM := Lib.hid hM1; clear hM1 hM
  have HR := Lib.hid hR; clear hR
  have HL := Lib.hid hl; clear hl
  have i0 : (0 : Int) ≤ (n : Int) := by omega
  go_enter Tryd.func19, Tryd.ntmps19
  go_wp2_with fail
  refine (nats_qW _ _ _ _ _ _ l _ HM.out HR.out (by unfold maxLen; omega)).mono ?_; rintro e w' ⟨rfl, q, rfl⟩
  go_wp2
  go_ret
  exact ⟨rfl, q, rfl⟩
/-- lent limbs: as they are, two marks behind -/
def LentNM (w : World) (g n : Nat) (l : List Nat) : Prop := RK .u32 w (some ⟨g, 0, none⟩) (n + 2) (ofN l ++ marksNW) ∧ U32 l ∧ n = l.length
theorem LentNM.up {w w' : World} {g n : Nat} {l : List Nat} (h : LentNM w g n l) (hb : Below w.heap.size w w') : LentNM w' g n l := ⟨RK.up h.1 hb, h.2⟩
theorem LentNM.nr {w : World} {g n : Nat} {l : List Nat} (h : LentNM w g n l) : NR w (some ⟨g, 0, none⟩) n l := ⟨rk_frontW h.1 (by rw [ofN_len]; exact h.2.2), h.2.1⟩
theorem lentN_ex (a : Option Addr) (n c : Nat) (l : List Nat) (W : World) (hR : NR W a n l) (hn8 : n * 8 ≤ 140737488351232) :
    Calls Tryd.prog 16 #[.slice a n c] W fun e w' => ∃ g c', e = .returned (.slice (some ⟨g, 0, none⟩) n c') ∧ c' = n + 2 ∧ LentNM w' g n l ∧ Below W.heap.size W w' := by
  have hl := hR.len
  refine (lentN_anyW a n c (ofN l) W hR.1 hn8).mono ?_
  rintro e w' ⟨rfl, ho, hb⟩
  refine ⟨_, _, rfl, rfl, ⟨⟨?_, (owns_rd ho).2⟩, hR.2, hl⟩, hb⟩
  simp [ofN, marksNW]; omega
theorem keptN_ex (g n c1 c2 : Nat) (a : Option Addr) (l : List Nat) (W : World) (hM : LentNM W g n l) (hc : n + 2 ≤ c1) (hcm : c1 ≤ maxLen) (hR : NR W a n l) (hn8 : n ≤ 1000000) :
    Calls Tryd.prog 19 #[.slice (some ⟨g, 0, none⟩) n c1, .slice a n c2] W fun e w' => e = .returned (.bool true) ∧ Below W.heap.size W w' := by
  refine (keptN_qW g n c1 c2 a l W hM.1 hM.2.1 hc hcm hR hn8).mono ?_
  rintro e w' ⟨rfl, q, rfl⟩
  exact ⟨rfl, bdrewN (bnil _) _⟩
end Go.Proofs.YtnmegpplfbkpcaaDoor
