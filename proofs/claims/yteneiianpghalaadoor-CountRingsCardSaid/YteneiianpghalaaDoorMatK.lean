/- The contracts of edenraw.LentNat, KeptNat and of edenlaw16.lent, kept. -/
import Derived.Test.YteneiianpghalaaDoorMatE
import Derived.Test.YteneiianpghalaaDoorBase
import Derived.Laws.OwnMore
import Derived.Deep.Cut
namespace Go.Proofs.YteneiianpghalaaDoor
open Go.RowKit
set_option linter.unusedVariables false
set_option maxRecDepth 100000

def marksN : List Int := [7001, 7002]
theorem rk_front {k : IntKind} {w : World} {a : Option Addr} {n m : Nat} {l r : List Int} (h : RK k w a m (l ++ r)) (hn : n = l.length) : RK k w a n l := by
  have hl := h.1
  simp at hl
  refine ⟨hn, ?_⟩
  have := h.2.take (k := n) (by omega)
  rwa [Nat.mul_one, List.map_append, List.take_left' (by simp; omega)] at this
theorem made_u32z (n : Nat) : (madeCells (Value.int .u32 0).cells (n * 1)).toList = (List.replicate n (0 : Int)).map (Value.int .u32) := by
  rw [show (Value.int .u32 0).cells = #[.int .u32 0] from by rfl, toList_madeCells_one]
  simp

set_option maxHeartbeats 2000000 in
theorem lentN_any (a : Option Addr) (n c : Nat) (l : List Int) (W : World) (hR : RK .u32 W a n l) (hn8 : n * 8 ≤ 140737488351232) :
    Calls Tryd.prog 53 #[.slice a n c] W fun e w' => e = .returned (.slice (some ⟨W.heap.size, 0, none⟩) n (n + 2)) ∧ w'.ownsRow W.heap.size 95 1 (.slice (some ⟨W.heap.size, 0, none⟩) (n + 2) (n + 2)) (n + 2) ((l ++ marksN).map (Value.int .u32)) ∧ Below W.heap.size W w' := by
  have HL := Lib.hid hR.len
  have HR := Lib.hid hR; clear hR
  have i0 : (0 : Int) ≤ (n : Int) := by omega
  have hmin : Nat.min n (n + 2) = n := Nat.min_eq_left (by omega)
  have HMIN := Lib.hid hmin; clear hmin
  go_enter Tryd.func53, Tryd.ntmps53
  go_wp2_with (first
    | (at_make; refine mk_full rfl _ _ _ rfl W.heap.size et_nat .i64 .i64 _ _ (n + 2) rfl rfl (by omega) (by omega) (by omega) (by unfold maxLen; omega) (Nat.le_refl _) ?_; intro w1 hown1 hb1 hsz1; rw [made_u32z] at hown1)
    | (refine cpy rfl _ _ _ _ rfl W.heap.size et_nat hown1 _ _ 0 _ _ _ _ n _ rfl rfl HMIN.out (fun _ => rfl) (HR.out.up hb1).2 (nums_one _ _) (by omega) ?_; intro w2 hc2; have hown2 := hc2.own;
       have c0 : w2.cell? ⟨W.heap.size, n, none⟩ = some (.int .u32 0) := (by
         rw [hown2.cellAt n (by omega)]
         have hl := HL.out
         unfold splice
         rw [List.take_of_length_le (l := List.map (Value.int IntKind.u32) l) (by simp; omega), List.getElem?_append_right (by simp), List.getElem?_append_right (by simp; omega), List.getElem?_drop]
         simp [hl]);
       have c1 : w2.cell? ⟨W.heap.size, n + 1, none⟩ = some (.int .u32 0) := (by
         rw [hown2.cellAt (n + 1) (by omega)]
         have hl := HL.out
         unfold splice
         rw [List.take_of_length_le (l := List.map (Value.int IntKind.u32) l) (by simp; omega), List.getElem?_append_right (by simp), List.getElem?_append_right (by simp; omega), List.getElem?_drop]
         simp [hl]);
       have f0 := hown2.frozenAt n; have f1 := hown2.frozenAt (n + 1);
       have HO2 := Lib.hid hown2; have HB2 := Lib.hid (hb1.trans hc2.below); clear hown2 hc2 hown1))
  go_ret
  refine ⟨rfl, ?_, ((HB2.out.setCell (p := ⟨W.heap.size, n, none⟩) (Nat.le_refl _) _).setCell (p := ⟨W.heap.size, n + 1, none⟩) (Nat.le_refl _) _)⟩
  have := own_set (own_set HO2.out n (.int .u32 7001)) (n + 1) (.int .u32 7002)
  have e : ((splice (List.map (Value.int IntKind.u32) (List.replicate (n + 2) 0)) 0 (List.take n (List.map (Value.int IntKind.u32) l))).set n (.int .u32 7001)).set (n + 1) (.int .u32 7002) = (l ++ marksN).map (Value.int .u32) := by
    have hl := HL.out
    subst hl
    unfold splice
    rw [List.take_of_length_le (l := List.map (Value.int IntKind.u32) l) (by simp)]
    simp only [List.take_zero, List.nil_append, Nat.zero_add, List.length_map]
    rw [← List.map_drop, List.drop_replicate, show l.length + 2 - l.length = 2 by omega]
    rw [List.set_append_right _ _ (by simp), List.set_append_right _ _ (by simp)]
    simp [marksN]
  rw [e] at this
  exact this

set_option maxHeartbeats 2000000 in
theorem nats_q (a1 a2 : Option Addr) (n1 n2 c1 c2 : Nat) (l : List Nat) (W : World) (h1 : NR W a1 n1 l) (h2 : NR W a2 n2 l) (hm : n1 ≤ maxLen) :
    Calls Tryd.prog 26 #[.slice a1 n1 c1, .slice a2 n2 c2] W fun e w' => e = .returned (.bool true) ∧ ∃ q, w' = W.drewN q := by
  have hmm : n1 ≤ 9223372036854775807 := hm
  obtain rfl : n1 = n2 := h1.len.trans h2.len.symm
  have H1 := Lib.hid h1; clear h1
  have H2 := Lib.hid h2; clear h2
  go_enter Tryd.func26, Tryd.ntmps26
  go_wp2_with fail
  go_loopw [5] (fun ix wr => ∃ k q : Nat, k ≤ n1 ∧ ix = .int .i64 k ∧ wr = W.drewN q) (fun ix _ => n1 - (intOf ix).toNat)
  case atStart => exact ⟨0, 0, by omega, rfl, rfl⟩
  case round =>
    obtain ⟨k, q, hk, rfl, rfl⟩ := hrel
    by_cases hlt : k < n1
    · obtain ⟨b1, o1, rfl, _, hc1⟩ := H1.out.addr (by omega)
      obtain ⟨b2, o2, rfl, _, hc2⟩ := H2.out.addr (by omega)
      have x0 := hc1 k hlt
      have y0 := hc2 k hlt
      clear hc1 hc2
      have i0 : (0 : Int) ≤ (k : Int) := by omega
      have i1 : (k : Int) < (n1 : Int) := by omega
      generalize l.getD k 0 = z at *
      go_wp2_with fail
      go_quiet (fail)
      go_wp2
      go_roundw
      case rel => exact ⟨k + 1, q + nq, by omega, by go_num, by simp⟩
      case measure => simp [intOf]; omega
    · go_wp2
      go_ret
      exact ⟨rfl, q, rfl⟩

/-- a lent number: its limbs, two marks behind -/
def LentEl (w : World) (base : Nat) (p : It) (l : List Nat) : Prop :=
  U32 l ∧ ∃ eb, p = (some ⟨eb, 0, none⟩, l.length, l.length + 2) ∧ w.ownsRow base 95 1 (.slice (some ⟨eb, 0, none⟩) (l.length + 2) (l.length + 2)) (l.length + 2) ((ofN l ++ marksN).map (Value.int .u32))
theorem LentEl.up {w w' : World} {base : Nat} {p : It} {l : List Nat} (h : LentEl w base p l) (hb : Below w.heap.size w w') : LentEl w' base p l := by
  obtain ⟨h1, eb, h2, h3⟩ := h
  exact ⟨h1, eb, h2, owns_up h3 hb⟩
theorem LentEl.set {w : World} {base g j n c b' sz : Nat} {e : TypeId} {p : It} {l : List Nat} {cs : List Value} (h : LentEl w base p l) (ho : w.ownsRow b' e sz (.slice (some ⟨g, 0, none⟩) n c) n cs) (he : e ≠ 95) (u : Value) : LentEl (w.setCell ⟨g, j, none⟩ u) base p l := by
  obtain ⟨h1, eb, h2, h3⟩ := h
  exact ⟨h1, eb, h2, own_set_other h3 (fun e2 => (ap_type ho h3 he) g rfl e2) u⟩
theorem LentEl.rk {w : World} {base : Nat} {p : It} {l : List Nat} (h : LentEl w base p l) : ∃ eb, p = (some ⟨eb, 0, none⟩, l.length, l.length + 2) ∧ RK .u32 w (some ⟨eb, 0, none⟩) (l.length + 2) (ofN l ++ marksN) ∧ l.length + 2 ≤ maxLen := by
  obtain ⟨h1, eb, h2, h3⟩ := h
  obtain ⟨a, c, he, q1, q2⟩ := owns_slice h3
  cases he
  exact ⟨eb, h2, RK.of_own h3, q2⟩
theorem LentEl.ns {w : World} {base : Nat} {p : It} {l : List Nat} (h : LentEl w base p l) : Ns w p.1 p.2.1 p.2.2 l := by
  obtain ⟨eb, rfl, h2, h3⟩ := h.rk
  exact ⟨⟨rk_front h2 (by rw [ofN_len]), h.1⟩, by simp, h3⟩
set_option maxHeartbeats 2000000 in
theorem keptN_q (g n c1 c2 : Nat) (a : Option Addr) (l : List Nat) (W : World) (hM : RK .u32 W (some ⟨g, 0, none⟩) (n + 2) (ofN l ++ marksN)) (hu : U32 l) (hc : n + 2 ≤ c1) (hcm : c1 ≤ maxLen) (hR : NR W a n l) (hn8 : n ≤ 1000000) :
    Calls Tryd.prog 55 #[.slice (some ⟨g, 0, none⟩) n c1, .slice a n c2] W fun e w' => e = .returned (.bool true) ∧ ∃ q, w' = W.drewN q := by
  have hcm' : c1 ≤ 9223372036854775807 := hcm
  have hl := hR.len
  have hM1 : NR W (some ⟨g, 0, none⟩) n l := ⟨rk_front hM (by rw [ofN_len]; exact hl), hu⟩
  obtain ⟨b, o, e, hbo, hcell⟩ := hM.addr (by omega)
  cases e
  have x0 : W.cell? ⟨g, n, none⟩ = some (.int .u32 7001) := by
    have := hcell n (by omega)
    rw [Nat.zero_add] at this
    rw [this]
    simp [hl, marksN, ofN]
  have x1 : W.cell? ⟨g, n + 1, none⟩ = some (.int .u32 7002) := by
    have := hcell (n + 1) (by omega)
    rw [Nat.zero_add] at this
    rw [this]
    simp [hl, marksN, ofN]
  clear hcell
  have HM := Lib.hid hM1; clear hM1 hM
  have HR := Lib.hid hR; clear hR
  have HL := Lib.hid hl; clear hl
  have i0 : (0 : Int) ≤ (n : Int) := by omega
  go_enter Tryd.func55, Tryd.ntmps55
  go_wp2_with fail
  refine (nats_q _ _ _ _ _ _ l _ HM.out HR.out (by unfold maxLen; omega)).mono ?_; rintro e w' ⟨rfl, q, rfl⟩
  go_wp2
  go_ret
  exact ⟨rfl, q, rfl⟩
end Go.Proofs.YteneiianpghalaaDoor
