/- The contracts of edenraw.Lent, Kept, Copy. -/
import Derived.Test.YtnmegpplfbkpcaaDoorInts
import Derived.Test.YtnmegpplfbkpcaaDoorBase
import Derived.WalkKit
import Derived.Laws.OwnMore
import Derived.Lib.Hide
namespace Go.Proofs.YtnmegpplfbkpcaaDoor
open Go.RowKit
set_option linter.unusedVariables false
set_option maxRecDepth 100000

theorem own_of_heap {w w' : World} {base sz n : Nat} {e : TypeId} {v : Value} {cs : List Value} (h : w.ownsRow base e sz v n cs) (hh : ∀ b, v.ownBlock = some b → w'.heap[b]? = w.heap[b]?) : w'.ownsRow base e sz v n cs := by
  refine ⟨h.1, ?_⟩
  rcases h.2 with hn | ⟨g, cap, cur, rfl, hbg, hg, rest⟩
  · exact .inl hn
  · exact .inr ⟨g, cap, cur, rfl, hbg, by rw [hh g rfl]; exact hg, rest⟩
theorem rk_of_heap {k : IntKind} {w w' : World} {b o n : Nat} {l : List Int} (h : RK k w (some ⟨b, o, none⟩) n l) (hh : w'.heap[b]? = w.heap[b]?) (hs : w.heap.size ≤ w'.heap.size) : RK k w' (some ⟨b, o, none⟩) n l := by
  refine ⟨h.1, h.2.1, ?_⟩
  rcases h.2.2 with h0 | ⟨b', o', e, hlt, hc⟩
  · exact .inl h0
  · cases e
    exact .inr ⟨b, o, rfl, by omega, fun j u hu => by rw [World.cell?_of_block hh]; exact hc j u hu⟩
/-- a row that was made later lies in another block -/
theorem ap_later {w w2 : World} {b1 b2 sz1 sz2 n1 n2 : Nat} {e1 e2 : TypeId} {v1 v2 : Value} {c1 c2 : List Value} (h1 : w.ownsRow b1 e1 sz1 v1 n1 c1) (h2 : w2.ownsRow b2 e2 sz2 v2 n2 c2) (hb : w.heap.size ≤ b2) : Ap v1 v2 := by
  intro g hg hg2
  have := (h1.lt g hg).2
  have := (h2.lt g hg2).1
  omega
theorem rk_prefix {k : IntKind} {w : World} {a : Option Addr} {n m : Nat} {l r : List Int} (h : RK k w a m (l ++ r)) (hn : n = l.length) : RK k w a n l := by
  have hl := h.1
  simp at hl
  refine ⟨hn, ?_⟩
  have := h.2.take (k := n) (by omega)
  rwa [Nat.mul_one, List.map_append, List.take_left' (by simp; omega)] at this

def marksI : List Int := [7001, 7002]

theorem made_i64' (n : Nat) : (madeCells (Value.int .i64 0).cells (n * 1)).toList = (List.replicate n (0 : Int)).map (Value.int .i64) := by
  rw [show (Value.int .i64 0).cells = #[.int .i64 0] from by rfl, toList_madeCells_one]
  simp

set_option maxHeartbeats 2000000 in
theorem lent_any (a : Option Addr) (n c : Nat) (l : List Int) (W : World) (hR : RK .i64 W a n l) (hn8 : n * 8 ≤ 140737488351232) :
    Calls Tryd.prog 15 #[.slice a n c] W fun e w' => e = .returned (.slice (some ⟨W.heap.size, 0, none⟩) n (n + 2)) ∧ w'.ownsRow W.heap.size 3 1 (.slice (some ⟨W.heap.size, 0, none⟩) (n + 2) (n + 2)) (n + 2) ((l ++ marksI).map (Value.int .i64)) ∧ Below W.heap.size W w' := by
  have HL := Lib.hid hR.len
  have HR := Lib.hid hR; clear hR
  have i0 : (0 : Int) ≤ (n : Int) := by omega
  have hmin : Nat.min n (n + 2) = n := Nat.min_eq_left (by omega)
  have HMIN := Lib.hid hmin; clear hmin
  go_enter Tryd.func15, Tryd.ntmps15
  go_wp2_with (first
    | (at_make; refine mk_full rfl _ _ _ rfl W.heap.size et_int .i64 .i64 _ _ (n + 2) rfl rfl (by omega) (by omega) (by omega) (by unfold maxLen; omega) (Nat.le_refl _) ?_; intro w1 hown1 hb1 hsz1; rw [made_i64'] at hown1)
    | (refine cpy rfl _ _ _ _ rfl W.heap.size et_int hown1 _ _ 0 _ _ _ _ n _ rfl rfl HMIN.out (fun _ => rfl) (HR.out.up hb1).2 (nums_one _ _) (by omega) ?_; intro w2 hc2; have hown2 := hc2.own;
       have c0 : w2.cell? ⟨W.heap.size, n, none⟩ = some (.int .i64 0) := (by
         rw [hown2.cellAt n (by omega)]
         have hl := HL.out
         unfold splice
         rw [List.take_of_length_le (l := List.map (Value.int IntKind.i64) l) (by simp; omega), List.getElem?_append_right (by simp), List.getElem?_append_right (by simp; omega), List.getElem?_drop]
         simp [hl]);
       have c1 : w2.cell? ⟨W.heap.size, n + 1, none⟩ = some (.int .i64 0) := (by
         rw [hown2.cellAt (n + 1) (by omega)]
         have hl := HL.out
         unfold splice
         rw [List.take_of_length_le (l := List.map (Value.int IntKind.i64) l) (by simp; omega), List.getElem?_append_right (by simp), List.getElem?_append_right (by simp; omega), List.getElem?_drop]
         simp [hl]);
       have f0 := hown2.frozenAt n; have f1 := hown2.frozenAt (n + 1);
       have HO2 := Lib.hid hown2; have HB2 := Lib.hid (hb1.trans hc2.below); clear hown2 hc2 hown1))
  go_ret
  refine ⟨rfl, ?_, ((HB2.out.setCell (p := ⟨W.heap.size, n, none⟩) (Nat.le_refl _) _).setCell (p := ⟨W.heap.size, n + 1, none⟩) (Nat.le_refl _) _)⟩
  have := own_set (own_set HO2.out n (.int .i64 7001)) (n + 1) (.int .i64 7002)
  have e : ((splice (List.map (Value.int IntKind.i64) (List.replicate (n + 2) 0)) 0 (List.take n (List.map (Value.int IntKind.i64) l))).set n (.int .i64 7001)).set (n + 1) (.int .i64 7002) = (l ++ marksI).map (Value.int .i64) := by
    have hl := HL.out
    subst hl
    unfold splice
    rw [List.take_of_length_le (l := List.map (Value.int IntKind.i64) l) (by simp)]
    simp only [List.take_zero, List.nil_append, Nat.zero_add, List.length_map]
    rw [← List.map_drop, List.drop_replicate, show l.length + 2 - l.length = 2 by omega]
    rw [List.set_append_right _ _ (by simp), List.set_append_right _ _ (by simp)]
    simp [marksI]
  rw [e] at this
  exact this

set_option maxHeartbeats 2000000 in
theorem kept_any (g n c1 c2 : Nat) (a : Option Addr) (l : List Int) (W : World) (hM : RK .i64 W (some ⟨g, 0, none⟩) (n + 2) (l ++ marksI)) (hc : n + 2 ≤ c1) (hcm : c1 ≤ maxLen) (hR : RK .i64 W a n l) (hn8 : n * 8 ≤ 140737488351232) :
    Calls Tryd.prog 18 #[.slice (some ⟨g, 0, none⟩) n c1, .slice a n c2] W fun e w' => e = .returned (.bool true) ∧ Below W.heap.size W w' := by
  have hcm' : c1 ≤ 9223372036854775807 := hcm
  have hl := hR.len
  have hM1 : RK .i64 W (some ⟨g, 0, none⟩) n l := rk_prefix hM hl
  obtain ⟨b, o, e, hbo, hcell⟩ := hM.addr (by omega)
  cases e
  have x0 : W.cell? ⟨g, n, none⟩ = some (.int .i64 7001) := by
    have := hcell n (by omega)
    rw [Nat.zero_add] at this
    rw [this]
    simp [hl, marksI]
  have x1 : W.cell? ⟨g, n + 1, none⟩ = some (.int .i64 7002) := by
    have := hcell (n + 1) (by omega)
    rw [Nat.zero_add] at this
    rw [this]
    simp [hl, marksI]
  clear hcell
  have HM := Lib.hid hM1; clear hM1 hM
  have HR := Lib.hid hR; clear hR
  have HL := Lib.hid hl; clear hl
  have i0 : (0 : Int) ≤ (n : Int) := by omega
  have hmx : l.length ≤ maxLen := by have := HL.out; unfold maxLen; omega
  go_enter Tryd.func18, Tryd.ntmps18
  go_wp2_with fail
  refine (ints_eq _ _ _ _ _ _ l _ HM.out HR.out hmx).mono ?_; rintro e w' ⟨rfl, q, rfl⟩
  go_wp2
  go_ret
  exact ⟨rfl, bdrewN (bnil W) q⟩

theorem copy_any (a : Option Addr) (n c : Nat) (l : List Int) (W : World) (hR : RK .i64 W a n l) (hm : n * 8 ≤ 140737488351232) (hcap : a = none → c = 0) :
    Calls Tryd.prog 81 #[.slice a n c] W fun e w' => ∃ a' c', e = .returned (.slice a' n c') ∧ w'.ownsRow W.heap.size 3 1 (.slice a' n c') n (l.map (Value.int .i64)) ∧ Below W.heap.size W w' := by
  have HR := Lib.hid hR; clear hR
  go_enter Tryd.func81, Tryd.ntmps81
  go_wp2_with (first
    | (at_builtin; refine apx rfl _ _ _ rfl W.heap.size et_int _ 0 [] (own_empty _ _ rfl (Nat.le_refl _)) rfl _ n _ _ rfl hcap (HR.out.al _).2 (nums_one _ _) (by unfold maxLen; omega) (by omega) (by simp) ?_; intro a6 c6 w6 h6; have o6 := h6.own; simp only [Nat.zero_add, List.nil_append] at o6))
  go_ret
  exact ⟨_, _, rfl, o6, (balloc (bnil W) _).trans h6.below⟩
end Go.Proofs.YtnmegpplfbkpcaaDoor
