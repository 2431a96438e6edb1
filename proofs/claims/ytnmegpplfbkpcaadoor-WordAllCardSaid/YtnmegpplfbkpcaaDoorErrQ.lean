/- Errors of the document as results: a box of three cells, Bad, New. -/
import Derived.Test.YtnmegpplfbkpcaaDoorErrB
namespace Go.Proofs.YtnmegpplfbkpcaaDoor
open Go.RowKit
set_option linter.unusedVariables false
set_option maxRecDepth 100000

theorem heap_ltQ {w : World} {b : Nat} {o : Obj} (h : w.heap[b]? = some o) : b < w.heap.size := (Array.getElem?_eq_some_iff.1 h).1
theorem wc_num {w : World} {N n : Int} {a1 a2 : Option Addr} {n1 c1 n2 c2 : Nat} {es : List (ByteArray × Int)} (h : WC w (.agg #[.int .i64 N, .slice a1 n1 c1, .slice a2 n2 c2]) (some (es, n))) : N = n := by
  obtain ⟨⟨ao, aa, co, ca, e, _⟩, _⟩ := h
  simp only [Value.agg.injEq, Array.mk.injEq, List.cons.injEq, Value.int.injEq] at e
  exact e.1.2
theorem set3q {w : World} {g : Nat} {x0 x1 x2 : Value} {t : TypeId} {fr : Nat × Nat} (h : w.heap[g]? = some (.cells #[x0, x1, x2] t fr)) (u0 u1 u2 : Value) :
    ∃ w6, (((w.setCell ⟨g, 0, none⟩ u0).setCell ⟨g, 1, none⟩ u1).setCell ⟨g, 2, none⟩ u2) = w6 ∧ (w6.cell? ⟨g, 0, none⟩ = some u0 ∧ w6.cell? ⟨g, 1, none⟩ = some u1 ∧ w6.cell? ⟨g, 2, none⟩ = some u2) ∧ (∀ k, k ≠ g → w6.heap[k]? = w.heap[k]?) ∧ w6.heap.size = w.heap.size ∧ (∀ (V : World) (B : Nat), B ≤ g → Below B V w → Below B V w6) ∧ w6.heap[g]? = some (.cells #[u0, u1, u2] t fr) := by
  refine ⟨_, rfl, ?_, fun k hk => ?_, ?_, fun V B hB hb => ?_, ?_⟩
  · simp [World.cell?, World.setCell, Array.getElem?_modify, h]
  · rw [Below.heap_setCell _ _ _ _ hk, Below.heap_setCell _ _ _ _ hk, Below.heap_setCell _ _ _ _ hk]
  · simp [World.setCell]
  · exact ((hb.setCell (p := ⟨g, 0, none⟩) hB _).setCell (p := ⟨g, 1, none⟩) hB _).setCell (p := ⟨g, 2, none⟩) hB _
  · simp [World.setCell, Array.getElem?_modify, h]
theorem cellsq {w : World} {g : Nat} {x0 x1 x2 : Value} {t : TypeId} (h : w.heap[g]? = some (.cells #[x0, x1, x2] t)) : (w.cell? ⟨g, 0, none⟩ = some x0 ∧ w.cell? ⟨g, 1, none⟩ = some x1 ∧ w.cell? ⟨g, 2, none⟩ = some x2) ∧ w.frozen? ⟨g, 0, none⟩ = false ∧ w.frozen? ⟨g, 1, none⟩ = false ∧ w.frozen? ⟨g, 2, none⟩ = false := by
  simp [World.cell?, World.frozen?, h]
theorem refBadq (n : Int) (x y : Value) (W : World) (b : Bool) (h : (n != 0) = b) : Calls Tryd.prog 80 #[.agg #[.int .i64 n, x, y]] W fun e W' => e = .returned (.bool b) ∧ Below W.heap.size W W' := by
  subst h
  go_enter Tryd.func80, Tryd.ntmps80
  go_wp2
  go_ret
  exact ⟨rfl, balloc (bnil W) _⟩
theorem rawNewq (op : ByteArray) (at_ N : Int) (W : World) (hN : (N == 0) = false) : Calls Tryd.prog 79 #[.string op, .int .i64 at_, .int .i64 N] W (RefRet W (some ([(op, at_)], N))) := by
  refine (rawNew_fresh op at_ N W hN).mono ?_
  rintro e w' ⟨b1, b2, rfl, l1, l2, hw, hb⟩
  exact ⟨N, _, 1, 1, _, 1, 1, rfl, wc_want hw, fr_some l1, fr_some l2, by simpa using hN, nofun, hb⟩
end Go.Proofs.YtnmegpplfbkpcaaDoor
