/- Lent lists: their marks behind them. -/
import Derived.Test.YtnmegpplfbkpcaaDoorLent
import Derived.Test.YtnmegpplfbkpcaaDoorSl
namespace Go.Proofs.YtnmegpplfbkpcaaDoor
open Go.RowKit
set_option linter.unusedVariables false
set_option maxRecDepth 100000

/-- a lent list: its marks behind it -/
def LentM (w : World) (g n : Nat) (l : List Int) : Prop := RK .i64 w (some ⟨g, 0, none⟩) (n + 2) (l ++ marksI)
theorem LentM.up {w w' : World} {g n : Nat} {l : List Int} (h : LentM w g n l) (hb : Below w.heap.size w w') : LentM w' g n l := RK.up h hb
theorem LentM.sl {w : World} {g n : Nat} {l : List Int} (h : LentM w g n l) (h8 : n * 8 ≤ 140737488351232) : SlI w (some ⟨g, 0, none⟩) n (n + 2) l := by
  have hl := h.len
  simp [marksI] at hl
  exact ⟨rk_prefix h hl, by omega, h8, by unfold maxLen; omega, fun e => by cases e⟩

theorem lent_ex (a : Option Addr) (n c : Nat) (l : List Int) (W : World) (hR : RK .i64 W a n l) (hn8 : n * 8 ≤ 140737488351232) :
    Calls Tryd.prog 15 #[.slice a n c] W fun e w' => ∃ g c', e = .returned (.slice (some ⟨g, 0, none⟩) n c') ∧ c' = n + 2 ∧ OwI w' W.heap.size (some ⟨g, 0, none⟩) (n + 2) (n + 2) (l ++ marksI) ∧ Below W.heap.size W w' :=
  (lent_any a n c l W hR hn8).mono fun e w' h => ⟨_, _, h.1, rfl, ⟨h.2.1⟩, h.2.2⟩

theorem OwI.heap {w w' : World} {base : Nat} {a : Option Addr} {n c : Nat} {l : List Int} (h : OwI w base a n c l) (hh : ∀ b, base ≤ b → w'.heap[b]? = w.heap[b]?) : OwI w' base a n c l :=
  ⟨own_of_heap h.own fun b hb => hh b (h.own.lt b hb).1⟩

end Go.Proofs.YtnmegpplfbkpcaaDoor
