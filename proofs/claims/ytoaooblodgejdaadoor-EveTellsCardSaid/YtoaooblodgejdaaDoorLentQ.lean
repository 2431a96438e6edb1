/- A patch that is lent: a struct variable with a lent list, in whichever order its region makes it. -/
import Derived.Test.YtoaooblodgejdaaDoorPatX
import Derived.Test.YtoaooblodgejdaaDoorLentE
namespace Go.Proofs.YtoaooblodgejdaaDoor
open Go.RowKit
set_option linter.unusedVariables false
set_option maxRecDepth 100000

theorem set3v {w : World} {g : Nat} {x0 x1 x2 : Value} {t : TypeId} {fr : Nat × Nat} (h : w.heap[g]? = some (.cells #[x0, x1, x2] t fr)) (u0 u1 u2 : Value) : (((w.setCell ⟨g, 0, none⟩ u0).setCell ⟨g, 1, none⟩ u1).setCell ⟨g, 2, none⟩ u2).heap[g]? = some (.cells #[u0, u1, u2] t fr) := by
  simp [World.setCell, Array.getElem?_modify, h]
structure Qx (Wc wx : World) (g gm : Nat) (x y : Int) (n : Nat) (l : List Int) : Prop where
  hz : wx.heap[g]? = some (.cells #[.int .i64 x, .int .i64 y, .slice (some ⟨gm, 0, none⟩) n (n + 2)] 24)
  lm : LentM wx gm n l
  bl : Below Wc.heap.size Wc wx
theorem qx_new {Wc w5 : World} {gm n : Nat} {l : List Int} (ho : OwI w5 Wc.drew.heap.size (some ⟨gm, 0, none⟩) (n + 2) (n + 2) (l ++ marksI)) (hb : Below Wc.drew.heap.size Wc.drew w5) (x y : Int) :
    Qx Wc (w5.alloc (.cells #[.int .i64 x, .int .i64 y, .slice (some ⟨gm, 0, none⟩) n (n + 2)] 24)) w5.heap.size gm x y n l := by
  have h1 : Wc.heap.size ≤ w5.heap.size := hb.size
  exact ⟨heap_alloc_new w5 _, ho.rk.al _, ((Below.drew (bnil Wc)).trans hb).alloc h1 _⟩
theorem qx_old {Wc w5 : World} {gm n : Nat} {l : List Int} {o : Obj} {x0 x1 x2 : Value} (ho : OwI w5 (Wc.alloc o).drew.heap.size (some ⟨gm, 0, none⟩) (n + 2) (n + 2) (l ++ marksI)) (hb : Below (Wc.alloc o).drew.heap.size (Wc.alloc o).drew w5) (hz : w5.heap[Wc.heap.size]? = some (.cells #[x0, x1, x2] 24)) (x y : Int) :
    Qx Wc (((w5.setCell ⟨Wc.heap.size, 0, none⟩ (.int .i64 x)).setCell ⟨Wc.heap.size, 1, none⟩ (.int .i64 y)).setCell ⟨Wc.heap.size, 2, none⟩ (.slice (some ⟨gm, 0, none⟩) n (n + 2))) Wc.heap.size gm x y n l := by
  have h0 : (Wc.alloc o).drew.heap.size = Wc.heap.size + 1 := by show (Wc.alloc o).heap.size = _; simp
  have h1 : Below Wc.heap.size Wc (Wc.alloc o).drew := Below.drew (balloc (bnil Wc) o)
  obtain ⟨w8, e8, hc8, hk8, hs8, hb8⟩ := set3p hz (.int .i64 x) (.int .i64 y) (.slice (some ⟨gm, 0, none⟩) n (n + 2))
  have h3 := set3v hz (.int .i64 x) (.int .i64 y) (.slice (some ⟨gm, 0, none⟩) n (n + 2))
  rw [e8] at h3 ⊢
  exact ⟨h3, (OwI.mk (own_of_heap' ho.own fun b hb => hk8 b (by have := (ho.own.lt b hb).1; omega))).rk, hb8 _ _ (Nat.le_refl _) (h1.trans (hb.mono (by omega)))⟩
end Go.Proofs.YtoaooblodgejdaaDoor
