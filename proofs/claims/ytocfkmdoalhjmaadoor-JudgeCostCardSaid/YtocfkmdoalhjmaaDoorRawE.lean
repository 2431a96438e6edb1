/- edenraw.Is where the error is the one that is wanted. -/
import Derived.Test.YtocfkmdoalhjmaaDoorRawF
namespace Go.Proofs.YtocfkmdoalhjmaaDoor
open Go.RowKit
set_option linter.unusedVariables false
set_option maxRecDepth 100000

theorem errIs_selfR (f : Option (ByteArray × Int × Int)) : errIs f f = true := by
  cases f with
  | none => rfl
  | some x => simp [errIs]
theorem rawIs_same (B : Nat) (v x : Value) (f : Option (ByteArray × Int × Int)) (w : World) (R : Nat → Addr) (hE : Env w R) (he : ErrIs B R w v f) (hf : WantIs w x f) :
    Calls Tryd.prog 28 #[v, x] w fun e w' => e = .returned (.bool true) ∧ Below w.heap.size w w' := by
  have := rawIs_any B v x f f w R hE he hf
  rw [errIs_selfR] at this
  exact this
/-- an error as a result that lies in the call's own first block -/
theorem ref_fin {W w5 : World} {op : ByteArray} {at_ k : Int} {b1 b2 g : Nat} {z0 z1 z2 : Value} {t : TypeId} (hg : g = W.heap.size) (hb : Below (W.alloc (.cells #[z0, z1, z2] t)).heap.size (W.alloc (.cells #[z0, z1, z2] t)) w5) (h1 : W.heap.size < b1) (h2 : W.heap.size < b2)
    (hw : WantIs w5 (.agg #[.int .i64 k, .slice (some ⟨b1, 0, none⟩) 1 1, .slice (some ⟨b2, 0, none⟩) 1 1]) (some (op, at_, k))) :
    ∃ w6, (((w5.setCell ⟨g, 0, none⟩ (.int .i64 k)).setCell ⟨g, 1, none⟩ (.slice (some ⟨b1, 0, none⟩) 1 1)).setCell ⟨g, 2, none⟩ (.slice (some ⟨b2, 0, none⟩) 1 1)) = w6 ∧
      (w6.cell? ⟨g, 0, none⟩ = some (.int .i64 k) ∧ w6.cell? ⟨g, 1, none⟩ = some (.slice (some ⟨b1, 0, none⟩) 1 1) ∧ w6.cell? ⟨g, 2, none⟩ = some (.slice (some ⟨b2, 0, none⟩) 1 1)) ∧
      WantIs w6 (.agg #[.int .i64 k, .slice (some ⟨b1, 0, none⟩) 1 1, .slice (some ⟨b2, 0, none⟩) 1 1]) (some (op, at_, k)) ∧ Below W.heap.size W w6 := by
  obtain ⟨w6, e6, cells, bel, hk, hs⟩ := res3_set (u0 := .int .i64 k) (u1 := .slice (some ⟨b1, 0, none⟩) 1 1) (u2 := .slice (some ⟨b2, 0, none⟩) 1 1) hg hb
  exact ⟨w6, e6, cells, hw.other hk hs (by omega) (by omega), bel⟩
end Go.Proofs.YtocfkmdoalhjmaaDoor
