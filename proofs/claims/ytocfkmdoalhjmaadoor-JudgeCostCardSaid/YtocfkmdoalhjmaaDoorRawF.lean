/- edenraw.New, its two rows in new memory; a result of a struct's type that lies in a block of the call's own. -/
import Derived.Test.YtocfkmdoalhjmaaDoorRaw2
import Derived.OneCell
namespace Go.Proofs.YtocfkmdoalhjmaaDoor
open Go.RowKit
set_option linter.unusedVariables false
set_option maxRecDepth 100000

theorem rawNew_fresh (op : ByteArray) (at_ N : Int) (w : World) (hN : (N == 0) = false) :
    Calls Tryd.prog 67 #[.string op, .int .i64 at_, .int .i64 N] w fun e w' => ∃ b1 b2, e = .returned (.agg #[.int .i64 N, .slice (some ⟨b1, 0, none⟩) 1 1, .slice (some ⟨b2, 0, none⟩) 1 1]) ∧ w.heap.size ≤ b1 ∧ w.heap.size ≤ b2 ∧
      WantIs w' (.agg #[.int .i64 N, .slice (some ⟨b1, 0, none⟩) 1 1, .slice (some ⟨b2, 0, none⟩) 1 1]) (some (op, at_, N)) ∧ Below w.heap.size w w' := by
  go_enter Tryd.func67, Tryd.ntmps67
  go_wp2
  refine bodyPost_ret (v := .agg #[.int .i64 N, .slice (some ⟨w.heap.size + 1, 0, none⟩) 1 1, .slice (some ⟨w.heap.size + 1 + 1, 0, none⟩) 1 1]) (by simp [results, Tryd.results67, go_sem]) rfl ?_
  refine ⟨_, _, rfl, by omega, by omega, ⟨⟨_, _, _, _, rfl, rfl, rfl, ?_, ?_, by simp⟩, hN⟩, balloc (balloc (balloc (bnil _) _) _) _⟩
  · exact (rd_new (news := #[.string op]) (m := 1) (sz := 1) (by simp) rfl).al _
  · exact rd_new (news := #[.int .i64 at_]) (m := 1) (sz := 1) (by simp) rfl

/-- a struct of three cells that was laid before a call: it can be read and written behind it -/
theorem res3 {W w' : World} {x y z : Value} {t : TypeId} {g : Nat} (hg : g = W.heap.size) (hb : Below (W.alloc (.cells #[x, y, z] t)).heap.size (W.alloc (.cells #[x, y, z] t)) w') :
    (w'.cell? ⟨g, 0, none⟩ = some x ∧ w'.cell? ⟨g, 1, none⟩ = some y ∧ w'.cell? ⟨g, 2, none⟩ = some z) ∧ w'.frozen? ⟨g, 0, none⟩ = false ∧ w'.frozen? ⟨g, 1, none⟩ = false ∧ w'.frozen? ⟨g, 2, none⟩ = false := by
  subst hg
  have h := hb.block W.heap.size (by simp)
  rw [heap_alloc_new] at h
  simp [World.cell?, World.frozen?, h]

/-- .. and what it reads once its three cells are set; the blocks beside it are as they were -/
theorem res3_set {W w' : World} {x y z u0 u1 u2 : Value} {t : TypeId} {g : Nat} (hg : g = W.heap.size) (hb : Below (W.alloc (.cells #[x, y, z] t)).heap.size (W.alloc (.cells #[x, y, z] t)) w') :
    ∃ w6, (((w'.setCell ⟨g, 0, none⟩ u0).setCell ⟨g, 1, none⟩ u1).setCell ⟨g, 2, none⟩ u2) = w6 ∧ (w6.cell? ⟨g, 0, none⟩ = some u0 ∧ w6.cell? ⟨g, 1, none⟩ = some u1 ∧ w6.cell? ⟨g, 2, none⟩ = some u2) ∧ Below W.heap.size W w6 ∧ (∀ k, k ≠ g → w6.heap[k]? = w'.heap[k]?) ∧ w6.heap.size = w'.heap.size := by
  subst hg
  refine ⟨_, rfl, ?_, ?_, ?_, ?_⟩
  · have h := hb.block W.heap.size (by simp)
    rw [heap_alloc_new] at h
    simp [World.cell?, World.setCell, Array.getElem?_modify, h]
  · exact (((((balloc (bnil W) _).trans (hb.mono (by simp))).setCell (p := ⟨W.heap.size, 0, none⟩) (Nat.le_refl _) u0).setCell (p := ⟨W.heap.size, 1, none⟩) (Nat.le_refl _) u1).setCell (p := ⟨W.heap.size, 2, none⟩) (Nat.le_refl _) u2)
  · intro k hk
    rw [Below.heap_setCell _ _ _ _ hk, Below.heap_setCell _ _ _ _ hk, Below.heap_setCell _ _ _ _ hk]
  · simp [World.setCell]

theorem Rd.other {w w6 : World} {g b n sz : Nat} {o : Nat} {cs : List Value} (h : Rd w (some ⟨b, o, none⟩) n sz cs) (hk : ∀ k, k ≠ g → w6.heap[k]? = w.heap[k]?) (hs : w6.heap.size = w.heap.size) (hb : b ≠ g) : Rd w6 (some ⟨b, o, none⟩) n sz cs := by
  refine ⟨h.1, ?_⟩
  rcases h.2 with h0 | ⟨b', o', e, hlt, hc⟩
  · exact .inl h0
  · cases e
    refine .inr ⟨b, o, rfl, by omega, fun j u hu => ?_⟩
    rw [World.cell?_of_block (hk b hb)]
    exact hc j u hu
theorem WantIs.other {w w6 : World} {g b1 b2 : Nat} {N : Int} {f : Option (ByteArray × Int × Int)} (h : WantIs w (.agg #[.int .i64 N, .slice (some ⟨b1, 0, none⟩) 1 1, .slice (some ⟨b2, 0, none⟩) 1 1]) f) (hk : ∀ k, k ≠ g → w6.heap[k]? = w.heap[k]?) (hs : w6.heap.size = w.heap.size) (h1 : b1 ≠ g) (h2 : b2 ≠ g) :
    WantIs w6 (.agg #[.int .i64 N, .slice (some ⟨b1, 0, none⟩) 1 1, .slice (some ⟨b2, 0, none⟩) 1 1]) f := by
  cases f with
  | none =>
    obtain ⟨ao, aa, co, ca, e, hw⟩ := h
    simp at e
  | some x =>
    obtain ⟨⟨ao, aa, co, ca, e, hw⟩, hn⟩ := h
    simp only [Value.agg.injEq, Array.mk.injEq, List.cons.injEq, Value.int.injEq, Value.slice.injEq] at e
    obtain ⟨⟨_, rfl⟩, ⟨rfl, _, rfl⟩, ⟨rfl, _, rfl⟩, _⟩ := e
    exact ⟨⟨_, _, _, _, rfl, hw.n1, hw.n2, hw.ops.other hk hs h1, hw.ats.other hk hs h2, hw.len⟩, hn⟩
end Go.Proofs.YtocfkmdoalhjmaaDoor
