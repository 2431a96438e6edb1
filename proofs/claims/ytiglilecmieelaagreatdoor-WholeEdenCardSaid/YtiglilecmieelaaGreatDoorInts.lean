/- Lists of numbers in memory; edenraw.Ints. -/
import Derived.Test.YtiglilecmieelaaGreatDoorProg
import Derived.Test.YtiglilecmieelaaGreatDoorBase
import Derived.WalkKit
import Derived.Deep.QuietTactic
import Derived.BigQuiet
import Derived.Laws.OwnMore
import Derived.IntWalk
import Derived.Lib.Hide
namespace Go.Proofs.YtiglilecmieelaaGreatDoor
open Go.RowKit
set_option linter.unusedVariables false
set_option maxRecDepth 100000

/-- A slice (its address, its length) reads as the list l of numbers of the kind k. -/
def RK (k : IntKind) (w : World) (a : Option Addr) (n : Nat) (l : List Int) : Prop := n = l.length ∧ Rd w a n 1 (l.map (Value.int k))
theorem RK.len {k : IntKind} {w : World} {a : Option Addr} {n : Nat} {l : List Int} (h : RK k w a n l) : n = l.length := h.1
theorem RK.up {k : IntKind} {w w' : World} {a : Option Addr} {n : Nat} {l : List Int} (h : RK k w a n l) (hb : Below w.heap.size w w') : RK k w' a n l := ⟨h.1, h.2.up hb⟩
theorem RK.al {k : IntKind} {w : World} {a : Option Addr} {n : Nat} {l : List Int} (h : RK k w a n l) (o : Obj) : RK k (w.alloc o) a n l := ⟨h.1, h.2.al o⟩
theorem RK.dr {k : IntKind} {w : World} {a : Option Addr} {n : Nat} {l : List Int} (h : RK k w a n l) (m : Nat) : RK k (w.drewN m) a n l := h.up (bdrewN (bnil _) m)
theorem RK.addr {k : IntKind} {w : World} {a : Option Addr} {n : Nat} {l : List Int} (h : RK k w a n l) (hn : 0 < n) :
    ∃ b o, a = some ⟨b, o, none⟩ ∧ b < w.heap.size ∧ ∀ j, j < n → w.cell? ⟨b, o + j, none⟩ = some (.int k (l.getD j 0)) := by
  obtain ⟨b, o, ha, hb, hc⟩ := h.2.2.resolve_left (by omega)
  refine ⟨b, o, ha, hb, fun j hj => hc j _ ?_⟩
  have := h.1
  simp [show j < l.length by omega]
theorem RK.nil {k : IntKind} {w : World} {a : Option Addr} : RK k w a 0 [] := ⟨rfl, rfl, .inl rfl⟩
theorem rk_new {k : IntKind} {w : World} {g m : Nat} {news : Array Value} {e : TypeId} {fr : Nat × Nat} {l : List Int} (hg : g = w.heap.size) (hl : news.toList = l.map (Value.int k)) (hm : m = l.length) : RK k (w.alloc (.cells news e fr)) (some ⟨g, 0, none⟩) m l := by
  refine ⟨hm, ?_⟩
  rw [← hl]
  refine rd_new hg ?_
  have := congrArg List.length hl
  simp at this
  omega
theorem RK.of_own {k : IntKind} {w : World} {base n m c : Nat} {e : TypeId} {a : Option Addr} {l : List Int} (h : w.ownsRow base e 1 (.slice a m c) n (l.map (Value.int k))) : RK k w a n l := by
  have := owns_rd h
  exact ⟨by simpa using this.2.1.symm, this.2⟩
theorem nums_one (k : IntKind) (l : List Int) : ∀ u ∈ l.map (Value.int k), u.oneCell' = true := by
  intro u hu
  obtain ⟨x, _, rfl⟩ := List.mem_map.1 hu
  rfl


theorem take_eq_step {l1 l2 : List Int} {k : Nat} (h1 : k < l1.length) (h2 : k < l2.length) (h : l1.take k = l2.take k) (e : l1.getD k 0 = l2.getD k 0) : l1.take (k + 1) = l2.take (k + 1) := by
  rw [List.take_succ_eq_append_getElem h1, List.take_succ_eq_append_getElem h2, h]
  simp [h1, h2] at e
  rw [e]

end Go.Proofs.YtiglilecmieelaaGreatDoor
