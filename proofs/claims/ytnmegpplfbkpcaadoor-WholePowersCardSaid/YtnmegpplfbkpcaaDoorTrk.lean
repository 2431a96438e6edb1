/- Facts that stay over calls, kept together as one: Tk. -/
import Derived.Test.YtnmegpplfbkpcaaDoorBase
namespace Go.Proofs.YtnmegpplfbkpcaaDoor
open Go.RowKit
set_option linter.unusedVariables false

/-- a fact of a world that stays as long as nothing old is written -/
structure MonoS (P : World → Prop) : Prop where
  up : ∀ {w w' : World}, Below w.heap.size w w' → P w → P w'
abbrev Mono (P : World → Prop) : Prop := Nonempty (MonoS P)
theorem Mono.up {P : World → Prop} (h : Mono P) {w w' : World} (hb : Below w.heap.size w w') (hp : P w) : P w' := by
  obtain ⟨m⟩ := h
  exact m.up hb hp
/-- facts that are kept -/
structure Tk (P : World → Prop) (w : World) : Prop where
  out : P w
instance monoAnd {P Q : World → Prop} [hP : Mono P] [hQ : Mono Q] : Mono (fun w => P w ∧ Q w) := ⟨⟨fun hb h => ⟨hP.up hb h.1, hQ.up hb h.2⟩⟩⟩
instance monoConst {p : Prop} : Mono (fun _ => p) := ⟨⟨fun _ h => h⟩⟩
instance monoCell {a : Addr} {v : Value} : Mono (fun w => w.cell? a = some v) := ⟨⟨fun hb h => (hb.cell (World.block_lt_of_cell? _ _ h)).trans h⟩⟩
instance monoBelow {V : World} : Mono (fun w => Below V.heap.size V w) := ⟨⟨fun hb h => bstep h hb⟩⟩
instance monoRd {a : Option Addr} {n sz : Nat} {cs : List Value} : Mono (fun w => Rd w a n sz cs) := ⟨⟨fun hb h => h.up hb⟩⟩
theorem heap_ltT {w : World} {b : Nat} {o : Obj} (h : w.heap[b]? = some o) : b < w.heap.size := (Array.getElem?_eq_some_iff.1 h).1
instance monoHeap {b : Nat} {o : Obj} : Mono (fun w => w.heap[b]? = some o) := ⟨⟨fun hb h => (hb.block b (heap_ltT h)).trans h⟩⟩
instance monoOwn {B sz n : Nat} {e : TypeId} {v : Value} {cs : List Value} : Mono (fun w => w.ownsRow B e sz v n cs) := ⟨⟨fun hb h => owns_up h hb⟩⟩
theorem Tk.nil (w : World) : Tk (fun _ => True) w := ⟨trivial⟩
theorem Tk.up {P : World → Prop} [hP : Mono P] {w w' : World} (h : Tk P w) (hb : Below w.heap.size w w') : Tk P w' := ⟨hP.up hb h.out⟩
theorem Tk.add {P : World → Prop} {w : World} (h : Tk P w) (Q : World → Prop) (q : Q w) : Tk (fun w => P w ∧ Q w) w := ⟨⟨h.out, q⟩⟩
theorem cell_at_new {w : World} {o : Obj} {g j : Nat} {cs : Array Value} {t : TypeId} {v : Value} (ho : o = .cells cs t) (hg : g = w.heap.size) (hv : cs[j]? = some v) : (w.alloc o).cell? ⟨g, j, none⟩ = some v := by
  subst ho; subst hg
  simp only [World.cell?, heap_alloc_new]
  exact hv
theorem below_al {w w' : World} {o : Obj} (h : w.alloc o = w') : Below w.heap.size w w' := by rw [← h]; exact balloc (bnil w) o
end Go.Proofs.YtnmegpplfbkpcaaDoor
