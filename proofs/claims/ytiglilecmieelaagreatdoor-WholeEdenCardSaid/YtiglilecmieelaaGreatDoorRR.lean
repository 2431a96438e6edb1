/- Rows of rows in memory, each row owned and apart from the others. -/
import Derived.Test.YtiglilecmieelaaGreatDoorBase
import Derived.Test.YtiglilecmieelaaGreatDoorInts
import Derived.Laws.OwnMore
import Derived.Deep.OwnRows
namespace Go.Proofs.YtiglilecmieelaaGreatDoor
open Go.RowKit
set_option linter.unusedVariables false
set_option maxRecDepth 100000

theorem own_hp {w w' : World} {base sz n : Nat} {e : TypeId} {v : Value} {cs : List Value} (h : w.ownsRow base e sz v n cs) (hh : ∀ b, v.ownBlock = some b → w'.heap[b]? = w.heap[b]?) : w'.ownsRow base e sz v n cs := by
  refine ⟨h.1, ?_⟩
  rcases h.2 with hn | ⟨g, cap, cur, rfl, hbg, hg, rest⟩
  · exact .inl hn
  · exact .inr ⟨g, cap, cur, rfl, hbg, (hh g rfl).trans hg, rest⟩
theorem own_neT {w : World} {B sz n g : Nat} {e t : TypeId} {v : Value} {cs : List Value} {xs : Array Value} {fr : Nat × Nat} (h : w.ownsRow B e sz v n cs) (hg : w.heap[g]? = some (.cells xs t fr)) (hne : e ≠ t) : v.ownBlock ≠ some g := by
  intro hb
  rcases h.2 with ⟨rfl, _⟩ | ⟨k, _, cur, rfl, _, q1, _⟩
  · cases hb
  · simp only [Value.ownBlock, Option.some.injEq] at hb
    subst hb
    rw [hg] at q1
    simp only [Option.some.injEq, Obj.cells.injEq] at q1
    exact hne q1.2.1.symm
theorem heap_ltR {w : World} {b : Nat} {o : Obj} (h : w.heap[b]? = some o) : b < w.heap.size := (Array.getElem?_eq_some_iff.1 h).1
theorem own_wf {w : World} {base sz n : Nat} {e : TypeId} {v : Value} {cs : List Value} (h : w.ownsRow base e sz v n cs) : ∃ a c, v = .slice a n c := by
  rcases h.2 with ⟨rfl, rfl⟩ | ⟨g, cap, cur, rfl, _⟩
  · exact ⟨_, _, rfl⟩
  · exact ⟨_, _, rfl⟩
/-- N rows, one beside the other, in the block g -/
structure RR (w : World) (B g N : Nat) (ot et : TypeId) (sz : Nat) (rw_ : Nat → Value) (cnt : Nat → Nat) (cs : Nat → List Value) : Prop where
  out : w.heap[g]? = some (.cells ((List.range N).map rw_).toArray ot)
  lay : B ≤ g
  row : ∀ i, i < N → w.ownsRow B et sz (rw_ i) (cnt i) (cs i)
  ap : ∀ i j, i < N → j < N → i ≠ j → Ap (rw_ i) (rw_ j)
/-- f with another value at m -/
def upd {α : Type} (f : Nat → α) (m : Nat) (x : α) : Nat → α := fun i => if i = m then x else f i
theorem upd_at {α : Type} (f : Nat → α) (m : Nat) (x : α) : upd f m x m = x := if_pos rfl
theorem upd_ne {α : Type} (f : Nat → α) {m i : Nat} (x : α) (h : i ≠ m) : upd f m x i = f i := if_neg h
theorem map_upd {N m : Nat} (f : Nat → Value) (x : Value) (h : m < N) : ((List.range N).map f).set m x = (List.range N).map (upd f m x) := by
  apply List.ext_getElem
  · simp
  · intro i h1 h2
    rw [List.getElem_set]
    by_cases e : m = i
    · subst e; simp [upd]
    · rw [if_neg e]
      simp only [List.getElem_map, List.getElem_range]
      rw [upd_ne _ _ fun q => e q.symm]
section
variable {w w' : World} {B g N sz : Nat} {ot et : TypeId} {rw_ : Nat → Value} {cnt : Nat → Nat} {cs : Nat → List Value}
theorem RR.heap (h : RR w B g N ot et sz rw_ cnt cs) (h1 : w'.heap[g]? = w.heap[g]?) (h2 : ∀ i, i < N → ∀ b, (rw_ i).ownBlock = some b → w'.heap[b]? = w.heap[b]?) : RR w' B g N ot et sz rw_ cnt cs :=
  ⟨h1.trans h.out, h.lay, fun i hi => own_hp (h.row i hi) (h2 i hi), h.ap⟩
theorem RR.up (h : RR w B g N ot et sz rw_ cnt cs) (hb : Below w.heap.size w w') : RR w' B g N ot et sz rw_ cnt cs :=
  h.heap (hb.block _ (heap_ltR h.out)) fun i hi b hb2 => hb.block _ ((h.row i hi).lt b hb2).2
theorem RR.cell (h : RR w B g N ot et sz rw_ cnt cs) {i : Nat} (hi : i < N) : w.cell? ⟨g, i, none⟩ = some (rw_ i) := by
  simp [World.cell?, h.out, hi]
theorem RR.fz (h : RR w B g N ot et sz rw_ cnt cs) (i : Nat) : w.frozen? ⟨g, i, none⟩ = false := by
  simp [World.frozen?, h.out]
theorem RR.lt (h : RR w B g N ot et sz rw_ cnt cs) : g < w.heap.size := heap_ltR h.out
/-- a row is put anew -/
theorem RR.put (h : RR w B g N ot et sz rw_ cnt cs) {m n : Nat} {v : Value} {xs : List Value} (hm : m < N) (ho : w.ownsRow B et sz v n xs) (hne : et ≠ ot) (hap : ∀ i, i < N → i ≠ m → Ap v (rw_ i)) :
    RR (w.setCell ⟨g, m, none⟩ v) B g N ot et sz (upd rw_ m v) (upd cnt m n) (upd cs m xs) := by
  refine ⟨?_, h.lay, fun i hi => ?_, fun i j hi hj hij => ?_⟩
  · rw [← map_upd rw_ v hm]
    simp [World.setCell, Array.getElem?_modify, h.out]
  · by_cases e : i = m
    · subst e
      rw [upd_at, upd_at, upd_at]
      exact own_set_other ho (own_neT ho h.out hne) v
    · rw [upd_ne _ _ e, upd_ne _ _ e, upd_ne _ _ e]
      exact own_set_other (h.row i hi) (own_neT (h.row i hi) h.out hne) v
  · by_cases e1 : i = m
    · subst e1
      rw [upd_at, upd_ne _ _ (fun q => hij q.symm)]
      exact hap j hj fun q => hij q.symm
    · rw [upd_ne _ _ e1]
      by_cases e2 : j = m
      · subst e2
        rw [upd_at]
        exact (hap i hi e1).symm
      · rw [upd_ne _ _ e2]
        exact h.ap i j hi hj hij
/-- a row is appended to, and put back -/
theorem RR.app (h : RR w B g N ot et sz rw_ cnt cs) {m n : Nat} {v' : Value} {news : List Value} (hm : m < N) (ha : Appended B et sz w w' (rw_ m) v' (cnt m) n (cs m) news) (hne : et ≠ ot) :
    RR (w'.setCell ⟨g, m, none⟩ v') B g N ot et sz (upd rw_ m v') (upd cnt m (cnt m + n)) (upd cs m (cs m ++ news)) := by
  have hown := h.row m hm
  have hk : ∀ b, b < w.heap.size → (rw_ m).ownBlock ≠ some b → w'.heap[b]? = w.heap[b]? := fun b hb hq => ha.row.block b hb fun e => hq e.symm
  have hg := hk g h.lt (own_neT hown h.out hne)
  have h2 : w'.heap[g]? = some (.cells ((List.range N).map rw_).toArray ot) := hg.trans h.out
  have hap : ∀ i, i < N → i ≠ m → Ap v' (rw_ i) := fun i hi e => (h.ap m i hm hi fun q => e q.symm).app ha fun b hb => ((h.row i hi).lt b hb).2
  refine ⟨?_, h.lay, fun i hi => ?_, fun i j hi hj hij => ?_⟩
  · rw [← map_upd rw_ v' hm]
    simp [World.setCell, Array.getElem?_modify, h2]
  · by_cases e : i = m
    · subst e
      rw [upd_at, upd_at, upd_at]
      exact own_set_other ha.own (own_neT ha.own h2 hne) v'
    · rw [upd_ne _ _ e, upd_ne _ _ e, upd_ne _ _ e]
      have ho := own_hp (w' := w') (h.row i hi) fun b hb => hk b ((h.row i hi).lt b hb).2 fun q => h.ap m i hm hi (fun q => e q.symm) b q hb
      exact own_set_other ho (own_neT ho h2 hne) v'
  · by_cases e1 : i = m
    · subst e1
      rw [upd_at, upd_ne _ _ (fun q => hij q.symm)]
      exact hap j hj fun q => hij q.symm
    · rw [upd_ne _ _ e1]
      by_cases e2 : j = m
      · subst e2
        rw [upd_at]
        exact (hap i hi e1).symm
      · rw [upd_ne _ _ e2]
        exact h.ap i j hi hj hij
/-- no row yet -/
theorem RR.fresh (W : World) (ot et : TypeId) (sz N : Nat) : RR (W.alloc (.cells ((List.range N).map fun _ => Value.slice none 0 0).toArray ot)) W.heap.size W.heap.size N ot et sz (fun _ => .slice none 0 0) (fun _ => 0) (fun _ => []) :=
  ⟨heap_alloc_new W _, Nat.le_refl _, fun i hi => World.ownsRow_nil _ _ _ _, fun i j _ _ _ g hg => by cases hg⟩
theorem RR.base (h : RR w B g N ot et sz rw_ cnt cs) {B' : Nat} (hb : B' ≤ B) : RR w B' g N ot et sz rw_ cnt cs :=
  ⟨h.out, Nat.le_trans hb h.lay, fun i hi => owns_base (h.row i hi) hb, h.ap⟩
end
theorem made_listR (z : Value) (n : Nat) : madeCells #[z] n = ((List.range n).map fun _ => z).toArray := by
  apply Array.ext
  · rw [size_madeCells]; simp
  · intro i h1 h2
    simp [madeCells, Nat.mod_one]
end Go.Proofs.YtiglilecmieelaaGreatDoor
