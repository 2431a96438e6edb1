/- edenraw.Root; errors.New; a store into a row of cells. -/
import Derived.Test.YtckipboebllkhaaDoorFltF
namespace Go.Proofs.YtckipboebllkhaaDoor
open Go.RowKit Go.Extern.Stop Go.Stop Go.Extern
set_option linter.unusedVariables false
set_option maxRecDepth 100000

set_option maxHeartbeats 1000000 in
theorem rawRootC (n : Int) (w : World) (R : Nat → Addr) (hG : Glob w R) :
    Calls Tryd.prog 27 #[.int .i64 n] w fun e w' => e = .returned (.iface 126 (.pointer (some (R (rix n))))) ∧ w = w' := by
  have h0 := hG 0 (by omega)
  have h1 := hG 1 (by omega)
  have h2 := hG 2 (by omega)
  have h3 := hG 3 (by omega)
  have h4 := hG 4 (by omega)
  have h5 := hG 5 (by omega)
  have h6 := hG 6 (by omega)
  have h7 := hG 7 (by omega)
  have h8 := hG 8 (by omega)
  have h9 := hG 9 (by omega)
  have h10 := hG 10 (by omega)
  have h11 := hG 11 (by omega)
  simp only [gix, List.getD_cons_zero, List.getD_cons_succ] at h0 h1 h2 h3 h4 h5 h6 h7 h8 h9 h10 h11
  clear hG
  go_enter Tryd.func27, Tryd.ntmps27
  go_wp2
  all_goals (go_ret; exact ⟨by simp_all [rix], rfl⟩)
theorem errNew_any (s : ByteArray) (w : World) :
    Calls Tryd.prog 42 #[.string s] w fun e w' => e = .returned (.iface 126 (.pointer (some ⟨w.heap.size, 0, none⟩))) ∧ w' = w.alloc (.cells #[.string s] 128) := by
  go_enter Tryd.func42, Tryd.ntmps42
  go_wp2
  go_ret
  exact ⟨rfl, rfl⟩
theorem heap_setCell_sameF {w : World} {g j : Nat} {cs : Array Value} {e : TypeId} {u : Value} (hg : w.heap[g]? = some (.cells cs e (0, 0))) : ∃ c, (w.setCell ⟨g, j, none⟩ u).heap[g]? = some (.cells c e (0, 0)) := by
  simp [World.setCell, Array.getElem?_modify, hg]
theorem range_setF {n j : Nat} (f : Nat → Value) (x : Value) : ((List.range n).map f).set j x = (List.range n).map fun i => if i = j then x else f i := by
  apply List.ext_getElem?
  intro m
  by_cases hm : m = j
  · subst hm
    by_cases h : m < n
    · rw [List.getElem?_set_self (by simpa using h)]; simp [h]
    · rw [List.getElem?_eq_none (by simp; omega), List.getElem?_eq_none (by simp; omega)]
  · rw [List.getElem?_set_ne (fun e => hm e.symm)]
    by_cases h : m < n
    · simp only [List.getElem?_map, List.getElem?_range h, Option.map_some, if_neg hm]
    · rw [List.getElem?_eq_none (by simp; omega), List.getElem?_eq_none (by simp; omega)]
end Go.Proofs.YtckipboebllkhaaDoor
