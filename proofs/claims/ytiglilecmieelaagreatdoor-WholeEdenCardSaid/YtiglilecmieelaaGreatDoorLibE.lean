/- The library's Sort, Compact, Index at []int, by the kit's contracts. -/
import Derived.Test.YtiglilecmieelaaGreatDoorBase
import Derived.Test.YtiglilecmieelaaGreatDoorInts
import Derived.Shelf.Sort.Plain
import Derived.Shelf.Slices.CompactI
import Derived.Shelf.Slices.In.SortNone
import Derived.Shelf.Slices.Turned
import Derived.Shelf.Slices.Reverse
import Derived.Test.YtiglilecmieelaaGreatDoorLayE
namespace Go.Proofs.YtiglilecmieelaaGreatDoor
open Go.RowKit Go.Shelf Go.Sort
set_option linter.unusedVariables false
set_option maxRecDepth 100000

theorem holds_own {w : World} {base g n c : Nat} {l : List Int} (h : w.ownsRow base 3 1 (.slice (some ⟨g, 0, none⟩) n c) n (l.map (Value.int .i64))) : Holds (Value.int .i64) w g 0 l.toArray := by
  obtain ⟨hl, h | ⟨g', cap, cur, he, hb, hh, hn, hc, hs, ht⟩⟩ := h
  · cases h.1
  · cases he
    intro j hj
    have hj' : j < l.length := by simpa using hj
    have hln : l.length = n := by simpa using hl
    have hjc : j < cur.size := by omega
    have e : cur[j]? = some (.int .i64 l[j]) := by
      have h1 : (cur.toList.take (n * 1))[j]? = (l.map (Value.int .i64))[j]? := by rw [ht]
      rw [List.getElem?_take, if_pos (by omega), Array.getElem?_toList] at h1
      rw [h1]; simp [hj']
    constructor
    · simp only [World.cell?, hh, Nat.zero_add]
      rw [e]
      simp [hj']
    · simp [World.frozen?, hh]
theorem own_put {w : World} {base g n c : Nat} {l : List Int} (h : w.ownsRow base 3 1 (.slice (some ⟨g, 0, none⟩) n c) n (l.map (Value.int .i64))) (d : List Int) (hd : d.length = n) (q : Nat) (os : Array Obj) :
    (grow (putRow (Value.int .i64) (Sort.ahead w q) g 0 d.toArray) os).ownsRow base 3 1 (.slice (some ⟨g, 0, none⟩) n c) n (d.map (Value.int .i64)) := by
  obtain ⟨hl, h | ⟨g', cap, cur, he, hb, hh, hn, hc, hs, ht⟩⟩ := h
  · cases h.1
  · cases he
    have hg : g < w.heap.size := (Array.getElem?_eq_some_iff.1 hh).1
    refine ⟨by simp [hd], .inr ⟨g, c, putCells (Value.int .i64) 0 d.toArray cur, rfl, hb, ?_, hn, hc, by simp [putCells, hs], ?_⟩⟩
    · rw [heap_grow_old _ _ (by simpa using hg)]
      show (w.heap.modify g _)[g]? = _
      rw [Array.getElem?_modify, if_pos rfl, hh]
      rfl
    · apply List.ext_getElem?
      intro j
      by_cases hj : j < n
      · rw [List.getElem?_take, if_pos (by omega), Array.getElem?_toList]
        have hjc : j < cur.size := by omega
        simp [putCells, hj, hd, hjc]
      · rw [List.getElem?_eq_none (by simp; omega), List.getElem?_eq_none (by simp; omega)]
theorem put_keep {w : World} {g : Nat} (hg : g < w.heap.size) (d : List Int) (q : Nat) (os : Array Obj) : (∀ k, k ≠ g → k < w.heap.size → (grow (putRow (Value.int .i64) (Sort.ahead w q) g 0 d.toArray) os).heap[k]? = w.heap[k]?) ∧ ∀ B, B ≤ g → Below B w (grow (putRow (Value.int .i64) (Sort.ahead w q) g 0 d.toArray) os) := by
  have h1 : ∀ k, k ≠ g → k < w.heap.size → (grow (putRow (Value.int .i64) (Sort.ahead w q) g 0 d.toArray) os).heap[k]? = w.heap[k]? := by
    intro k hk hl
    rw [heap_grow_old _ _ (by simpa using hl)]
    show (w.heap.modify g _)[k]? = _
    rw [Array.getElem?_modify, if_neg (fun e => hk e.symm)]
  refine ⟨h1, fun B hB => ⟨rfl, rfl, rfl, by simp, fun k hk => h1 k (by omega) (by omega)⟩⟩
theorem sort_own {w : World} {base n c : Nat} {a : Option Addr} {l : List Int} (h : w.ownsRow base 3 1 (.slice a n c) n (l.map (Value.int .i64))) (hb : base ≤ w.heap.size) (hn6 : n ≤ 1000000) :
    Calls Tryz.prog 30 #[.slice a n c] w fun e w' => e = .returned (.tuple #[]) ∧ w'.ownsRow base 3 1 (.slice a n c) n ((l.mergeSort fun x y => decide (x ≤ y)).map (Value.int .i64)) ∧ (∀ k, (Value.slice a n c).ownBlock ≠ some k → k < w.heap.size → w'.heap[k]? = w.heap[k]?) ∧ Below base w w' := by
  have hln : l.length = n := by simpa using h.1
  obtain ⟨_, h' | ⟨g, cap, cur, he, hbg, hh, hn, hc, hs, ht⟩⟩ := id h
  · obtain ⟨e, rfl⟩ := h'
    cases e
    obtain rfl := List.eq_nil_of_length_eq_zero hln
    refine (Any.slices_Sort_int_none Tryz.laysSort none 0 w).mono ?_
    rintro e w' ⟨rfl, rfl⟩
    exact ⟨rfl, by simpa using h, fun _ _ _ => rfl, Below.refl _ _⟩
  · cases he
    have hg : g < w.heap.size := (Array.getElem?_eq_some_iff.1 hh).1
    have hcon := Any.slices_Sort_int Tryz.laysSort g 0 c l w (holds_own h) hg (by omega)
    rw [hln] at hcon
    refine Calls.mono hcon ?_
    rintro e w' ⟨rfl, q, os, rfl⟩
    have hk := put_keep hg (l.mergeSort fun x y => decide (x ≤ y)) q os
    exact ⟨rfl, own_put h _ (by rw [List.length_mergeSort, hln]) q os, fun k hne hl => hk.1 k (fun e => hne (by rw [e]; rfl)) hl, hk.2 base hbg⟩
theorem own_less {w : World} {base n m c : Nat} {a : Option Addr} {l r : List Int} (h : w.ownsRow base 3 1 (.slice a n c) n ((l ++ r).map (Value.int .i64))) (hm : l.length = m) (hmn : m ≤ n) : w.ownsRow base 3 1 (.slice a m c) m (l.map (Value.int .i64)) := by
  obtain ⟨hl, h' | ⟨g, cap, cur, he, hbg, hh, hn, hc, hs, ht⟩⟩ := h
  · obtain ⟨e, rfl⟩ := h'
    cases e
    obtain rfl : m = 0 := by omega
    exact ⟨by simp [hm], .inl ⟨rfl, rfl⟩⟩
  · cases he
    refine ⟨by simp [hm], .inr ⟨g, c, cur, rfl, hbg, hh, by omega, hc, hs, ?_⟩⟩
    have h2 : cur.toList.take (m * 1) = (cur.toList.take (n * 1)).take (m * 1) := by rw [List.take_take]; congr 1; omega
    rw [h2, ht, List.map_append, List.take_append_of_le_length (by simp; omega), List.take_of_length_le (by simp; omega)]
theorem compact_le (l : List Int) : (Lib.compact l).length ≤ l.length := by
  unfold Lib.compact Lib.compactUpTo
  rw [List.length_map]
  exact Nat.le_trans (List.length_filter_le ..) (by simp)
theorem compact_own {w : World} {base n c : Nat} {a : Option Addr} {l : List Int} (h : w.ownsRow base 3 1 (.slice a n c) n (l.map (Value.int .i64))) (hb : base ≤ w.heap.size) (hn6 : n ≤ 1000000) :
    Calls Tryz.prog 31 #[.slice a n c] w fun e w' => e = .returned (.slice a (Lib.compact l).length c) ∧ w'.ownsRow base 3 1 (.slice a (Lib.compact l).length c) (Lib.compact l).length ((Lib.compact l).map (Value.int .i64)) ∧ (∀ k, (Value.slice a n c).ownBlock ≠ some k → k < w.heap.size → w'.heap[k]? = w.heap[k]?) ∧ Below base w w' := by
  have hln : l.length = n := by simpa using h.1
  obtain ⟨_, h' | ⟨g, cap, cur, he, hbg, hh, hn, hc, hs, ht⟩⟩ := id h
  · obtain ⟨e, rfl⟩ := h'
    cases e
    obtain rfl := List.eq_nil_of_length_eq_zero hln
    refine (Any.slices_Compact_int_empty Tryz.laysCompact none 0 w).mono ?_
    rintro e w' ⟨rfl, rfl⟩
    exact ⟨rfl, by simpa [Lib.compact, Lib.compactUpTo] using h, fun _ _ _ => rfl, Below.refl _ _⟩
  · cases he
    have hg : g < w.heap.size := (Array.getElem?_eq_some_iff.1 hh).1
    have hcon := Any.slices_Compact_int Tryz.laysCompact g 0 c l w (holds_own h) (by omega) (by omega)
    have hle := compact_le l
    rw [hln] at hcon hle
    refine Calls.mono hcon ?_
    rintro e w' ⟨rfl, q, rfl⟩
    have hk := put_keep hg (Lib.compact l ++ List.replicate (n - (Lib.compact l).length) 0) q #[]
    have ho := own_put h (Lib.compact l ++ List.replicate (n - (Lib.compact l).length) 0) (by simp; omega) q #[]
    rw [grow_empty] at hk ho
    exact ⟨rfl, own_less ho rfl hle, fun k hne hl => hk.1 k (fun e => hne (by rw [e]; rfl)) hl, hk.2 base hbg⟩
theorem index_rk {w : World} {a : Option Addr} {n c : Nat} {l : List Int} (h : RK .i64 w a n l) (hn : n ≤ 1000000) (x : Int) :
    Calls Tryz.prog 32 #[.slice a n c, .int .i64 x] w fun e w' => e = .returned (.int .i64 (Lib.idxOf l x)) ∧ w' = w := by
  have hl := h.len
  rcases Nat.eq_zero_or_pos n with h0 | h0
  · subst h0
    obtain rfl := List.eq_nil_of_length_eq_zero hl.symm
    refine (Any.slices_Index_int_empty Tryz.laysIndex a c x w).mono ?_
    rintro e w' ⟨rfl, rfl⟩
    exact ⟨rfl, rfl⟩
  · obtain ⟨b, o, rfl, _, hc⟩ := h.addr h0
    have := Any.slices_Index_int Tryz.laysIndex b o n c l x w (by omega) (by omega) (fun j hj => hc j (by omega))
    rw [List.take_of_length_le (by omega)] at this
    exact this
theorem reverse_own {w : World} {base n c : Nat} {a : Option Addr} {l : List Int} (h : w.ownsRow base 3 1 (.slice a n c) n (l.map (Value.int .i64))) (hb : base ≤ w.heap.size) (hn6 : n ≤ 1000000) :
    Calls Tryz.prog 35 #[.slice a n c] w fun e w' => e = .returned (.tuple #[]) ∧ w'.ownsRow base 3 1 (.slice a n c) n (l.reverse.map (Value.int .i64)) ∧ (∀ k, (Value.slice a n c).ownBlock ≠ some k → k < w.heap.size → w'.heap[k]? = w.heap[k]?) ∧ Below base w w' := by
  have hln : l.length = n := by simpa using h.1
  obtain ⟨_, h' | ⟨g, cap, cur, he, hbg, hh, hn, hc, hs, ht⟩⟩ := id h
  · obtain ⟨e, rfl⟩ := h'
    cases e
    obtain rfl := List.eq_nil_of_length_eq_zero hln
    refine (Any.slices_Reverse_int_empty Tryz.laysReverse none 0 w).mono ?_
    rintro e w' ⟨rfl, rfl⟩
    exact ⟨rfl, by simpa using h, fun _ _ _ => rfl, Below.refl _ _⟩
  · cases he
    have hg : g < w.heap.size := (Array.getElem?_eq_some_iff.1 hh).1
    have hcon := Any.slices_Reverse_int Tryz.laysReverse g 0 c l w (holds_own h) (by omega)
    rw [hln] at hcon
    refine Calls.mono hcon ?_
    rintro e w' ⟨rfl, q, rfl⟩
    have hk := put_keep hg l.reverse q #[]
    have ho := own_put h l.reverse (by simp [hln]) q #[]
    rw [grow_empty] at hk ho
    exact ⟨rfl, ho, fun k hne hl => hk.1 k (fun e => hne (by rw [e]; rfl)) hl, hk.2 base hbg⟩
end Go.Proofs.YtiglilecmieelaaGreatDoor
