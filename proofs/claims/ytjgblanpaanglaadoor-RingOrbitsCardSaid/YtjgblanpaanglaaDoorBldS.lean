/- The contracts of (*strings.Builder).copyCheck, WriteString, String, at a builder that the call has made. -/
import Derived.Test.YtjgblanpaanglaaDoorShelf
import Derived.Test.YtjgblanpaanglaaDoorBase
import Derived.Lib.Builder
import Derived.Lib.Strings
import Derived.Laws.Externs
import Derived.Lib.Walk
import Derived.Lib.AppendStr
namespace Go.Proofs.YtjgblanpaanglaaDoor
open Go.RowKit
set_option linter.unusedVariables false
set_option maxRecDepth 100000

abbrev Bld (B b : Nat) (bs : List Value) (w : World) : Prop := Lib.IsBuilder 90 5 B b bs w
theorem bld_info : (Tryd.prog.info? 90).map (·.size) = some 2 := by kernel_rfl
theorem bld_byte : (Tryd.prog.info? 5).map (fun i => (i.zero, i.size, i.bytes)) = some (some (.int .u8 0), 1, 1) := by kernel_rfl
theorem bld_lies : liesAt Tryd.prog Tryd.prog.depth 90 (2 / Tryd.prog.cellsOf 90) 0 90 1 = true := by kernel_rfl
set_option maxHeartbeats 2000000 in
theorem bld_used (b : Nat) (w : World) (h0 : w.cell? ⟨b, 0, none⟩ = some (.pointer (some ⟨b, 0, none⟩))) :
    Calls Tryd.prog 80 #[.pointer (some ⟨b, 0, none⟩)] w fun e w' => e = .returned (.tuple #[]) ∧ w' = w := by
  obtain ⟨j, hj, _⟩ := Option.map_eq_some_iff.1 bld_info
  go_enter Tryd.func80, Tryd.ntmps80
  go_wp2
  rw [Lib.run_neq_ptr_same w _ Tryd.underlying87 hj]
  go_wp2
  go_end0
  exact ⟨rfl, rfl⟩
set_option maxHeartbeats 2000000 in
theorem bld_fresh (b : Nat) (w : World) (h0 : w.cell? ⟨b, 0, none⟩ = some (.pointer none)) (hsh : w.shape? b = some (90, 2)) (hfz : w.frozen? ⟨b, 0, none⟩ = false) :
    Calls Tryd.prog 80 #[.pointer (some ⟨b, 0, none⟩)] w fun e w' => e = .returned (.tuple #[]) ∧ w' = w.setCell ⟨b, 0, none⟩ (.pointer (some ⟨b, 0, none⟩)) := by
  obtain ⟨j, hj, hjs⟩ := Option.map_eq_some_iff.1 bld_info
  go_enter Tryd.func80, Tryd.ntmps80
  go_wp2
  rw [Lib.run_to_unsafe w ⟨b, 0, none⟩ Tryd.underlying87 Tryd.underlying100 hj (by rw [hjs]; decide) hsh (Nat.zero_lt_succ 1)]
  simp only [Result.andThen]
  rw [Oper.upon_value]
  go_wp2
  rw [run_callFunc_extern Tryd.func85 (by kernel_rfl) (by kernel_rfl) (by kernel_rfl) (e := Extern.AbiNoEscape.same) (by kernel_rfl)]
  rw [Lib.run_noEscape]
  simp only [Result.andThen]
  rw [Oper.upon_value]
  go_wp2
  rw [Lib.run_from_unsafe w ⟨b, 0, none⟩ Tryd.underlying100 Tryd.underlying87 hj hsh bld_lies]
  simp only [Result.andThen]
  rw [Oper.upon_value]
  go_wp2
  go_end0
  exact ⟨rfl, rfl⟩
theorem bld_copy (B b : Nat) (bs : List Value) (w : World) (h : Bld B b bs w) :
    Calls Tryd.prog 80 #[.pointer (some ⟨b, 0, none⟩)] w fun e w' => e = .returned (.tuple #[]) ∧ (Lib.BuilderAt 90 5 B b (.pointer (some ⟨b, 0, none⟩)) bs w' ∧ Below B w w') := by
  rcases h with h | h
  · refine (bld_fresh b w h.cell0 h.shape h.frozen0).mono ?_
    rintro e w' ⟨rfl, rfl⟩
    exact ⟨rfl, h.used _, (Below.refl B w).setCell (p := ⟨b, 0, none⟩) h.1 _⟩
  · refine (bld_used b w h.cell0).mono ?_
    rintro e w' ⟨rfl, rfl⟩
    exact ⟨rfl, h, Below.refl B _⟩

set_option maxHeartbeats 2000000 in
theorem bld_writeS (B b : Nat) (bs : List Value) (t : ByteArray) (w : World) (h : Bld B b bs w) (hlen : bs.length + t.size ≤ 100000000) (ht1 : 0 < t.size) (hBw : B ≤ w.heap.size) :
    Calls Tryd.prog 64 #[.pointer (some ⟨b, 0, none⟩), .string t] w fun e w' => (∃ m, e = .returned (.tuple #[.int .i64 m, .nilIface])) ∧ Bld B b (bs ++ Lib.strCells t) w' ∧ Below B w w' := by
  obtain ⟨i0, hi, hz0, hz1, hz2⟩ := info_parts bld_byte
  go_enter Tryd.func64, Tryd.ntmps64
  go_wp2_with (go_at_call 80; refine (bld_copy B b bs _ h).mono ?_)
  rintro e w1 ⟨rfl, h1, hb1⟩
  obtain ⟨hB, v, hbk, hown, hne⟩ := h1
  have c0 : w1.cell? ⟨b, 0, none⟩ = some (.pointer (some ⟨b, 0, none⟩)) := by rw [Lib.cell_of_heap hbk]; rfl
  have c1 : w1.cell? ⟨b, 1, none⟩ = some v := by rw [Lib.cell_of_heap hbk]; rfl
  go_wp2_with (at_builtin; refine Lib.wpList_append_own_string _ rfl _ _ 88 9 rfl B 5 i0 Tryd.underlying88 Tryd.underlying9 hi hz0 hz1 hz2 _ _ _ rfl hown t rfl ?c3 ?c4 ?c5 ?_)
  case c3 => unfold maxLen; omega
  case c4 => omega
  case c5 => have := hb1.size; omega
  intro v' w2 hown' hgrow _
  have hlt : b < w1.heap.size := by
    rcases Nat.lt_or_ge b w1.heap.size with h' | h'
    · exact h'
    · simp [Array.getElem?_eq_none h'] at hbk
  have hb2 : w2.heap[b]? = some (.cells #[.pointer (some ⟨b, 0, none⟩), v] 90 (0, 0)) := by
    rw [hgrow.block b hlt (fun e => hne e.symm)]
    exact hbk
  have d0 : w2.cell? ⟨b, 0, none⟩ = some (.pointer (some ⟨b, 0, none⟩)) := by rw [Lib.cell_of_heap hb2]; rfl
  have d1 : w2.cell? ⟨b, 1, none⟩ = some v := by rw [Lib.cell_of_heap hb2]; rfl
  have f1 : w2.frozen? ⟨b, 1, none⟩ = false := Lib.frozen_of_heap hb2 1
  obtain ⟨g, cap, rfl⟩ : ∃ g cap, v' = .slice (some ⟨g, 0, none⟩) (bs.length + t.size) cap := by
    rcases hown'.2 with ⟨_, h0⟩ | ⟨g, cap, cur, hv, _⟩
    · omega
    · exact ⟨g, cap, hv⟩
  go_wp2
  go_ret2
  refine ⟨⟨_, rfl⟩, .inr ?_, ?_⟩
  · exact Lib.BuilderAt.put (T := 90) (e := 5) hB hb2 (bs' := bs ++ Lib.strCells t) (by have q := hown'; rw [show (bs ++ Lib.strCells t).length = bs.length + t.size by rw [List.length_append, Lib.strCells_length]]; exact q) (by decide)
  · exact (hb1.grown hgrow (by have := hb1.size; omega) (fun k hk => (hown.lt k hk).1)).setCell (p := ⟨b, 1, none⟩) hB _
theorem bld_string (B b : Nat) (l : List UInt8) (w : World) (h : Bld B b (Lib.byteCells l) w) (hBw : B ≤ w.heap.size) :
    Calls Tryd.prog 66 #[.pointer (some ⟨b, 0, none⟩)] w fun e w' => e = .returned (.string ⟨l.toArray⟩) ∧ Below B w w' := Tryd.Builder_String_any B b l w h hBw
theorem bld_new {w : World} {b B : Nat} (hb : b = w.heap.size) (hB : B ≤ b) : Bld B b [] (w.alloc (.cells #[.pointer none, .slice none 0 0] 90)) := by
  subst hb
  exact .inl ⟨hB, .slice none 0 0, heap_alloc_new w _, World.ownsRow_nil _ _ _ _, by simp [Value.ownBlock]⟩
theorem Bld.other {w w' : World} {B b : Nat} {bs : List Value} (h : Bld B b bs w) (hb : Below w.heap.size w w') : Bld B b bs w' := by
  rcases h with h | h
  · obtain ⟨h1, v, h2, h3, h4⟩ := h
    exact .inl ⟨h1, v, (hb.block b (Array.getElem?_eq_some_iff.1 h2).1).trans h2, owns_up h3 hb, h4⟩
  · obtain ⟨h1, v, h2, h3, h4⟩ := h
    exact .inr ⟨h1, v, (hb.block b (Array.getElem?_eq_some_iff.1 h2).1).trans h2, owns_up h3 hb, h4⟩
end Go.Proofs.YtjgblanpaanglaaDoor
