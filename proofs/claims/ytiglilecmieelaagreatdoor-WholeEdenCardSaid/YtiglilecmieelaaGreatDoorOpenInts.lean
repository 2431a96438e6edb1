/- An argument that is a slice of integers of one kind, opened. -/
import Derived.Test.YtiglilecmieelaaGreatDoorProg
import Derived.Test.YtiglilecmieelaaGreatDoorBase
import Derived.Deep.Slices
import Derived.Deep.Strs
import Derived.KernelRfl
import Derived.OpenShut
namespace Go.Proofs.YtiglilecmieelaaGreatDoor
open Go.RowKit Go.ChangeShapes Go.WideShapes Go.Deep
set_option linter.unusedVariables false

theorem open_nums {H : Type} {enc : TypeId × Value → H} {w : World} {base fuel len cap : Nat} {spare : Nat → Bool} {held : Bool} {a : Option Addr} {x : DataW H × List MemPlace} {T E : TypeId} {k : IntKind}
    (hT : Tryz.prog.underlying T = some (.slice E)) (hE : Tryz.prog.underlying E = some (.int k)) (hc : Tryz.prog.cellsOf E = 1)
    (h : DataW.trod enc Tryz.prog w base spare held fuel T [.slice a len cap] = some x) : ∃ l : List Int, l.length = len ∧ cap ≤ maxLen ∧ len ≤ cap ∧ Rd w a len 1 (l.map (Value.int k)) ∧ ∀ e ∈ l, (Lit.int k e).wf = true := by
  rcases open_slice hT h with ⟨h0, _⟩ | ⟨ad, len', cap', m, n, D, Pl, h0, hb, hl, hm, hmm, _, hx⟩
  · cases h0
    exact ⟨[], rfl, Nat.zero_le _, Nat.le_refl _, ⟨rfl, .inl rfl⟩, fun e he => by cases he⟩
  · cases h0
    have hlm : len ≤ m := by rw [hmm]; split <;> omega
    have each : ∀ i, i < len → ∃ q : Int, w.cell? (ad.add i) = some (.int k q) ∧ (Lit.int k q).wf = true := by
      intro i hi
      obtain ⟨cs', h1, h2⟩ := hx i (by omega)
      rw [hc] at h1
      obtain ⟨_, hlen, hcell⟩ := World.cells?_some h1
      match cs', hlen with
      | [v0], _ =>
        obtain ⟨n0, r0, _, w0⟩ := DataW.trod_int hE h2
        cases r0
        have e0 := hcell 0 (by omega)
        rw [add_add] at e0
        exact ⟨n0, by simpa using e0, w0⟩
    obtain ⟨q, hq⟩ := choose_lt each
    refine ⟨(List.range len).map q, by simp, hm, hl, ⟨by simp, ?_⟩, ?_⟩
    · by_cases h0 : len = 0
      · exact .inl h0
      · obtain ⟨b, o, sp⟩ := ad
        have hsp : sp = none := by simpa [Addr.add] using World.cell?_spot (hq 0 (by omega)).1
        subst hsp
        refine .inr ⟨b, o, rfl, ?_, fun j u hu => ?_⟩
        · exact World.block_lt_of_cell? w _ (hq 0 (by omega)).1
        · have hj := (List.getElem?_eq_some_iff.1 hu).1
          simp only [List.length_map, List.length_range] at hj
          have a0 := (hq j hj).1
          rw [Addr.add_lit] at a0
          rw [a0]
          simpa [hj] using hu
    · intro e he
      obtain ⟨i, hi, rfl⟩ := List.mem_map.1 he
      exact (hq i (List.mem_range.1 hi)).2

theorem open_bytes {H : Type} {enc : TypeId × Value → H} {w : World} {base fuel len cap : Nat} {spare : Nat → Bool} {held : Bool} {a : Option Addr} {x : DataW H × List MemPlace} (h : DataW.trod enc Tryz.prog w base spare held fuel 158 [.slice a len cap] = some x) : ∃ l : List Int, l.length = len ∧ cap ≤ maxLen ∧ len ≤ cap ∧ Rd w a len 1 (l.map (Value.int .u8)) ∧ ∀ e ∈ l, 0 ≤ e ∧ e ≤ 255 := by
  obtain ⟨l, e1, e2, e3, e4, e5⟩ := open_nums Tryz.underlying158 Tryz.underlying5 (by kernel_rfl) h
  exact ⟨l, e1, e2, e3, e4, fun e he => bounds_u8 (e5 e he)⟩
theorem open_intsl {H : Type} {enc : TypeId × Value → H} {w : World} {base fuel len cap : Nat} {spare : Nat → Bool} {held : Bool} {a : Option Addr} {x : DataW H × List MemPlace} (h : DataW.trod enc Tryz.prog w base spare held fuel 22 [.slice a len cap] = some x) : ∃ l : List Int, l.length = len ∧ cap ≤ maxLen ∧ len ≤ cap ∧ Rd w a len 1 (l.map (Value.int .i64)) ∧ ∀ e ∈ l, -9223372036854775808 ≤ e ∧ e ≤ 9223372036854775807 := by
  obtain ⟨l, e1, e2, e3, e4, e5⟩ := open_nums Tryz.underlying22 Tryz.underlying3 (by kernel_rfl) h
  exact ⟨l, e1, e2, e3, e4, fun e he => bounds_i64 (e5 e he)⟩
end Go.Proofs.YtiglilecmieelaaGreatDoor
