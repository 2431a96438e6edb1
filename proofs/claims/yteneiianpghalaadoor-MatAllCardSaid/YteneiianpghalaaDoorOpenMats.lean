/- Arguments that are lists of numbers, or lists of such lists, opened. -/
import Derived.Test.YteneiianpghalaaDoorMatM
import Derived.Test.YteneiianpghalaaDoorOpenInts
namespace Go.Proofs.YteneiianpghalaaDoor
open Go.RowKit Go.ChangeShapes Go.WideShapes Go.Deep
set_option linter.unusedVariables false

theorem nr_of_rd {w : World} {a : Option Addr} {n : Nat} {l : List Int} (hn : l.length = n) (hR : Rd w a n 1 (l.map (Value.int .u32))) (hx : ∀ x ∈ l, 0 ≤ x ∧ x ≤ 4294967295) : NR w a n (l.map Int.toNat) := by
  have e : ofN (l.map Int.toNat) = l := by
    unfold ofN
    rw [List.map_map]
    conv => rhs; rw [← List.map_id l]
    exact List.map_congr_left fun x hm => by have := hx x hm; simp; omega
  refine ⟨⟨by rw [e]; exact hn.symm, by rw [e]; exact hR⟩, fun x hx' => ?_⟩
  obtain ⟨y, hy, rfl⟩ := List.mem_map.1 hx'
  have := hx y hy
  show _ < 4294967296
  omega

section
variable {H : Type} {enc : TypeId × Value → H} {w : World} {base fuel : Nat} {spare : Nat → Bool} {held : Bool}
theorem open_nat1 {v : Value} {x : DataW H × List MemPlace} (h : DataW.trod enc Tryd.prog w base spare held fuel 27 [v] = some x) : ∃ a n c l, v = .slice a n c ∧ Ns w a n c l := by
  have key : ∃ a n c, v = .slice a n c := by
    rcases open_slice Tryd.underlying27 h with ⟨h0, _⟩ | ⟨ad, len, cap, _, _, _, _, h0, _⟩
    · cases h0; exact ⟨_, _, _, rfl⟩
    · cases h0; exact ⟨_, _, _, rfl⟩
  obtain ⟨a, n, c, rfl⟩ := key
  obtain ⟨l, e1, e2, e3, e4, e5⟩ := open_nats h
  exact ⟨a, n, c, _, rfl, nr_of_rd e1 e4 e5, e3, e2⟩
/-- the cells of a list whose elements take one cell each -/
theorem open_cells {T E : TypeId} (hT : Tryd.prog.underlying T = some (.slice E)) (hc : Tryd.prog.cellsOf E = 1) {v : Value} {x : DataW H × List MemPlace} (h : DataW.trod enc Tryd.prog w base spare held fuel T [v] = some x) (P : Value → Prop)
    (hP : ∀ n u y, DataW.trod enc Tryd.prog w base spare held n E [u] = some y → P u) : ∃ a n c, v = .slice a n c ∧ n ≤ c ∧ c ≤ maxLen ∧ (a = none → c = 0) ∧ Cells w a n fun _ u => P u := by
  rcases open_slice1 hT hc h with ⟨h0, _⟩ | ⟨ad, len, cap, m, n, V, D, Pl, h0, hb, hl, hm, hmm, _, hx⟩
  · cases h0
    exact ⟨none, 0, 0, rfl, Nat.le_refl _, Nat.zero_le _, fun _ => rfl, .inl rfl⟩
  · cases h0
    have hlm : len ≤ m := by rw [hmm]; split <;> omega
    refine ⟨some ad, len, cap, rfl, hl, hm, fun e => by (cases e), ?_⟩
    rcases Nat.eq_zero_or_pos len with h1 | h1
    · exact .inl h1
    · obtain ⟨b, o, sp⟩ := ad
      have c0 := (hx 0 (by omega)).1
      have hsp : sp = none := by simpa [Addr.add] using World.cell?_spot c0
      subst hsp
      refine .inr ⟨b, o, rfl, World.block_lt_of_cell? w _ c0, fun j hj => ⟨V j, ?_, hP _ _ _ (hx j (by omega)).2⟩⟩
      have a0 := (hx j (by omega)).1
      rwa [Addr.add_lit] at a0
theorem Cells.choose {a : Option Addr} {n : Nat} {α : Type} [Inhabited α] {Q : Value → α → Prop} (h : Cells w a n fun _ u => ∃ x, Q u x) : ∃ f : Nat → α, Cells w a n fun j u => Q u (f j) := by
  rcases h with h | ⟨b, o, h1, h2, h3⟩
  · exact ⟨fun _ => default, .inl h⟩
  · have : ∀ j, j < n → ∃ x : α, ∃ v, w.cell? ⟨b, o + j, none⟩ = some v ∧ Q v x := fun j hj => by
      obtain ⟨v, h4, x, h5⟩ := h3 j hj
      exact ⟨x, v, h4, h5⟩
    obtain ⟨f, hf⟩ := choose_lt this
    exact ⟨f, .inr ⟨b, o, h1, h2, hf⟩⟩
theorem open_row {v : Value} {x : DataW H × List MemPlace} (h : DataW.trod enc Tryd.prog w base spare held fuel 82 [v] = some x) : ∃ a n c F, v = .slice a n c ∧ n ≤ c ∧ c ≤ maxLen ∧ (a = none → c = 0) ∧ NsR w a n F := by
  obtain ⟨a, n, c, h1, h2, h3, h4, h5⟩ := open_cells Tryd.underlying82 (by kernel_rfl) h (fun u => ∃ l : List Nat, ∃ a' n' c', u = .slice a' n' c' ∧ Ns w a' n' c' l) fun n u y hy => by
    obtain ⟨a, n, c, l, e1, e2⟩ := open_nat1 hy
    exact ⟨l, a, n, c, e1, e2⟩
  obtain ⟨F, hF⟩ := Cells.choose h5
  exact ⟨a, n, c, F, h1, h2, h3, h4, hF⟩
theorem open_mats {a : Option Addr} {len cap : Nat} {x : DataW H × List MemPlace} (h : DataW.trod enc Tryd.prog w base spare held fuel 67 [.slice a len cap] = some x) : ∃ (g : Nat → Nat) (F : Nat → Nat → List Nat), cap ≤ maxLen ∧ len ≤ cap ∧ MsR w a len g F := by
  obtain ⟨a1, n, c, h1, h2, h3, h4, h5⟩ := open_cells Tryd.underlying67 (by kernel_rfl) h (fun u => ∃ q : Nat × (Nat → List Nat), ∃ a' c', u = .slice a' q.1 c' ∧ q.1 ≤ c' ∧ c' ≤ maxLen ∧ (a' = none → c' = 0) ∧ NsR w a' q.1 q.2) fun n u y hy => by
    obtain ⟨a, n, c, F, e1, e2, e3, e4, e5⟩ := open_row hy
    exact ⟨(n, F), a, c, e1, e2, e3, e4, e5⟩
  cases h1
  obtain ⟨F, hF⟩ := Cells.choose h5
  exact ⟨fun i => (F i).1, fun i => (F i).2, h3, h2, hF⟩
end
end Go.Proofs.YteneiianpghalaaDoor
