/- An argument of the type []api.Entry, opened. -/
import Derived.Test.YtllngchcomiglaaDoorCert
import Derived.Deep.Slices
import Derived.Deep.Strs
import Derived.KernelRfl
namespace Go.Proofs.YtllngchcomiglaaDoor
open Go.RowKit Go.ChangeShapes Go.WideShapes Go.Deep
set_option linter.unusedVariables false
set_option maxRecDepth 100000

theorem ent_under : Tryd.prog.underlying 33 = some (.struct #[⟨ "Col", 3, 0, false, "", "", 0⟩, ⟨ "A", 3, 1, false, "", "", 8⟩, ⟨ "B", 3, 2, false, "", "", 16⟩]) := by kernel_rfl

theorem open_ents {H : Type} {enc : TypeId × Value → H} {w : World} {base fuel len cap : Nat} {spare : Nat → Bool} {held : Bool} {a : Option Addr} {x : DataW H × List MemPlace}
    (h : DataW.trod enc Tryd.prog w base spare held fuel 22 [.slice a len cap] = some x) : ∃ l : List (Int × Int × Int), l.length = len ∧ cap ≤ maxLen ∧ len ≤ cap ∧ Rd w a len 3 (entsC l) ∧ ∀ e ∈ l, (Lit.int .i64 e.1).wf = true ∧ (Lit.int .i64 e.2.1).wf = true ∧ (Lit.int .i64 e.2.2).wf = true := by
  have c3 : Tryd.prog.cellsOf 33 = 3 := by kernel_rfl
  have c1 : Tryd.prog.cellsOf 3 = 1 := by kernel_rfl
  rcases open_slice Tryd.underlying22 h with ⟨h0, _⟩ | ⟨ad, len', cap', m, n, D, Pl, h0, hb, hl, hm, hmm, _, hx⟩
  · cases h0
    exact ⟨[], rfl, Nat.zero_le _, Nat.le_refl _, ⟨rfl, .inl rfl⟩, fun e he => by cases he⟩
  · cases h0
    have hlm : len ≤ m := by rw [hmm]; split <;> omega
    have each : ∀ i, i < len → ∃ q : Int × Int × Int, w.cell? (ad.add (i * 3)) = some (.int .i64 q.1) ∧ w.cell? (ad.add (i * 3 + 1)) = some (.int .i64 q.2.1) ∧ w.cell? (ad.add (i * 3 + 2)) = some (.int .i64 q.2.2) ∧
        (Lit.int .i64 q.1).wf = true ∧ (Lit.int .i64 q.2.1).wf = true ∧ (Lit.int .i64 q.2.2).wf = true := by
      intro i hi
      obtain ⟨cs', h1, h2⟩ := hx i (by omega)
      rw [c3] at h1
      obtain ⟨_, hlen, hcell⟩ := World.cells?_some h1
      obtain ⟨xs, k, hk, hxy, _, hxl, hf⟩ := DataW.trod_struct ent_under h2
      match xs, hxl, cs', hlen with
      | [y0, y1, y2], _, [v0, v1, v2], _ =>
        have g0 := hf 0 _ rfl
        have g1 := hf 1 _ rfl
        have g2 := hf 2 _ rfl
        simp [c1] at g0 g1 g2
        obtain ⟨n0, r0, _, w0⟩ := DataW.trod_int Tryd.underlying3 (show DataW.trod enc Tryd.prog w base spare held k 3 [v0] = some y0 from g0)
        obtain ⟨n1, r1, _, w1⟩ := DataW.trod_int Tryd.underlying3 (show DataW.trod enc Tryd.prog w base spare held k 3 [v1] = some y1 from g1)
        obtain ⟨n2, r2, _, w2⟩ := DataW.trod_int Tryd.underlying3 (show DataW.trod enc Tryd.prog w base spare held k 3 [v2] = some y2 from g2)
        cases r0; cases r1; cases r2
        have e0 := hcell 0 (by omega)
        have e1 := hcell 1 (by omega)
        have e2 := hcell 2 (by omega)
        rw [add_add] at e0 e1 e2
        exact ⟨(n0, n1, n2), by simpa using e0, by simpa using e1, by simpa using e2, w0, w1, w2⟩
    obtain ⟨q, hq⟩ := choose_lt each
    refine ⟨(List.range len).map q, by simp, hm, hl, ⟨by simp [entsC_len]; omega, ?_⟩, ?_⟩
    · by_cases h0 : len = 0
      · exact .inl h0
      · obtain ⟨b, o, sp⟩ := ad
        have hsp : sp = none := by simpa [Addr.add] using World.cell?_spot (hq 0 (by omega)).1
        subst hsp
        refine .inr ⟨b, o, rfl, ?_, fun j u hu => ?_⟩
        · exact World.block_lt_of_cell? w _ (hq 0 (by omega)).1
        · have hj := (List.getElem?_eq_some_iff.1 hu).1
          rw [entsC_len] at hj
          simp only [List.length_map, List.length_range] at hj
          have hk : j / 3 < len := by omega
          have e3 := entsC_at ((List.range len).map q) (j / 3) (by simpa using hk)
          obtain ⟨a0, a1, a2, _⟩ := hq (j / 3) hk
          rw [Addr.add_lit] at a0 a1 a2
          simp only [List.getElem_map, List.getElem_range] at e3
          rcases (by omega : j % 3 = 0 ∨ j % 3 = 1 ∨ j % 3 = 2) with hr | hr | hr
          · have ej : j = 3 * (j / 3) := by omega
            have e := e3.1
            rw [← ej, hu] at e
            rw [show j / 3 * 3 = j from by omega] at a0
            rw [a0]; exact e.symm
          · have ej : j = 3 * (j / 3) + 1 := by omega
            have e := e3.2.1
            rw [← ej, hu] at e
            rw [show j / 3 * 3 + 1 = j from by omega] at a1
            rw [a1]; exact e.symm
          · have ej : j = 3 * (j / 3) + 2 := by omega
            have e := e3.2.2
            rw [← ej, hu] at e
            rw [show j / 3 * 3 + 2 = j from by omega] at a2
            rw [a2]; exact e.symm
    · intro e he
      obtain ⟨i, hi, rfl⟩ := List.mem_map.1 he
      exact (hq i (List.mem_range.1 hi)).2.2.2
end Go.Proofs.YtllngchcomiglaaDoor
