/- An argument that is a slice of texts, opened. -/
import Derived.Test.YtckipboebllkhaaDoorFltG
import Derived.SliceStrings
import Derived.Deep.Slices
import Derived.OpenShut
import Derived.KernelRfl
namespace Go.Proofs.YtckipboebllkhaaDoor
open Go.RowKit Go.ChangeShapes Go.WideShapes Go.Deep
set_option linter.unusedVariables false
theorem open_strs {H : Type} {enc : TypeId × Value → H} {w : World} {base fuel len cap : Nat} {spare : Nat → Bool} {held : Bool} {a : Option Addr} {x : DataW H × List MemPlace}
    (h : DataW.trod enc Tryd.prog w base spare held fuel 35 [.slice a len cap] = some x) : ∃ l : List ByteArray, cap ≤ maxLen ∧ len ≤ cap ∧ SR w a len l := by
  rcases open_strings Tryd.underlying35 Tryd.underlying9 (by kernel_rfl) h with ⟨h0, _⟩ | ⟨ad, len', cap', ss, h0, _, hl, hm, hz, _, hcell, _⟩
  · cases h0
    exact ⟨[], Nat.zero_le _, Nat.le_refl _, rfl, rfl, .inl rfl⟩
  · cases h0
    have hls : len ≤ ss.length := by rw [hz]; split <;> omega
    refine ⟨ss.take len, hm, hl, by simp; omega, by simp [strC]; omega, ?_⟩
    by_cases h0 : len = 0
    · exact .inl h0
    · obtain ⟨b, o, sp⟩ := ad
      have hsp : sp = none := by simpa [Addr.add] using World.cell?_spot (hcell 0 (by omega))
      subst hsp
      refine .inr ⟨b, o, rfl, World.block_lt_of_cell? w _ (hcell 0 (by omega)), fun j u hu => ?_⟩
      have hj := (List.getElem?_eq_some_iff.1 hu).1
      simp only [strC, List.length_map, List.length_take] at hj
      have a0 := hcell j (by omega)
      rw [Addr.add_lit] at a0
      rw [a0]
      rw [← hu]
      simp [strC, show j < len by omega, show j < ss.length by omega]
end Go.Proofs.YtckipboebllkhaaDoor
