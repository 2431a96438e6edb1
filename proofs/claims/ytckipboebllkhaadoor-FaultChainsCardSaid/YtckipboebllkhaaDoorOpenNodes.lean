/- An argument of the type []edenref01.Node, opened. -/
import Derived.Test.YtckipboebllkhaaDoorFChA
import Derived.Deep.Slices
import Derived.Deep.Strs
import Derived.OpenShut
import Derived.KernelRfl
namespace Go.Proofs.YtckipboebllkhaaDoor
open Go.RowKit Go.ChangeShapes Go.WideShapes Go.Deep
set_option linter.unusedVariables false
set_option maxRecDepth 100000
instance : Inhabited Nd := ⟨⟨0, 0, 0, 0, 0, ByteArray.empty⟩⟩
theorem node_under : Tryd.prog.underlying 88 = some (.struct #[⟨ "Kind", 3, 0, false, "", "", 0⟩, ⟨ "N", 3, 1, false, "", "", 8⟩, ⟨ "At", 3, 2, false, "", "", 16⟩, ⟨ "A", 3, 3, false, "", "", 24⟩, ⟨ "B", 3, 4, false, "", "", 32⟩, ⟨ "Op", 9, 5, false, "", "", 40⟩]) := by kernel_rfl
theorem open_nodes {H : Type} {enc : TypeId × Value → H} {w : World} {base fuel len cap : Nat} {spare : Nat → Bool} {held : Bool} {a : Option Addr} {x : DataW H × List MemPlace}
    (h : DataW.trod enc Tryd.prog w base spare held fuel 40 [.slice a len cap] = some x) : ∃ N : Nat → Nd, cap ≤ maxLen ∧ len ≤ cap ∧ NdR w a len N := by
  have c6 : Tryd.prog.cellsOf 88 = 6 := by kernel_rfl
  have c1 : Tryd.prog.cellsOf 3 = 1 := by kernel_rfl
  have cs1 : Tryd.prog.cellsOf 9 = 1 := by kernel_rfl
  rcases open_slice Tryd.underlying40 h with ⟨h0, _⟩ | ⟨ad, len', cap', m, n, D, Pl, h0, hb, hl, hm, hmm, _, hx⟩
  · cases h0
    exact ⟨fun _ => ⟨0, 0, 0, 0, 0, ByteArray.empty⟩, Nat.zero_le _, Nat.le_refl _, .inl rfl⟩
  · cases h0
    have hlm : len ≤ m := by rw [hmm]; split <;> omega
    have each : ∀ i, i < len → ∃ q : Nd, w.cell? (ad.add (i * 6)) = some (.int .i64 q.kind) ∧ w.cell? (ad.add (i * 6 + 1)) = some (.int .i64 q.num) ∧ w.cell? (ad.add (i * 6 + 2)) = some (.int .i64 q.at_) ∧ w.cell? (ad.add (i * 6 + 3)) = some (.int .i64 q.a) ∧ w.cell? (ad.add (i * 6 + 4)) = some (.int .i64 q.b) ∧ w.cell? (ad.add (i * 6 + 5)) = some (.string q.op) := by
      intro i hi
      obtain ⟨cs', h1, h2⟩ := hx i (by omega)
      rw [c6] at h1
      obtain ⟨_, hlen, hcell⟩ := World.cells?_some h1
      obtain ⟨xs, k, hk, hxy, _, hxl, hf⟩ := DataW.trod_struct node_under h2
      match xs, hxl, cs', hlen with
      | [y0, y1, y2, y3, y4, y5], _, [v0, v1, v2, v3, v4, v5], _ =>
        have g0 := hf 0 _ rfl
        have g1 := hf 1 _ rfl
        have g2 := hf 2 _ rfl
        have g3 := hf 3 _ rfl
        have g4 := hf 4 _ rfl
        have g5 := hf 5 _ rfl
        simp [c1, cs1] at g0 g1 g2 g3 g4 g5
        obtain ⟨n0, r0, _, _⟩ := DataW.trod_int Tryd.underlying3 (show DataW.trod enc Tryd.prog w base spare held k 3 [v0] = some y0 from g0)
        obtain ⟨n1, r1, _, _⟩ := DataW.trod_int Tryd.underlying3 (show DataW.trod enc Tryd.prog w base spare held k 3 [v1] = some y1 from g1)
        obtain ⟨n2, r2, _, _⟩ := DataW.trod_int Tryd.underlying3 (show DataW.trod enc Tryd.prog w base spare held k 3 [v2] = some y2 from g2)
        obtain ⟨n3, r3, _, _⟩ := DataW.trod_int Tryd.underlying3 (show DataW.trod enc Tryd.prog w base spare held k 3 [v3] = some y3 from g3)
        obtain ⟨n4, r4, _, _⟩ := DataW.trod_int Tryd.underlying3 (show DataW.trod enc Tryd.prog w base spare held k 3 [v4] = some y4 from g4)
        obtain ⟨s5, r5, _, _⟩ := DataW.trod_string Tryd.underlying9 (show DataW.trod enc Tryd.prog w base spare held k 9 [v5] = some y5 from g5)
        cases r0; cases r1; cases r2; cases r3; cases r4; cases r5
        have e0 := hcell 0 (by omega)
        have e1 := hcell 1 (by omega)
        have e2 := hcell 2 (by omega)
        have e3 := hcell 3 (by omega)
        have e4 := hcell 4 (by omega)
        have e5 := hcell 5 (by omega)
        rw [add_add] at e0 e1 e2 e3 e4 e5
        exact ⟨⟨n0, n1, n2, n3, n4, s5⟩, by simpa using e0, by simpa using e1, by simpa using e2, by simpa using e3, by simpa using e4, by simpa using e5⟩
    obtain ⟨q, hq⟩ := choose_lt each
    refine ⟨q, hm, hl, ?_⟩
    by_cases h0 : len = 0
    · exact .inl h0
    · obtain ⟨b, o, sp⟩ := ad
      have hsp : sp = none := by simpa [Addr.add] using World.cell?_spot (hq 0 (by omega)).1
      subst hsp
      refine .inr ⟨b, o, rfl, World.block_lt_of_cell? w _ (hq 0 (by omega)).1, fun j hj => ?_⟩
      obtain ⟨a0, a1, a2, a3, a4, a5⟩ := hq j hj
      rw [Addr.add_lit] at a0 a1 a2 a3 a4 a5
      exact ⟨a0, a1, a2, a3, a4, a5⟩
end Go.Proofs.YtckipboebllkhaaDoor
