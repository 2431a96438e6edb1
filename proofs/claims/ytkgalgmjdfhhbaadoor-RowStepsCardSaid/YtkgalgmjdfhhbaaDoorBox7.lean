/- A row that is laid into a variable while calls make memory: the block may come ahead of each call. -/
import Derived.Test.YtkgalgmjdfhhbaaDoorRowG
namespace Go.Proofs.YtkgalgmjdfhhbaaDoor
open Go.RowKit
set_option linter.unusedVariables false
set_option maxRecDepth 100000

abbrev Z7 : Obj := .cells #[.int .i64 0, .slice none 0 0, .slice none 0 0, .slice none 0 0] 26
theorem cell_set4 {w : World} {a : Addr} {v u0 u1 u2 u3 : Value} {g : Nat} (h : w.cell? a = some v) (hne : a.block ≠ g) : ((((w.setCell ⟨g, 0, none⟩ u0).setCell ⟨g, 1, none⟩ u1).setCell ⟨g, 2, none⟩ u2).setCell ⟨g, 3, none⟩ u3).cell? a = some v := by
  rw [World.cell?_of_block (w := w)]
  · exact h
  · rw [Below.heap_setCell _ _ _ _ hne, Below.heap_setCell _ _ _ _ hne, Below.heap_setCell _ _ _ _ hne, Below.heap_setCell _ _ _ _ hne]
theorem drew_alloc7 (w : World) : (w.alloc Z7).drew = w.drew.alloc Z7 := rfl
theorem below_mid {w V w3 : World} (hb : Below V.heap.size V w3) (hV : V = w ∨ V = w.alloc Z7) : Below w.heap.size w w3 ∧ w.heap.size ≤ V.heap.size ∧ (V = w.alloc Z7 → w3.heap[w.heap.size]? = some Z7 ∧ w.heap.size < w3.heap.size) := by
  rcases hV with rfl | rfl
  · refine ⟨hb, Nat.le_refl _, fun e => ?_⟩
    have := congrArg (fun x => x.heap.size) e
    simp at this
  · refine ⟨(balloc (bnil w) _).trans (hb.mono (by simp)), by simp, fun _ => ⟨(hb.block w.heap.size (by simp)).trans (heap_alloc_new w Z7), ?_⟩⟩
    have := hb.size
    simp at this
    omega
theorem z_cells {w : World} {g : Nat} (h : w.heap[g]? = some Z7) : (w.cell? ⟨g, 0, none⟩ = some (.int .i64 0) ∧ w.cell? ⟨g, 1, none⟩ = some (.slice none 0 0) ∧ w.cell? ⟨g, 2, none⟩ = some (.slice none 0 0) ∧ w.cell? ⟨g, 3, none⟩ = some (.slice none 0 0)) ∧ w.frozen? ⟨g, 0, none⟩ = false ∧ w.frozen? ⟨g, 1, none⟩ = false ∧ w.frozen? ⟨g, 2, none⟩ = false ∧ w.frozen? ⟨g, 3, none⟩ = false := by
  simp [World.cell?, World.frozen?, h]


/-- a slice does not begin in a block -/
def NotIn (g : Nat) (a : Option Addr) : Prop := ∀ b o, a = some ⟨b, o, none⟩ → b ≠ g
theorem OwI.notin {w : World} {base g : Nat} {a : Option Addr} {n c : Nat} {l : List Int} (h : OwI w base a n c l) (hg : g < base ∨ w.heap.size ≤ g) : NotIn g a := by
  intro b o hab
  obtain ⟨rfl, hb⟩ := own_off h.own hab
  have := h.own.lt b hb
  omega
theorem RK.other {w w6 : World} {g n : Nat} {a : Option Addr} {l : List Int} (h : RK .i64 w a n l) (hk : ∀ k, k ≠ g → w6.heap[k]? = w.heap[k]?) (hs : w6.heap.size = w.heap.size) (hn : NotIn g a) : RK .i64 w6 a n l := by
  refine ⟨h.1, h.2.1, ?_⟩
  rcases h.2.2 with h0 | ⟨b, o, rfl, hlt, hc⟩
  · exact .inl h0
  · refine .inr ⟨b, o, rfl, by omega, fun j u hu => ?_⟩
    rw [World.cell?_of_block (hk b (hn b o rfl))]
    exact hc j u hu
theorem RowM.other {w w6 : World} {g : Nat} {aL aC aR : Option Addr} {nL cL nC cC nR cR : Nat} {L C Q : List Int} (h : RowM w aL nL cL L aC nC cC C aR nR cR Q) (hk : ∀ k, k ≠ g → w6.heap[k]? = w.heap[k]?) (hs : w6.heap.size = w.heap.size) (h1 : NotIn g aL) (h2 : NotIn g aC) (h3 : NotIn g aR) : RowM w6 aL nL cL L aC nC cC C aR nR cR Q :=
  ⟨⟨h.l.rk.other hk hs h1, h.l.le, h.l.n8, h.l.mx, h.l.nn⟩, ⟨h.c.rk.other hk hs h2, h.c.le, h.c.n8, h.c.mx, h.c.nn⟩, ⟨h.r.rk.other hk hs h3, h.r.le, h.r.n8, h.r.mx, h.r.nn⟩⟩

/-- the row in its variable -/
structure InVar (w2 wx : World) (g : Nat) (p : Int) (a1 : Option Addr) (n1 d1 : Nat) (l1 : List Int) (a2 : Option Addr) (n2 d2 : Nat) (l2 : List Int) (a3 : Option Addr) (n3 d3 : Nat) (l3 : List Int) : Prop where
  c0 : wx.cell? ⟨g, 0, none⟩ = some (.int .i64 p)
  c1 : wx.cell? ⟨g, 1, none⟩ = some (.slice a1 n1 d1)
  c2 : wx.cell? ⟨g, 2, none⟩ = some (.slice a2 n2 d2)
  c3 : wx.cell? ⟨g, 3, none⟩ = some (.slice a3 n3 d3)
  lt : g < wx.heap.size
  bel : Below w2.heap.size w2 wx
  m : RowM wx a1 n1 d1 l1 a2 n2 d2 l2 a3 n3 d3 l3
theorem invar_alloc {w2 w5 : World} {p : Int} {a1 a2 a3 : Option Addr} {n1 n2 n3 d1 d2 d3 : Nat} {l1 l2 l3 : List Int} (hb : Below w2.heap.size w2 w5) (h : RowM w5 a1 n1 d1 l1 a2 n2 d2 l2 a3 n3 d3 l3) :
    ∃ wx, w5.alloc (.cells #[.int .i64 p, .slice a1 n1 d1, .slice a2 n2 d2, .slice a3 n3 d3] 26) = wx ∧ InVar w2 wx w5.heap.size p a1 n1 d1 l1 a2 n2 d2 l2 a3 n3 d3 l3 :=
  ⟨_, rfl, cell_new rfl rfl, cell_new rfl rfl, cell_new rfl rfl, cell_new rfl rfl, by simp, balloc hb _, h.up (balloc (bnil w5) _)⟩
theorem invar_set {w2 w5 : World} {g : Nat} {p : Int} {a1 a2 a3 : Option Addr} {n1 n2 n3 d1 d2 d3 : Nat} {l1 l2 l3 : List Int} (hz : w5.heap[g]? = some Z7) (hg : w2.heap.size ≤ g) (hb : Below w2.heap.size w2 w5) (h : RowM w5 a1 n1 d1 l1 a2 n2 d2 l2 a3 n3 d3 l3) (h1 : NotIn g a1) (h2 : NotIn g a2) (h3 : NotIn g a3) :
    ∃ wx, ((((w5.setCell ⟨g, 0, none⟩ (.int .i64 p)).setCell ⟨g, 1, none⟩ (.slice a1 n1 d1)).setCell ⟨g, 2, none⟩ (.slice a2 n2 d2)).setCell ⟨g, 3, none⟩ (.slice a3 n3 d3)) = wx ∧ InVar w2 wx g p a1 n1 d1 l1 a2 n2 d2 l2 a3 n3 d3 l3 := by
  obtain ⟨w6, e, ⟨r0, r1, r2, r3⟩, hk, hs, hbl⟩ := set4 hz (.int .i64 p) (.slice a1 n1 d1) (.slice a2 n2 d2) (.slice a3 n3 d3)
  have hlt : g < w6.heap.size := by
    rw [hs]
    exact (Array.getElem?_eq_some_iff.1 hz).1
  exact ⟨w6, e, r0, r1, r2, r3, hlt, hbl _ _ hg hb, h.other hk hs h1 h2 h3⟩
end Go.Proofs.YtkgalgmjdfhhbaaDoor
