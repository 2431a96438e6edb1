/- Package subset: what a step comes to; the end of the region that keeps a word. -/
import Derived.Test.YtiglilecmieelaaGreatDoorSubA
import Derived.Test.YtiglilecmieelaaGreatDoorSubP
import Derived.Test.YtiglilecmieelaaGreatDoorEdnS
import Derived.Deep.RegionWith
import Derived.Deep.RegionHeld3
namespace Go.Proofs.YtiglilecmieelaaGreatDoor
open Go.RowKit
set_option linter.unusedVariables false
set_option maxRecDepth 100000

/-- numbers as cells -/
def natC (l : List Nat) : List Value := (l.map fun x : Nat => (x : Int)).map (Value.int .i64)
theorem natC_app (l : List Nat) (x : Nat) : natC (l ++ [x]) = natC l ++ [.int .i64 (x : Int)] := by simp [natC]
/-- rows of numbers stay -/
def KeepI (w w' : World) : Prop := w.heap.size ≤ w'.heap.size ∧ ∀ (b : Nat) (cs : Array Value), w.heap[b]? = some (.cells cs 3) → w'.heap[b]? = some (.cells cs 3)
theorem KeepI.of {w w' : World} (h : Below w.heap.size w w') : KeepI w w' := ⟨h.size, fun b cs hb => (h.block b (heap_ltR hb)).trans hb⟩
theorem KeepI.trans {a b c : World} (h : KeepI a b) (k : KeepI b c) : KeepI a c := ⟨Nat.le_trans h.1 k.1, fun p o hp => k.2 p o (h.2 p o hp)⟩
theorem KeepI.ofN {w w' : World} (h : KeepN w w') : KeepI w w' := ⟨h.1, fun b cs hb => h.2 b _ hb fun ho => by
  have ho : 3 = 106 ∨ 3 = 107 ∨ 3 = 134 := ho
  rcases ho with q | q | q <;> exact absurd q (by decide)⟩
theorem word_after {w w' : World} {B gw k r T cT Ln cw LW ba i n : Nat} {aT : Option Addr} {pv nv u : Value} {ws : List (List Nat)} {wv : Nat → Value} (h : WkSt w B gw k r aT T cT pv nv Ln ws wv (some ⟨ba, 0, none⟩) cw) (hL : ws.length = LW) {v' : Value} {news : List Value}
    (ha : Appended B 22 1 w w' (.slice (some ⟨ba, 0, none⟩) LW cw) v' LW n ((List.range LW).map wv) news) (hc : w.cell? ⟨ba, i, none⟩ = some u) : w'.cell? ⟨gw, 5, none⟩ = some (.slice (some ⟨ba, 0, none⟩) LW cw) ∧ w'.frozen? ⟨gw, 5, none⟩ = false ∧ (i < LW → w'.cell? ⟨ba, i, none⟩ = some u) := by
  subst hL
  have hb5 := (ha.row.block gw (heap_ltR h.box) fun e => own_neT h.wds h.box (by decide) e.symm).trans h.box
  refine ⟨by simp [World.cell?, hb5], by simp [World.frozen?, hb5], fun hi => ?_⟩
  rw [ha.cell ⟨ba, i, none⟩ (World.block_lt_of_cell? _ _ hc) (fun _ => by simpa using hi)]
  exact hc
theorem word_int {w w' : World} {B gw k r T cT Ln cw : Nat} {aT aw a' : Option Addr} {c' : Nat} {pv nv : Value} {ws : List (List Nat)} {wv : Nat → Value} (h : WkSt w B gw k r aT T cT pv nv Ln ws wv aw cw) {news : List Value} {m : Nat}
    (ha : Appended B 22 1 w w' (.slice aw ws.length cw) (.slice a' (ws.length + 1) c') ws.length m ((List.range ws.length).map wv) news) (v : Value) : KeepI w (w'.setCell ⟨gw, 5, none⟩ v) := by
  refine ⟨by simpa [World.setCell] using ha.grew, fun b cs hb => ?_⟩
  rw [Below.heap_setCell _ _ _ _ (fun e => by rw [e, h.box] at hb; simp at hb), ha.row.block b (heap_ltR hb) fun e => own_neT h.wds hb (by decide) e.symm]
  exact hb
/-- the end of the region that keeps a word -/
theorem word_end {w5 w9 wX w10 : World} {B gw k r T cT Ln cw LW ba nwi i s : Nat} {aT a9 a8 a10 : Option Addr} {c9 c8 c10 : Nat} {pv nv : Value} {ws : List (List Nat)} {wv : Nat → Value} {l5 : List Int}
    (hw5 : WkSt w5 B gw k r aT T cT pv nv Ln ws wv (some ⟨ba, 0, none⟩) cw) (hL : ws.length = LW) (hn : (ws.getD i []).length = nwi) (hB : B ≤ w5.heap.size)
    (ha9 : Appended w5.heap.size 3 1 wX w9 (.slice a8 nwi c8) (.slice a9 (nwi + 1) c9) nwi 1 (l5.map (Value.int .i64)) [.int .i64 (s : Nat)]) (hb9 : Below w5.heap.size w5 w9)
    (ha10 : Appended B 22 1 (w9.alloc (.cells #[.slice a9 (nwi + 1) c9] 22)) w10 (.slice (some ⟨ba, 0, none⟩) LW cw) (.slice a10 (LW + 1) c10) LW 1 ((List.range LW).map wv) [.slice a9 (nwi + 1) c9]) :
    ∃ (wd' : Nat → Value) (aw' : Option Addr) (cw' : Nat), WkSt (w10.setCell ⟨gw, 5, none⟩ (.slice a10 (LW + 1) c10)) B gw k r aT T cT pv nv Ln (ws ++ [ws.getD i [] ++ [s]]) wd' aw' cw' ∧ KeepY w5 (w10.setCell ⟨gw, 5, none⟩ (.slice a10 (LW + 1) c10)) ∧ KeepI w5 (w10.setCell ⟨gw, 5, none⟩ (.slice a10 (LW + 1) c10)) ∧ Below B w5 (w10.setCell ⟨gw, 5, none⟩ (.slice a10 (LW + 1) c10)) := by
  subst hL
  have hb9L : Below w5.heap.size w5 (w9.alloc (.cells #[.slice a9 (nwi + 1) c9] 22)) := balloc hb9 _
  have h9 := hw5.up hb9L
  have hlen : (ws.getD i [] ++ [s]).length = nwi + 1 := by rw [List.length_append, hn]; rfl
  have hv : (w9.alloc (.cells #[.slice a9 (nwi + 1) c9] 22)).ownsRow B 3 1 (.slice a9 (nwi + 1) c9) (ws.getD i [] ++ [s]).length ((l5 ++ [(s : Int)]).map (Value.int .i64)) := by
    rw [hlen, List.map_append]
    exact (owns_base ha9.own hB).alloc _
  obtain ⟨h1, h2, h3⟩ := h9.word hv ha10
  exact ⟨_, _, _, h1, (KeepY.of hb9L).trans h2, (KeepI.of hb9L).trans (word_int h9 ha10 _), (hb9L.mono hB).trans h3⟩
/-- what a step comes to -/
def StepRes (w w' : World) (R : Nat → Addr) (B gB gM gw k r N Wd : Nat) (aT : Option Addr) (T cT : Nat) (nv : Value) (Ln : Nat) (tb : List Int) (i s : Nat) (S : List Nat × List (List Nat)) (e : Ending) : Prop :=
  (∃ wrd, stepO k N (labT tb) i s S = .orphan wrd ∧ ∃ (gf : Nat) (af : Option Addr) (cf : Nat), e = .returned (.tuple #[.int .i64 0, .iface 40 (.pointer (some ⟨gf, 0, none⟩))]) ∧ w'.heap[gf]? = some (.cells #[.slice af wrd.length cf] 44) ∧ Below w.heap.size w w') ∨
  (stepO k N (labT tb) i s S = .big ∧ ∃ g, e = .returned (.tuple #[.int .i64 0, .iface 75 (.pointer (some ⟨g, 0, none⟩))]) ∧ w'.heap[g]? = some (bagFault R) ∧ Below w.heap.size w w') ∨
  (∃ S', stepO k N (labT tb) i s S = .go S' ∧ ∃ (id : Nat) (rw' : Nat → Nat) (al' : Option Addr) (cl' : Nat) (wv' : Nat → Value) (aw' : Option Addr) (cw' : Nat), e = .returned (.tuple #[.int .i64 id, .nilIface]) ∧ BagSt w' B gB gM N Wd S'.1 rw' al' cl' ∧ WkSt w' B gw k r aT T cT (.pointer (some ⟨gB, 0, none⟩)) nv Ln S'.2 wv' aw' cw' ∧ Below B w w' ∧ KeepI w w')
end Go.Proofs.YtiglilecmieelaaGreatDoor
