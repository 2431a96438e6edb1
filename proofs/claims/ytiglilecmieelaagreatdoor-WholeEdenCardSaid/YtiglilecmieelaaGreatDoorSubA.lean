/- Package subset: the walk's state in memory. -/
import Derived.Test.YtiglilecmieelaaGreatDoorBagG
import Derived.Test.YtiglilecmieelaaGreatDoorOvQ
import Derived.Test.YtiglilecmieelaaGreatDoorClone
import Derived.Deep.RegionLaw
import Derived.Deep.Cut
namespace Go.Proofs.YtiglilecmieelaaGreatDoor
open Go.RowKit
set_option linter.unusedVariables false
set_option maxRecDepth 100000

/-- a walk in memory -/
structure WkSt (w : World) (B gw k r : Nat) (aT : Option Addr) (T cT : Nat) (pv nv : Value) (Ln : Nat) (ws : List (List Nat)) (wv : Nat → Value) (aw : Option Addr) (cw : Nat) : Prop where
  box : w.heap[gw]? = some (.cells #[.int .i64 k, .int .i64 r, .slice aT T cT, pv, nv, .slice aw ws.length cw, .bool true] 38)
  nx : ∃ cs, w.ownsRow B 22 1 nv Ln cs
  wds : w.ownsRow B 22 1 (.slice aw ws.length cw) ws.length ((List.range ws.length).map wv)
  wd : ∀ j, j < ws.length → ∃ l : List Int, w.ownsRow B 3 1 (wv j) (ws.getD j []).length (l.map (Value.int .i64))
  ap : Ap nv (.slice aw ws.length cw)
  lay : B ≤ gw
section
variable {w w' : World} {B gw k r T cT Ln cw : Nat} {aT aw : Option Addr} {pv nv : Value} {ws : List (List Nat)} {wv : Nat → Value}
theorem WkSt.keep (h : WkSt w B gw k r aT T cT pv nv Ln ws wv aw cw) (hk : ∀ (b : Nat) (cs : Array Value) (t : TypeId), w.heap[b]? = some (.cells cs t) → t = 38 ∨ t = 22 ∨ t = 3 → w'.heap[b]? = some (.cells cs t)) : WkSt w' B gw k r aT T cT pv nv Ln ws wv aw cw := by
  have own : ∀ {e : TypeId} {v : Value} {n : Nat} {cs : List Value}, (e = 22 ∨ e = 3) → w.ownsRow B e 1 v n cs → w'.ownsRow B e 1 v n cs := fun {e v n cs} he hs => by
    refine ⟨hs.1, ?_⟩
    rcases hs.2 with hn | ⟨g, cap, cur, e2, hbg, hg, rest⟩
    · exact .inl hn
    · exact .inr ⟨g, cap, cur, e2, hbg, hk _ _ _ hg (.inr he), rest⟩
  refine ⟨hk _ _ _ h.box (.inl rfl), ?_, own (.inl rfl) h.wds, fun j hj => ?_, h.ap, h.lay⟩
  · obtain ⟨cs, hn⟩ := h.nx
    exact ⟨cs, own (.inl rfl) hn⟩
  · obtain ⟨l, hl⟩ := h.wd j hj
    exact ⟨l, own (.inr rfl) hl⟩
theorem WkSt.keepN (h : WkSt w B gw k r aT T cT pv nv Ln ws wv aw cw) (hk : KeepN w w') : WkSt w' B gw k r aT T cT pv nv Ln ws wv aw cw :=
  h.keep fun b cs t hb ht => hk.2 b _ hb fun ho => by
    have ho : t = 106 ∨ t = 107 ∨ t = 134 := ho
    rcases ht with rfl | rfl | rfl <;> rcases ho with q | q | q <;> exact absurd q (by decide)
theorem WkSt.up (h : WkSt w B gw k r aT T cT pv nv Ln ws wv aw cw) (hb : Below w.heap.size w w') : WkSt w' B gw k r aT T cT pv nv Ln ws wv aw cw := h.keepN (KeepN.of hb)
theorem WkSt.cells (h : WkSt w B gw k r aT T cT pv nv Ln ws wv aw cw) : w.cell? ⟨gw, 0, none⟩ = some (.int .i64 k) ∧ w.cell? ⟨gw, 1, none⟩ = some (.int .i64 r) ∧ w.cell? ⟨gw, 2, none⟩ = some (.slice aT T cT) ∧ w.cell? ⟨gw, 3, none⟩ = some pv ∧ w.cell? ⟨gw, 4, none⟩ = some nv ∧ w.cell? ⟨gw, 5, none⟩ = some (.slice aw ws.length cw) ∧ w.cell? ⟨gw, 6, none⟩ = some (.bool true) ∧ w.frozen? ⟨gw, 5, none⟩ = false ∧ w.frozen? ⟨gw, 4, none⟩ = false ∧ w.frozen? ⟨gw, 3, none⟩ = false := by
  have := h.box
  simp [World.cell?, World.frozen?, this]
/-- one word more: appended in w to w', put into the walk's fifth cell -/
theorem WkSt.word (h : WkSt w B gw k r aT T cT pv nv Ln ws wv aw cw) {a' : Option Addr} {c' : Nat} {v : Value} {wd : List Nat} {l : List Int} (hv : w.ownsRow B 3 1 v wd.length (l.map (Value.int .i64)))
    (ha : Appended B 22 1 w w' (.slice aw ws.length cw) (.slice a' (ws.length + 1) c') ws.length 1 ((List.range ws.length).map wv) [v]) :
    WkSt (w'.setCell ⟨gw, 5, none⟩ (.slice a' (ws.length + 1) c')) B gw k r aT T cT pv nv Ln (ws ++ [wd]) (upd wv ws.length v) a' c' ∧ KeepY w (w'.setCell ⟨gw, 5, none⟩ (.slice a' (ws.length + 1) c')) ∧ Below B w (w'.setCell ⟨gw, 5, none⟩ (.slice a' (ws.length + 1) c')) := by
  have hk : ∀ b, b < w.heap.size → (Value.slice aw ws.length cw).ownBlock ≠ some b → w'.heap[b]? = w.heap[b]? := fun b hb hne => ha.row.block b hb fun e => hne e.symm
  have go : ∀ {b : Nat} {cs : Array Value} {t : TypeId} {fr : Nat × Nat}, w.heap[b]? = some (.cells cs t fr) → t ≠ 22 → w'.heap[b]? = some (.cells cs t fr) := fun {b cs t fr} hb ht => (hk b (heap_ltR hb) (own_neT h.wds hb (fun e => ht e.symm))).trans hb
  have hbox := go h.box (by decide)
  have hL : (ws ++ [wd]).length = ws.length + 1 := by simp
  have hset : ∀ b, b ≠ gw → (w'.setCell ⟨gw, 5, none⟩ (.slice a' (ws.length + 1) c')).heap[b]? = w'.heap[b]? := fun b hb => Below.heap_setCell _ _ _ _ hb
  have ownI : ∀ {u : Value} {n : Nat} {cs : List Value}, w.ownsRow B 3 1 u n cs → (w'.setCell ⟨gw, 5, none⟩ (.slice a' (ws.length + 1) c')).ownsRow B 3 1 u n cs := fun {u n cs} ho => by
    have h1 : w'.ownsRow B 3 1 u n cs := by
      refine ⟨ho.1, ?_⟩
      rcases ho.2 with hn | ⟨g, cap, cur, e2, hbg, hg, rest⟩
      · exact .inl hn
      · exact .inr ⟨g, cap, cur, e2, hbg, go hg (by decide), rest⟩
    exact own_set_other h1 (own_neT h1 hbox (by decide)) _
  refine ⟨⟨?_, ?_, ?_, fun j hj => ?_, ?_, h.lay⟩, ⟨?_, fun b o hb ho => ?_⟩, ha.below.setCell (p := ⟨gw, 5, none⟩) h.lay _⟩
  · rw [hL]
    simp [World.setCell, Array.getElem?_modify, hbox]
  · obtain ⟨cs, hn⟩ := h.nx
    have h1 := ha.keeps hn h.ap.symm.ne
    exact ⟨cs, own_set_other h1 (own_neT h1 hbox (by decide)) _⟩
  · rw [hL]
    have ho := ha.own
    have e : (List.range ws.length).map wv ++ [v] = (List.range (ws.length + 1)).map (upd wv ws.length v) := by
      rw [List.range_succ, List.map_append, List.map_singleton, upd_at]
      congr 1
      apply List.map_congr_left
      intro j hj
      have := List.mem_range.1 hj
      rw [upd_ne _ _ (by omega)]
    rw [e] at ho
    exact own_set_other ho (own_neT ho hbox (by decide)) _
  · rw [hL] at hj
    by_cases e : j = ws.length
    · subst e
      rw [upd_at]
      have e2 : (ws ++ [wd]).getD ws.length [] = wd := by simp [List.getD_eq_getElem?_getD]
      rw [e2]
      exact ⟨l, ownI hv⟩
    · rw [upd_ne _ _ e]
      have hj2 : j < ws.length := by omega
      have e2 : (ws ++ [wd]).getD j [] = ws.getD j [] := by simp [List.getD_eq_getElem?_getD, List.getElem?_append_left hj2]
      rw [e2]
      obtain ⟨l2, h2⟩ := h.wd j hj2
      exact ⟨l2, ownI h2⟩
  · rw [hL]
    obtain ⟨cs, hn⟩ := h.nx
    exact (h.ap.symm.app ha fun g hg => (hn.lt g hg).2).symm
  · have h5 := ha.grew
    have : (w'.setCell ⟨gw, 5, none⟩ (.slice a' (ws.length + 1) c')).heap.size = w'.heap.size := by simp [World.setCell]
    omega
  · have hbB : b ≠ gw := fun e => by
      rw [e, h.box] at hb
      cases hb
      have ho : 38 = 106 ∨ 38 = 107 ∨ 38 = 134 := ho
      rcases ho with q | q | q <;> exact absurd q (by decide)
    rw [hset b hbB, hk b (heap_ltR hb) fun e => ?_]
    · exact hb
    · rcases h.wds.2 with ⟨h0, _⟩ | ⟨g, cap, cur, h0, _, hg, _⟩
      · rw [h0] at e; cases e
      · rw [h0] at e
        simp only [Value.ownBlock, Option.some.injEq] at e
        subst e
        rw [hb] at hg
        cases hg
        have ho : 22 = 106 ∨ 22 = 107 ∨ 22 = 134 := ho
        rcases ho with q | q | q <;> exact absurd q (by decide)
end
end Go.Proofs.YtiglilecmieelaaGreatDoor
