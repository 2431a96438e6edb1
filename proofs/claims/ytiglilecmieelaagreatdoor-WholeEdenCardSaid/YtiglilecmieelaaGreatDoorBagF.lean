/- Package bag: put, Put. -/
import Derived.Test.YtiglilecmieelaaGreatDoorBagE
namespace Go.Proofs.YtiglilecmieelaaGreatDoor
open Go.RowKit
set_option linter.unusedVariables false
set_option maxRecDepth 100000

/-- a bag's fault -/
def bagFault (R : Nat → Addr) : Obj := faultObj opBag 0 (.iface 172 (.pointer (some (R 3))))
section
variable {w w3 w4 w5 w' : World} {B gB gM n Wd : Nat} {S : List Nat} {rw_ : Nat → Nat} {al : Option Addr} {cl : Nat}
theorem setBox {w : World} {g : Nat} {x0 x1 x2 : Value} {t : TypeId} (h : w.heap[g]? = some (.cells #[x0, x1, x2] t)) (v : Value) : (w.setCell ⟨g, 1, none⟩ v).heap[g]? = some (.cells #[x0, v, x2] t) := by
  simp [World.setCell, Array.getElem?_modify, h]
/-- a new set is kept -/
theorem BagSt.add (h : BagSt w3 B gB gM n Wd S rw_ al cl) {m gr : Nat} (hgr : w3.heap[gr]? = some (.cells (wordsV Wd m).toArray 134)) (hm : m < 2 ^ (64 * Wd)) (hnew : m ∉ S)
    (hm4 : MapB w4 gM (S.length + 1) ((mpB Wd S S.length).put (kB Wd m) (.lit (.int .i64 (S.length : Nat))))) (hg4 : w3.grownBy w4 (some gM))
    {a' : Option Addr} {c' : Nat} (ha : Appended B 107 1 w4 w5 (.slice al S.length cl) (.slice a' (S.length + 1) c') S.length 1 ((List.range S.length).map fun j => Value.slice (some ⟨rw_ j, 0, none⟩) Wd Wd) [.slice (some ⟨gr, 0, none⟩) Wd Wd]) :
    BagSt (w5.setCell ⟨gB, 1, none⟩ (.slice a' (S.length + 1) c')) B gB gM n Wd (S ++ [m]) (upd rw_ S.length gr) a' c' ∧ KeepN w3 (w5.setCell ⟨gB, 1, none⟩ (.slice a' (S.length + 1) c')) := by
  obtain ⟨es, ck, hmo⟩ := mapB_obj h.map
  obtain ⟨es4, ck4, hmo4⟩ := mapB_obj hm4
  have h34 : ∀ b, b < w3.heap.size → b ≠ gM → w4.heap[b]? = w3.heap[b]? := fun b hb hne => hg4.block b hb fun e => hne (Option.some.inj e)
  have hne3 : ∀ {b : Nat} {cs : Array Value} {t : TypeId} {fr : Nat × Nat}, w3.heap[b]? = some (.cells cs t fr) → b ≠ gM := fun hb e => by rw [e, hmo] at hb; cases hb
  have hs4 : w4.ownsRow B 107 1 (.slice al S.length cl) S.length ((List.range S.length).map fun j => Value.slice (some ⟨rw_ j, 0, none⟩) Wd Wd) := by
    refine own_hp h.sets fun b hb => ?_
    have hlt := (h.sets.lt b hb).2
    refine h34 b hlt fun e => ?_
    exact own_neM h.sets hmo (by rw [hb, e])
  have h45 : ∀ b, b < w4.heap.size → (Value.slice al S.length cl).ownBlock ≠ some b → w5.heap[b]? = w4.heap[b]? := fun b hb hne => ha.row.block b hb fun e => hne e.symm
  have hsz34 := hg4.size
  have go : ∀ {b : Nat} {cs : Array Value} {t : TypeId} {fr : Nat × Nat}, w3.heap[b]? = some (.cells cs t fr) → t ≠ 107 → w5.heap[b]? = some (.cells cs t fr) := fun {b cs t fr} hb ht => by
    have h1 := (h34 b (heap_ltR hb) (hne3 hb)).trans hb
    exact (h45 b (heap_ltR h1) (own_neT hs4 h1 (fun e => ht e.symm))).trans h1
  have hbox5 := go h.box (by decide)
  have hgM : gB ≠ gM := hne3 h.box
  have hm5 : MapB w5 gM (S.length + 1) ((mpB Wd S S.length).put (kB Wd m) (.lit (.int .i64 (S.length : Nat)))) := mapB_of hm4 (h45 gM (heap_ltR hmo4) (own_neM hs4 hmo4))
  have hL : (S ++ [m]).length = S.length + 1 := by simp
  have hset : ∀ b, b ≠ gB → (w5.setCell ⟨gB, 1, none⟩ (.slice a' (S.length + 1) c')).heap[b]? = w5.heap[b]? := fun b hb => Below.heap_setCell _ _ _ _ hb
  have go6 : ∀ {b : Nat} {cs : Array Value}, w3.heap[b]? = some (.cells cs 134) → (w5.setCell ⟨gB, 1, none⟩ (.slice a' (S.length + 1) c')).heap[b]? = some (.cells cs 134) := fun {b cs} hb => by
    rw [hset b (fun e => by rw [e, h.box] at hb; simp at hb)]
    exact go hb (by decide)
  refine ⟨⟨?_, ?_, fun j hj => ?_, ?_, h.lay, ?_, ?_⟩, ?_, fun b o hb ho => ?_⟩
  · rw [hL]
    exact setBox hbox5 _
  · rw [hL]
    have ho := ha.own
    have e : ((List.range S.length).map fun j => Value.slice (some ⟨rw_ j, 0, none⟩) Wd Wd) ++ [.slice (some ⟨gr, 0, none⟩) Wd Wd] = (List.range (S.length + 1)).map fun j => Value.slice (some ⟨upd rw_ S.length gr j, 0, none⟩) Wd Wd := by
      rw [List.range_succ, List.map_append, List.map_singleton, upd_at]
      congr 1
      apply List.map_congr_left
      intro j hj
      have := List.mem_range.1 hj
      rw [upd_ne _ _ (by omega)]
    rw [e] at ho
    exact own_set_other ho (own_neT ho hbox5 (by decide)) _
  · rw [hL] at hj
    by_cases e : j = S.length
    · subst e
      rw [upd_at]
      have e2 : (S ++ [m]).getD S.length 0 = m := by simp [List.getD_eq_getElem?_getD]
      rw [e2]
      exact go6 hgr
    · rw [upd_ne _ _ e]
      have hj2 : j < S.length := by omega
      have e2 : (S ++ [m]).getD j 0 = S.getD j 0 := by simp [List.getD_eq_getElem?_getD, List.getElem?_append_left hj2]
      rw [e2]
      exact go6 (h.row j hj2)
  · rw [hL]
    have e : mpB Wd (S ++ [m]) (S.length + 1) = (mpB Wd S S.length).put (kB Wd m) (.lit (.int .i64 (S.length : Nat))) := by
      show (mpB Wd (S ++ [m]) S.length).put _ _ = _
      have e2 : (S ++ [m]).getD S.length 0 = m := by simp [List.getD_eq_getElem?_getD]
      rw [e2, mpB_congr Wd (S' := S) S.length fun i hi => by simp [List.getD_eq_getElem?_getD, List.getElem?_append_left hi]]
    rw [e]
    exact mapB_of hm5 (hset gM fun e => hgM e.symm)
  · rw [List.nodup_append]
    exact ⟨h.nd, by simp, fun a ha b hb => by rw [List.mem_singleton.1 hb]; exact fun e => hnew (e ▸ ha)⟩
  · intro x hx
    rcases List.mem_append.1 hx with h1 | h1
    · exact h.bd x h1
    · rw [List.mem_singleton.1 h1]; exact hm
  · have h5 := ha.grew
    have : (w5.setCell ⟨gB, 1, none⟩ (.slice a' (S.length + 1) c')).heap.size = w5.heap.size := by simp [World.setCell]
    omega
  · have hbM : b ≠ gM := fun e => by rw [e, hmo] at hb; cases hb; exact ho trivial
    have hbB : b ≠ gB := fun e => by rw [e, h.box] at hb; cases hb; exact ho (.inl rfl)
    have h1 := (h34 b (heap_ltR hb) hbM).trans hb
    rw [hset b hbB, h45 b (heap_ltR h1) fun e => ?_]
    · exact h1
    · rcases hs4.2 with ⟨h0, _⟩ | ⟨g, cap, cur, h0, _, hg, _⟩
      · rw [h0] at e; cases e
      · rw [h0] at e
        simp only [Value.ownBlock, Option.some.injEq] at e
        subst e
        rw [h1] at hg
        cases hg
        exact ho (.inr (.inl rfl))
end
end Go.Proofs.YtiglilecmieelaaGreatDoor
