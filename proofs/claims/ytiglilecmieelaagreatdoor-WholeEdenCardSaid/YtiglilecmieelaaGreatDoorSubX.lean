/- Package subset: the walk's state behind stores; how long the words are. Package subset: all, where a step does what it should. Package subset: all of any rule; Onto. -/
import Derived.Test.YtiglilecmieelaaGreatDoorSubA
import Derived.Test.YtiglilecmieelaaGreatDoorSubP
import Derived.Test.YtiglilecmieelaaGreatDoorEdnS
import Derived.Test.YtiglilecmieelaaGreatDoorSubS
import Derived.Test.YtiglilecmieelaaGreatDoorOvM
import Derived.Test.YtiglilecmieelaaGreatDoorSubB
import Derived.Test.YtiglilecmieelaaGreatDoorErrX
import Derived.Test.YtiglilecmieelaaGreatDoorErrU
import Derived.Test.YtiglilecmieelaaGreatDoorGraX
namespace Go.Proofs.YtiglilecmieelaaGreatDoor
open Go.RowKit
set_option linter.unusedVariables false
set_option maxRecDepth 100000

/-- words are no longer than their place -/
theorem orun_len {k n : Nat} {lab : Nat → Nat} {i s : Nat} {S : List Nat × List (List Nat)} (hn : 0 < n) (h : ORun k n lab i s S) : ∀ j, (S.2.getD j []).length ≤ j := by
  induction h with
  | start =>
    intro j
    cases j with
    | zero => exact Nat.le_refl _
    | succ j => simp
  | @sym i s S S' hrun hi hs hst ih =>
    have hI := orun_inv hn hrun
    unfold stepO at hst
    split at hst
    · cases hst
    · split at hst
      · cases hst; exact ih
      · split at hst
        · cases hst
        · cases hst
          intro j
          show ((S.2 ++ [S.2.getD i [] ++ [s]]).getD j []).length ≤ j
          have hl := hI.len
          by_cases h1 : j < S.2.length
          · rw [getD_app_lt h1]; exact ih j
          · by_cases h2 : j = S.2.length
            · subst h2
              rw [getD_app_at, List.length_append]
              have := ih i
              have hsl : [s].length = 1 := rfl
              omega
            · have : (S.2 ++ [S.2.getD i [] ++ [s]]).getD j [] = [] := by
                rw [List.getD_eq_getElem?_getD, List.getElem?_eq_none (by simp; omega)]; rfl
              rw [this]; simp
  | @row i S hrun hi ih => exact ih
theorem own_setInt {w : World} {B n g j : Nat} {v : Value} {l : List Int} (h : w.ownsRow B 3 1 v n (l.map (Value.int .i64))) (x : Int) : ∃ l' : List Int, (w.setCell ⟨g, j, none⟩ (.int .i64 x)).ownsRow B 3 1 v n (l'.map (Value.int .i64)) := by
  by_cases e : v.ownBlock = some g
  · obtain ⟨a, c, rfl⟩ := own_wf h
    rcases h.2 with ⟨h1, _⟩ | ⟨g', cap, cur, h1, _⟩
    · rw [h1] at e; cases e
    · cases h1
      simp only [Value.ownBlock, Option.some.injEq] at e
      subst e
      have := own_set h j (.int .i64 x)
      rw [← List.map_set] at this
      exact ⟨_, this⟩
  · exact ⟨l, own_set_other h e _⟩
section
variable {w w' : World} {B gw k r T cT Ln cw : Nat} {aT aw : Option Addr} {pv nv : Value} {ws : List (List Nat)} {wv : Nat → Value}
/-- a number stored into a row of numbers -/
theorem WkSt.setInt (h : WkSt w B gw k r aT T cT pv nv Ln ws wv aw cw) {g j : Nat} {cs : Array Value} (hg : w.heap[g]? = some (.cells cs 3)) (x : Int) : WkSt (w.setCell ⟨g, j, none⟩ (.int .i64 x)) B gw k r aT T cT pv nv Ln ws wv aw cw := by
  refine ⟨?_, ?_, own_set_other h.wds (own_neT h.wds hg (by decide)) _, fun j' hj' => ?_, h.ap, h.lay⟩
  · rw [Below.heap_setCell _ _ _ _ (fun e => by have q := h.box; rw [e, hg] at q; simp at q)]; exact h.box
  · obtain ⟨cs, hn⟩ := h.nx
    exact ⟨cs, own_set_other hn (own_neT hn hg (by decide)) _⟩
  · obtain ⟨l, hl⟩ := h.wd j' hj'
    exact own_setInt hl x
theorem BagSt.setInt {gB gM n Wd : Nat} {S : List Nat} {rw_ : Nat → Nat} {al : Option Addr} {cl : Nat} (h : BagSt w B gB gM n Wd S rw_ al cl) {g j : Nat} {cs : Array Value} (hg : w.heap[g]? = some (.cells cs 3)) (x : Value) : BagSt (w.setCell ⟨g, j, none⟩ x) B gB gM n Wd S rw_ al cl := by
  refine h.keep ⟨by simp [World.setCell], fun b o hb ho => ?_⟩
  rw [Below.heap_setCell _ _ _ _ (fun e => ?_)]
  · exact hb
  · have e : b = g := e
    subst e
    rw [hg] at hb
    cases hb
    have ho : 3 = 106 ∨ 3 = 107 ∨ 3 = 134 := ho
    rcases ho with q | q | q <;> exact absurd q (by decide)
/-- one row more in the automaton -/
theorem WkSt.next (h : WkSt w B gw k r aT T cT pv nv Ln ws wv aw cw) {cs : List Value} (hn : w.ownsRow B 22 1 nv Ln cs) {a' : Option Addr} {c' : Nat} {news : List Value} (ha : Appended B 22 1 w w' nv (.slice a' (Ln + 1) c') Ln 1 cs news) :
    WkSt (w'.setCell ⟨gw, 4, none⟩ (.slice a' (Ln + 1) c')) B gw k r aT T cT pv (.slice a' (Ln + 1) c') (Ln + 1) ws wv aw cw ∧ KeepY w (w'.setCell ⟨gw, 4, none⟩ (.slice a' (Ln + 1) c')) ∧ Below B w (w'.setCell ⟨gw, 4, none⟩ (.slice a' (Ln + 1) c')) := by
  have hk : ∀ b, b < w.heap.size → nv.ownBlock ≠ some b → w'.heap[b]? = w.heap[b]? := fun b hb hne => ha.row.block b hb fun e => hne e.symm
  have go : ∀ {b : Nat} {cs : Array Value} {t : TypeId} {fr : Nat × Nat}, w.heap[b]? = some (.cells cs t fr) → t ≠ 22 → w'.heap[b]? = some (.cells cs t fr) := fun {b cs t fr} hb ht => (hk b (heap_ltR hb) (own_neT hn hb (fun e => ht e.symm))).trans hb
  have hbox := go h.box (by decide)
  have hset : ∀ b, b ≠ gw → (w'.setCell ⟨gw, 4, none⟩ (.slice a' (Ln + 1) c')).heap[b]? = w'.heap[b]? := fun b hb => Below.heap_setCell _ _ _ _ hb
  refine ⟨⟨?_, ?_, ?_, fun j hj => ?_, ?_, h.lay⟩, ⟨?_, fun b o hb ho => ?_⟩, ha.below.setCell (p := ⟨gw, 4, none⟩) h.lay _⟩
  · simp [World.setCell, Array.getElem?_modify, hbox]
  · exact ⟨_, own_set_other ha.own (own_neT ha.own hbox (by decide)) _⟩
  · have h1 := ha.keeps h.wds h.ap.ne
    exact own_set_other h1 (own_neT h1 hbox (by decide)) _
  · obtain ⟨l, hl⟩ := h.wd j hj
    have h1 : w'.ownsRow B 3 1 (wv j) (ws.getD j []).length (l.map (Value.int .i64)) := by
      refine ⟨hl.1, ?_⟩
      rcases hl.2 with hn | ⟨g, cap, cur, e2, hbg, hg, rest⟩
      · exact .inl hn
      · exact .inr ⟨g, cap, cur, e2, hbg, go hg (by decide), rest⟩
    exact ⟨l, own_set_other h1 (own_neT h1 hbox (by decide)) _⟩
  · exact h.ap.app ha fun g hg => (h.wds.lt g hg).2
  · have h5 := ha.grew
    have : (w'.setCell ⟨gw, 4, none⟩ (.slice a' (Ln + 1) c')).heap.size = w'.heap.size := by simp [World.setCell]
    omega
  · have hbB : b ≠ gw := fun e => by
      rw [e, h.box] at hb
      cases hb
      have ho : 38 = 106 ∨ 38 = 107 ∨ 38 = 134 := ho
      rcases ho with q | q | q <;> exact absurd q (by decide)
    rw [hset b hbB, hk b (heap_ltR hb) fun e => ?_]
    · exact hb
    · rcases hn.2 with ⟨h0, _⟩ | ⟨g, cap, cur, h0, _, hg, _⟩
      · rw [h0] at e; cases e
      · rw [h0] at e
        simp only [Value.ownBlock, Option.some.injEq] at e
        subst e
        rw [hb] at hg
        cases hg
        have ho : 22 = 106 ∨ 22 = 107 ∨ 22 = 134 := ho
        rcases ho with q | q | q <;> exact absurd q (by decide)
end
end Go.Proofs.YtiglilecmieelaaGreatDoor
namespace Go.Proofs.YtiglilecmieelaaGreatDoor
open Go.RowKit
set_option linter.unusedVariables false
set_option maxRecDepth 100000

section
variable {w w' : World} {B gw k r T cT Ln cw : Nat} {aT aw : Option Addr} {pv nv : Value} {ws : List (List Nat)} {wv : Nat → Value}
theorem own_setWk (h : WkSt w B gw k r aT T cT pv nv Ln ws wv aw cw) {i : Nat} (u : Value) {e : TypeId} {v : Value} {n sz : Nat} {cs : List Value} (he : e ≠ 38) (ho : w.ownsRow B e sz v n cs) : (w.setCell ⟨gw, i, none⟩ u).ownsRow B e sz v n cs := own_set_other ho (own_neT ho h.box he) _
theorem WkSt.setPv (h : WkSt w B gw k r aT T cT pv nv Ln ws wv aw cw) (pv' : Value) : WkSt (w.setCell ⟨gw, 3, none⟩ pv') B gw k r aT T cT pv' nv Ln ws wv aw cw := by
  have hb := h.box
  refine ⟨by simp [World.setCell, Array.getElem?_modify, hb], ?_, own_setWk h _ (by decide) h.wds, fun j hj => ?_, h.ap, h.lay⟩
  · obtain ⟨cs, hn⟩ := h.nx
    exact ⟨cs, own_setWk h _ (by decide) hn⟩
  · obtain ⟨l, hl⟩ := h.wd j hj
    exact ⟨l, own_setWk h _ (by decide) hl⟩
theorem BagSt.setWk {gB gM n Wd : Nat} {S : List Nat} {rw_ : Nat → Nat} {al : Option Addr} {cl : Nat} (hb : BagSt w B gB gM n Wd S rw_ al cl) (h : WkSt w B gw k r aT T cT pv nv Ln ws wv aw cw) (i : Nat) (u : Value) : BagSt (w.setCell ⟨gw, i, none⟩ u) B gB gM n Wd S rw_ al cl := by
  refine hb.keep ⟨by simp [World.setCell], fun b o hbo ho => ?_⟩
  rw [Below.heap_setCell _ _ _ _ (fun e => ?_)]
  · exact hbo
  · have e : b = gw := e
    subst e
    rw [h.box] at hbo
    cases hbo
    have ho : 38 = 106 ∨ 38 = 107 ∨ 38 = 134 := ho
    rcases ho with q | q | q <;> exact absurd q (by decide)
/-- the first word -/
theorem WkSt.first (h : WkSt w B gw k r aT T cT pv (.slice none 0 0) 0 ws wv aw cw) (hB : B ≤ w.heap.size) : WkSt ((w.alloc (.cells #[.slice none 0 0] 22)).setCell ⟨gw, 5, none⟩ (.slice (some ⟨w.heap.size, 0, none⟩) 1 1)) B gw k r aT T cT pv (.slice none 0 0) 0 [[]] (fun _ => .slice none 0 0) (some ⟨w.heap.size, 0, none⟩) 1 := by
  have ha := h.up (balloc (bnil w) (.cells #[.slice none 0 0] 22))
  have hb := ha.box
  have ho : (w.alloc (.cells #[.slice none 0 0] 22)).ownsRow B 22 1 (.slice (some ⟨w.heap.size, 0, none⟩) 1 1) 1 [.slice none 0 0] := own_lit rfl hB (by decide) rfl
  refine ⟨by simp [World.setCell, Array.getElem?_modify, hb], ⟨[], World.ownsRow_nil _ _ _ _⟩, own_setWk ha _ (by decide) ho, fun j hj => ?_, fun g hg => (by cases hg), h.lay⟩
  have : j = 0 := by have : j < 1 := hj; omega
  subst this
  exact ⟨[], World.ownsRow_nil _ _ _ _⟩
/-- a new walk -/
theorem WkSt.fresh (hz : w.heap[gw]? = some (.cells #[.int .i64 k, .int .i64 r, .slice aT T cT, .pointer none, .slice none 0 0, .slice none 0 0, .bool true] 38)) (hB : B ≤ gw) : WkSt w B gw k r aT T cT (.pointer none) (.slice none 0 0) 0 [] (fun _ => .slice none 0 0) none 0 :=
  ⟨hz, ⟨[], World.ownsRow_nil _ _ _ _⟩, World.ownsRow_nil _ _ _ _, fun j hj => absurd hj (by simp), fun g hg => (by cases hg), hB⟩
/-- a new bag -/
theorem BagSt.fresh (w : World) {B : Nat} (n Wd : Nat) (hB : B ≤ w.heap.size) : BagSt ((w.alloc (.map #[] 0)).alloc (.cells #[.int .i64 n, .slice none 0 0, .map (some w.heap.size)] 106)) B (w.heap.size + 1) w.heap.size n Wd [] (fun _ => 0) none 0 := by
  have h1 : (w.alloc (.map #[] 0)).heap.size = w.heap.size + 1 := by simp
  refine ⟨?_, World.ownsRow_nil _ _ _ _, fun j hj => absurd hj (by simp), ?_, ⟨by omega, hB⟩, by simp, by simp⟩
  · have := heap_alloc_new (w.alloc (.map #[] 0)) (.cells #[.int .i64 n, .slice none 0 0, .map (some w.heap.size)] 106)
    rw [h1] at this
    exact this
  · exact (World.ownsMap_made w Tryz.prog 9 (plainElem (H := Unit) Tryz.prog 3)).alloc _
end
/-- what the walk comes to -/
def AllRes (w' : World) (R : Nat → Addr) (k N : Nat) (tb : List Int) (e : Ending) : Prop :=
  (e = .returned .nilIface ∧ OntoRes k N (labT tb) none) ∨
  (∃ (wrd : List Nat) (gf : Nat) (af : Option Addr) (cf : Nat), e = .returned (.iface 40 (.pointer (some ⟨gf, 0, none⟩))) ∧ OntoRes k N (labT tb) (some wrd) ∧ w'.heap[gf]? = some (.cells #[.slice af wrd.length cf] 44)) ∨
  (∃ g, e = .returned (.iface 75 (.pointer (some ⟨g, 0, none⟩))) ∧ w'.heap[g]? = some (bagFault R) ∧ OntoBig k N (labT tb))
theorem mkIA (n : Nat) (hb : n ≤ 32768) (w : World) : (Instr.makeSlice 22 (.int .i64 (n : Int)) (.int .i64 (n : Int))).run Tryz.prog w = .ok (.slice (some ⟨w.heap.size, 0, none⟩) n n) (w.alloc (.cells (((List.range n).map fun _ => (0 : Int)).map (Value.int .i64)).toArray 3)) := by
  have h := run_make_row' (P := Tryz.prog) 22 3 (.int .i64 0) 8 Tryz.underlying22 (by kernel_rfl) rfl .i64 .i64 n (by omega) (by omega) w
  rw [h, made_listR, List.map_map]
  rfl
/-- the numbers below n, the first j of them laid -/
def evL (n j : Nat) : List Int := (List.range n).map fun x => if x < j then (x : Int) else 0
theorem evL_set {n j : Nat} (h : j < n) : (evL n j).set j (j : Int) = evL n (j + 1) := by
  apply List.ext_getElem
  · simp [evL]
  · intro i h1 h2
    rw [List.getElem_set]
    by_cases e : j = i
    · subst e; simp [evL]
    · rw [if_neg e]
      simp only [evL, List.getElem_map, List.getElem_range]
      by_cases h3 : i < j
      · rw [if_pos h3, if_pos (by omega)]
      · rw [if_neg h3, if_neg (by omega)]
theorem evL_all (n : Nat) : evL n n = (List.range n).map fun x : Nat => (x : Int) := by
  unfold evL
  apply List.map_congr_left
  intro x hx
  rw [if_pos (List.mem_range.1 hx)]
theorem evL_len (n j : Nat) : (evL n j).length = n := by simp [evL]
theorem step_grow {k n : Nat} {lab : Nat → Nat} {i s : Nat} {S S' : List Nat × List (List Nat)} (h : stepO k n lab i s S = .go S') : S.1.length ≤ S'.1.length := by
  unfold stepO at h
  split at h
  · cases h
  · split at h
    · cases h; exact Nat.le_refl _
    · split at h
      · cases h
      · cases h; simp
theorem words_small {k n : Nat} {lab : Nat → Nat} {i s : Nat} {S : List Nat × List (List Nat)} (hn : 0 < n) (h : ORun k n lab i s S) : ∀ j, (S.2.getD j []).length ≤ 5000 := by
  intro j
  have hI := orun_inv hn h
  have h1 := orun_len hn h j
  by_cases hj : j < S.2.length
  · have := hI.len; have := hI.max; omega
  · rw [List.getD_eq_getElem?_getD, List.getElem?_eq_none (by omega)]
    exact Nat.zero_le _
theorem next_after {w w' : World} {B gw k r T cT Ln cw n : Nat} {aT aw : Option Addr} {pv nv : Value} {ws : List (List Nat)} {wv : Nat → Value} (h : WkSt w B gw k r aT T cT pv nv Ln ws wv aw cw) {v' : Value} {cs news : List Value} (hn : w.ownsRow B 22 1 nv Ln cs)
    (ha : Appended B 22 1 w w' nv v' Ln n cs news) : w'.cell? ⟨gw, 4, none⟩ = some nv ∧ w'.frozen? ⟨gw, 4, none⟩ = false := by
  have hb5 := (ha.row.block gw (heap_ltR h.box) fun e => own_neT hn h.box (by decide) e.symm).trans h.box
  exact ⟨by simp [World.cell?, hb5], by simp [World.frozen?, hb5]⟩
set_option maxHeartbeats 16000000 in
theorem all_of (W0 W : World) (R : Nat → Addr) (B gw k r N Wd : Nat) (aT : Option Addr) (T cT : Nat) (tb : List Int) (hB : W0.heap.size = B) (hGl : Glob W0 R) (hR : RK .i64 W0 aT T tb) (hb0 : Below B W0 W) (hI : IsRule k r tb) (hT : T ≤ 256) (hTN : T = N * k) (hN0 : 0 < N) (hN : N ≤ 128) (hWd : (N + 63) / 64 = Wd)
    (hz : W.heap[gw]? = some (.cells #[.int .i64 k, .int .i64 r, .slice aT T cT, .pointer none, .slice none 0 0, .slice none 0 0, .bool true] 38)) (hBg : B ≤ gw)
    (HSTP : ∀ (w : World) (gB gM Ln : Nat) (nv : Value) (i s : Nat) (S1 : List Nat) (ws : List (List Nat)) (rw_ : Nat → Nat) (al : Option Addr) (cl : Nat) (wv : Nat → Value) (aw : Option Addr) (cw : Nat), Below B W0 w → BagSt w B gB gM N Wd S1 rw_ al cl → WkSt w B gw k r aT T cT (.pointer (some ⟨gB, 0, none⟩)) nv Ln ws wv aw cw → ws.length = S1.length → i < S1.length → s < k → S1.length ≤ 4096 → (∀ j, (ws.getD j []).length ≤ 5000) →
      Calls Tryz.prog 21 #[.pointer (some ⟨gw, 0, none⟩), .int .i64 i, .int .i64 s] w fun e w' => StepRes w w' R B gB gM gw k r N Wd aT T cT nv Ln tb i s (S1, ws) e) :
    Calls Tryz.prog 8 #[.pointer (some ⟨gw, 0, none⟩)] W fun e w' => AllRes w' R k N tb e ∧ Below B W0 w' := by
  have k1 := hI.k1
  have k4 := hI.k4
  have hBW : B ≤ W.heap.size := by rw [← hB]; exact hb0.size
  have hRup : ∀ w, Below B W0 w → RK .i64 w aT T tb := fun w hb => hR.up (by rw [hB]; exact hb)
  have hGup : ∀ w, Below B W0 w → Glob w R := fun w hb => hGl.up (by rw [hB]; exact hb)
  have HND := Lib.hid (Nodes_ok k r N aT T cT tb W (hRup W hb0) hI hT hTN)
  have HBN : Hid (∀ w, Calls Tryz.prog 18 #[.int .i64 N] w fun e w' => e = .returned (.tuple #[.pointer (some ⟨w.heap.size + 1, 0, none⟩), .nilIface]) ∧ w' = (w.alloc (.map #[] 0)).alloc (.cells #[.int .i64 N, .slice none 0 0, .map (some w.heap.size)] 106)) := fun w => bnew_ok N w (by omega)
  have HSTPH := Lib.hid HSTP
  have HW0 := Lib.hid hB
  have HGU := Lib.hid hGup
  have HB0 := Lib.hid hb0
  have HBG := Lib.hid hBg
  have HWD := Lib.hid hWd
  have HSZ := Lib.hid hBW
  have hwk0 := WkSt.fresh (B := B) hz hBg
  have HWK0 := Lib.hid hwk0
  obtain ⟨x0, x1, x2, x3, x4, x5, x6, f5, f4, f3⟩ := hwk0.cells
  clear HSTP hR hGl hB hb0 hI hT hTN hBg hWd hz hRup hGup hBW hwk0
  go_enter Tryz.func8, Tryz.ntmps8
  go_wp2_with fail
  refine HND.out.mono ?_; rintro e w1 ⟨rfl, hb1⟩
  clear x0 x1 x2 x3 x4 x5 x6 f5 f4 f3
  have HWK1 := Lib.hid (HWK0.out.up hb1)
  have HB1 : Hid (Below B W0 w1) := HB0.out.trans (hb1.mono HSZ.out)
  have HSZ1 : Hid (B ≤ w1.heap.size) := Nat.le_trans HSZ.out hb1.size
  clear hb1
  go_wp2_with fail
  refine (HBN.out w1).mono ?_; rintro e w2 ⟨rfl, hw2⟩
  obtain ⟨gB, hgB⟩ : ∃ gB, w1.heap.size + 1 = gB := ⟨_, rfl⟩
  obtain ⟨gM, hgM⟩ : ∃ gM, w1.heap.size = gM := ⟨_, rfl⟩
  have hbf := BagSt.fresh w1 N Wd HSZ1.out
  rw [← hw2, hgB, hgM] at hbf
  have hb12 : Below w1.heap.size w1 w2 := by rw [hw2]; exact balloc (balloc (bnil w1) _) _
  have hwk2 := HWK1.out.up hb12
  obtain ⟨_, _, _, x3, _, _, _, _, _, f3⟩ := hwk2.cells
  obtain ⟨w3, hw3⟩ : ∃ w3, w2.setCell ⟨gw, 3, none⟩ (.pointer (some ⟨gB, 0, none⟩)) = w3 := ⟨_, rfl⟩
  have HWK3 : Hid (WkSt w3 B gw k r aT T cT (.pointer (some ⟨gB, 0, none⟩)) (.slice none 0 0) 0 [] (fun _ => .slice none 0 0) none 0) := by show WkSt _ _ _ _ _ _ _ _ _ _ _ _ _ _ _; rw [← hw3]; exact hwk2.setPv _
  have HBG3 : Hid (BagSt w3 B gB gM N Wd [] (fun _ => 0) none 0) := by show BagSt _ _ _ _ _ _ _ _ _ _; rw [← hw3]; exact hbf.setWk hwk2 _ _
  have hB2 : Below B W0 w2 := HB1.out.trans (hb12.mono HSZ1.out)
  have HB3 : Hid (Below B W0 w3) := by show Below _ _ _; rw [← hw3]; exact hB2.setCell (p := ⟨gw, 3, none⟩) HBG.out _
  have HW3 := Lib.hid hw3
  have HGB := Lib.hid hgB
  have HSZ3 : Hid (B ≤ w3.heap.size) := by show _ ≤ _; rw [← hw3]; have := hb12.size; have := HSZ1.out; simp [World.setCell]; omega
  rw [hgB]
  clear hbf hb12 hwk2 hB2 hw3 hgB hw2
  have hmk := mkIA N (by omega)
  obtain ⟨ZC, hZC⟩ : ∃ ZC, (((List.range N).map fun _ => (0 : Int)).map (Value.int .i64)).toArray = ZC := ⟨_, rfl⟩
  rw [hZC] at hmk
  obtain ⟨w4, e4⟩ : ∃ w4, w3.alloc (.cells ZC 3) = w4 := ⟨_, rfl⟩
  obtain ⟨g, hg⟩ : ∃ g, w3.heap.size = g := ⟨_, rfl⟩
  have HO4 : Hid (w4.ownsRow g 3 1 (.slice (some ⟨g, 0, none⟩) N N) N ((evL N 0).map (Value.int .i64))) := by
    show World.ownsRow _ _ _ _ _ _ _
    have e0 : evL N 0 = (List.range N).map fun _ => (0 : Int) := by simp [evL]
    rw [← e4, ← hg, e0, ← hZC]
    exact own_lit rfl (Nat.le_refl _) (by unfold maxLen; omega) (by simp)
  have HB4 : Hid (Below g w3 w4) := by show Below _ _ _; rw [← e4, ← hg]; exact balloc (bnil w3) _
  have HE4 := Lib.hid e4
  have HG := Lib.hid hg
  clear e4 hg hZC
  go_upto_region 5 with (fail)
  rw [HW3.out]
  clear x3 f3
  go_wp2_with fail
  rw [HE4.out, HG.out]
  clear hmk
  go_loopw [41] (fun jv wr => ∃ j : Nat, j ≤ N ∧ jv = .int .i64 (j : Nat) ∧ wr.ownsRow g 3 1 (.slice (some ⟨g, 0, none⟩) N N) N ((evL N j).map (Value.int .i64)) ∧ Below g w3 wr) (fun jv _ => N - (intOf jv).toNat)
  case atStart => exact ⟨0, Nat.zero_le _, rfl, HO4.out, HB4.out⟩
  case round =>
    clear HO4 HB4
    obtain ⟨j, hj, rfl, ho, hb⟩ := hrel
    by_cases hjn : j < N
    · have j1 : (j : Int) < (N : Int) := by omega
      have j0 : (0 : Int) ≤ (j : Int) := by omega
      have fz := ho.frozenAt j
      have cz : wr.cell? ⟨g, j, none⟩ = some (.int .i64 ((evL N j).getD j 0)) := (ho.cellAt j (by omega)).trans (by simp [evL, hjn])
      have hset := own_set ho j (.int .i64 (j : Int))
      rw [← List.map_set, evL_set hjn] at hset
      have HS := Lib.hid hset
      have HBS : Hid (Below g w3 (wr.setCell ⟨g, j, none⟩ (.int .i64 (j : Int)))) := hb.setCell (p := ⟨g, j, none⟩) (Nat.le_refl _) _
      generalize (evL N j).getD j 0 = z at cz
      clear ho hb hset
      go_wp2
      go_roundw
      case measure => simp [intOf]; omega
      case rel => exact ⟨j + 1, by omega, by go_num, HS.out, HBS.out⟩
    · obtain rfl : j = N := by omega
      have j1 : ¬ (j : Int) < (j : Int) := by omega
      have hb3w : Below w3.heap.size w3 wr := by rw [HG.out]; exact hb
      have HBGw := Lib.hid (HBG3.out.up hb3w)
      have HWKw := Lib.hid (HWK3.out.up hb3w)
      have HBw : Hid (Below B W0 wr) := HB3.out.trans (hb3w.mono HSZ3.out)
      have HSZw : Hid (B ≤ wr.heap.size) := Nat.le_trans HSZ3.out hb3w.size
      rw [evL_all] at ho
      have HPT := Lib.hid (Put_ok wr R (HGU.out wr HBw.out) B gB gM j Wd [] (fun _ => 0) none 0 (some ⟨g, 0, none⟩) j j (List.range j) HBGw.out HWD.out (by omega) (RK.of_own ho) (by omega) (fun x hx => List.mem_range.1 hx) (by simp) HSZw.out)
      obtain ⟨_, _, _, x3, _⟩ := HWKw.out.cells
      clear ho hb hb3w
      go_wp2_with fail
      refine HPT.out.mono ?_
      intro e w5 hres
      rcases hres with ⟨jd, h1, _⟩ | ⟨_, h2, _⟩ | ⟨_, _, gr2, al2, cl2, rfl, hbg5, hk5, hb5⟩
      · exact absurd h1 (by simp)
      · exact absurd h2 (by simp)
      have hwk5 := HWKw.out.keepN hk5
      have HB5 : Hid (Below B W0 w5) := HBw.out.trans hb5
      have hsz5 : B ≤ w5.heap.size := Nat.le_trans HSZw.out hk5.1
      obtain ⟨w6, e6⟩ : ∃ w6, (w5.alloc (.cells #[.slice none 0 0] 22)).setCell ⟨gw, 5, none⟩ (.slice (some ⟨w5.heap.size, 0, none⟩) 1 1) = w6 := ⟨_, rfl⟩
      have hal : Below w5.heap.size w5 (w5.alloc (.cells #[.slice none 0 0] 22)) := balloc (bnil w5) _
      have HWK6 : Hid (WkSt w6 B gw k r aT T cT (.pointer (some ⟨gB, 0, none⟩)) (.slice none 0 0) 0 [[]] (fun _ => .slice none 0 0) (some ⟨w5.heap.size, 0, none⟩) 1) := by show WkSt _ _ _ _ _ _ _ _ _ _ _ _ _ _ _; rw [← e6]; exact hwk5.first hsz5
      have HBG6 : Hid (BagSt w6 B gB gM j Wd [maskB (List.range j)] (upd (fun _ => 0) 0 gr2) al2 cl2) := by show BagSt _ _ _ _ _ _ _ _ _ _; rw [← e6]; exact (hbg5.up hal).setWk (hwk5.up hal) _ _
      have HB6 : Hid (Below B W0 w6) := by show Below _ _ _; rw [← e6]; exact (HB5.out.trans (hal.mono hsz5)).setCell (p := ⟨gw, 5, none⟩) HBG.out _
      have HE6 := Lib.hid e6
      obtain ⟨_, _, _, _, _, y5, _, f5, _, _⟩ := (hwk5.up hal).cells
      replace y5 : (w5.alloc (.cells #[.slice none 0 0] 22)).cell? ⟨gw, 5, none⟩ = some (.slice none 0 0) := y5
      clear x3 hbg5 hk5 hb5 hwk5 hsz5 e6 hal
      go_upto_region 17 with (fail)
      rw [HE6.out]
      clear y5 f5
      go_wp2_with fail
      go_loopw [10] (fun iv wr => ∃ (i : Nat) (S : List Nat × List (List Nat)) (rw_ : Nat → Nat) (al : Option Addr) (cl : Nat) (nv : Value) (wv : Nat → Value) (aw : Option Addr) (cw : Nat), iv = .int .i64 (i : Nat) ∧ ORun k j (labT tb) i 0 S ∧ BagSt wr B gB gM j Wd S.1 rw_ al cl ∧ WkSt wr B gw k r aT T cT (.pointer (some ⟨gB, 0, none⟩)) nv i S.2 wv aw cw ∧ Below B W0 wr) (fun iv _ => 5000 - (intOf iv).toNat)
      case atStart => exact ⟨0, ([maskB (List.range j)], [[]]), _, al2, cl2, _, _, _, 1, rfl, .start, HBG6.out, HWK6.out, HB6.out⟩
      case round =>
        clear HBG6 HWK6 HB6
        obtain ⟨i, S, rw_, al, cl, nv, wv, aw, cw, rfl, hrun, hbg, hwk, hbw⟩ := hrel
        have hinv := orun_inv hN0 hrun
        have hmax := hinv.max
        have HRUN := Lib.hid hrun
        have HBGr := Lib.hid hbg
        have HWKr := Lib.hid hwk
        have HBr := Lib.hid hbw
        have HINV := Lib.hid hinv
        obtain ⟨L, hL⟩ : ∃ L, S.1.length = L := ⟨_, rfl⟩
        rw [hL] at hmax
        have HL := Lib.hid hL
        have b1 := hbg.cells.2.1
        rw [hL] at b1
        have HLEN := Lib.hid (blen_ok gB al L cl wr b1)
        obtain ⟨x0, x1, x2, x3, x4, x5, x6, f5, f4, f3⟩ := hwk.cells
        clear hrun hbg hwk hbw hinv hL b1
        go_wp2_with fail
        refine HLEN.out.mono ?_; rintro e w7 ⟨rfl, rfl⟩
        by_cases hiL : i < L
        · have i1 : (i : Int) < (L : Int) := by omega
          have hmk := mkIA k (by omega)
          obtain ⟨ZK, hZK⟩ : ∃ ZK, (((List.range k).map fun _ => (0 : Int)).map (Value.int .i64)).toArray = ZK := ⟨_, rfl⟩
          have hZs : ZK.size = k := by rw [← hZK]; simp
          rw [hZK] at hmk
          obtain ⟨w8, e8⟩ : ∃ w8, w7.alloc (.cells ZK 3) = w8 := ⟨_, rfl⟩
          obtain ⟨gr, hgr⟩ : ∃ gr, w7.heap.size = gr := ⟨_, rfl⟩
          have hb78 : Below w7.heap.size w7 w8 := by rw [← e8]; exact balloc (bnil w7) _
          have HZ8 : Hid (w8.heap[gr]? = some (.cells ZK 3)) := by show _ = _; rw [← e8, ← hgr]; exact heap_alloc_new w7 _
          have HSZ7 : Hid (B ≤ w7.heap.size) := by show _ ≤ _; rw [← HW0.out]; exact HBr.out.size
          have HBG8 := Lib.hid (HBGr.out.up hb78)
          have HWK8 := Lib.hid (HWKr.out.up hb78)
          have HB8 : Hid (Below B W0 w8) := HBr.out.trans (hb78.mono HSZ7.out)
          have HE8 := Lib.hid e8
          have HGR := Lib.hid hgr
          have HBGRR : Hid (B ≤ gr) := by show _ ≤ _; rw [← hgr]; exact HSZ7.out
          have HZS := Lib.hid hZs
          clear e8 hgr hZK hb78 hZs
          go_wp2_with fail
          rw [HE8.out, HGR.out]
          clear hmk x0 x1 x2 x3 x4 x5 x6 f5 f4 f3
          go_loopw [83] (fun sv wr => ∃ (s : Nat) (S : List Nat × List (List Nat)) (rw_ : Nat → Nat) (al : Option Addr) (cl : Nat) (wv : Nat → Value) (aw : Option Addr) (cw : Nat) (cs : Array Value), s ≤ k ∧ sv = .int .i64 (s : Nat) ∧ ORun k j (labT tb) i s S ∧ i < S.1.length ∧ BagSt wr B gB gM j Wd S.1 rw_ al cl ∧ WkSt wr B gw k r aT T cT (.pointer (some ⟨gB, 0, none⟩)) nv i S.2 wv aw cw ∧ Below B W0 wr ∧ wr.heap[gr]? = some (.cells cs 3) ∧ cs.size = k) (fun sv _ => k - (intOf sv).toNat)
          case atStart => exact ⟨0, S, rw_, al, cl, wv, aw, cw, ZK, Nat.zero_le _, rfl, HRUN.out, by rw [HL.out]; exact hiL, HBG8.out, HWK8.out, HB8.out, HZ8.out, HZS.out⟩
          case round =>
            clear HRUN HBG8 HWK8 HB8 HZ8 HZS HBGr HWKr HBr HINV HL HLEN HE8 HGR HSZ7
            obtain ⟨s, S, rw_, al, cl, wv, aw, cw, cs, hs, rfl, hrun, hiS, hbg, hwk, hbw, hzr, hcs⟩ := hrel
            have hinv := orun_inv hN0 hrun
            have hmax := hinv.max
            have HRUN := Lib.hid hrun
            have HBGr := Lib.hid hbg
            have HWKr := Lib.hid hwk
            have HBr := Lib.hid hbw
            have HIS := Lib.hid hiS
            have hszr : B ≤ wr.heap.size := by rw [← HW0.out]; exact hbw.size
            have HSZr := Lib.hid hszr
            have HZR := Lib.hid hzr
            have HCS := Lib.hid hcs
            by_cases hsk : s < k
            · have s1 : (s : Int) < (k : Int) := by omega
              have s0 : (0 : Int) ≤ (s : Int) := by omega
              have HST := Lib.hid (HSTPH.out wr gB gM i nv i s S.1 S.2 rw_ al cl wv aw cw hbw hbg hwk hinv.len hiS hsk hinv.max (words_small hN0 hrun))
              clear hrun hbg hwk hbw hinv hszr hzr hcs hiS hmax
              go_wp2_with fail
              refine HST.out.mono ?_
              intro e w9 hres
              rcases hres with ⟨wrd, h1, gf, af, cf, rfl, h2, h3⟩ | ⟨h1, gf, rfl, h2, h3⟩ | ⟨S', h1, id, rw', al', cl', wv', aw', cw', rfl, h2, h3, h4, h5⟩
              · have hz9 := (h3.block _ (heap_ltR HZR.out)).trans HZR.out
                have hsc : s < cs.size := by rw [HCS.out]; exact hsk
                have c9 : w9.cell? ⟨gr, s, none⟩ = some cs[s] := by simp [World.cell?, hz9, hsc]
                have f9 : w9.frozen? ⟨gr, s, none⟩ = false := by simp [World.frozen?, hz9]
                have hne : gf ≠ gr := fun e => by rw [e, hz9] at h2; simp at h2
                have HF : Hid ((w9.setCell ⟨gr, s, none⟩ (.int .i64 0)).heap[gf]? = some (.cells #[.slice af wrd.length cf] 44)) := by show _ = _; rw [Below.heap_setCell _ _ _ _ hne]; exact h2
                have HRES : Hid (OntoRes k j (labT tb) (some wrd)) := ⟨i, s, S, HRUN.out, HIS.out, hsk, h1⟩
                have HBE : Hid (Below B W0 (w9.setCell ⟨gr, s, none⟩ (.int .i64 0))) := (HBr.out.trans (h3.mono HSZr.out)).setCell (p := ⟨gr, s, none⟩) HBGRR.out _
                generalize cs[s] = zz at c9
                clear h1 h2 h3 hz9 hne
                go_wp2
                go_ret
                exact ⟨.inr (.inl ⟨wrd, gf, af, cf, rfl, HRES.out, HF.out⟩), HBE.out⟩
              · have hz9 := (h3.block _ (heap_ltR HZR.out)).trans HZR.out
                have hsc : s < cs.size := by rw [HCS.out]; exact hsk
                have c9 : w9.cell? ⟨gr, s, none⟩ = some cs[s] := by simp [World.cell?, hz9, hsc]
                have f9 : w9.frozen? ⟨gr, s, none⟩ = false := by simp [World.frozen?, hz9]
                have hne : gf ≠ gr := fun e => by rw [e, hz9] at h2; simp [bagFault, faultObj] at h2
                have HF : Hid ((w9.setCell ⟨gr, s, none⟩ (.int .i64 0)).heap[gf]? = some (bagFault R)) := by show _ = _; rw [Below.heap_setCell _ _ _ _ hne]; exact h2
                have HRES : Hid (OntoBig k j (labT tb)) := ⟨i, s, S, HRUN.out, HIS.out, hsk, h1⟩
                have HBE : Hid (Below B W0 (w9.setCell ⟨gr, s, none⟩ (.int .i64 0))) := (HBr.out.trans (h3.mono HSZr.out)).setCell (p := ⟨gr, s, none⟩) HBGRR.out _
                generalize cs[s] = zz at c9
                clear h1 h2 h3 hz9 hne
                go_wp2
                go_ret
                exact ⟨.inr (.inr ⟨gf, rfl, HF.out, HRES.out⟩), HBE.out⟩
              · have hz9 := h5.2 gr cs HZR.out
                have hsc : s < cs.size := by rw [HCS.out]; exact hsk
                have c9 : w9.cell? ⟨gr, s, none⟩ = some cs[s] := by simp [World.cell?, hz9, hsc]
                have f9 : w9.frozen? ⟨gr, s, none⟩ = false := by simp [World.frozen?, hz9]
                have HRN := Lib.hid (ORun.sym HRUN.out HIS.out hsk h1)
                have HIS2 : Hid (i < S'.1.length) := Nat.lt_of_lt_of_le HIS.out (step_grow h1)
                have HBG9 := Lib.hid (h2.setInt hz9 (j := s) (.int .i64 id))
                have HWK9 := Lib.hid (h3.setInt hz9 (j := s) (id : Int))
                have HZ9 : Hid ((w9.setCell ⟨gr, s, none⟩ (.int .i64 id)).heap[gr]? = some (.cells (cs.setIfInBounds s (.int .i64 id)) 3)) := by show _ = _; simp [World.setCell, Array.getElem?_modify, hz9]
                have HBE : Hid (Below B W0 (w9.setCell ⟨gr, s, none⟩ (.int .i64 id))) := (HBr.out.trans h4).setCell (p := ⟨gr, s, none⟩) HBGRR.out _
                have HCS9 : Hid ((cs.setIfInBounds s (.int .i64 id)).size = k) := by show _ = _; simpa using HCS.out
                generalize cs[s] = zz at c9
                clear h1 h2 h3 h4 h5 hz9
                go_wp2
                go_roundw
                case measure => simp [intOf]; omega
                case rel => exact ⟨s + 1, S', rw', al', cl', wv', aw', cw', _, by omega, by go_num, HRN.out, HIS2.out, HBG9.out, HWK9.out, HBE.out, HZ9.out, HCS9.out⟩
            · obtain rfl : s = k := by omega
              have s1 : ¬ (s : Int) < (s : Int) := by omega
              have HRN := Lib.hid (ORun.row hrun hiS)
              obtain ⟨csn, hnx⟩ := hwk.nx
              have HNX := Lib.hid hnx
              obtain ⟨an, cn, hnv⟩ := own_wf hnx
              subst hnv
              obtain ⟨_, _, _, _, x4, _, _, _, f4, _⟩ := hwk.cells
              have hi5 : i ≤ 4096 := by have := hinv.max; omega
              clear hrun hbg hwk hbw hinv hzr hcs hiS hmax hnx
              go_wp2_with (first
                | (at_builtin; refine apl rfl _ _ _ rfl B et_ints _ i _ HNX.out rfl 1 _ _ rfl rfl rfl rfl (by unfold maxLen; omega) (by omega) hszr ?_; intro a7 c7 w7 h7; have HA7 := Lib.hid h7; obtain ⟨x47, f47⟩ := next_after HWKr.out HNX.out h7; clear h7))
              obtain ⟨h1, h2, h3⟩ := HWKr.out.next HNX.out HA7.out
              have HB7 := HBGr.out.keep h2
              have q7 : IntKind.i64.wrap ((i : Int) + 1) = ((i + 1 : Nat) : Int) := by rw [IntWalk.i64_in _ (by omega)]; omega
              have hbe := HBr.out.trans h3
              refine ⟨⟨i + 1, S, rw_, al, cl, _, wv, aw, cw, by go_num, HRN.out, HB7, h1, hbe⟩, by simp [intOf]; omega⟩
        · have i1 : ¬ (i : Int) < (L : Int) := by omega
          have HRES : Hid (OntoRes k j (labT tb) none) := ⟨i, S, HRUN.out, by rw [HL.out]; omega⟩
          clear x0 x1 x2 x3 x4 x5 x6 f5 f4 f3
          go_wp2
          go_ret
          exact ⟨.inl ⟨rfl, HRES.out⟩, HBr.out⟩
end Go.Proofs.YtiglilecmieelaaGreatDoor
namespace Go.Proofs.YtiglilecmieelaaGreatDoor
open Go.RowKit
set_option linter.unusedVariables false
set_option maxRecDepth 100000

theorem all_ok (W0 W : World) (R : Nat → Addr) (B gw k r N Wd : Nat) (aT : Option Addr) (T cT : Nat) (tb : List Int) (hB : W0.heap.size = B) (hGl : Glob W0 R) (hR : RK .i64 W0 aT T tb) (hb0 : Below B W0 W) (hI : IsRule k r tb) (hT : T ≤ 256) (hTN : T = N * k) (hN0 : 0 < N) (hN : N ≤ 128) (hWd : (N + 63) / 64 = Wd)
    (hz : W.heap[gw]? = some (.cells #[.int .i64 k, .int .i64 r, .slice aT T cT, .pointer none, .slice none 0 0, .slice none 0 0, .bool true] 38)) (hBg : B ≤ gw) :
    Calls Tryz.prog 8 #[.pointer (some ⟨gw, 0, none⟩)] W fun e w' => AllRes w' R k N tb e ∧ Below B W0 w' :=
  all_of W0 W R B gw k r N Wd aT T cT tb hB hGl hR hb0 hI hT hTN hN0 hN hWd hz hBg fun w gB gM Ln nv i s S1 ws rw_ al cl wv aw cw hb hbg hwk hlen hi hs hL hwl =>
    step_ok w R (hGl.up (by rw [hB]; exact hb)) B gB gM gw k r N Wd aT T cT nv Ln tb i s S1 ws rw_ al cl wv aw cw (hR.up (by rw [hB]; exact hb)) hI hT hTN hN0 hN hWd hbg hwk hlen hi hs hL hwl (by rw [← hB]; exact hb.size)
set_option maxHeartbeats 2000000 in
theorem all_err (W : World) (R : Nat → Addr) (gw : Nat) (k r : Int) (a : Option Addr) (n c : Nat) (l : List Int) (hGl : Glob W R) (hR : RK .i64 W a n l) (hm : n ≤ maxLen) (h : ∀ kn rn : Nat, k = kn → r = rn → IsRule kn rn l → 256 < n)
    (hz : W.heap[gw]? = some (.cells #[.int .i64 k, .int .i64 r, .slice a n c, .pointer none, .slice none 0 0, .slice none 0 0, .bool true] 38)) :
    Calls Tryz.prog 8 #[.pointer (some ⟨gw, 0, none⟩)] W fun e w' => ∃ g g1, e = .returned (.iface 75 (.pointer (some ⟨g, 0, none⟩))) ∧ w'.heap[g]? = some (faultObj opSubset 0 (.iface 75 (.pointer (some ⟨g1, 0, none⟩)))) ∧ RuleF w' R g1 ∧ Below W.heap.size W w' := by
  have HN := Lib.hid (Nodes_errC k r a n c l W R hGl hR hm h)
  have x0 : W.cell? ⟨gw, 0, none⟩ = some (.int .i64 k) := by simp [World.cell?, hz]
  have x1 : W.cell? ⟨gw, 1, none⟩ = some (.int .i64 r) := by simp [World.cell?, hz]
  have x2 : W.cell? ⟨gw, 2, none⟩ = some (.slice a n c) := by simp [World.cell?, hz]
  clear hGl hR hm h hz
  go_enter Tryz.func8, Tryz.ntmps8
  go_wp2_with fail
  refine HN.out.mono ?_; rintro e w1 ⟨g, rfl, ⟨at_, g1, h1, hf⟩, hb⟩
  have HUW := Lib.hid (unwrap_fault g _ _ _ w1 h1)
  have HF := Lib.hid hf
  have HB := Lib.hid hb
  clear x0 x1 x2 h1 hf hb
  go_wp2_with fail
  refine HUW.out.mono ?_; rintro e w2 ⟨rfl, rfl⟩
  go_wp2_with fail
  refine (undr_some _ _ _ _ _).mono ?_; rintro e w3 ⟨rfl, rfl⟩
  go_wp2
  go_ret
  exact ⟨_, g1, rfl, heap_alloc_new w2 _, HF.out.up (balloc (bnil w2) _), balloc HB.out _⟩
/-- what Onto answers for a right rule -/
def OntoAns (W : World) (k N : Nat) (tb : List Int) (e : Ending) (w' : World) : Prop :=
  Below W.heap.size W w' ∧ ((e = .returned (.tuple #[.bool true, .slice none 0 0, .nilIface]) ∧ OntoRes k N (labT tb) none) ∨ (∃ (wrd : List Nat) (af : Option Addr) (cf : Nat), e = .returned (.tuple #[.bool false, .slice af wrd.length cf, .nilIface]) ∧ OntoRes k N (labT tb) (some wrd)) ∨
    (∃ g, e = .returned (.tuple #[.bool false, .slice none 0 0, .iface 75 (.pointer (some ⟨g, 0, none⟩))]) ∧ OntoBig k N (labT tb)))
set_option maxHeartbeats 8000000 in
theorem onto_ok (k r N : Nat) (aT : Option Addr) (T cT : Nat) (tb : List Int) (W : World) (R : Nat → Addr) (hE : Env W R) (hR : RK .i64 W aT T tb) (hI : IsRule k r tb) (hT : T ≤ 256) (hN : N = k ^ (2 * r)) :
    Calls Tryz.prog 5 #[ruleV k r aT T cT] W (OntoAns W k N tb) := by
  obtain ⟨hTN, hN0, hN128⟩ := node_bounds hI hR.len hT
  rw [← hN] at hTN hN0 hN128
  obtain ⟨w1, hw1⟩ : ∃ w1, (W.alloc (.cells #[.int .i64 k, .int .i64 r, .slice aT T cT] 24)).alloc (.cells #[.int .i64 k, .int .i64 r, .slice aT T cT, .pointer none, .slice none 0 0, .slice none 0 0, .bool true] 38) = w1 := ⟨_, rfl⟩
  have hb1 : Below W.heap.size W w1 := by rw [← hw1]; exact balloc (balloc (bnil W) _) _
  have hz1 : w1.heap[W.heap.size + 1]? = some (.cells #[.int .i64 k, .int .i64 r, .slice aT T cT, .pointer none, .slice none 0 0, .slice none 0 0, .bool true] 38) := by
    rw [← hw1]
    have h := heap_alloc_new (W.alloc (.cells #[.int .i64 k, .int .i64 r, .slice aT T cT] 24)) (.cells #[.int .i64 k, .int .i64 r, .slice aT T cT, .pointer none, .slice none 0 0, .slice none 0 0, .bool true] 38)
    simpa using h
  have HALL := Lib.hid (all_ok W w1 R W.heap.size (W.heap.size + 1) k r N _ aT T cT tb rfl hE.sent.glob hR hb1 hI hT hTN hN0 hN128 rfl hz1 (Nat.le_succ _))
  have HW1 := Lib.hid hw1
  have HE := Lib.hid hE
  clear hE hR hI hT hN hTN hN0 hN128 hw1 hb1 hz1
  go_enter Tryz.func5, Tryz.ntmps5
  go_wp2_with fail
  rw [HW1.out]
  refine HALL.out.mono ?_
  intro e w2 hres
  obtain ⟨hres, hb2⟩ := hres
  have HB2 := Lib.hid hb2
  obtain ⟨w3, hw3⟩ : ∃ w3, w2.alloc (.cells #[.pointer none] 40) = w3 := ⟨_, rfl⟩
  have hb23 : Below w2.heap.size w2 w3 := by rw [← hw3]; exact balloc (bnil w2) _
  have hn3 : w3.heap[w2.heap.size]? = some (.cells #[.pointer none] 40) := by rw [← hw3]; exact heap_alloc_new w2 _
  have ht3 : w3.cell? ⟨w2.heap.size, 0, none⟩ = some (.pointer none) := by simp [World.cell?, hn3]
  have hf3 : w3.frozen? ⟨w2.heap.size, 0, none⟩ = false := by simp [World.frozen?, hn3]
  have HB3 : Hid (Below W.heap.size W w3) := hb2.trans (hb23.mono hb2.size)
  have HW3 := Lib.hid hw3
  rcases hres with ⟨rfl, hr⟩ | ⟨wrd, gf, af, cf, rfl, hr, hgf⟩ | ⟨g, rfl, hg, hr⟩
  · have HR := Lib.hid hr
    clear hr hb2 hw3 hb23 hn3 ht3 hf3
    go_wp2_with fail
    rw [HW3.out]
    refine (as_nil _ w3).mono ?_; rintro e w4 ⟨rfl, rfl⟩
    go_wp2
    go_ret3
    exact ⟨HB3.out, .inl ⟨rfl, HR.out⟩⟩
  · have HR := Lib.hid hr
    have HAS := Lib.hid (as_hitS ⟨gf, 0, none⟩ ⟨w2.heap.size, 0, none⟩ (.pointer none) w3 (HE.out.et.up HB3.out) ht3 hf3)
    obtain ⟨w5, hw5⟩ : ∃ w5, ((((w3.alloc (.cells #[.pointer (some ⟨w2.heap.size, 0, none⟩)] 42)).alloc (.cells #[.pointer (some ⟨13, 42, none⟩), .pointer (some ⟨w3.heap.size, 0, none⟩), .int .u64 150] 65)).alloc (.cells #[.pointer (some ⟨13, 42, none⟩), .pointer (some ⟨w3.heap.size, 0, none⟩), .int .u64 150] 65)).alloc (.cells #[.pointer (some ⟨gf, 0, none⟩)] 40)).setCell ⟨w2.heap.size, 0, none⟩ (.pointer (some ⟨gf, 0, none⟩)) = w5 := ⟨_, rfl⟩
    have hal : Below w3.heap.size w3 ((((w3.alloc (.cells #[.pointer (some ⟨w2.heap.size, 0, none⟩)] 42)).alloc (.cells #[.pointer (some ⟨13, 42, none⟩), .pointer (some ⟨w3.heap.size, 0, none⟩), .int .u64 150] 65)).alloc (.cells #[.pointer (some ⟨13, 42, none⟩), .pointer (some ⟨w3.heap.size, 0, none⟩), .int .u64 150] 65)).alloc (.cells #[.pointer (some ⟨gf, 0, none⟩)] 40)) := balloc (balloc (balloc (balloc (bnil w3) _) _) _) _
    have hvar := (hal.block _ (heap_ltR hn3)).trans hn3
    have hv5 : w5.cell? ⟨w2.heap.size, 0, none⟩ = some (.pointer (some ⟨gf, 0, none⟩)) := by
      have : w5.heap[w2.heap.size]? = some (.cells #[.pointer (some ⟨gf, 0, none⟩)] 40) := by rw [← hw5]; simp [World.setCell, Array.getElem?_modify, hvar]
      simp [World.cell?, this]
    have hg5 : w5.cell? ⟨gf, 0, none⟩ = some (.slice af wrd.length cf) := by
      have h3 := (hal.block _ (by have := heap_ltR hgf; have := hb23.size; omega)).trans ((hb23.block _ (heap_ltR hgf)).trans hgf)
      have hne : gf ≠ w2.heap.size := by have := heap_ltR hgf; omega
      have : w5.heap[gf]? = some (.cells #[.slice af wrd.length cf] 44) := by rw [← hw5, Below.heap_setCell _ _ _ _ hne]; exact h3
      simp [World.cell?, this]
    have HB5 : Hid (Below W.heap.size W w5) := by show Below _ _ _; rw [← hw5]; exact (bstep HB3.out hal).setCell (p := ⟨w2.heap.size, 0, none⟩) HB2.out.size _
    have HW5 := Lib.hid hw5
    obtain ⟨nw, hnw⟩ : ∃ n, wrd.length = n := ⟨_, rfl⟩
    rw [hnw] at hg5
    have HNW := Lib.hid hnw
    clear hr hgf hb2 hw3 hb23 hn3 ht3 hf3 hal hvar hw5 hnw
    go_wp2_with fail
    rw [HW3.out]
    refine HAS.out.mono ?_; rintro e w' ⟨rfl, hw'⟩
    rw [hw', HW5.out]
    clear hw'
    go_wp2_with fail
    go_quiet (fail)
    go_wp2
    go_ret3
    refine ⟨bdrewN HB5.out nq, .inr (.inl ⟨wrd, af, cf, ?_, HR.out⟩)⟩
    rw [HNW.out]
    rfl
  · have HR := Lib.hid hr
    have hg3 := (hb23.block _ (heap_ltR hg)).trans hg
    have HAS := Lib.hid (as_chain1 g opBag 0 (R 3) ⟨w2.heap.size, 0, none⟩ (.pointer none) w3 (HE.out.et.up HB3.out) ht3 hg3)
    have HG3 := Lib.hid hg3
    clear hr hg hb2 hw3 hb23 hn3 ht3 hf3 hg3
    go_wp2_with fail
    rw [HW3.out]
    refine HAS.out.mono ?_; rintro e w5 ⟨rfl, hb5⟩
    have HB5 := Lib.hid (bstep HB3.out hb5)
    have hE5 := HE.out.up HB5.out
    have HTD := Lib.hid (told_any g (opBag, 0) [] (R 3) _ w5 R hE5 ((hb5.block _ (heap_ltR HG3.out)).trans HG3.out) ⟨rfl, hE5.sent.row 3 (by decide)⟩)
    clear hb5 hE5
    go_wp2_with fail
    refine HTD.out.mono ?_; rintro e w6 ⟨g', rfl, hb6⟩
    have HB6 := Lib.hid (bstep HB5.out hb6)
    clear hb6
    go_wp2
    go_ret3
    exact ⟨HB6.out, .inr (.inr ⟨g', rfl, HR.out⟩)⟩
set_option maxHeartbeats 4000000 in
theorem onto_err (k r : Int) (a : Option Addr) (n c : Nat) (l : List Int) (W : World) (R : Nat → Addr) (hE : Env W R) (hR : RK .i64 W a n l) (hm : n ≤ maxLen) (h : ∀ kn rn : Nat, k = kn → r = rn → IsRule kn rn l → 256 < n) :
    Calls Tryz.prog 5 #[ruleV k r a n c] W fun e w' => ∃ g, e = .returned (.tuple #[.bool false, .slice none 0 0, .iface 75 (.pointer (some ⟨g, 0, none⟩))]) ∧ Below W.heap.size W w' := by
  obtain ⟨w1, hw1⟩ : ∃ w1, (W.alloc (.cells #[.int .i64 k, .int .i64 r, .slice a n c] 24)).alloc (.cells #[.int .i64 k, .int .i64 r, .slice a n c, .pointer none, .slice none 0 0, .slice none 0 0, .bool true] 38) = w1 := ⟨_, rfl⟩
  have hb1 : Below W.heap.size W w1 := by rw [← hw1]; exact balloc (balloc (bnil W) _) _
  have hz1 : w1.heap[W.heap.size + 1]? = some (.cells #[.int .i64 k, .int .i64 r, .slice a n c, .pointer none, .slice none 0 0, .slice none 0 0, .bool true] 38) := by
    rw [← hw1]
    have h := heap_alloc_new (W.alloc (.cells #[.int .i64 k, .int .i64 r, .slice a n c] 24)) (.cells #[.int .i64 k, .int .i64 r, .slice a n c, .pointer none, .slice none 0 0, .slice none 0 0, .bool true] 38)
    simpa using h
  have HALL := Lib.hid (all_err w1 R (W.heap.size + 1) k r a n c l (hE.sent.glob.up hb1) (hR.up hb1) hm h hz1)
  have HW1 := Lib.hid hw1
  have HB1 := Lib.hid hb1
  have HE := Lib.hid hE
  clear hE hR hm h hw1 hb1 hz1
  go_enter Tryz.func5, Tryz.ntmps5
  go_wp2_with fail
  rw [HW1.out]
  refine HALL.out.mono ?_
  rintro e w2 ⟨g, g1, rfl, hg, ⟨at_, x, hx, hg1⟩, hb2⟩
  obtain ⟨w3, hw3⟩ : ∃ w3, w2.alloc (.cells #[.pointer none] 40) = w3 := ⟨_, rfl⟩
  have hb23 : Below w2.heap.size w2 w3 := by rw [← hw3]; exact balloc (bnil w2) _
  have hn3 : w3.heap[w2.heap.size]? = some (.cells #[.pointer none] 40) := by rw [← hw3]; exact heap_alloc_new w2 _
  have ht3 : w3.cell? ⟨w2.heap.size, 0, none⟩ = some (.pointer none) := by simp [World.cell?, hn3]
  have HB3 : Hid (Below W.heap.size W w3) := bstep (bstep HB1.out hb2) hb23
  have HW3 := Lib.hid hw3
  have hg3 := (hb23.block _ (heap_ltR hg)).trans hg
  have hg13 := (hb23.block _ (heap_ltR hg1)).trans hg1
  have HAS := Lib.hid (as_chain2 g g1 opSubset opRule 0 at_ (R x) ⟨w2.heap.size, 0, none⟩ (.pointer none) w3 (HE.out.et.up HB3.out) ht3 hg3 hg13)
  have HG3 := Lib.hid (And.intro hg3 hg13)
  have HX := Lib.hid hx
  clear hg hg1 hb2 hw3 hb23 hn3 ht3 hg3 hg13 hx
  go_wp2_with fail
  rw [HW3.out]
  refine HAS.out.mono ?_; rintro e w5 ⟨rfl, hb5⟩
  have HB5 := Lib.hid (bstep HB3.out hb5)
  have hE5 := HE.out.up HB5.out
  have HTD := Lib.hid (told_any g (opSubset, 0) [(opRule, at_)] (R x) _ w5 R hE5 ((hb5.block _ (heap_ltR HG3.out.1)).trans HG3.out.1) ⟨g1, _, rfl, (hb5.block _ (heap_ltR HG3.out.2)).trans HG3.out.2, rfl, hE5.sent.row x HX.out⟩)
  clear hb5 hE5
  go_wp2_with fail
  refine HTD.out.mono ?_; rintro e w6 ⟨g', rfl, hb6⟩
  have HB6 := Lib.hid (bstep HB5.out hb6)
  clear hb6
  go_wp2
  go_ret3
  exact ⟨g', rfl, HB6.out⟩
end Go.Proofs.YtiglilecmieelaaGreatDoor
