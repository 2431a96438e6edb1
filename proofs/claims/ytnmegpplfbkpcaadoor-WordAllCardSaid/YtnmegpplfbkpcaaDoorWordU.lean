/- The contracts of slices.Reverse on a row of the call's own, word.Back. -/
import Derived.Test.YtnmegpplfbkpcaaDoorWordE
import Derived.WalkKit
import Derived.Deep.RegionWith
import Derived.BigRegion
import Derived.Lib.Hide
namespace Go.Proofs.YtnmegpplfbkpcaaDoor
open Go.RowKit
set_option linter.unusedVariables false
set_option maxRecDepth 100000

/-- the first i and the last i have changed their places -/
def RevAt (l cur : List Int) (i : Nat) : Prop := cur.length = l.length ∧ ∀ k, k < l.length → cur.getD k 0 = if k < i ∨ l.length - i ≤ k then l.getD (l.length - 1 - k) 0 else l.getD k 0
theorem set_get (xs : List Int) (i k : Nat) (x : Int) (h : k < xs.length) : (xs.set i x).getD k 0 = if i = k then x else xs.getD k 0 := by
  simp only [List.getD_eq_getElem?_getD, List.getElem?_set]
  by_cases e : i = k
  · subst e; simp [h]
  · simp [e]
theorem rev_start (l : List Int) : RevAt l l 0 := ⟨rfl, fun k hk => by rw [if_neg (by omega)]⟩
theorem rev_step {l cur : List Int} {i : Nat} (h : RevAt l cur i) (h1 : i < l.length - 1 - i) : RevAt l ((cur.set i (cur.getD (l.length - 1 - i) 0)).set (l.length - 1 - i) (cur.getD i 0)) (i + 1) := by
  obtain ⟨h2, h3⟩ := h
  refine ⟨by simp [h2], fun k hk => ?_⟩
  rw [set_get _ _ _ _ (by simp; omega), set_get _ _ _ _ (by omega)]
  by_cases a : l.length - 1 - i = k
  · rw [if_pos a, if_pos (by omega), h3 i (by omega), if_neg (by omega)]
    congr 1; omega
  · rw [if_neg a]
    by_cases b : i = k
    · rw [if_pos b, if_pos (by omega), h3 _ (by omega), if_neg (by omega)]
      congr 1; omega
    · rw [if_neg b, h3 k hk]
      by_cases c : k < i ∨ l.length - i ≤ k
      · rw [if_pos c, if_pos (by omega)]
      · rw [if_neg c, if_neg (by omega)]
theorem rev_end {l cur : List Int} {i : Nat} (h : RevAt l cur i) (h1 : l.length ≤ 2 * i + 1) : cur = l.reverse := by
  apply List.ext_getElem (by simp [h.1])
  intro k a b
  have hk : k < l.length := by have := h.1; omega
  have e := h.2 k hk
  have g : ∀ m, (hm : m < l.length) → l.getD m 0 = l[m] := fun m hm => by simp [hm]
  have e1 : cur.getD k 0 = cur[k] := by simp [a]
  rw [e1] at e
  rw [e, List.getElem_reverse]
  split
  · rw [g _ (by omega)]
  · rw [g _ hk]
    congr 1
    omega

set_option maxHeartbeats 4000000 in
theorem reverse_any (base g n c : Nat) (l : List Int) (W : World) (hown : W.ownsRow base 3 1 (.slice (some ⟨g, 0, none⟩) n c) n (l.map (Value.int .i64))) (hbg : base ≤ g) :
    Calls Tryd.prog 95 #[.slice (some ⟨g, 0, none⟩) n c] W fun e w' => e = .returned (.tuple #[]) ∧ w'.ownsRow base 3 1 (.slice (some ⟨g, 0, none⟩) n c) n (l.reverse.map (Value.int .i64)) ∧ Below base W w' ∧ (∀ k, k ≠ g → w'.heap[k]? = W.heap[k]?) ∧ w'.heap.size = W.heap.size := by
  have hl : l.length = n := by simpa using hown.1
  have hn63 : n ≤ 9223372036854775807 := by have := own_cap hown; unfold maxLen at this; omega
  have HL := Lib.hid hl; clear hl
  go_enter Tryd.func95, Tryd.ntmps95
  go_wp2_with fail
  go_loopw [2, 3] (fun ix jx wr => ∃ (i : Nat) (cur : List Int), ix = .int .i64 i ∧ jx = .int .i64 ((n : Int) - 1 - (i : Int)) ∧ i ≤ n ∧ RevAt l cur i ∧ wr.ownsRow base 3 1 (.slice (some ⟨g, 0, none⟩) n c) n (cur.map (Value.int .i64)) ∧ Below base W wr ∧ (∀ k, k ≠ g → wr.heap[k]? = W.heap[k]?) ∧ wr.heap.size = W.heap.size) (fun ix _ _ => n - (intOf ix).toNat)
  case atStart => exact ⟨0, l, rfl, by simp, by omega, rev_start l, hown, Below.refl _ _, fun _ _ => rfl, rfl⟩
  case round =>
    obtain ⟨i, cur, rfl, rfl, hin, hrev, how, hb, hoth, hsz⟩ := hrel
    have HO := Lib.hid hoth
    have HS := Lib.hid hsz
    clear hoth hsz
    by_cases hlt : (i : Int) < (n : Int) - 1 - (i : Int)
    · obtain ⟨j, hj⟩ : ∃ j : Nat, n - 1 - i = j := ⟨_, rfl⟩
      have hji : (n : Int) - 1 - (i : Int) = (j : Int) := by omega
      rw [hji]
      have hjn : j < n := by omega
      have hij : i < j := by omega
      have e1 : l.length - 1 - i = j := by have := HL.out; omega
      have hcl : cur.length = n := by have := hrev.1; have := HL.out; omega
      have HN := Lib.hid (rev_step hrev (by rw [e1]; exact hij))
      rw [e1] at HN
      have c0 : wr.cell? ⟨g, i, none⟩ = some (.int .i64 (cur.getD i 0)) := by rw [how.cellAt i (by omega), map_at _ _ _ (by omega)]
      have c1 : wr.cell? ⟨g, j, none⟩ = some (.int .i64 (cur.getD j 0)) := by rw [how.cellAt j (by omega), map_at _ _ _ (by omega)]
      have f0 := how.frozenAt i
      have f1 := how.frozenAt j
      have hne : ¬ i = j := by omega
      have hst := own_set (own_set how.drew i (.int .i64 (cur.getD j 0))) j (.int .i64 (cur.getD i 0))
      rw [map_set64, map_set64] at hst
      have HST := Lib.hid hst
      have HREV := Lib.hid hrev
      clear hst hrev e1 hcl hji
      generalize cur.getD i 0 = x at *
      generalize cur.getD j 0 = y at *
      have i0 : (0 : Int) ≤ (i : Int) := by omega
      have i1 : (i : Int) < (n : Int) := by omega
      have i2 : (0 : Int) ≤ (j : Int) := by omega
      have i3 : (j : Int) < (n : Int) := by omega
      have i4 : (i : Int) < (j : Int) := by omega
      clear hlt
      go_wp2_with fail
      go_region_with fail
      all_goals
        go_wp2
        go_roundw
        case rel =>
          refine ⟨i + 1, _, by go_num, by have : (n : Int) - 1 - ((i + 1 : Nat) : Int) = (j : Int) - 1 := (by omega); rw [this], by omega, HN.out, HST.out, ?_, ?_, ?_⟩
          · exact ((hb.drew.setCell (p := ⟨g, i, none⟩) hbg _).setCell (p := ⟨g, j, none⟩) hbg _)
          · intro k hk
            exact (Below.heap_setCell (wr.setCell ⟨g, i, none⟩ (.int .i64 y)) ⟨g, j, none⟩ (.int .i64 x) k hk).trans ((Below.heap_setCell wr ⟨g, i, none⟩ (.int .i64 y) k hk).trans (HO.out k hk))
          · have : ((wr.setCell ⟨g, i, none⟩ (.int .i64 y)).setCell ⟨g, j, none⟩ (.int .i64 x)).heap.size = wr.heap.size := by simp [World.setCell]
            exact this.trans HS.out
        case measure => simp [intOf]; omega
    · have hge : (n : Int) - 1 - (i : Int) ≤ (i : Int) := by omega
      have HF : Hid (cur = l.reverse) := rev_end hrev (by have := HL.out; omega)
      clear hrev hlt
      go_wp2
      go_end0
      exact ⟨rfl, by rw [← HF.out]; exact how, hb, HO.out, HS.out⟩
theorem reverse_zero (a : Option Addr) (c : Nat) (W : World) :
    Calls Tryd.prog 95 #[.slice a 0 c] W fun e w' => e = .returned (.tuple #[]) ∧ W = w' := by
  go_enter Tryd.func95, Tryd.ntmps95
  go_wp2_with fail
  refine wp_loop_rounds 1 ?_
  rw [rounds_succ]
  go_wp2
  go_end0
  exact ⟨rfl, rfl⟩

theorem back_any (a : Option Addr) (n c : Nat) (l : List Int) (W : World) (hR : RK .i64 W a n l) (hm : n * 8 ≤ 140737488351232) (hnc : n ≤ c) (hcap : a = none → c = 0) :
    Calls Tryd.prog 58 #[.slice a n c] W fun e w' => ∃ a' c', e = .returned (.slice a' n c') ∧ w'.ownsRow W.heap.size 3 1 (.slice a' n c') n (l.reverse.map (Value.int .i64)) ∧ Below W.heap.size W w' := by
  have HR := Lib.hid hR; clear hR
  go_enter Tryd.func58, Tryd.ntmps58
  go_wp2_with fail
  refine (clone_any a n c l _ HR.out hm hnc hcap).mono ?_; rintro e w1 ⟨a1, c1, rfl, hown1, hb1⟩
  by_cases h0 : n = 0
  · subst h0
    have hl : l = [] := List.eq_nil_of_length_eq_zero HR.out.len.symm
    subst hl
    have HO := Lib.hid hown1; clear hown1
    go_wp2_with fail
    refine (reverse_zero a1 c1 _).mono ?_; rintro e w2 ⟨rfl, rfl⟩
    go_wp2
    go_ret
    exact ⟨_, _, rfl, HO.out, hb1⟩
  · obtain ⟨g, rfl, hg1, hg2⟩ := own_form hown1 (by omega)
    have HO := Lib.hid hown1; clear hown1
    go_wp2_with fail
    refine (reverse_any W.heap.size g n c1 l _ HO.out hg1).mono ?_; rintro e w2 ⟨rfl, hown2, hb2, _, _⟩
    have HO2 := Lib.hid hown2; clear hown2
    go_wp2
    go_ret
    exact ⟨_, _, rfl, HO2.out, hb1.trans hb2⟩
end Go.Proofs.YtnmegpplfbkpcaaDoor
