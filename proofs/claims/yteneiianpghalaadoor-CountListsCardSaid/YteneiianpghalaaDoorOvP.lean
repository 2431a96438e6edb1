/- Plain: the ways of a node by its symbols, one after another; a list that is cut at its most. -/
import Derived.Test.YteneiianpghalaaDoorCntX
namespace Go.Proofs.YteneiianpghalaaDoor
set_option linter.unusedVariables false

/-- the ways of a node by its first s symbols -/
def wayS (k N : Nat) (tb wl : List Int) (i u s : Nat) : Nat := sumTo s fun t => if tb.getD (u * k + t) 0 = wl.getD i 0 then wayL k N tb (wl.drop (i + 1)) ((u * k + t) % N) else 0
theorem wayS_all {k N : Nat} {tb wl : List Int} {i u : Nat} (hk : 0 < k) (hi : i < wl.length) (hu : u < N) : wayS k N tb wl i u k = wayL k N tb (wl.drop i) u := by
  rw [List.drop_eq_getElem_cons hi]
  show _ = sumTo (N * k) fun w => if w / k = u ∧ decide (tb.getD w 0 = wl[i]) = true then wayL k N tb (wl.drop (i + 1)) (w % N) else 0
  have e : sumTo (N * k) (fun w => if w / k = u ∧ decide (tb.getD w 0 = wl[i]) = true then wayL k N tb (wl.drop (i + 1)) (w % N) else 0) = sumTo (N * k) fun w => if w / k = u then (if tb.getD w 0 = wl[i] then wayL k N tb (wl.drop (i + 1)) (w % N) else 0) else 0 := sumTo_congr fun w _ => by
    by_cases h1 : w / k = u
    · rw [if_pos h1]
      by_cases h2 : tb.getD w 0 = wl[i]
      · rw [if_pos h2, if_pos ⟨h1, decide_eq_true h2⟩]
      · rw [if_neg h2, if_neg fun q => h2 (of_decide_eq_true q.2)]
    · rw [if_neg h1, if_neg fun q => h1 q.1]
  rw [e, sumTo_node hk hu fun w => if tb.getD w 0 = wl[i] then wayL k N tb (wl.drop (i + 1)) (w % N) else 0]
  unfold wayS
  rw [show wl.getD i 0 = wl[i] by simp [hi]]
theorem wayS_succ (k N : Nat) (tb wl : List Int) (i u s : Nat) : wayS k N tb wl i u (s + 1) = wayS k N tb wl i u s + if tb.getD (u * k + s) 0 = wl.getD i 0 then wayL k N tb (wl.drop (i + 1)) ((u * k + s) % N) else 0 := rfl
theorem wayS_le (k N : Nat) (tb wl : List Int) (i u : Nat) : ∀ s t, s ≤ t → wayS k N tb wl i u s ≤ wayS k N tb wl i u t := fun s t h => by
  induction t with
  | zero => have : s = 0 := by omega
            subst this; exact Nat.le_refl _
  | succ t ih =>
    by_cases e : s = t + 1
    · rw [e]; exact Nat.le_refl _
    · rw [wayS_succ]; exact Nat.le_trans (ih (by omega)) (Nat.le_add_right _ _)
theorem wayL_end {k N : Nat} {tb wl : List Int} (u : Nat) : wayL k N tb (wl.drop wl.length) u = 1 := by rw [List.drop_length]; rfl
end Go.Proofs.YteneiianpghalaaDoor
