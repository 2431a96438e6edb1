/- The turns of a patch are a group; the cells' sum stays (plain). -/
import Derived.Test.YtocfkmdoalhjmaaDoorPatP
namespace Go.Proofs.YtocfkmdoalhjmaaDoor
set_option linter.unusedVariables false

/-- one turn behind another -/
def bothT (S T : Nat) : Nat := (if 4 ≤ S then (S + 8 - T) % 4 else (S + T) % 4) + (if decide (4 ≤ S) = decide (4 ≤ T) then 0 else 4)
theorem lt8 {S : Nat} (h : S < 8) : S = 0 ∨ S = 1 ∨ S = 2 ∨ S = 3 ∨ S = 4 ∨ S = 5 ∨ S = 6 ∨ S = 7 := by omega
theorem atL_congr {w : Nat} {l : List Int} {x y x' y' : Nat} (h1 : x = x') (h2 : y = y') : atL w l x y = atL w l x' y' := by rw [h1, h2]
set_option maxHeartbeats 4000000 in
theorem turn_turn {w h S T : Nat} {l : List Int} (hw : 1 ≤ w) (hh : 1 ≤ h) (hS : S < 8) (hT : T < 8) :
    turnW (turnW w h S) (turnW h w S) T = turnW w h (bothT S T) ∧ turnW (turnW h w S) (turnW w h S) T = turnW h w (bothT S T) ∧ turnL (turnW w h S) (turnW h w S) (turnL w h l S) T = turnL w h l (bothT S T) := by
  have hc : turnW (turnW w h S) (turnW h w S) T = turnW w h (bothT S T) ∧ turnW (turnW h w S) (turnW w h S) T = turnW h w (bothT S T) := by
    rcases lt8 hS with rfl | rfl | rfl | rfl | rfl | rfl | rfl | rfl <;> rcases lt8 hT with rfl | rfl | rfl | rfl | rfl | rfl | rfl | rfl <;> exact ⟨rfl, rfl⟩
  refine ⟨hc.1, hc.2, ?_⟩
  unfold turnL
  rw [hc.1, hc.2]
  refine madeL_congr (by unfold turnW; split <;> omega) fun x y hx hy => ?_
  clear hc
  rcases lt8 hS with rfl | rfl | rfl | rfl | rfl | rfl | rfl | rfl <;> rcases lt8 hT with rfl | rfl | rfl | rfl | rfl | rfl | rfl | rfl <;>
    (simp [turnF, turnW, bothT] at hx hy ⊢; rw [atL_made (by omega) (by omega)]; try simp [turnF, turnW]; try exact atL_congr (by omega) (by omega))

/-! ### sums -/
def sumR (n : Nat) (f : Nat → Int) : Int := ((List.range n).map f).sum
theorem sumR_zero (f : Nat → Int) : sumR 0 f = 0 := rfl
theorem sumR_succ (n : Nat) (f : Nat → Int) : sumR (n + 1) f = sumR n f + f n := by simp [sumR, List.range_succ]
theorem sumR_congr {n : Nat} {f g : Nat → Int} (h : ∀ i, i < n → f i = g i) : sumR n f = sumR n g := by
  unfold sumR
  rw [List.map_congr_left fun i hi => h i (List.mem_range.1 hi)]
theorem sumR_add (n : Nat) (f g : Nat → Int) : sumR n (fun i => f i + g i) = sumR n f + sumR n g := by
  induction n with
  | zero => rfl
  | succ n ih => rw [sumR_succ, sumR_succ, sumR_succ, ih]; omega
theorem sumR_const0 (n : Nat) : sumR n (fun _ => 0) = 0 := by
  induction n with
  | zero => rfl
  | succ n ih => rw [sumR_succ, ih]; rfl
theorem sumR_swap (n m : Nat) (f : Nat → Nat → Int) : sumR n (fun i => sumR m (fun j => f i j)) = sumR m (fun j => sumR n (fun i => f i j)) := by
  induction n with
  | zero => exact (sumR_const0 m).symm
  | succ n ih =>
    rw [sumR_succ, ih, ← sumR_add]
    exact sumR_congr fun j _ => (sumR_succ n _).symm
theorem sumR_front (n : Nat) (f : Nat → Int) : sumR (n + 1) f = f 0 + sumR n (fun i => f (i + 1)) := by
  induction n with
  | zero => simp [sumR]
  | succ n ih => rw [sumR_succ, ih, sumR_succ]; omega
theorem sumR_flip (n : Nat) (f : Nat → Int) : sumR n (fun i => f (n - 1 - i)) = sumR n f := by
  induction n generalizing f with
  | zero => rfl
  | succ n ih =>
    rw [sumR_front n f, sumR_succ]
    have h1 : sumR n (fun i => f (n + 1 - 1 - i)) = sumR n (fun i => f (i + 1)) := by
      rw [← ih fun i => f (i + 1)]
      exact sumR_congr fun i hi => by rw [show n + 1 - 1 - i = n - 1 - i + 1 by omega]
    rw [h1, show n + 1 - 1 - n = 0 by omega]
    omega
theorem sumR_rows (w h : Nat) (hw : 0 < w) (f : Nat → Nat → Int) : sumR (w * h) (fun i => f (i % w) (i / w)) = sumR h (fun y => sumR w (fun x => f x y)) := by
  induction h with
  | zero => rfl
  | succ h ih =>
    rw [sumR_succ, ← ih, Nat.mul_succ]
    have key : ∀ k, k ≤ w → sumR (w * h + k) (fun i => f (i % w) (i / w)) = sumR (w * h) (fun i => f (i % w) (i / w)) + sumR k (fun x => f x h) := by
      intro k
      induction k with
      | zero => intro _; simp [sumR_zero]
      | succ k ihk =>
        intro hk
        rw [← Nat.add_assoc, sumR_succ, ihk (by omega), sumR_succ]
        have e1 : (w * h + k) % w = k := by rw [Nat.mul_add_mod, Nat.mod_eq_of_lt (by omega)]
        have e2 : (w * h + k) / w = h := by rw [Nat.mul_add_div hw, Nat.div_eq_of_lt (by omega)]; omega
        rw [e1, e2]
        omega
    exact key w (Nat.le_refl _)
theorem madeL_sum {w h : Nat} (hw : 0 < w) (f : Nat → Nat → Int) : (madeL w h f).sum = sumR h (fun y => sumR w (fun x => f x y)) := (sumR_rows w h hw f)
theorem turn_sum {w h S : Nat} {l : List Int} (hp : IsPatch w h l) (hS : S < 8) : (turnL w h l S).sum = l.sum := by
  have hw := hp.w1
  have hh := hp.h1
  have e0 : l.sum = sumR h (fun y => sumR w (fun x => atL w l x y)) := by rw [← madeL_sum (by omega), made_atL (by omega) hp.len]
  unfold turnL
  rw [madeL_sum (by unfold turnW; split <;> omega), e0]
  rcases lt8 hS with rfl | rfl | rfl | rfl | rfl | rfl | rfl | rfl
  · rfl
  · show sumR w (fun y => sumR h (fun x => atL w l y (h - 1 - x))) = _
    rw [sumR_swap w h, sumR_flip h fun x => sumR w fun i => atL w l i x]
  · show sumR h (fun y => sumR w (fun x => atL w l (w - 1 - x) (h - 1 - y))) = _
    rw [sumR_flip h fun y => sumR w (fun x => atL w l (w - 1 - x) y)]
    exact sumR_congr fun y _ => sumR_flip w fun x => atL w l x y
  · show sumR w (fun y => sumR h (fun x => atL w l (w - 1 - y) x)) = _
    rw [sumR_swap w h]
    exact sumR_congr fun y _ => sumR_flip w fun x => atL w l x y
  · show sumR h (fun y => sumR w (fun x => atL w l (w - 1 - x) y)) = _
    exact sumR_congr fun y _ => sumR_flip w fun x => atL w l x y
  · show sumR w (fun y => sumR h (fun x => atL w l y (h - 1 - (h - 1 - x)))) = _
    rw [sumR_swap w h]
    refine sumR_congr fun y hy => sumR_congr fun x _ => ?_
    rw [show h - 1 - (h - 1 - y) = y by omega]
  · show sumR h (fun y => sumR w (fun x => atL w l (w - 1 - (w - 1 - x)) (h - 1 - y))) = _
    rw [sumR_flip h fun y => sumR w (fun x => atL w l (w - 1 - (w - 1 - x)) y)]
    refine sumR_congr fun y _ => sumR_congr fun x hx => ?_
    rw [show w - 1 - (w - 1 - x) = x by omega]
  · show sumR w (fun y => sumR h (fun x => atL w l (w - 1 - y) (h - 1 - x))) = _
    rw [sumR_swap w h, sumR_flip h fun x => sumR w fun i => atL w l (w - 1 - i) x]
    exact sumR_congr fun y _ => sumR_flip w fun x => atL w l x y
end Go.Proofs.YtocfkmdoalhjmaaDoor
