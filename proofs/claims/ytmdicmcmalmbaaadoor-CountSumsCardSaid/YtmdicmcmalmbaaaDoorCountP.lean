/- Plain: ways by a list of labels, added up over all words. -/
import Derived.Test.YtmdicmcmalmbaaaDoorCountB
namespace Go.Proofs.YtmdicmcmalmbaaaDoor
set_option linter.unusedVariables false

/-- the ways of a node by these labels -/
def wayL (k N : Nat) (tb : List Int) : List Int → Nat → Nat
  | [], _ => 1
  | x :: s, u => stepC k N (fun w => decide (tb.getD w 0 = x)) (wayL k N tb s) (N * k) u
theorem wv_wayL {k N : Nat} {tb wl : List Int} : ∀ c, c ≤ wl.length → ∀ u, wv k N (N * k) wl.length (fitW tb wl) (fun _ => 1) c u = wayL k N tb (wl.drop (wl.length - c)) u
  | 0, _, u => by rw [Nat.sub_zero, List.drop_length]; rfl
  | c + 1, h, u => by
    have ih := wv_wayL (k := k) (N := N) (tb := tb) (wl := wl) c (by omega)
    have e : wl.drop (wl.length - (c + 1)) = wl.getD (wl.length - 1 - c) 0 :: wl.drop (wl.length - c) := by
      rw [List.drop_eq_getElem_cons (show wl.length - (c + 1) < wl.length by omega)]
      congr 1
      · simp [show wl.length - 1 - c < wl.length by omega, show wl.length - (c + 1) = wl.length - 1 - c by omega]
      · congr 1; omega
    rw [e]
    show stepC k N (fitW tb wl (wl.length - 1 - c)) (wv k N (N * k) wl.length (fitW tb wl) (fun _ => 1) c) (N * k) u = stepC k N _ _ _ u
    have e2 : wv k N (N * k) wl.length (fitW tb wl) (fun _ => 1) c = wayL k N tb (wl.drop (wl.length - c)) := funext ih
    rw [e2]
    rfl
theorem wordsC_wayL {k N : Nat} {tb wl : List Int} : wordsC k N tb wl = sumTo N (wayL k N tb wl) := by
  unfold wordsC
  refine sumTo_congr fun u _ => ?_
  rw [wv_wayL wl.length (Nat.le_refl _), Nat.sub_self, List.drop_zero]
/-- added up over all words of n symbols -/
def sumW (k : Nat) : Nat → (List Int → Nat) → Nat
  | 0, f => f []
  | n + 1, f => sumTo k fun x => sumW k n fun s => f ((x : Int) :: s)
theorem sumW_congr {k n : Nat} {f g : List Int → Nat} (h : ∀ s, f s = g s) : sumW k n f = sumW k n g := by
  have : f = g := funext h
  rw [this]
theorem sumW_sumTo (k : Nat) : ∀ (n m : Nat) (f : Nat → List Int → Nat), sumW k n (fun s => sumTo m fun w => f w s) = sumTo m fun w => sumW k n (f w)
  | 0, m, f => rfl
  | n + 1, m, f => by
    show sumTo k (fun x => sumW k n fun s => sumTo m fun w => f w ((x : Int) :: s)) = sumTo m fun w => sumTo k fun x => sumW k n fun s => f w ((x : Int) :: s)
    rw [sumTo_congr (g := fun x => sumTo m fun w => sumW k n fun s => f w ((x : Int) :: s)) fun x _ => sumW_sumTo k n m fun w s => f w ((x : Int) :: s)]
    exact sumTo_comm k m fun x w => sumW k n fun s => f w ((x : Int) :: s)
theorem sumW_zero (k : Nat) : ∀ n, sumW k n (fun _ => 0) = 0
  | 0 => rfl
  | n + 1 => by
    show sumTo k (fun x => sumW k n fun s => 0) = 0
    exact sumTo_zero fun x _ => sumW_zero k n
theorem sumW_ite (k n : Nat) (c : Prop) [Decidable c] (f : List Int → Nat) : sumW k n (fun s => if c then f s else 0) = if c then sumW k n f else 0 := by
  by_cases h : c
  · simp only [if_pos h]
  · simp only [if_neg h]; exact sumW_zero k n
theorem sumTo_split (a b : Nat) (f : Nat → Nat) : sumTo (a + b) f = sumTo a f + sumTo b fun j => f (a + j) := by
  induction b with
  | zero => rfl
  | succ b ih =>
    show sumTo (a + b) f + f (a + b) = _
    rw [ih, sumTo, Nat.add_assoc]
theorem sumTo_const (n c : Nat) : sumTo n (fun _ => c) = n * c := by
  induction n with
  | zero => simp [sumTo]
  | succ n ih => rw [sumTo, ih, Nat.add_mul, Nat.one_mul]
/-- of each node as many windows lead as there are symbols -/
theorem count_node {k N u : Nat} (hk : 0 < k) (hu : u < N) (v : Nat) : sumTo (N * k) (fun w => if w / k = u then v else 0) = k * v := by
  induction N with
  | zero => omega
  | succ N ih =>
    rw [Nat.add_mul, Nat.one_mul, sumTo_split]
    have e2 : ∀ j, j < k → (N * k + j) / k = N := fun j hj => by
      rw [Nat.mul_comm, Nat.mul_add_div hk, Nat.div_eq_of_lt hj, Nat.add_zero]
    by_cases h : u = N
    · subst h
      rw [sumTo_zero fun w hw => by rw [if_neg (by have := Nat.div_lt_of_lt_mul (m := w) (n := k) (k := u) (by rw [Nat.mul_comm]; exact hw); omega)]]
      rw [sumTo_congr (g := fun _ => v) fun j hj => by rw [e2 j hj, if_pos rfl]]
      rw [sumTo_const, Nat.zero_add]
    · rw [ih (by omega), sumTo_zero (n := k) fun j hj => by rw [e2 j hj, if_neg fun e => h e.symm]]
      rfl
/-- all words together: each node has as many ways as there are words -/
theorem sumW_wayL {k N : Nat} {tb : List Int} (hk : 0 < k) (hN : 0 < N) (ht : ∀ w, w < N * k → 0 ≤ tb.getD w 0 ∧ tb.getD w 0 < (k : Int)) : ∀ n u, u < N → sumW k n (fun s => wayL k N tb s u) = k ^ n
  | 0, u, _ => rfl
  | n + 1, u, hu => by
    have ih := sumW_wayL hk hN ht n
    show sumTo k (fun x => sumW k n fun s => sumTo (N * k) fun w => if w / k = u ∧ decide (tb.getD w 0 = ((x : Nat) : Int)) = true then wayL k N tb s (w % N) else 0) = _
    rw [sumTo_congr (g := fun x => sumTo (N * k) fun w => if w / k = u ∧ decide (tb.getD w 0 = ((x : Nat) : Int)) = true then k ^ n else 0) fun x _ => by
      rw [sumW_sumTo k n (N * k) fun w s => if w / k = u ∧ decide (tb.getD w 0 = ((x : Nat) : Int)) = true then wayL k N tb s (w % N) else 0]
      exact sumTo_congr fun w _ => by rw [sumW_ite, ih _ (Nat.mod_lt _ hN)]]
    rw [sumTo_comm k (N * k) fun x w => if w / k = u ∧ decide (tb.getD w 0 = ((x : Nat) : Int)) = true then k ^ n else 0]
    rw [sumTo_congr (g := fun w => if w / k = u then k ^ n else 0) fun w hw => by
      obtain ⟨h0, h1⟩ := ht w hw
      obtain ⟨y, hy⟩ : ∃ y : Nat, tb.getD w 0 = (y : Int) := ⟨(tb.getD w 0).toNat, by omega⟩
      rw [hy] at h1 ⊢
      by_cases e : w / k = u
      · rw [if_pos e, sumTo_congr (g := fun x => if x = y then k ^ n else 0) fun x _ => by
          by_cases e2 : x = y
          · subst e2; simp [e]
          · have e3 : ¬ ((y : Int) = (x : Int)) := by omega
            simp [e2, e3]]
        exact sumTo_one (fun _ => k ^ n) (by omega)
      · rw [if_neg e, sumTo_zero fun x _ => by simp [e]]]
    rw [count_node hk hu, Nat.pow_succ, Nat.mul_comm]
/-- the numbers of preimages of all words of n symbols, added up -/
theorem sumW_wordsC {k N n : Nat} {tb : List Int} (hk : 0 < k) (hN : 0 < N) (ht : ∀ w, w < N * k → 0 ≤ tb.getD w 0 ∧ tb.getD w 0 < (k : Int)) : sumW k n (fun s => wordsC k N tb s) = N * k ^ n := by
  rw [sumW_congr fun s => wordsC_wayL, sumW_sumTo k n N fun u s => wayL k N tb s u]
  rw [sumTo_congr (g := fun _ => k ^ n) fun u hu => sumW_wayL hk hN ht n u hu]
  exact sumTo_const _ _
end Go.Proofs.YtmdicmcmalmbaaaDoor
