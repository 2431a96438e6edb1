/- Plain: rings added up over all words. -/
import Derived.Test.YtmdicmcmalmbaaaDoorCountP
import Derived.Test.YtmdicmcmalmbaaaDoorCountD
namespace Go.Proofs.YtmdicmcmalmbaaaDoor
set_option linter.unusedVariables false

/-- the ways of a node by these labels, to ends -/
def wayG (k N : Nat) (tb : List Int) (E : Nat → Nat) : List Int → Nat → Nat
  | [], u => E u
  | x :: s, u => stepC k N (fun w => decide (tb.getD w 0 = x)) (wayG k N tb E s) (N * k) u
theorem wv_wayG {k N : Nat} {tb wl : List Int} {E : Nat → Nat} : ∀ c, c ≤ wl.length → ∀ u, wv k N (N * k) wl.length (fitW tb wl) E c u = wayG k N tb E (wl.drop (wl.length - c)) u
  | 0, _, u => by rw [Nat.sub_zero, List.drop_length]; rfl
  | c + 1, h, u => by
    have ih := wv_wayG (k := k) (N := N) (tb := tb) (wl := wl) (E := E) c (by omega)
    have e : wl.drop (wl.length - (c + 1)) = wl.getD (wl.length - 1 - c) 0 :: wl.drop (wl.length - c) := by
      rw [List.drop_eq_getElem_cons (show wl.length - (c + 1) < wl.length by omega)]
      congr 1
      · simp [show wl.length - 1 - c < wl.length by omega, show wl.length - (c + 1) = wl.length - 1 - c by omega]
      · congr 1; omega
    rw [e]
    show stepC k N (fitW tb wl (wl.length - 1 - c)) (wv k N (N * k) wl.length (fitW tb wl) E c) (N * k) u = stepC k N _ _ _ u
    have e2 : wv k N (N * k) wl.length (fitW tb wl) E c = wayG k N tb E (wl.drop (wl.length - c)) := funext ih
    rw [e2]
    rfl
/-- ways by whatever labels -/
def pathS (k N : Nat) (E : Nat → Nat) : Nat → Nat → Nat
  | 0, u => E u
  | n + 1, u => sumTo (N * k) fun w => if w / k = u then pathS k N E n (w % N) else 0
theorem sumW_wayG {k N : Nat} {tb : List Int} {E : Nat → Nat} (hN : 0 < N) (ht : ∀ w, w < N * k → 0 ≤ tb.getD w 0 ∧ tb.getD w 0 < (k : Int)) : ∀ n u, sumW k n (fun s => wayG k N tb E s u) = pathS k N E n u
  | 0, u => rfl
  | n + 1, u => by
    have ih := sumW_wayG (E := E) hN ht n
    show sumTo k (fun x => sumW k n fun s => sumTo (N * k) fun w => if w / k = u ∧ decide (tb.getD w 0 = ((x : Nat) : Int)) = true then wayG k N tb E s (w % N) else 0) = sumTo (N * k) _
    rw [sumTo_congr (g := fun x => sumTo (N * k) fun w => if w / k = u ∧ decide (tb.getD w 0 = ((x : Nat) : Int)) = true then pathS k N E n (w % N) else 0) fun x _ => by
      rw [sumW_sumTo k n (N * k) fun w s => if w / k = u ∧ decide (tb.getD w 0 = ((x : Nat) : Int)) = true then wayG k N tb E s (w % N) else 0]
      exact sumTo_congr fun w _ => by rw [sumW_ite, ih]]
    rw [sumTo_comm k (N * k) fun x w => if w / k = u ∧ decide (tb.getD w 0 = ((x : Nat) : Int)) = true then pathS k N E n (w % N) else 0]
    exact sumTo_congr fun w hw => by
      obtain ⟨h0, h1⟩ := ht w hw
      obtain ⟨y, hy⟩ : ∃ y : Nat, tb.getD w 0 = (y : Int) := ⟨(tb.getD w 0).toNat, by omega⟩
      rw [hy] at h1 ⊢
      by_cases e : w / k = u
      · rw [if_pos e, sumTo_congr (g := fun x => if x = y then pathS k N E n (w % N) else 0) fun x _ => by
          by_cases e2 : x = y
          · subst e2; simp [e]
          · have e3 : ¬ ((y : Int) = (x : Int)) := by omega
            simp [e2, e3]]
        exact sumTo_one (fun _ => pathS k N E n (w % N)) (by omega)
      · rw [if_neg e, sumTo_zero fun x _ => by simp [e]]
theorem sumTo_node {k N u : Nat} (hk : 0 < k) (hu : u < N) (g : Nat → Nat) : sumTo (N * k) (fun w => if w / k = u then g w else 0) = sumTo k fun j => g (u * k + j) := by
  induction N with
  | zero => omega
  | succ N ih =>
    rw [Nat.add_mul, Nat.one_mul, sumTo_split]
    have e2 : ∀ j, j < k → (N * k + j) / k = N := fun j hj => by
      rw [Nat.mul_comm, Nat.mul_add_div hk, Nat.div_eq_of_lt hj, Nat.add_zero]
    by_cases h : u = N
    · subst h
      rw [sumTo_zero fun w hw => by rw [if_neg (by have := Nat.div_lt_of_lt_mul (m := w) (n := k) (k := u) (by rw [Nat.mul_comm]; exact hw); omega)]]
      rw [sumTo_congr (g := fun j => g (u * k + j)) fun j hj => by rw [e2 j hj, if_pos rfl]]
      rw [Nat.zero_add]
    · have hz : sumTo k (fun j => if (N * k + j) / k = u then g (N * k + j) else 0) = 0 := sumTo_zero fun j hj => by rw [e2 j hj, if_neg fun e => h e.symm]
      rw [ih (by omega), hz, Nat.add_zero]
theorem sumTo_mul (a b : Nat) (f : Nat → Nat) : sumTo (a * b) f = sumTo a fun j => sumTo b fun i => f (j * b + i) := by
  induction a with
  | zero => rw [Nat.zero_mul]; rfl
  | succ a ih => rw [Nat.add_mul, Nat.one_mul, sumTo_split, ih]; rfl
theorem pathS_eq {k N : Nat} {E : Nat → Nat} (hk : 0 < k) (hN : 0 < N) : ∀ n u, u < N → pathS k N E n u = sumTo (k ^ n) fun S => E ((u * k ^ n + S) % N)
  | 0, u, hu => by
    show E u = sumTo 1 _
    simp [sumTo, Nat.mod_eq_of_lt hu]
  | n + 1, u, hu => by
    show sumTo (N * k) (fun w => if w / k = u then pathS k N E n (w % N) else 0) = _
    rw [sumTo_node hk hu fun w => pathS k N E n (w % N), Nat.pow_succ, Nat.mul_comm (k ^ n) k, sumTo_mul]
    refine sumTo_congr fun j hj => ?_
    rw [pathS_eq hk hN n _ (Nat.mod_lt _ hN)]
    refine sumTo_congr fun S _ => ?_
    congr 1
    have e : u * (k * k ^ n) + (j * k ^ n + S) = (u * k + j) * k ^ n + S := by rw [Nat.add_mul, Nat.mul_assoc, Nat.add_assoc]
    rw [e, Nat.add_mod, Nat.mul_mod, Nat.mod_mod, ← Nat.mul_mod, ← Nat.add_mod]
/-- one step of a ring's node by the number S -/
def phi (z S N u : Nat) : Nat := (u * z + S) % N
def itP (z S N : Nat) : Nat → Nat → Nat
  | 0, u => u
  | m + 1, u => phi z S N (itP z S N m u)
theorem itP_comm (z S N : Nat) : ∀ m u, itP z S N m (phi z S N u) = phi z S N (itP z S N m u)
  | 0, u => rfl
  | m + 1, u => by show phi z S N (itP z S N m (phi z S N u)) = _; rw [itP_comm z S N m u]; rfl
theorem itP_same {k n t S : Nat} (hn : 1 ≤ n) (u v : Nat) : ∀ a, a ≤ t → itP (k ^ n) S (k ^ t) a u % k ^ a = itP (k ^ n) S (k ^ t) a v % k ^ a
  | 0, _ => by simp [Nat.mod_one]
  | a + 1, h => by
    have ih := itP_same (k := k) (t := t) (S := S) hn u v a (by omega)
    have hd : k ^ (a + 1) ∣ k ^ t := Nat.pow_dvd_pow k h
    have hd2 : k ^ (a + 1) ∣ k ^ a * k ^ n := by rw [← Nat.pow_add]; exact Nat.pow_dvd_pow k (by omega)
    show (_ * k ^ n + S) % k ^ t % k ^ (a + 1) = (_ * k ^ n + S) % k ^ t % k ^ (a + 1)
    rw [Nat.mod_mod_of_dvd _ hd, Nat.mod_mod_of_dvd _ hd]
    generalize itP (k ^ n) S (k ^ t) a u = x at *
    generalize itP (k ^ n) S (k ^ t) a v = y at *
    have e : x * k ^ n % k ^ (a + 1) = y * k ^ n % k ^ (a + 1) := by
      rw [← Nat.mod_mod_of_dvd (x * k ^ n) hd2, ← Nat.mod_mod_of_dvd (y * k ^ n) hd2, Nat.mul_mod_mul_right, Nat.mul_mod_mul_right, ih]
    rw [Nat.add_mod, e, ← Nat.add_mod]
theorem phi_one {k n t S : Nat} (hk : 0 < k) (hn : 1 ≤ n) : sumTo (k ^ t) (fun u => if phi (k ^ n) S (k ^ t) u = u then 1 else 0) = 1 := by
  have hN : 0 < k ^ t := Nat.pow_pos hk
  obtain ⟨c, hc⟩ : ∃ c, itP (k ^ n) S (k ^ t) t 0 % k ^ t = c := ⟨_, rfl⟩
  have hcl : c < k ^ t := by rw [← hc]; exact Nat.mod_lt _ hN
  have hall : ∀ u, itP (k ^ n) S (k ^ t) t u % k ^ t = c := fun u => by rw [← hc]; exact itP_same hn u 0 t (Nat.le_refl _)
  have hphi : ∀ x y, x % k ^ t = y % k ^ t → phi (k ^ n) S (k ^ t) x = phi (k ^ n) S (k ^ t) y := fun x y e => by
    unfold phi
    rw [Nat.add_mod, Nat.mul_mod, e, ← Nat.mul_mod, ← Nat.add_mod]
  have hfix : ∀ u, phi (k ^ n) S (k ^ t) u = u → ∀ m, itP (k ^ n) S (k ^ t) m u = u := fun u hu m => by
    induction m with
    | zero => rfl
    | succ m ih => show phi _ _ _ _ = _; rw [ih]; exact hu
  have hcf : phi (k ^ n) S (k ^ t) c = c := by
    have h1 := hall (phi (k ^ n) S (k ^ t) 0)
    rw [itP_comm] at h1
    have h2 : phi (k ^ n) S (k ^ t) (itP (k ^ n) S (k ^ t) t 0) = phi (k ^ n) S (k ^ t) c := hphi _ _ (by rw [hc, Nat.mod_eq_of_lt hcl])
    rw [h2] at h1
    rw [Nat.mod_eq_of_lt (show phi (k ^ n) S (k ^ t) c < k ^ t from Nat.mod_lt _ hN)] at h1
    exact h1
  rw [sumTo_congr (g := fun u => if u = c then 1 else 0) fun u hu => by
    by_cases e : phi (k ^ n) S (k ^ t) u = u
    · rw [if_pos e]
      have := hall u
      rw [hfix u e, Nat.mod_eq_of_lt hu] at this
      rw [if_pos this]
    · rw [if_neg e, if_neg fun e2 => e (by rw [e2]; exact hcf)]]
  exact sumTo_one (fun _ => 1) hcl

/-- the numbers of preimages of all rings of n cells, added up -/
theorem sumW_ringsC {k n t : Nat} {tb : List Int} (hk : 0 < k) (hn : 1 ≤ n) (ht : ∀ w, w < k ^ t * k → 0 ≤ tb.getD w 0 ∧ tb.getD w 0 < (k : Int)) :
    sumW k n (fun s => sumTo (k ^ t) fun u => wayG k (k ^ t) tb (unitE u) s u) = k ^ n := by
  have hN : 0 < k ^ t := Nat.pow_pos hk
  rw [sumW_sumTo k n (k ^ t) fun u s => wayG k (k ^ t) tb (unitE u) s u]
  rw [sumTo_congr (g := fun u => sumTo (k ^ n) fun S => if phi (k ^ n) S (k ^ t) u = u then 1 else 0) fun u hu => by
    rw [sumW_wayG hN ht, pathS_eq hk hN n u hu]; rfl]
  rw [sumTo_comm (k ^ t) (k ^ n) fun u S => if phi (k ^ n) S (k ^ t) u = u then 1 else 0]
  rw [sumTo_congr (g := fun _ => 1) fun S _ => phi_one hk hn, sumTo_const, Nat.mul_one]
theorem ringsC_wayG {k N n : Nat} {tb wl : List Int} (hn : n = wl.length) : ringsC k N (N * k) n (fitW tb wl) N = sumTo N fun u => wayG k N tb (unitE u) wl u := by
  subst hn
  unfold ringsC
  refine sumTo_congr fun u _ => ?_
  rw [wv_wayG wl.length (Nat.le_refl _), Nat.sub_self, List.drop_zero]

/-- the word of n symbols with the number i -/
def digsF (k : Nat) : Nat → Nat → List Int
  | 0, _ => []
  | n + 1, i => ((i / k ^ n : Nat) : Int) :: digsF k n (i % k ^ n)
theorem digsF_len (k : Nat) : ∀ n i, (digsF k n i).length = n
  | 0, _ => rfl
  | n + 1, i => by rw [digsF, List.length_cons, digsF_len k n]
theorem digsF_mem {k : Nat} (hk : 0 < k) : ∀ n i, i < k ^ n → ∀ x ∈ digsF k n i, 0 ≤ x ∧ x < (k : Int)
  | 0, _, _, x, hx => by cases hx
  | n + 1, i, hi, x, hx => by
    have hN : 0 < k ^ n := Nat.pow_pos hk
    rw [digsF, List.mem_cons] at hx
    rcases hx with rfl | hx
    · have : i / k ^ n < k := Nat.div_lt_of_lt_mul (by rw [← Nat.pow_succ]; exact hi)
      exact ⟨Int.natCast_nonneg _, Int.ofNat_lt.2 this⟩
    · exact digsF_mem hk n _ (Nat.mod_lt _ hN) x hx
/-- all words, gone through by their numbers -/
theorem sumW_digs {k : Nat} (hk : 0 < k) : ∀ n (f : List Int → Nat), sumW k n f = sumTo (k ^ n) fun i => f (digsF k n i)
  | 0, f => by show f [] = sumTo 1 _; simp [sumTo, digsF]
  | n + 1, f => by
    have hN : 0 < k ^ n := Nat.pow_pos hk
    rw [Nat.pow_succ, Nat.mul_comm (k ^ n) k, sumTo_mul]
    refine sumTo_congr fun j _ => ?_
    rw [sumW_digs hk n fun s => f ((j : Int) :: s)]
    refine sumTo_congr fun i hi => ?_
    have e1 : (j * k ^ n + i) / k ^ n = j := by rw [Nat.mul_comm, Nat.mul_add_div hN, Nat.div_eq_of_lt hi, Nat.add_zero]
    have e2 : (j * k ^ n + i) % k ^ n = i := by rw [Nat.mul_comm, Nat.mul_add_mod, Nat.mod_eq_of_lt hi]
    show f ((j : Int) :: digsF k n i) = f (((j * k ^ n + i) / k ^ n : Nat) :: digsF k n ((j * k ^ n + i) % k ^ n))
    rw [e1, e2]
end Go.Proofs.YtmdicmcmalmbaaaDoor
