/- Plain: the closed walks of n steps are the rings of n cells. -/
import Derived.Test.YteneiianpghalaaDoorCntX
import Derived.Test.YteneiianpghalaaDoorRingA
namespace Go.Proofs.YteneiianpghalaaDoor
set_option linter.unusedVariables false

/-- the labels along a word from a node -/
def okP (k N : Nat) (p : Nat → Nat → Bool) : Nat → List Int → Nat → Bool
  | _, [], _ => true
  | x, s :: S, u => p x (u * k + s.toNat) && okP k N p (x + 1) S ((u * k + s.toNat) % N)
/-- where a word leads from a node -/
def endN (k N : Nat) : List Int → Nat → Nat
  | [], u => u
  | s :: S, u => endN k N S ((u * k + s.toNat) % N)
theorem wv_words {k N n : Nat} {p : Nat → Nat → Bool} {E : Nat → Nat} (hk : 0 < k) (hN : 0 < N) : ∀ c, c ≤ n → ∀ u, u < N → wv k N (N * k) n p E c u = sumW k c fun S => if okP k N p (n - c) S u = true then E (endN k N S u) else 0
  | 0, _, u, _ => rfl
  | c + 1, h, u, hu => by
    have ih := wv_words (n := n) (p := p) (E := E) hk hN c (by omega)
    show sumTo (N * k) (fun w => if w / k = u ∧ p (n - 1 - c) w = true then wv k N (N * k) n p E c (w % N) else 0) = _
    rw [sumTo_congr (g := fun w => if w / k = u then (if p (n - 1 - c) w = true then wv k N (N * k) n p E c (w % N) else 0) else 0) fun w _ => by
      by_cases h1 : w / k = u
      · by_cases h2 : p (n - 1 - c) w = true
        · rw [if_pos h1, if_pos h2, if_pos ⟨h1, h2⟩]
        · rw [if_pos h1, if_neg h2, if_neg fun q => h2 q.2]
      · rw [if_neg h1, if_neg fun q => h1 q.1]]
    rw [sumTo_node hk hu fun w => if p (n - 1 - c) w = true then wv k N (N * k) n p E c (w % N) else 0]
    show _ = sumTo k fun x => sumW k c fun S => if okP k N p (n - (c + 1)) ((x : Int) :: S) u = true then E (endN k N ((x : Int) :: S) u) else 0
    refine sumTo_congr fun j _ => ?_
    rw [ih _ (Nat.mod_lt _ hN), ← sumW_ite]
    refine sumW_congr fun S => ?_
    have e1 : n - 1 - c = n - (c + 1) := by omega
    have e2 : n - (c + 1) + 1 = n - c := by omega
    have e3 : ((j : Nat) : Int).toNat = j := Int.toNat_natCast j
    show _ = if (p (n - (c + 1)) (u * k + ((j : Nat) : Int).toNat) && okP k N p (n - (c + 1) + 1) S ((u * k + ((j : Nat) : Int).toNat) % N)) = true then E (endN k N S ((u * k + ((j : Nat) : Int).toNat) % N)) else 0
    rw [e1, e2, e3]
    by_cases h1 : p (n - (c + 1)) (u * k + j) = true
    · rw [if_pos h1, h1, Bool.true_and]
    · rw [if_neg h1, if_neg fun q => h1 (by rw [Bool.and_eq_true] at q; exact q.1)]
theorem endN_digs {k N : Nat} (hk : 0 < k) (hN : 0 < N) : ∀ n i u, i < k ^ n → u < N → endN k N (digsF k n i) u = phi (k ^ n) i N u
  | 0, i, u, hi, hu => by
    have : i = 0 := by simpa using hi
    subst this
    show u = (u * 1 + 0) % N
    rw [Nat.mul_one, Nat.add_zero, Nat.mod_eq_of_lt hu]
  | n + 1, i, u, hi, hu => by
    have hn : 0 < k ^ n := Nat.pow_pos hk
    show endN k N (digsF k n (i % k ^ n)) ((u * k + ((i / k ^ n : Nat) : Int).toNat) % N) = _
    rw [Int.toNat_natCast, endN_digs hk hN n _ _ (Nat.mod_lt _ hn) (Nat.mod_lt _ hN)]
    show ((u * k + i / k ^ n) % N * k ^ n + i % k ^ n) % N = (u * k ^ (n + 1) + i) % N
    have e : (u * k + i / k ^ n) * k ^ n + i % k ^ n = u * k ^ (n + 1) + i := by
      have h1 := Nat.div_add_mod i (k ^ n)
      rw [Nat.mul_comm (k ^ n)] at h1
      rw [Nat.add_mul, Nat.add_assoc, h1, Nat.pow_succ, Nat.mul_assoc, Nat.mul_comm k (k ^ n)]
    rw [Nat.add_mod, Nat.mul_mod, Nat.mod_mod, ← Nat.mul_mod, ← Nat.add_mod, e]
theorem phi_uniq {k n t S u : Nat} (hn : 1 ≤ n) (hu : u < k ^ t) (h : phi (k ^ n) S (k ^ t) u = u) : u = itP (k ^ n) S (k ^ t) t 0 % k ^ t := by
  have hfix : ∀ m, itP (k ^ n) S (k ^ t) m u = u := fun m => by
    induction m with
    | zero => rfl
    | succ m ih => show phi _ _ _ _ = _; rw [ih]; exact h
  have h2 := itP_same (k := k) (n := n) (t := t) (S := S) hn u 0 t (Nat.le_refl _)
  rw [hfix t, Nat.mod_eq_of_lt hu] at h2
  exact h2
/-- the node ahead of a cell, the window that ends with it -/
def nodeR (k t : Nat) (s : Int → Int) (q : Int) : Nat := winF k (fun j => s (q - (t : Int) + (j : Int))) t
def edgeR (k t : Nat) (s : Int → Int) (q : Int) : Nat := winF k (fun j => s (q - (t : Int) + (j : Int))) (t + 1)
theorem edgeR_node (k t : Nat) (s : Int → Int) (q : Int) : nodeR k t s q * k + (s q).toNat = edgeR k t s q := by
  show _ = winF k _ t * k + (s (q - (t : Int) + (t : Int))).toNat
  rw [show q - (t : Int) + (t : Int) = q by omega]; rfl
theorem nodeR_next {k t : Nat} {s : Int → Int} (hs : ∀ i, 0 ≤ s i ∧ s i < (k : Int)) (q : Int) : edgeR k t s q % k ^ t = nodeR k t s (q + 1) := by
  unfold edgeR nodeR
  rw [Nat.add_comm t 1, winF_mod fun j _ => hs _]
  exact winF_congr fun j _ => by congr 1; omega
theorem nodeR_lt {k t : Nat} {s : Int → Int} (hs : ∀ i, 0 ≤ s i ∧ s i < (k : Int)) (q : Int) : nodeR k t s q < k ^ t := winF_lt fun j _ => hs _
theorem valsF_cons (s : Int → Int) (a : Int) (m : Nat) : valsF s a (m + 1) = s a :: valsF s (a + 1) m := by
  have h := valsF_app s a 1 m
  rw [Nat.add_comm m 1, ← h]
  simp [valsF]
theorem endN_ring {k t : Nat} {s : Int → Int} (hs : ∀ i, 0 ≤ s i ∧ s i < (k : Int)) : ∀ m q, endN k (k ^ t) (valsF s q m) (nodeR k t s q) = nodeR k t s (q + (m : Int))
  | 0, q => by simp [valsF, endN]
  | m + 1, q => by
    rw [valsF_cons]
    show endN k (k ^ t) (valsF s (q + 1) m) ((nodeR k t s q * k + (s q).toNat) % k ^ t) = _
    rw [edgeR_node, nodeR_next hs, endN_ring hs m]
    congr 1; omega
theorem okP_ring {k t : Nat} {s : Int → Int} {p : Nat → Nat → Bool} (hs : ∀ i, 0 ≤ s i ∧ s i < (k : Int)) : ∀ m x q, okP k (k ^ t) p x (valsF s q m) (nodeR k t s q) = true ↔ ∀ i : Nat, i < m → p (x + i) (edgeR k t s (q + (i : Int))) = true
  | 0, x, q => by simp [valsF, okP]
  | m + 1, x, q => by
    rw [valsF_cons]
    show (p x (nodeR k t s q * k + (s q).toNat) && okP k (k ^ t) p (x + 1) (valsF s (q + 1) m) ((nodeR k t s q * k + (s q).toNat) % k ^ t)) = true ↔ _
    rw [edgeR_node, nodeR_next hs, Bool.and_eq_true, okP_ring hs m]
    constructor
    · rintro ⟨h0, h1⟩ i hi
      cases i with
      | zero => simpa using h0
      | succ i =>
        have := h1 i (by omega)
        rwa [show x + 1 + i = x + (i + 1) by omega, show q + 1 + (i : Int) = q + ((i + 1 : Nat) : Int) by omega] at this
    · intro h
      refine ⟨by simpa using h 0 (by omega), fun i hi => ?_⟩
      have := h (i + 1) (by omega)
      rwa [show x + 1 + i = x + (i + 1) by omega, show q + 1 + (i : Int) = q + ((i + 1 : Nat) : Int) by omega]
theorem ring_self (l : List Int) : valsF (ringF l) 0 l.length = l := by
  apply List.ext_getElem
  · rw [valsF_len]
  · intro i h1 h2
    have h3 : (valsF (ringF l) 0 l.length).getD i 0 = l.getD i 0 := by
      rw [valsF_getD h2]
      unfold ringF
      rw [show (0 : Int) + (i : Int) = (i : Int) by omega, Int.emod_eq_of_lt (by omega) (by omega), Int.toNat_natCast]
    simpa [h1, h2] using h3
/-- THE CLOSED WALKS ARE THE RINGS -/
theorem ringsC_rings {k n t : Nat} {p : Nat → Nat → Bool} (hk : 0 < k) (hn : 1 ≤ n) : ringsC k (k ^ t) (k ^ t * k) n p (k ^ t) = sumTo (k ^ n) fun i => if ∀ j, j < n → p j (edgeR k t (ringF (digsF k n i)) (j : Int)) = true then 1 else 0 := by
  have hN : 0 < k ^ t := Nat.pow_pos hk
  unfold ringsC
  rw [sumTo_congr (g := fun u => sumTo (k ^ n) fun i => if okP k (k ^ t) p 0 (digsF k n i) u = true then unitE u (endN k (k ^ t) (digsF k n i) u) else 0) fun u hu => by
    rw [wv_words hk hN n (Nat.le_refl _) u hu, sumW_digs hk, Nat.sub_self]]
  rw [sumTo_comm (k ^ t) (k ^ n) fun u i => if okP k (k ^ t) p 0 (digsF k n i) u = true then unitE u (endN k (k ^ t) (digsF k n i) u) else 0]
  refine sumTo_congr fun i hi => ?_
  obtain ⟨S, hS⟩ : ∃ S, digsF k n i = S := ⟨_, rfl⟩
  have hlen : S.length = n := by rw [← hS]; exact digsF_len k n i
  have hsym : ∀ x ∈ S, 0 ≤ x ∧ x < (k : Int) := by rw [← hS]; exact digsF_mem hk n i hi
  have hs : ∀ q, 0 ≤ ringF S q ∧ ringF S q < (k : Int) := ringF_range hk hsym
  have hself : valsF (ringF S) 0 n = S := by rw [← hlen]; exact ring_self S
  have hper : nodeR k t (ringF S) (0 + (n : Int)) = nodeR k t (ringF S) 0 := winF_congr fun j _ => ringF_per (q := 1) (by rw [hlen]; omega)
  have hend : endN k (k ^ t) S (nodeR k t (ringF S) 0) = nodeR k t (ringF S) 0 := by
    have := endN_ring (t := t) hs n 0
    rw [hself, hper] at this
    exact this
  have hphi : ∀ u, u < k ^ t → endN k (k ^ t) S u = phi (k ^ n) i (k ^ t) u := fun u hu => by rw [← hS]; exact endN_digs hk hN n i u hi hu
  have hc := nodeR_lt (t := t) hs 0
  have huq : ∀ u, u < k ^ t → endN k (k ^ t) S u = u → u = nodeR k t (ringF S) 0 := fun u hu he => by
    rw [hphi u hu] at he
    rw [hphi _ hc] at hend
    rw [phi_uniq hn hu he, ← phi_uniq hn hc hend]
  have hok := okP_ring (t := t) (p := p) hs n 0 0
  rw [hself] at hok
  rw [hS, sumTo_congr (g := fun u => if u = nodeR k t (ringF S) 0 then (if okP k (k ^ t) p 0 S (nodeR k t (ringF S) 0) = true then 1 else 0) else 0) fun u hu => by
    by_cases e : u = nodeR k t (ringF S) 0
    · rw [if_pos e, e, hend]
      simp [unitE]
    · rw [if_neg e]
      have : ¬ endN k (k ^ t) S u = u := fun q => e (huq u hu q)
      simp [unitE, this]]
  rw [sumTo_one (fun _ => if okP k (k ^ t) p 0 S (nodeR k t (ringF S) 0) = true then 1 else 0) hc]
  by_cases h : okP k (k ^ t) p 0 S (nodeR k t (ringF S) 0) = true
  · rw [if_pos h, if_pos fun j hj => by have := hok.1 h j hj; simpa using this]
  · rw [if_neg h, if_neg fun q => h (hok.2 fun j hj => by have := q j hj; simpa using this)]
end Go.Proofs.YteneiianpghalaaDoor
