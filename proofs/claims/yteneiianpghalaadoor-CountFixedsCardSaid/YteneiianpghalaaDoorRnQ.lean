/- Plain: how many rings a ring comes from, and how many are their own image. -/
import Derived.Test.YteneiianpghalaaDoorRnP
namespace Go.Proofs.YteneiianpghalaaDoor
set_option linter.unusedVariables false

theorem ite_iff {p q : Prop} [Decidable p] [Decidable q] {a b : Nat} (h : p ↔ q) : (if p then a else b) = if q then a else b := by
  by_cases hp : p
  · rw [if_pos hp, if_pos (h.1 hp)]
  · rw [if_neg hp, if_neg fun hq => hp (h.2 hq)]
/-- a ring, turned by one cell -/
def rotL : List Int → List Int
  | [] => []
  | x :: s => s ++ [x]
theorem rotL_len (l : List Int) : (rotL l).length = l.length := by cases l <;> simp [rotL]
theorem ringF_rotL (l : List Int) (q : Int) : ringF (rotL l) q = ringF l (q + 1) := by
  cases l with
  | nil => simp [rotL, ringF]
  | cons x s =>
    unfold ringF
    rw [rotL_len]
    show (s ++ [x]).getD _ 0 = _
    obtain ⟨n, hn⟩ : ∃ n, s.length = n := ⟨_, rfl⟩
    rw [List.length_cons, hn]
    have h1 := Int.emod_nonneg q (show ((n + 1 : Nat) : Int) ≠ 0 by omega)
    have h2 := Int.emod_lt_of_pos q (show (0 : Int) < ((n + 1 : Nat) : Int) by omega)
    have h3 := Int.emod_add_mul_ediv q ((n + 1 : Nat) : Int)
    obtain ⟨d, hd⟩ : ∃ d : Nat, q % ((n + 1 : Nat) : Int) = (d : Int) := ⟨(q % ((n + 1 : Nat) : Int)).toNat, by omega⟩
    obtain ⟨e, he⟩ : ∃ e, q / ((n + 1 : Nat) : Int) = e := ⟨_, rfl⟩
    rw [hd] at h1 h2 h3 ⊢
    rw [he] at h3
    rw [Int.toNat_natCast]
    by_cases hdn : d < n
    · have h4 : (q + 1) % ((n + 1 : Nat) : Int) = ((d + 1 : Nat) : Int) := by
        rw [show q + 1 = ((d + 1 : Nat) : Int) + ((n + 1 : Nat) : Int) * e by omega, Int.add_mul_emod_self_left]
        exact Int.emod_eq_of_lt (by omega) (by omega)
      rw [h4, Int.toNat_natCast]
      have h5 : d < s.length := by omega
      simp [List.getD_eq_getElem?_getD, List.getElem?_append_left h5]
    · have hdn2 : d = n := by omega
      have h4 : (q + 1) % ((n + 1 : Nat) : Int) = 0 := by
        rw [show q + 1 = 0 + ((n + 1 : Nat) : Int) * (e + 1) by rw [Int.mul_add]; omega, Int.add_mul_emod_self_left]
        rfl
      rw [h4, hdn2, ← hn]
      simp [List.getD_eq_getElem?_getD]
def rotN : Nat → List Int → List Int
  | 0, l => l
  | r + 1, l => rotN r (rotL l)
theorem rotN_len : ∀ r l, (rotN r l).length = l.length
  | 0, l => rfl
  | r + 1, l => by show (rotN r (rotL l)).length = _; rw [rotN_len r, rotL_len]
theorem ringF_rotN : ∀ r l q, ringF (rotN r l) q = ringF l (q + (r : Int))
  | 0, l, q => by show ringF l q = _; congr 1; omega
  | r + 1, l, q => by
    show ringF (rotN r (rotL l)) q = _
    rw [ringF_rotN r, ringF_rotL]
    congr 1; omega
theorem sumW_last (k : Nat) : ∀ n (g : List Int → Nat), sumW k (n + 1) g = sumW k n fun s => sumTo k fun x => g (s ++ [((x : Nat) : Int)])
  | 0, g => rfl
  | n + 1, g => by
    show sumTo k (fun y => sumW k (n + 1) fun s => g (((y : Nat) : Int) :: s)) = sumTo k fun y => sumW k n fun s => sumTo k fun x => g ((((y : Nat) : Int) :: s) ++ [((x : Nat) : Int)])
    exact sumTo_congr fun y _ => sumW_last k n fun s => g (((y : Nat) : Int) :: s)
theorem sumW_rotL (k : Nat) : ∀ n (f : List Int → Nat), sumW k n f = sumW k n fun l => f (rotL l)
  | 0, f => rfl
  | n + 1, f => by
    rw [sumW_last, sumW_sumTo k n k fun x s => f (s ++ [((x : Nat) : Int)])]
    rfl
theorem sumW_rotN (k n : Nat) : ∀ r (f : List Int → Nat), sumW k n f = sumW k n fun l => f (rotN r l)
  | 0, f => rfl
  | r + 1, f => by
    rw [sumW_rotN k n r f, sumW_rotL k n fun l => f (rotN r l)]
    rfl
/-- THE NUMBER OF PREIMAGES OF A RING -/
theorem rings_count {k n r : Nat} {tb wl : List Int} (hk : 0 < k) (hn : 1 ≤ n) (hl : wl.length = n) : ringsC k (k ^ (2 * r)) (k ^ (2 * r) * k) n (fitW tb wl) (k ^ (2 * r)) = sumTo (k ^ n) fun i => if ringL k r tb (digsF k n i) = wl then 1 else 0 := by
  rw [ringsC_rings hk hn]
  have e1 : ∀ (s : Int → Int) (j : Nat), tb.getD (edgeR k (2 * r) s (j : Int)) 0 = img k r tb s ((j : Int) - (r : Int)) := fun s j => by
    unfold edgeR img
    congr 1
    exact winF_congr fun i _ => by congr 1; omega
  rw [sumTo_congr (g := fun i => (fun l : List Int => if ∀ j : Nat, j < n → img k r tb (ringF l) ((j : Int) - (r : Int)) = wl.getD j 0 then 1 else 0) (digsF k n i)) fun i _ => by
    refine ite_iff ?_
    constructor
    · intro h j hj
      have := of_decide_eq_true (h j hj)
      rwa [e1] at this
    · intro h j hj
      refine decide_eq_true ?_
      rw [e1]; exact h j hj]
  rw [← sumW_digs hk n fun l : List Int => if ∀ j : Nat, j < n → img k r tb (ringF l) ((j : Int) - (r : Int)) = wl.getD j 0 then 1 else 0]
  rw [sumW_rotN k n r, sumW_digs hk]
  refine sumTo_congr fun i _ => ?_
  obtain ⟨S, hS⟩ : ∃ S, digsF k n i = S := ⟨_, rfl⟩
  have hlen : S.length = n := by rw [← hS]; exact digsF_len k n i
  rw [hS]
  have e2 : ∀ j : Nat, img k r tb (ringF (rotN r S)) ((j : Int) - (r : Int)) = img k r tb (ringF S) (j : Int) := fun j => img_congr fun i _ => by
    rw [ringF_rotN]; congr 1; omega
  refine ite_iff ?_
  constructor
  · intro h
    apply List.ext_getElem
    · rw [hl, ← hlen]; exact valsF_len _ _ _
    · intro j h1 h2
      have h3 := h j (by omega)
      rw [e2] at h3
      have h4 : (ringL k r tb S).getD j 0 = wl.getD j 0 := by
        rw [← h3]
        unfold ringL
        rw [valsF_getD (by omega)]
        congr 1; omega
      simpa [h1, h2] using h4
  · intro h j hj
    rw [e2, ← h]
    unfold ringL
    rw [valsF_getD (by omega)]
    congr 1; omega
/-- THE NUMBER OF RINGS THAT ARE THEIR OWN IMAGE -/
theorem fixed_count {k n r : Nat} {tb : List Int} (hk : 0 < k) (hn : 1 ≤ n) : ringsC k (k ^ (2 * r)) (k ^ (2 * r) * k) n (fitF k (k ^ r) tb) (k ^ (2 * r)) = sumTo (k ^ n) fun i => if ringL k r tb (digsF k n i) = digsF k n i then 1 else 0 := by
  rw [ringsC_rings hk hn]
  refine sumTo_congr fun i hi => ?_
  obtain ⟨S, hS⟩ : ∃ S, digsF k n i = S := ⟨_, rfl⟩
  have hlen : S.length = n := by rw [← hS]; exact digsF_len k n i
  have hsym : ∀ x ∈ S, 0 ≤ x ∧ x < (k : Int) := by rw [← hS]; exact digsF_mem hk n i hi
  have hs : ∀ q, 0 ≤ ringF S q ∧ ringF S q < (k : Int) := ringF_range hk hsym
  rw [hS]
  have e1 : ∀ (j : Nat), tb.getD (edgeR k (2 * r) (ringF S) (j : Int)) 0 = img k r tb (ringF S) ((j : Int) - (r : Int)) := fun j => by
    unfold edgeR img
    congr 1
    exact winF_congr fun i _ => by congr 1; omega
  have e2 : ∀ j : Nat, ((edgeR k (2 * r) (ringF S) (j : Int) / k ^ r % k : Nat) : Int) = ringF S ((j : Int) - (r : Int)) := fun j => by
    obtain ⟨f, hf⟩ : ∃ f : Nat → Int, (fun i : Nat => ringF S ((j : Int) - ((2 * r : Nat) : Int) + (i : Int))) = f := ⟨_, rfl⟩
    have hfr : ∀ i, 0 ≤ f i ∧ f i < (k : Int) := fun i => by rw [← hf]; exact hs _
    have h1 : edgeR k (2 * r) (ringF S) (j : Int) = winF k f (r + 1) * k ^ r + winF k (fun i => f (r + 1 + i)) r := by
      unfold edgeR
      rw [hf, show 2 * r + 1 = (r + 1) + r by omega, winF_add]
    have h2 : winF k (fun i => f (r + 1 + i)) r < k ^ r := winF_lt fun i _ => hfr _
    have hkr : 0 < k ^ r := Nat.pow_pos hk
    have h3 : edgeR k (2 * r) (ringF S) (j : Int) / k ^ r = winF k f (r + 1) := by
      rw [h1, Nat.mul_comm, Nat.mul_add_div hkr, Nat.div_eq_of_lt h2, Nat.add_zero]
    rw [h3]
    show ((((winF k f r * k + (f r).toNat) % k : Nat)) : Int) = _
    have h4 := hfr r
    rw [Nat.mul_comm, Nat.mul_add_mod, Nat.mod_eq_of_lt (by omega)]
    have h5 : f r = ringF S ((j : Int) - (r : Int)) := by rw [← hf]; show ringF S _ = _; congr 1; omega
    rw [← h5]; omega
  have hl0 : 0 < S.length := by omega
  refine ite_iff ?_
  constructor
  · intro h
    have h0 : ∀ j : Nat, j < n → img k r tb (ringF S) ((j : Int) - (r : Int)) = ringF S ((j : Int) - (r : Int)) := fun j hj => by
      have := of_decide_eq_true (h j hj)
      rwa [e1, e2] at this
    apply List.ext_getElem
    · exact valsF_len _ _ _
    · intro i2 h1 h2
      have h3 : 0 ≤ ((i2 : Int) + (r : Int)) % (n : Int) := Int.emod_nonneg _ (by omega)
      have h4 : ((i2 : Int) + (r : Int)) % (n : Int) < (n : Int) := Int.emod_lt_of_pos _ (by omega)
      have h5 := Int.emod_add_mul_ediv ((i2 : Int) + (r : Int)) (n : Int)
      obtain ⟨j, hj⟩ : ∃ j : Nat, ((i2 : Int) + (r : Int)) % (n : Int) = (j : Int) := ⟨(((i2 : Int) + (r : Int)) % (n : Int)).toNat, by omega⟩
      obtain ⟨e, he⟩ : ∃ e, ((i2 : Int) + (r : Int)) / (n : Int) = e := ⟨_, rfl⟩
      rw [hj] at h3 h4 h5
      rw [he] at h5
      have h6 := h0 j (by omega)
      have hlL : (ringL k r tb S).length = n := by rw [← hlen]; exact valsF_len _ _ _
      rw [← ringF_image hl0] at h6
      rw [ringF_per (wl := ringL k r tb S) (i := (j : Int) - (r : Int)) (j := (i2 : Int)) (q := -e) (by rw [hlL, Int.mul_neg]; omega)] at h6
      rw [ringF_per (wl := S) (i := (j : Int) - (r : Int)) (j := (i2 : Int)) (q := -e) (by rw [hlen, Int.mul_neg]; omega)] at h6
      unfold ringF at h6
      rw [hlL, hlen, Int.emod_eq_of_lt (by omega) (by omega), Int.toNat_natCast] at h6
      simpa [h1, h2] using h6
  · intro h j hj
    refine decide_eq_true ?_
    rw [e1, e2, ← ringF_image hl0, h]
end Go.Proofs.YteneiianpghalaaDoor
