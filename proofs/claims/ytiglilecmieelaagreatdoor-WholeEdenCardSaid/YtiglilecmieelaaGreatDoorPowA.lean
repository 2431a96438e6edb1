/- Plain: tables that are told window by window. -/
import Derived.Test.YtiglilecmieelaaGreatDoorRowP
import Derived.Test.YtiglilecmieelaaGreatDoorRuleA
namespace Go.Proofs.YtiglilecmieelaaGreatDoor
set_option linter.unusedVariables false

def digP (k m n : Nat) : List Int := (List.range m).map fun q => ((n / k ^ (m - 1 - q) % k : Nat) : Int)
theorem digP_len (k m n : Nat) : (digP k m n).length = m := by simp [digP]
theorem digP_sym {k m n : Nat} (k1 : 1 ≤ k) : ∀ x ∈ digP k m n, 0 ≤ x ∧ x < (k : Int) := by
  intro x hx
  obtain ⟨q, _, rfl⟩ := List.mem_map.1 hx
  have := Nat.mod_lt (n / k ^ (m - 1 - q)) k1
  omega
theorem digP_win {k m : Nat} {f : Nat → Int} (k1 : 1 ≤ k) (hf : ∀ j, j < m → 0 ≤ f j ∧ f j < (k : Int)) : digP k m (winF k f m) = (List.range m).map f := by
  unfold digP
  apply List.map_congr_left
  intro q hq
  rw [List.mem_range] at hq
  have e : m = (q + 1) + (m - 1 - q) := by omega
  have h1 : winF k f m = winF k f (q + 1) * k ^ (m - 1 - q) + winF k (fun j => f (q + 1 + j)) (m - 1 - q) := by
    conv => lhs; rw [e]
    exact winF_add _
  have h2 : winF k (fun j => f (q + 1 + j)) (m - 1 - q) < k ^ (m - 1 - q) := winF_lt fun j hj => hf _ (by omega)
  have hp : 0 < k ^ (m - 1 - q) := Nat.pow_pos k1
  have h3 : winF k f m / k ^ (m - 1 - q) = winF k f (q + 1) := by
    rw [h1, Nat.mul_comm, Nat.mul_add_div hp, Nat.div_eq_of_lt h2, Nat.add_zero]
  rw [h3]
  show (((winF k f q * k + (f q).toNat) % k : Nat) : Int) = f q
  have h4 := hf q hq
  rw [Nat.mul_comm, Nat.mul_add_mod, Nat.mod_eq_of_lt (by omega)]
  omega
/-- the number that a window makes, and its symbol -/
def numL (k : Nat) (l : List Int) : Nat := winF k (fun j => l.getD j 0) l.length
def symL (k : Nat) (tb l : List Int) : Int := tb.getD (numL k l) 0
theorem symL_range {k : Nat} {tb l : List Int} (h : ∀ x ∈ tb, 0 ≤ x ∧ x < (k : Int)) (k1 : 1 ≤ k) : 0 ≤ symL k tb l ∧ symL k tb l < (k : Int) :=
  getD_all (P := fun x => 0 ≤ x ∧ x < (k : Int)) h ⟨by omega, by omega⟩ _
theorem img_sym (k r : Nat) (tb : List Int) (s : Int → Int) (i : Int) : img k r tb s i = symL k tb (valsF s (i - (r : Int)) (2 * r + 1)) := by
  unfold img symL numL
  rw [valsF_len]
  congr 1
  exact winF_congr fun j hj => (valsF_getD hj).symm
theorem numL_lt {k : Nat} {l : List Int} (h : ∀ x ∈ l, 0 ≤ x ∧ x < (k : Int)) : numL k l < k ^ l.length := winF_lt fun j hj => by
  have : l.getD j 0 = l[j] := by simp [hj]
  rw [this]; exact h _ (List.getElem_mem hj)

/-- the table that is told window by window -/
def madeT (k m : Nat) (F : List Int → Int) : List Int := (List.range (k ^ m)).map fun n => F (digP k m n)
theorem madeT_len (k m : Nat) (F : List Int → Int) : (madeT k m F).length = k ^ m := by simp [madeT]
theorem madeT_at {k m n : Nat} {F : List Int → Int} (h : n < k ^ m) : (madeT k m F).getD n 0 = F (digP k m n) := by simp [madeT, h]
theorem made_rule {k r : Nat} {F : List Int → Int} (k1 : 1 ≤ k) (k4 : k ≤ 4) (r3 : r ≤ 3) (hF : ∀ l, l.length = 2 * r + 1 → (∀ x ∈ l, 0 ≤ x ∧ x < (k : Int)) → 0 ≤ F l ∧ F l < (k : Int)) : IsRule k r (madeT k (2 * r + 1) F) := by
  refine ⟨k1, k4, r3, madeT_len _ _ _, fun x hx => ?_⟩
  obtain ⟨n, _, rfl⟩ := List.mem_map.1 hx
  exact hF _ (digP_len _ _ _) (digP_sym k1)
theorem made_img {k r : Nat} {F : List Int → Int} (k1 : 1 ≤ k) {s : Int → Int} (hs : ∀ i, 0 ≤ s i ∧ s i < (k : Int)) (i : Int) : img k r (madeT k (2 * r + 1) F) s i = F (valsF s (i - (r : Int)) (2 * r + 1)) := by
  unfold img
  rw [madeT_at (winF_lt fun j hj => hs _), digP_win k1 fun j hj => hs _]
  rfl
end Go.Proofs.YtiglilecmieelaaGreatDoor
