/- A patch's columns as numbers (plain). -/
import Derived.Test.YtocfkmdoalhjmaaDoorPatP
namespace Go.Proofs.YtocfkmdoalhjmaaDoor
set_option linter.unusedVariables false

def cellN (w : Nat) (l : List Int) (x y : Nat) : Nat := (atL w l x y).toNat
/-- a column's number: its first k lines -/
def colV (w : Nat) (l : List Int) (x : Nat) : Nat → Nat
  | 0 => 0
  | y + 1 => colV w l x y + cellN w l x y * 2 ^ y
theorem cellN_le {w h : Nat} {l : List Int} (hp : IsPatch w h l) {x y : Nat} (hx : x < w) (hy : y < h) : cellN w l x y ≤ 1 ∧ (cellN w l x y : Int) = atL w l x y := by
  have := atL_sym hp hx hy
  unfold cellN
  omega
theorem colV_lt {w h : Nat} {l : List Int} (hp : IsPatch w h l) {x : Nat} (hx : x < w) : ∀ k, k ≤ h → colV w l x k < 2 ^ k
  | 0, _ => Nat.one_pos
  | k + 1, hk => by
    have h1 := colV_lt hp hx k (by omega)
    have h2 := (cellN_le hp hx (show k < h by omega)).1
    have h3 : cellN w l x k * 2 ^ k ≤ 1 * 2 ^ k := Nat.mul_le_mul_right _ h2
    rw [colV, Nat.pow_succ]
    omega
def colL (w h : Nat) (l : List Int) : List Int := (List.range w).map fun x => (colV w l x h : Int)
theorem colL_len (w h : Nat) (l : List Int) : (colL w h l).length = w := by simp [colL]
/-- the columns as far as i cells have been told -/
def parL (w : Nat) (l : List Int) (i : Nat) : List Int := (List.range w).map fun x => (colV w l x (i / w + if x < i % w then 1 else 0) : Int)
theorem parL_len (w : Nat) (l : List Int) (i : Nat) : (parL w l i).length = w := by simp [parL]
theorem parL_zero (w : Nat) (l : List Int) : parL w l 0 = List.replicate w 0 := by
  apply List.ext_getElem
  · simp [parL]
  · intro x h1 h2
    simp [parL, colV]
theorem parL_all {w h : Nat} {l : List Int} (hw : 0 < w) : parL w l (w * h) = colL w h l := by
  unfold parL colL
  apply List.map_congr_left
  intro x _
  rw [Nat.mul_div_cancel_left _ hw, Nat.mul_mod_right]
  simp
theorem parL_getD {w : Nat} {l : List Int} {i : Nat} (hw : 0 < w) : (parL w l i)[i % w]? = some (colV w l (i % w) (i / w) : Int) := by
  have := Nat.mod_lt i hw
  simp [parL, this]
theorem succ_div {w i : Nat} (hw : 0 < w) : (i % w + 1 < w ∧ (i + 1) / w = i / w ∧ (i + 1) % w = i % w + 1) ∨ (i % w + 1 = w ∧ (i + 1) / w = i / w + 1 ∧ (i + 1) % w = 0) := by
  have hx := Nat.mod_lt i hw
  have e := Nat.div_add_mod i w
  by_cases h : i % w + 1 < w
  · refine .inl ⟨h, ?_, ?_⟩
    · rw [show i + 1 = w * (i / w) + (i % w + 1) by omega, Nat.mul_add_div hw, Nat.div_eq_of_lt h, Nat.add_zero]
    · rw [show i + 1 = w * (i / w) + (i % w + 1) by omega, Nat.mul_add_mod, Nat.mod_eq_of_lt h]
  · have e2 : i + 1 = w * (i / w + 1) := by rw [Nat.mul_add, Nat.mul_one]; omega
    refine .inr ⟨by omega, ?_, ?_⟩
    · rw [e2, Nat.mul_div_cancel_left _ hw]
    · rw [e2, Nat.mul_mod_right]
theorem parL_set {w : Nat} {l : List Int} {i : Nat} (hw : 0 < w) : (parL w l i).set (i % w) ((colV w l (i % w) (i / w) + cellN w l (i % w) (i / w) * 2 ^ (i / w) : Nat) : Int) = parL w l (i + 1) := by
  have hX := Nat.mod_lt i hw
  apply List.ext_getElem
  · simp [parL]
  · intro x h1 h2
    rw [parL_len] at h2
    rw [List.getElem_set]
    simp only [parL, List.getElem_map, List.getElem_range]
    rcases succ_div (i := i) hw with ⟨c, e1, e2⟩ | ⟨c, e1, e2⟩
    · rw [e1, e2]
      split
      · rename_i e
        subst e
        rw [if_pos (by omega)]
        rfl
      · by_cases hxx : x < i % w
        · rw [if_pos hxx, if_pos (show x < i % w + 1 by omega)]
        · rw [if_neg hxx, if_neg (show ¬ x < i % w + 1 by omega)]
    · rw [e1, e2]
      split
      · rename_i e
        subst e
        rfl
      · rw [if_pos (by omega), if_neg (by omega), Nat.add_zero]
end Go.Proofs.YtocfkmdoalhjmaaDoor
