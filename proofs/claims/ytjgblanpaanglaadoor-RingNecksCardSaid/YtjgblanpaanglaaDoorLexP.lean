/- The order of lists (for seats without word.Cmp). -/
import Derived.ProofKit
namespace Go.Proofs.YtjgblanpaanglaaDoor
/-- the order of lists by their first place that differs -/
def lexI : List Int → List Int → Int
  | [], [] => 0
  | [], _ :: _ => -1
  | _ :: _, [] => 1
  | x :: a, y :: b => if x < y then -1 else if y < x then 1 else lexI a b
/-- -1, 0, 1 -/
def sgn (a b : Int) : Int := if a < b then -1 else if b < a then 1 else 0
theorem lexI_drop {l1 l2 : List Int} {k : Nat} (h1 : k < l1.length) (h2 : k < l2.length) : lexI (l1.drop k) (l2.drop k) = if sgn (l1.getD k 0) (l2.getD k 0) = 0 then lexI (l1.drop (k + 1)) (l2.drop (k + 1)) else sgn (l1.getD k 0) (l2.getD k 0) := by
  rw [List.drop_eq_getElem_cons h1, List.drop_eq_getElem_cons h2]
  simp only [lexI, sgn, List.getD_eq_getElem?_getD, List.getElem?_eq_getElem h1, List.getElem?_eq_getElem h2, Option.getD_some]
  by_cases a : l1[k] < l2[k]
  · simp [a]
  · by_cases b : l2[k] < l1[k]
    · simp [a, b]
    · simp [a, b]
theorem lexI_end1 {l1 l2 : List Int} {k : Nat} (h1 : k < l1.length) (h2 : l2.length ≤ k) : lexI (l1.drop k) (l2.drop k) = 1 := by
  rw [List.drop_eq_getElem_cons h1, List.drop_of_length_le h2]; rfl
theorem lexI_end2 {l1 l2 : List Int} {k : Nat} (h1 : l1.length ≤ k) (h2 : k < l2.length) : lexI (l1.drop k) (l2.drop k) = -1 := by
  rw [List.drop_eq_getElem_cons h2, List.drop_of_length_le h1]; rfl
theorem lexI_end0 {l1 l2 : List Int} {k : Nat} (h1 : l1.length ≤ k) (h2 : l2.length ≤ k) : lexI (l1.drop k) (l2.drop k) = 0 := by
  rw [List.drop_of_length_le h1, List.drop_of_length_le h2]; rfl

end Go.Proofs.YtjgblanpaanglaaDoor
