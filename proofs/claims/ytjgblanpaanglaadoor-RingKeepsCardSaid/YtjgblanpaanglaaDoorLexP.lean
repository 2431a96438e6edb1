/- The order of lists (for seats without word.Cmp). -/
import Derived.ProofKit
namespace Go.Proofs.YtjgblanpaanglaaDoor
/-- the order of lists by their first place that differs -/
def lexI : List Int → List Int → Int
  | [], [] => 0
  | [], _ :: _ => -1
  | _ :: _, [] => 1
  | x :: a, y :: b => if x < y then -1 else if y < x then 1 else lexI a b
end Go.Proofs.YtjgblanpaanglaaDoor
