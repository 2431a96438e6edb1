/- A slice of numbers within a struct's argument, opened with its capacity. -/
import Derived.Test.YtnmegpplfbkpcaaDoorOpenInts
import Derived.Test.YtnmegpplfbkpcaaDoorErrB
import Derived.Test.YtnmegpplfbkpcaaDoorSl
import Derived.Lib.SmallJoins
namespace Go.Proofs.YtnmegpplfbkpcaaDoor
open Go.RowKit Go.ChangeShapes Go.WideShapes Go.Deep
set_option linter.unusedVariables false
set_option maxRecDepth 100000

/-- what a struct's argument weighs, its parts weigh -/
theorem weights_in {H : Type} {ts : List TypeId} {ds parts : List (DataW H)} {j : Nat} {t : TypeId} {fs : Array Field} (hs : Tryd.prog.underlying t = some (.struct fs)) (hz : (DataW.weightsEach Tryd.prog ts ds).all (· ≤ reachBytes) = true) (ht : ts[j]? = some t) (hd : ds[j]? = some (.agg parts)) :
    (DataW.weightsEach Tryd.prog (fs.toList.map (·.type)) parts).all (· ≤ reachBytes) = true :=
  List.all_eq_true.2 fun x hx => List.all_eq_true.1 hz x (DataW.weights_mem_each ht hd x (by simp only [DataW.weights, hs]; exact hx))
/-- a slice of numbers, opened with its capacity -/
-- (with the numbers' own bounds)
theorem open_sl {H : Type} {enc : TypeId × Value → H} {w : World} {v : Value} {y : DataW H × List MemPlace} {m : Nat} {ts : List TypeId} {ds : List (DataW H)} {j : Nat}
    (g : DataW.trod enc Tryd.prog w 0 (fun _ => true) true m 22 [v] = some y) (hz : (DataW.weightsEach Tryd.prog ts ds).all (· ≤ reachBytes) = true) (ht : ts[j]? = some 22) (hd : ds[j]? = some y.1) :
    ∃ (a : Option Addr) (n c : Nat) (l : List Int), v = .slice a n c ∧ SlI w a n c l := by
  have key : ∃ a n c, v = .slice a n c := by
    rcases open_slice Tryd.underlying22 g with ⟨h0, _⟩ | ⟨ad, len, cap, _, _, _, _, h0, _⟩
    · cases h0; exact ⟨_, _, _, rfl⟩
    · cases h0; exact ⟨_, _, _, rfl⟩
  obtain ⟨a, n, c, rfl⟩ := key
  obtain ⟨l, e1, e2, e3, e4, _⟩ := open_intsl g
  have := cap_sized (e := 3) Tryd.underlying22 g hz ht hd
  rw [show Tryd.prog.bytesOf 3 = 8 from by kernel_rfl] at this
  exact ⟨a, n, c, l, rfl, ⟨e1.symm, e4⟩, e3, by omega, by unfold maxLen; omega, this.2⟩

theorem open_slB {H : Type} {enc : TypeId × Value → H} {w : World} {v : Value} {y : DataW H × List MemPlace} {m : Nat} {ts : List TypeId} {ds : List (DataW H)} {j : Nat}
    (g : DataW.trod enc Tryd.prog w 0 (fun _ => true) true m 22 [v] = some y) (hz : (DataW.weightsEach Tryd.prog ts ds).all (· ≤ reachBytes) = true) (ht : ts[j]? = some 22) (hd : ds[j]? = some y.1) :
    ∃ (a : Option Addr) (n c : Nat) (l : List Int), v = .slice a n c ∧ SlI w a n c l ∧ ∀ x ∈ l, -9223372036854775808 ≤ x ∧ x ≤ 9223372036854775807 := by
  have key : ∃ a n c, v = .slice a n c := by
    rcases open_slice Tryd.underlying22 g with ⟨h0, _⟩ | ⟨ad, len, cap, _, _, _, _, h0, _⟩
    · cases h0; exact ⟨_, _, _, rfl⟩
    · cases h0; exact ⟨_, _, _, rfl⟩
  obtain ⟨a, n, c, rfl⟩ := key
  obtain ⟨l, e1, e2, e3, e4, e5⟩ := open_intsl g
  have := cap_sized (e := 3) Tryd.underlying22 g hz ht hd
  rw [show Tryd.prog.bytesOf 3 = 8 from by kernel_rfl] at this
  exact ⟨a, n, c, l, rfl, ⟨⟨e1.symm, e4⟩, e3, by omega, by unfold maxLen; omega, this.2⟩, e5⟩
end Go.Proofs.YtnmegpplfbkpcaaDoor
