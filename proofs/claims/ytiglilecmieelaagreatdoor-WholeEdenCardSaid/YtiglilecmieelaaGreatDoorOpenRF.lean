/- Slices of numbers and rules as arguments, opened (for a seat with ErrF). -/
import Derived.Test.YtiglilecmieelaaGreatDoorOpenInts
import Derived.Test.YtiglilecmieelaaGreatDoorErrF
import Derived.Test.YtiglilecmieelaaGreatDoorSl
import Derived.Lib.SmallJoins
import Derived.Test.YtiglilecmieelaaGreatDoorRuleA
namespace Go.Proofs.YtiglilecmieelaaGreatDoor
open Go.RowKit Go.ChangeShapes Go.WideShapes Go.Deep
set_option linter.unusedVariables false
set_option maxRecDepth 100000

/-- what a struct's argument weighs, its parts weigh -/
theorem weights_in {H : Type} {ts : List TypeId} {ds parts : List (DataW H)} {j : Nat} {t : TypeId} {fs : Array Field} (hs : Tryz.prog.underlying t = some (.struct fs)) (hz : (DataW.weightsEach Tryz.prog ts ds).all (· ≤ reachBytes) = true) (ht : ts[j]? = some t) (hd : ds[j]? = some (.agg parts)) :
    (DataW.weightsEach Tryz.prog (fs.toList.map (·.type)) parts).all (· ≤ reachBytes) = true :=
  List.all_eq_true.2 fun x hx => List.all_eq_true.1 hz x (DataW.weights_mem_each ht hd x (by simp only [DataW.weights, hs]; exact hx))
/-- a slice of numbers, opened with its capacity -/
-- (with the numbers' own bounds)
theorem open_sl {H : Type} {enc : TypeId × Value → H} {w : World} {v : Value} {y : DataW H × List MemPlace} {m : Nat} {ts : List TypeId} {ds : List (DataW H)} {j : Nat}
    (g : DataW.trod enc Tryz.prog w 0 (fun _ => true) true m 22 [v] = some y) (hz : (DataW.weightsEach Tryz.prog ts ds).all (· ≤ reachBytes) = true) (ht : ts[j]? = some 22) (hd : ds[j]? = some y.1) :
    ∃ (a : Option Addr) (n c : Nat) (l : List Int), v = .slice a n c ∧ SlI w a n c l := by
  have key : ∃ a n c, v = .slice a n c := by
    rcases open_slice Tryz.underlying22 g with ⟨h0, _⟩ | ⟨ad, len, cap, _, _, _, _, h0, _⟩
    · cases h0; exact ⟨_, _, _, rfl⟩
    · cases h0; exact ⟨_, _, _, rfl⟩
  obtain ⟨a, n, c, rfl⟩ := key
  obtain ⟨l, e1, e2, e3, e4, _⟩ := open_intsl g
  have := cap_sized (e := 3) Tryz.underlying22 g hz ht hd
  rw [show Tryz.prog.bytesOf 3 = 8 from by kernel_rfl] at this
  exact ⟨a, n, c, l, rfl, ⟨e1.symm, e4⟩, e3, by omega, by unfold maxLen; omega, this.2⟩

theorem open_slB {H : Type} {enc : TypeId × Value → H} {w : World} {v : Value} {y : DataW H × List MemPlace} {m : Nat} {ts : List TypeId} {ds : List (DataW H)} {j : Nat}
    (g : DataW.trod enc Tryz.prog w 0 (fun _ => true) true m 22 [v] = some y) (hz : (DataW.weightsEach Tryz.prog ts ds).all (· ≤ reachBytes) = true) (ht : ts[j]? = some 22) (hd : ds[j]? = some y.1) :
    ∃ (a : Option Addr) (n c : Nat) (l : List Int), v = .slice a n c ∧ SlI w a n c l ∧ ∀ x ∈ l, -9223372036854775808 ≤ x ∧ x ≤ 9223372036854775807 := by
  have key : ∃ a n c, v = .slice a n c := by
    rcases open_slice Tryz.underlying22 g with ⟨h0, _⟩ | ⟨ad, len, cap, _, _, _, _, h0, _⟩
    · cases h0; exact ⟨_, _, _, rfl⟩
    · cases h0; exact ⟨_, _, _, rfl⟩
  obtain ⟨a, n, c, rfl⟩ := key
  obtain ⟨l, e1, e2, e3, e4, e5⟩ := open_intsl g
  have := cap_sized (e := 3) Tryz.underlying22 g hz ht hd
  rw [show Tryz.prog.bytesOf 3 = 8 from by kernel_rfl] at this
  exact ⟨a, n, c, l, rfl, ⟨⟨e1.symm, e4⟩, e3, by omega, by unfold maxLen; omega, this.2⟩, e5⟩
end Go.Proofs.YtiglilecmieelaaGreatDoor
namespace Go.Proofs.YtiglilecmieelaaGreatDoor
open Go.RowKit Go.ChangeShapes Go.WideShapes Go.Deep
set_option linter.unusedVariables false
set_option maxRecDepth 100000

theorem rule_underS : Tryz.prog.underlying 24 = some (.struct #[⟨ "K", 3, 0, false, "", "", 0⟩, ⟨ "R", 3, 1, false, "", "", 8⟩, ⟨ "Table", 22, 2, false, "", "", 16⟩]) := by kernel_rfl
theorem open_ruleS {H : Type} {enc : TypeId × Value → H} {w : World} {r : Reach} {b0 : Nat} {v : Value} {d : DataW H} {p : List MemPlace} {ts : List TypeId} {ds : List (DataW H)} {j : Nat}
    (hv : Value.okWide Tryz.prog w r b0 24 v) (h : DataW.Trod enc Tryz.prog w 0 (fun _ => true) true 24 v d p)
    (hz : (DataW.weightsEach Tryz.prog ts ds).all (· ≤ reachBytes) = true) (ht : ts[j]? = some 24) (hd : ds[j]? = some d) :
    ∃ (k r : Int) (a : Option Addr) (n c : Nat) (l : List Int), v = ruleV k r a n c ∧ SlI w a n c l := by
  obtain ⟨v0, v1, v2, y0, y1, y2, m, rfl, rfl, _, g0, g1, g2⟩ := Joins.open_agg3 rule_underS (by kernel_rfl) (by kernel_rfl) hv h
  obtain ⟨n0, r0, _, _⟩ := DataW.trod_int Tryz.underlying3 (show DataW.trod enc Tryz.prog w 0 (fun _ => true) true m 3 [v0] = some y0 from g0)
  obtain ⟨n1, r1, _, _⟩ := DataW.trod_int Tryz.underlying3 (show DataW.trod enc Tryz.prog w 0 (fun _ => true) true m 3 [v1] = some y1 from g1)
  cases r0; cases r1
  have hin := weights_in rule_underS hz ht hd
  obtain ⟨a, n, c, l, rfl, hL⟩ := open_sl (j := 2) g2 hin rfl rfl
  exact ⟨n0, n1, a, n, c, l, rfl, hL⟩
end Go.Proofs.YtiglilecmieelaaGreatDoor
