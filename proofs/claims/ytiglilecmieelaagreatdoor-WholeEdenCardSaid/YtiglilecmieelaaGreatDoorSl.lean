/- Slices of numbers with their bounds; lists of numbers that the call owns. -/
import Derived.Test.YtiglilecmieelaaGreatDoorInts
import Derived.Test.YtiglilecmieelaaGreatDoorBase
namespace Go.Proofs.YtiglilecmieelaaGreatDoor
open Go.RowKit
set_option linter.unusedVariables false
set_option maxRecDepth 100000

theorem IsErr.base {B B' : Nat} {R : Nat → Addr} {w : World} {v : Value} {op : ByteArray} {at_ n : Int} (h : IsErr B R w v op at_ n) (hb : B' ≤ B) : IsErr B' R w v op at_ n := by
  obtain ⟨g, h1, h2, h3⟩ := h
  exact ⟨g, h1, Nat.le_trans hb h2, h3⟩

/-- a slice of numbers with its bounds -/
structure SlI (w : World) (a : Option Addr) (n c : Nat) (l : List Int) : Prop where
  rk : RK .i64 w a n l
  le : n ≤ c
  n8 : n * 8 ≤ 140737488351232
  mx : c ≤ maxLen
  nn : a = none → c = 0
theorem SlI.up {w w' : World} {a : Option Addr} {n c : Nat} {l : List Int} (h : SlI w a n c l) (hb : Below w.heap.size w w') : SlI w' a n c l := ⟨h.rk.up hb, h.le, h.n8, h.mx, h.nn⟩
theorem SlI.nm {w : World} {a : Option Addr} {n c : Nat} {l : List Int} (h : SlI w a n c l) : n ≤ maxLen := Nat.le_trans h.le h.mx
theorem SlI.nil {w : World} : SlI w none 0 0 [] := ⟨RK.nil, Nat.le_refl _, by decide, by decide, fun _ => rfl⟩
/-- a list of numbers that the call owns -/
structure OwI (w : World) (base : Nat) (a : Option Addr) (n c : Nat) (l : List Int) : Prop where
  own : w.ownsRow base 3 1 (.slice a n c) n (l.map (Value.int .i64))
theorem OwI.up {w w' : World} {base : Nat} {a : Option Addr} {n c : Nat} {l : List Int} (h : OwI w base a n c l) (hb : Below w.heap.size w w') : OwI w' base a n c l := ⟨owns_up h.own hb⟩
theorem OwI.base {w : World} {base b' : Nat} {a : Option Addr} {n c : Nat} {l : List Int} (h : OwI w base a n c l) (hb : b' ≤ base) : OwI w b' a n c l := ⟨owns_base h.own hb⟩
theorem OwI.nil (w : World) (base : Nat) : OwI w base none 0 0 [] := ⟨World.ownsRow_nil _ _ _ _⟩
theorem OwI.rk {w : World} {base : Nat} {a : Option Addr} {n c : Nat} {l : List Int} (h : OwI w base a n c l) : RK .i64 w a n l := RK.of_own h.own
theorem OwI.nnc {w : World} {base : Nat} {a : Option Addr} {n c : Nat} {l : List Int} (h : OwI w base a n c l) : n ≤ c ∧ c ≤ maxLen ∧ (a = none → c = 0) := by
  rcases h.own.2 with ⟨h1, _⟩ | ⟨g, cap, cur, h1, _, _, h3, h4, _⟩
  · cases h1; exact ⟨Nat.le_refl _, Nat.zero_le _, fun _ => rfl⟩
  · cases h1; exact ⟨h3, h4, fun e => by cases e⟩

theorem OwI.sl {w : World} {base : Nat} {a : Option Addr} {n c : Nat} {l : List Int} (h : OwI w base a n c l) (h8 : n * 8 ≤ 140737488351232) : SlI w a n c l := ⟨h.rk, h.nnc.1, h8, h.nnc.2.1, h.nnc.2.2⟩

end Go.Proofs.YtiglilecmieelaaGreatDoor
