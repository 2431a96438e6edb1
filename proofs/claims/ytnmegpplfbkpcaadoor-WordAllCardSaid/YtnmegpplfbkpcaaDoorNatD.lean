/- The contract of nat.Pow. -/
import Derived.Test.YtnmegpplfbkpcaaDoorNatC
import Derived.Test.YtnmegpplfbkpcaaDoorBase
namespace Go.Proofs.YtnmegpplfbkpcaaDoor
open Go.RowKit
set_option linter.unusedVariables false
set_option maxRecDepth 100000

theorem own_base {w : World} {base b' sz n : Nat} {e : TypeId} {v : Value} {cs : List Value} (h : w.ownsRow base e sz v n cs) (hb : b' ≤ base) : w.ownsRow b' e sz v n cs :=
  ⟨h.1, h.2.imp id fun ⟨g, cap, cur, e, hbg, rest⟩ => ⟨g, cap, cur, e, Nat.le_trans hb hbg, rest⟩⟩
theorem own_up {w w' : World} {base sz n : Nat} {e : TypeId} {v : Value} {cs : List Value} (h : w.ownsRow base e sz v n cs) (hb : Below w.heap.size w w') : w'.ownsRow base e sz v n cs := by
  refine ⟨h.1, ?_⟩
  rcases h.2 with hn | ⟨g', cap, cur, rfl, hbg, hg, rest⟩
  · exact .inl hn
  · refine .inr ⟨g', cap, cur, rfl, hbg, ?_, rest⟩
    have hlt : g' < w.heap.size := by
      rcases Nat.lt_or_ge g' w.heap.size with h1 | h1
      · exact h1
      · simp [h1] at hg
    rw [← hg]
    exact hb.block g' hlt
theorem limbs_len_le {x m : Nat} (h : x < B32 ^ m) : (limbs x).length ≤ m := by
  rcases Nat.lt_or_ge m (limbs x).length with h1 | h1
  · exfalso
    have hu : U32 (List.replicate m 4294967295) := fun y hy => by rw [List.eq_of_mem_replicate hy]; decide
    have e1 : val (List.replicate m 4294967295) + 1 = B32 ^ m := by
      clear h h1 hu
      induction m with
      | zero => rfl
      | succ m ih =>
        simp only [List.replicate_succ, val, Nat.pow_succ]
        rw [← ih, Nat.add_mul, Nat.mul_comm]
        show 4294967295 + _ + 1 = _ + 1 * 4294967296
        omega
    have e2 : limbs (val (List.replicate m 4294967295)) = List.replicate m 4294967295 := by
      rw [limbs_val hu]
      cases m with
      | zero => rfl
      | succ m =>
        rw [show m + 1 = m + 1 by rfl, List.replicate_succ', trim_snoc (by decide)]
    have := limbs_len_lt (x := val (List.replicate m 4294967295)) (y := x) (by rw [e2]; simpa using h1)
    omega
  · exact h1
theorem pow_len {k : Nat} (hk : k < B32) (e : Nat) : (limbs (k ^ e)).length ≤ e + 1 := by
  refine limbs_len_le ?_
  calc k ^ e ≤ B32 ^ e := Nat.pow_le_pow_left (Nat.le_of_lt hk) e
    _ < B32 ^ (e + 1) := Nat.pow_lt_pow_right (by decide) (by omega)

structure PowAt (W wr : World) (k n m e r : Nat) (a1 : Option Addr) (n1 c1 : Nat) (a2 : Option Addr) (n2 : Nat) (l2 : List Nat) : Prop where
  sum : r + m * e = n
  one : 1 ≤ e
  bv : val l2 = k ^ e
  bl : n2 ≤ e + 1
  nr : NR wr a2 n2 l2
  own : wr.ownsRow W.heap.size 73 1 (.slice a1 n1 c1) n1 ((ofN (limbs (k ^ r))).map (Value.int .u32))
  nv : NV wr a1 n1 c1 (k ^ r)
  bel : Below W.heap.size W wr
/-- one round: the product, if taken, then the square -/
theorem PowAt.odd {W wr w5 : World} {k n m e r : Nat} {a1 a2 a3 : Option Addr} {n1 c1 n2 n3 c3 : Nat} {l2 : List Nat} (h : PowAt W wr k n m e r a1 n1 c1 a2 n2 l2) (hm : m % 2 = 1)
    (ho : w5.ownsRow wr.heap.size 73 1 (.slice a3 n3 c3) n3 ((ofN (limbs (val (limbs (k ^ r)) * val l2))).map (Value.int .u32))) (hv : NV w5 a3 n3 c3 (val (limbs (k ^ r)) * val l2)) (hb : Below wr.heap.size wr w5) :
    PowAt W w5 k n (m - 1) e (r + e) a3 n3 c3 a2 n2 l2 := by
  rw [val_limbs, h.bv, ← Nat.pow_add] at ho hv
  refine ⟨?_, h.one, h.bv, h.bl, h.nr.up hb, own_base ho h.bel.size, hv, ?_⟩
  · have := h.sum
    obtain ⟨q, rfl⟩ : ∃ q, m = q + 1 := ⟨m - 1, by omega⟩
    rw [Nat.add_mul] at this
    simp only [Nat.add_sub_cancel]
    omega
  · exact h.bel.trans (hb.mono h.bel.size)
theorem PowAt.square {W wr w5 : World} {k n m e r : Nat} {a1 a2 a3 : Option Addr} {n1 c1 n2 n3 c3 : Nat} {l2 : List Nat} (h : PowAt W wr k n m e r a1 n1 c1 a2 n2 l2) (hm : m % 2 = 0) (hk : k < B32)
    (ho : w5.ownsRow wr.heap.size 73 1 (.slice a3 n3 c3) n3 ((ofN (limbs (val l2 * val l2))).map (Value.int .u32))) (hv : NV w5 a3 n3 c3 (val l2 * val l2)) (hb : Below wr.heap.size wr w5) :
    PowAt W w5 k n (m / 2) (e + e) r a1 n1 c1 a3 n3 (limbs (k ^ (e + e))) := by
  rw [h.bv, ← Nat.pow_add] at ho hv
  refine ⟨?_, by have := h.one; omega, val_limbs _, ?_, hv.nr, own_up h.own hb, h.nv.up hb, h.bel.trans (hb.mono h.bel.size)⟩
  · have := h.sum
    obtain ⟨q, rfl⟩ : ∃ q, m = q + q := ⟨m / 2, by omega⟩
    rw [show (q + q) / 2 = q by omega, Nat.mul_add]
    rw [Nat.add_mul] at this
    exact this
  · rw [hv.len]; exact pow_len hk _

end Go.Proofs.YtnmegpplfbkpcaaDoor
