/- Slices of numbers as walks hand them on; turns: plain laws. -/
import Derived.Test.YtgojdnffmkigaaaDoorWordT
import Derived.Test.YtgojdnffmkigaaaDoorWordU
import Derived.Test.YtgojdnffmkigaaaDoorLeast
import Derived.WalkKit
namespace Go.Proofs.YtgojdnffmkigaaaDoor
open Go.RowKit
set_option linter.unusedVariables false

/-- a slice reads as l; its capacity is in its bounds -/
structure Sl (k : IntKind) (w : World) (a : Option Addr) (n c : Nat) (l : List Int) : Prop where
  rk : RK k w a n l
  le : n ≤ c
  cm : c ≤ maxLen
  cap : a = none → c = 0
theorem Sl.up {k : IntKind} {w w' : World} {a : Option Addr} {n c : Nat} {l : List Int} (h : Sl k w a n c l) (hb : Below w.heap.size w w') : Sl k w' a n c l := ⟨h.rk.up hb, h.le, h.cm, h.cap⟩
theorem Sl.of_own {k : IntKind} {w : World} {base n c : Nat} {e : TypeId} {a : Option Addr} {l : List Int} (h : w.ownsRow base e 1 (.slice a n c) n (l.map (Value.int k))) : Sl k w a n c l := by
  obtain ⟨h1, h2, h3⟩ := own_cap h
  exact ⟨RK.of_own h, h1, h2, h3⟩
theorem Sl.len {k : IntKind} {w : World} {a : Option Addr} {n c : Nat} {l : List Int} (h : Sl k w a n c l) : n = l.length := h.rk.len

theorem turn_sl (a : Option Addr) (n c : Nat) (l : List Int) (t : Int) (W : World) (h : Sl .i64 W a n c l) (hn8 : n * 8 ≤ 140737488351232) :
    Calls Tryd.prog 21 #[.slice a n c, .int .i64 t] W fun e w' => ∃ a' c', e = .returned (.slice a' n c') ∧ Sl .i64 w' a' n c' (rot l (turnAt t n)) ∧ Below W.heap.size W w' :=
  (turn_any a n c l t W h.rk h.le hn8 h.cm h.cap).mono fun e w' hp => by
    obtain ⟨a', c', h1, h2, h3⟩ := hp
    exact ⟨a', c', h1, Sl.of_own h2, h3⟩
theorem back_sl (a : Option Addr) (n c : Nat) (l : List Int) (W : World) (h : Sl .i64 W a n c l) (hn8 : n * 8 ≤ 140737488351232) :
    Calls Tryd.prog 20 #[.slice a n c] W fun e w' => ∃ a' c', e = .returned (.slice a' n c') ∧ Sl .i64 w' a' n c' l.reverse ∧ Below W.heap.size W w' :=
  (back_any a n c l W h.rk hn8 h.le h.cap).mono fun e w' hp => by
    obtain ⟨a', c', h1, h2, h3⟩ := hp
    exact ⟨a', c', h1, Sl.of_own h2, h3⟩
theorem ints_sl (a1 a2 : Option Addr) (n1 n2 c1 c2 : Nat) (l1 l2 : List Int) (W : World) (h1 : RK .i64 W a1 n1 l1) (h2 : RK .i64 W a2 n2 l2) (he : l1 = l2) (hm : n2 * 8 ≤ 140737488351232) :
    Calls Tryd.prog 14 #[.slice a1 n1 c1, .slice a2 n2 c2] W fun e w' => e = .returned (.bool true) ∧ Below W.heap.size W w' := by
  subst he
  have := h2.len
  exact ints_eqB a1 a2 n1 n2 c1 c2 l1 W h1 h2 (by unfold maxLen; omega)

/-! ### plain laws of turns -/
theorem turnAt_add (m n : Int) (L : Nat) (hL : 0 < L) : (turnAt m L + turnAt n L) % L = turnAt (m + n) L := by
  have h1 := (turn_int m L hL).2
  have h2 : 0 ≤ m % (L : Int) := Int.emod_nonneg _ (by omega)
  have h3 : 0 ≤ n % (L : Int) := Int.emod_nonneg _ (by omega)
  have h4 : 0 ≤ (m + n) % (L : Int) := Int.emod_nonneg _ (by omega)
  have e := Int.add_emod m n L
  unfold turnAt
  have e2 : (((m % (L : Int)).toNat + (n % (L : Int)).toNat) % L : Nat) = ((m + n) % (L : Int)).toNat := by
    have : ((((m % (L : Int)).toNat + (n % (L : Int)).toNat) % L : Nat) : Int) = (((m + n) % (L : Int)).toNat : Int) := by
      rw [Int.natCast_emod, Int.natCast_add, Int.toNat_of_nonneg h2, Int.toNat_of_nonneg h3, Int.toNat_of_nonneg h4, ← e]
    omega
  exact e2
theorem turn_turn (l : List Int) (m n : Int) (hl : 0 < l.length) : rot (rot l (turnAt m l.length)) (turnAt n l.length) = rot l (turnAt (m + n) l.length) := by
  have h1 := (turn_int m l.length hl).2
  have h2 := (turn_int n l.length hl).2
  have := rot_rot l (turnAt m l.length) (turnAt n l.length) hl
  rw [Nat.mod_eq_of_lt h1, Nat.mod_eq_of_lt h2, turnAt_add _ _ _ hl] at this
  exact this
theorem rot_lt (l : List Int) (a b : Nat) (ha : a < l.length) (hb : b < l.length) : rot (rot l a) b = rot l ((a + b) % l.length) := by
  have := rot_rot l a b (by omega)
  rwa [Nat.mod_eq_of_lt ha, Nat.mod_eq_of_lt hb] at this
theorem least_turn {l : List Int} {t m m' : Nat} (ht : t < l.length) (h : IsLeast l m) (h' : IsLeast (rot l t) m') : rot (rot l t) m' = rot l m := by
  have hl : 0 < l.length := by omega
  have h'l := h'.lt
  rw [rot_len] at h'l
  have e1 := rot_lt l t m' ht h'l
  have a1 := h.le ((t + m') % l.length) (Nat.mod_lt _ hl)
  have hk : (m + l.length - t) % l.length < l.length := Nat.mod_lt _ hl
  have a2 := h'.le ((m + l.length - t) % l.length) (by rw [rot_len]; exact hk)
  have e2 := rot_lt l t _ ht hk
  have hm := h.lt
  have e3 : (t + (m + l.length - t) % l.length) % l.length = m := by
    rw [Nat.add_mod_mod, show t + (m + l.length - t) = m + l.length by omega, Nat.add_mod_right, Nat.mod_eq_of_lt hm]
  rw [e3] at e2
  rw [e2, e1, lexI_neg] at a2
  rw [e1]
  exact (lexI_zero (by omega)).symm
theorem rot_inj {l l' : List Int} {t : Nat} (hll : l.length = l'.length) (ht : t < l.length) (h : rot l t = rot l' t) : l = l' := by
  have hl : 0 < l.length := by omega
  have key : ∀ x : List Int, x.length = l.length → rot (rot x t) ((l.length - t) % l.length) = x := by
    intro x hx
    have := rot_lt x t ((l.length - t) % l.length) (by omega) (by rw [hx]; exact Nat.mod_lt _ hl)
    rw [this, hx, Nat.add_mod_mod, show t + (l.length - t) = l.length by omega, Nat.mod_self, rot_zero]
  rw [← key l rfl, h, key l' hll.symm]
theorem per_turn {l : List Int} {t q : Nat} (ht : t < l.length) (hq : 1 ≤ q) (hd : l.length % q = 0) : Per (rot l t) q ↔ Per l q := by
  have hl : 0 < l.length := by omega
  have hql := dvd_le hl hd
  rw [← rot_eq_iff hq hl hd, ← rot_eq_iff hq (by rw [rot_len]; exact hl) (by rw [rot_len]; exact hd)]
  have comm : rot (rot l t) q = rot (rot l q) t := by
    by_cases e : q = l.length
    · subst e
      rw [rot_full]
      have : (rot l t).length = l.length := rot_len l t
      rw [← this, rot_full]
    · rw [rot_lt l t q ht (by omega), rot_lt l q t (by omega) ht, Nat.add_comm]
  rw [comm]
  constructor
  · intro h
    exact rot_inj (rot_len l q) (by rw [rot_len]; exact ht) h
  · intro h
    rw [h]
theorem isPer_turn {l : List Int} {t p p' : Nat} (ht : t < l.length) (h : IsPer l p) (h' : IsPer (rot l t) p') : p' = p := by
  have hl : 0 < l.length := by omega
  have hl' : 0 < (rot l t).length := by rw [rot_len]; exact hl
  have d' := h'.dvd hl'
  rw [rot_len] at d'
  have a := h.least p' (h'.pos hl') d' ((per_turn ht (h'.pos hl') d').1 h'.per)
  have b := h'.least p (h.pos hl) (by rw [rot_len]; exact h.dvd hl) ((per_turn ht (h.pos hl) (h.dvd hl)).2 h.per)
  omega
theorem turn_per {l : List Int} {p : Nat} (hl : 0 < l.length) (h : IsPer l p) : rot l (turnAt (p : Int) l.length) = l := by
  have h1 := h.pos hl
  have h2 := h.dvd hl
  have h3 := dvd_le hl h2
  by_cases e : p = l.length
  · subst e
    have : turnAt (l.length : Int) l.length = 0 := by unfold turnAt; simp
    rw [this, rot_zero]
  · have : turnAt (p : Int) l.length = p := by
      unfold turnAt
      rw [Int.emod_eq_of_lt (by omega) (by omega)]
      omega
    rw [this]
    exact (rot_eq_iff h1 hl h2).2 h.per
end Go.Proofs.YtgojdnffmkigaaaDoor
