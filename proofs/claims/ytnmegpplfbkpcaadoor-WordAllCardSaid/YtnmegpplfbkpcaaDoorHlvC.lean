/- Plain: numbers compared and divided by their halves of 16 bits. -/
import Derived.Test.YtnmegpplfbkpcaaDoorHlvA
namespace Go.Proofs.YtnmegpplfbkpcaaDoor
set_option linter.unusedVariables false
theorem hlv_low : ∀ n : Nat, n ≠ 0 → 65536 ^ ((hlv n).length - 1) ≤ n := by
  intro n
  induction n using Nat.strongRecOn with
  | ind n ih =>
    intro hn
    rw [hlv_pos hn, List.length_cons, Nat.add_sub_cancel]
    by_cases h1 : n / 65536 = 0
    · rw [h1, hlv_zero]; simp; omega
    · have hlt : n / 65536 < n := Nat.div_lt_self (by omega) (by decide)
      have h2 := ih _ hlt h1
      have h3 : 0 < (hlv (n / 65536)).length := by rw [hlv_pos h1]; simp
      have e : (hlv (n / 65536)).length = (hlv (n / 65536)).length - 1 + 1 := by omega
      rw [e, Nat.pow_succ]
      have h4 : 65536 ^ ((hlv (n / 65536)).length - 1) * 65536 ≤ n / 65536 * 65536 := Nat.mul_le_mul_right _ h2
      exact Nat.le_trans h4 (Nat.div_mul_le_self n 65536)
theorem hlv_len_lt {x y : Nat} (h : (hlv x).length < (hlv y).length) : x < y := by
  have hx := v16_lt (hlv_h16 x)
  rw [v16_hlv] at hx
  have hy : 65536 ^ ((hlv y).length - 1) ≤ y := by
    apply hlv_low
    intro e
    rw [e, hlv_zero] at h
    simp at h
  have : 65536 ^ (hlv x).length ≤ 65536 ^ ((hlv y).length - 1) := Nat.pow_le_pow_right (by decide) (by omega)
  omega
theorem v16_cut (l : List Nat) (k : Nat) (hkl : k < l.length) : v16 l = v16 (l.take k) + 65536 ^ k * (l.getD k 0 + 65536 * v16 (l.drop (k + 1))) := by
  have e1 : l = l.take k ++ l.getD k 0 :: l.drop (k + 1) := by
    conv => lhs; rw [← List.take_append_drop k l, List.drop_eq_getElem_cons hkl]
    simp [hkl]
  conv => lhs; rw [e1]
  rw [v16_append]
  have hl : (l.take k).length = k := by simp; omega
  rw [hl]; rfl
theorem v16_cmp_top {a b : List Nat} {k : Nat} (ha : H16 a) (hb : H16 b) (hl : a.length = b.length) (hk : k < a.length) (hd : a.drop (k + 1) = b.drop (k + 1)) (hlt : a.getD k 0 < b.getD k 0) : v16 a < v16 b := by
  rw [v16_cut a k hk, v16_cut b k (by omega), hd]
  have h1 := v16_lt (h16_take ha k)
  have hl2 : (a.take k).length = k := by simp; omega
  rw [hl2] at h1
  have h2 : 65536 ^ k * (a.getD k 0 + 65536 * v16 (b.drop (k + 1)) + 1) ≤ 65536 ^ k * (b.getD k 0 + 65536 * v16 (b.drop (k + 1))) := Nat.mul_le_mul_left _ (by omega)
  rw [Nat.mul_add _ _ 1, Nat.mul_one] at h2
  omega
/-- places k and above are divided -/
structure OverH (la cur : List Nat) (d k r : Nat) : Prop where
  len : cur.length = la.length
  u : H16 cur
  lt : r < d
  eq : v16 (la.drop k) = v16 (cur.drop k) * d + r
theorem overH_step {la cur : List Nat} {d k r : Nat} (h : OverH la cur d (k + 1) r) (hk : k < la.length) (ha : H16 la) :
    OverH la (cur.set k ((r * 65536 + la.getD k 0) / d)) d k ((r * 65536 + la.getD k 0) % d) := by
  have ux := h16_at ha k
  have hlt : (r * 65536 + la.getD k 0) / d < 65536 := by
    refine Nat.div_lt_of_lt_mul ?_
    have : (r + 1) * 65536 ≤ d * 65536 := Nat.mul_le_mul_right _ h.lt
    rw [Nat.add_mul] at this
    omega
  refine ⟨by simpa using h.len, h16_set h.u _ hlt, Nat.mod_lt _ (Nat.lt_of_le_of_lt (Nat.zero_le _) h.lt), ?_⟩
  have e1 : la.drop k = la.getD k 0 :: la.drop (k + 1) := by
    rw [List.drop_eq_getElem_cons hk]; simp [hk]
  have hkc : k < cur.length := by rw [h.len]; exact hk
  have e2 : (cur.set k ((r * 65536 + la.getD k 0) / d)).drop k = (r * 65536 + la.getD k 0) / d :: cur.drop (k + 1) := by
    rw [List.set_eq_take_append_cons_drop, if_pos hkc, List.drop_append_of_le_length (by simp; omega)]
    simp
  rw [e1, e2]
  simp only [v16]
  rw [h.eq]
  have e := Nat.mod_add_div (r * 65536 + la.getD k 0) d
  generalize la.getD k 0 = x at *
  generalize v16 (cur.drop (k + 1)) = v at *
  generalize hq : (r * 65536 + x) / d = q at *
  generalize (r * 65536 + x) % d = m at *
  rw [Nat.mul_add, Nat.add_mul, ← Nat.mul_assoc]
  rw [Nat.mul_comm d q] at e
  generalize q * d = q1 at *
  generalize 65536 * v * d = q2 at *
  omega
theorem overH_end {la cur : List Nat} {d r : Nat} (h : OverH la cur d 0 r) : v16 cur = v16 la / d ∧ r = v16 la % d := by
  have e := h.eq
  simp only [List.drop_zero] at e
  have hd : 0 < d := Nat.lt_of_le_of_lt (Nat.zero_le _) h.lt
  rw [e, Nat.mul_comm]
  constructor
  · rw [Nat.mul_add_div hd, Nat.div_eq_of_lt h.lt, Nat.add_zero]
  · rw [Nat.mul_add_mod, Nat.mod_eq_of_lt h.lt]
theorem overH_start (la : List Nat) {d : Nat} (hd : 0 < d) : OverH la (List.replicate la.length 0) d la.length 0 :=
  ⟨by simp, h16_zeros _, hd, by rw [List.drop_of_length_le (by simp), List.drop_of_length_le (by simp)]; simp [v16]⟩
end Go.Proofs.YtnmegpplfbkpcaaDoor
