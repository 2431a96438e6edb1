/- Plain lemmas on words and their numbers: order, the word behind a word, digits. -/
import Derived.Test.YtgojdnffmkigaaaDoorWordI
import Derived.Test.YtgojdnffmkigaaaDoorWordJ
import Derived.Test.YtgojdnffmkigaaaDoorWordD
import Derived.Test.YtgojdnffmkigaaaDoorWordE
namespace Go.Proofs.YtgojdnffmkigaaaDoor
open Go.RowKit
set_option linter.unusedVariables false

theorem horn_fold (k : Nat) : ∀ (r : List Int) (s : Nat), r.foldl (fun s x => s * k + x.toNat) s = s * k ^ r.length + horn k r
  | [], s => by simp [horn]
  | x :: r, s => by
    have e : horn k (x :: r) = (0 * k + x.toNat) * k ^ r.length + horn k r := horn_fold k r _
    rw [e, List.foldl_cons, horn_fold k r, List.length_cons, Nat.pow_succ, Nat.zero_mul, Nat.zero_add, Nat.add_mul, Nat.mul_assoc, Nat.mul_comm k, Nat.add_assoc]
theorem horn_append (k : Nat) (l r : List Int) : horn k (l ++ r) = horn k l * k ^ r.length + horn k r := by
  unfold horn
  rw [List.foldl_append]
  exact horn_fold k r _
theorem horn_one (k : Nat) (x : Int) : horn k [x] = x.toNat := by simp [horn]
theorem horn_cons (k : Nat) (x : Int) (r : List Int) : horn k (x :: r) = x.toNat * k ^ r.length + horn k r := by
  have := horn_append k [x] r
  rwa [List.singleton_append, horn_one] at this
theorem horn_zeros (k n : Nat) : horn k (List.replicate n 0) = 0 := by
  induction n with
  | zero => rfl
  | succ n ih => rw [List.replicate_succ, horn_cons, ih]; simp
theorem horn_top {k : Nat} (hk : 1 ≤ k) (n : Nat) : horn k (List.replicate n ((k : Int) - 1)) + 1 = k ^ n := by
  induction n with
  | zero => simp [horn]
  | succ n ih =>
    rw [List.replicate_succ, horn_cons, List.length_replicate]
    have e : ((k : Int) - 1).toNat = k - 1 := by omega
    rw [e, Nat.pow_succ]
    obtain ⟨m, rfl⟩ : ∃ m, k = m + 1 := ⟨k - 1, by omega⟩
    rw [Nat.add_sub_cancel, Nat.mul_comm _ (m + 1), Nat.add_mul, Nat.one_mul]
    omega
/-- words of one length are ordered as their numbers -/
theorem lex_horn {k : Nat} : ∀ {l v : List Int}, l.length = v.length → (∀ x ∈ l, 0 ≤ x ∧ x < (k : Int)) → (∀ x ∈ v, 0 ≤ x ∧ x < (k : Int)) → lexI l v = cmpN (horn k l) (horn k v)
  | [], [], _, _, _ => by simp [lexI, cmpN]
  | x :: l, y :: v, he, hl, hv => by
    have hx := hl x (by simp)
    have hy := hv y (by simp)
    have hll : l.length = v.length := by simpa using he
    have ih := lex_horn hll (fun z hz => hl z (by simp [hz])) (fun z hz => hv z (by simp [hz]))
    have b1 := horn_lt (k := k) (l := l) fun z hz => hl z (by simp [hz])
    have b2 := horn_lt (k := k) (l := v) fun z hz => hv z (by simp [hz])
    rw [horn_cons, horn_cons, lexI, ← hll]
    rw [← hll] at b2
    generalize horn k l = p at *
    generalize horn k v = q at *
    generalize hK : k ^ l.length = K at *
    by_cases h1 : x < y
    · rw [if_pos h1]
      have : (x.toNat + 1) * K ≤ y.toNat * K := Nat.mul_le_mul_right _ (by omega)
      rw [Nat.add_mul, Nat.one_mul] at this
      unfold cmpN
      rw [if_pos (by omega)]
    · rw [if_neg h1]
      by_cases h2 : y < x
      · rw [if_pos h2]
        have : (y.toNat + 1) * K ≤ x.toNat * K := Nat.mul_le_mul_right _ (by omega)
        rw [Nat.add_mul, Nat.one_mul] at this
        unfold cmpN
        rw [if_neg (by omega), if_pos (by omega)]
      · rw [if_neg h2, ih]
        obtain rfl : x = y := by omega
        unfold cmpN
        generalize x.toNat * K = z
        simp only [Nat.add_lt_add_iff_left]
/-- Cmp by lengths and numbers -/
theorem cmpW_horn {k : Nat} {l v : List Int} (hl : ∀ x ∈ l, 0 ≤ x ∧ x < (k : Int)) (hv : ∀ x ∈ v, 0 ≤ x ∧ x < (k : Int)) :
    cmpW l v = if l.length < v.length then -1 else if v.length < l.length then 1 else cmpN (horn k l) (horn k v) := by
  unfold cmpW or2 sgn
  by_cases h1 : l.length < v.length
  · rw [if_pos (show ((l.length : Int) < (v.length : Int)) by omega), if_pos h1]; rfl
  · rw [if_neg (show ¬ ((l.length : Int) < (v.length : Int)) by omega), if_neg h1]
    by_cases h2 : v.length < l.length
    · rw [if_pos (show ((v.length : Int) < (l.length : Int)) by omega), if_pos h2]; rfl
    · rw [if_neg (show ¬ ((v.length : Int) < (l.length : Int)) by omega), if_neg h2, if_pos rfl]
      exact lex_horn (by omega) hl hv
theorem cmpN_bd (x y : Nat) : -1 ≤ cmpN x y ∧ cmpN x y ≤ 1 := by
  unfold cmpN; split
  · omega
  · split <;> omega
theorem cmpN_anti (x y : Nat) : cmpN x y = -cmpN y x := by
  unfold cmpN; split
  · rw [if_neg (by omega)]
  · split <;> rfl
theorem cmpN_lt {x y : Nat} (h : x < y) : cmpN x y = -1 := by unfold cmpN; rw [if_pos h]
theorem cmpN_self (x : Nat) : cmpN x x = 0 := by unfold cmpN; simp
theorem cmpN_le {x y : Nat} (h : x ≤ y) : cmpN x y ≤ 0 := by
  unfold cmpN; split
  · omega
  · rw [if_neg (by omega)]; omega
theorem cmpN_ge {x y : Nat} (h : y ≤ x) : 0 ≤ cmpN x y := by unfold cmpN; rw [if_neg (by omega)]; split <;> omega
theorem cmpW_anti {k : Nat} {l v : List Int} (hl : ∀ x ∈ l, 0 ≤ x ∧ x < (k : Int)) (hv : ∀ x ∈ v, 0 ≤ x ∧ x < (k : Int)) : cmpW l v = -cmpW v l := by
  rw [cmpW_horn hl hv, cmpW_horn hv hl]
  by_cases h1 : l.length < v.length
  · rw [if_pos h1, if_neg (show ¬ v.length < l.length by omega), if_pos h1]
  · rw [if_neg h1]
    by_cases h2 : v.length < l.length
    · rw [if_pos h2, if_pos h2]; rfl
    · rw [if_neg h2, if_neg h2, if_neg h1]; exact cmpN_anti _ _
theorem cmpW_bd {k : Nat} {l v : List Int} (hl : ∀ x ∈ l, 0 ≤ x ∧ x < (k : Int)) (hv : ∀ x ∈ v, 0 ≤ x ∧ x < (k : Int)) : -1 ≤ cmpW l v ∧ cmpW l v ≤ 1 := by
  rw [cmpW_horn hl hv]; split
  · omega
  · split
    · omega
    · exact cmpN_bd _ _

/-- behind the last symbol that can go up all are the greatest -/
theorem top_tail {k : Nat} {l : List Int} {i : Nat} (hl : ∀ x ∈ l, 0 ≤ x ∧ x < (k : Int)) (h : ∀ j, i ≤ j → j < l.length → ¬ l.getD j 0 < (k : Int) - 1) : l.drop i = List.replicate (l.length - i) ((k : Int) - 1) := by
  apply List.ext_getElem
  · simp
  · intro j h1 h2
    rw [List.length_drop] at h1
    have a := h (i + j) (by omega) (by omega)
    have b := hl (l.getD (i + j) 0) (by simp [show i + j < l.length by omega])
    simp [show i + j < l.length by omega] at a b ⊢
    omega
theorem horn_bump {k : Nat} {l : List Int} {i : Nat} (hk : 1 ≤ k) (hl : ∀ x ∈ l, 0 ≤ x ∧ x < (k : Int)) (h : LastUp k l i) : horn k (bump l i) = horn k l + 1 := by
  obtain ⟨h1, h2, h3⟩ := h
  have e : l = l.take i ++ l.getD i 0 :: l.drop (i + 1) := by
    rw [show l.getD i 0 = l[i] by simp [h1], ← List.drop_eq_getElem_cons h1, List.take_append_drop]
  have ht := top_tail (i := i + 1) hl h3
  have hx := hl (l.getD i 0) (by simp [h1])
  have e2 : horn k l = horn k (l.take i) * k ^ (l.length - i) + ((l.getD i 0).toNat * k ^ (l.length - (i + 1)) + horn k (List.replicate (l.length - (i + 1)) ((k : Int) - 1))) := by
    conv => lhs; rw [e, horn_append, horn_cons, ht]
    simp
    rw [show l.length - (i + 1) + 1 = l.length - i by omega]
  unfold bump
  rw [horn_append, horn_cons, horn_zeros, e2, List.length_cons, List.length_replicate, show l.length - 1 - i + 1 = l.length - i by omega, show l.length - 1 - i = l.length - (i + 1) by omega]
  have := horn_top hk (l.length - (i + 1))
  rw [show (l.getD i 0 + 1).toNat = (l.getD i 0).toNat + 1 by omega, Nat.add_mul]
  omega
theorem horn_noUp {k : Nat} {l : List Int} (hk : 1 ≤ k) (hl : ∀ x ∈ l, 0 ≤ x ∧ x < (k : Int)) (h : NoUp k l) : horn k l + 1 = k ^ l.length := by
  have := top_tail (i := 0) hl fun j _ hj => h j hj
  rw [List.drop_zero, Nat.sub_zero] at this
  conv => lhs; rw [this]
  exact horn_top hk _
theorem bump_mem {k : Nat} {l : List Int} {i : Nat} (hl : ∀ x ∈ l, 0 ≤ x ∧ x < (k : Int)) (h : LastUp k l i) : ∀ x ∈ bump l i, 0 ≤ x ∧ x < (k : Int) := by
  obtain ⟨h1, h2, h3⟩ := h
  have hx := hl (l.getD i 0) (by simp [h1])
  intro x hm
  simp only [bump, List.mem_append, List.mem_cons, List.mem_replicate] at hm
  rcases hm with hm | rfl | ⟨_, rfl⟩
  · exact hl x (List.mem_of_mem_take hm)
  · omega
  · omega

/-! ### digits -/
theorem horn_digs_take {k n I : Nat} : ∀ j, j ≤ n → horn k ((digs k n I).take j) = I / k ^ (n - j) % k ^ j
  | 0, _ => by simp [horn, Nat.mod_one]
  | j + 1, h => by
    rw [horn_take (by rw [digs_len]; omega), horn_digs_take j (by omega)]
    have e : ((digs k n I).getD j 0).toNat = I / k ^ (n - (j + 1)) % k := by
      have : (digs k n I).getD j 0 = ((dig k n I j : Nat) : Int) := by simp [digs, show j < n by omega]
      rw [this, Int.toNat_natCast]
      unfold dig
      rw [show n - 1 - j = n - (j + 1) by omega]
    rw [e, ← left_step (show j < n by omega), Nat.pow_succ, Nat.mul_comm (k ^ j) k, Nat.mod_mul, Nat.mul_comm k]
    omega
theorem horn_digs {k n I : Nat} (h : I < k ^ n) : horn k (digs k n I) = I := by
  have := horn_digs_take (k := k) (n := n) (I := I) n (Nat.le_refl _)
  rwa [List.take_of_length_le (by rw [digs_len]; exact Nat.le_refl _), Nat.sub_self, Nat.pow_zero, Nat.div_one, Nat.mod_eq_of_lt h] at this
theorem digs_mem {k n I : Nat} (hk : 1 ≤ k) : ∀ x ∈ digs k n I, 0 ≤ x ∧ x < (k : Int) := by
  intro x hx
  simp only [digs, List.mem_map, List.mem_range] at hx
  obtain ⟨q, _, rfl⟩ := hx
  have : dig k n I q < k := Nat.mod_lt _ hk
  omega
end Go.Proofs.YtgojdnffmkigaaaDoor
