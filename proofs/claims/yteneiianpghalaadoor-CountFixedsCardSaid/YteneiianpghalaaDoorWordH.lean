/- Plain lemmas on a word's number, and on the word behind it. -/
import Derived.Test.YteneiianpghalaaDoorWordI
import Derived.Test.YteneiianpghalaaDoorWordE
namespace Go.Proofs.YteneiianpghalaaDoor
open Go.RowKit
set_option linter.unusedVariables false

theorem horn_fold (k : Nat) : ∀ (r : List Int) (s : Nat), r.foldl (fun s x => s * k + x.toNat) s = s * k ^ r.length + horn k r
  | [], s => by simp [horn]
  | x :: r, s => by
    have e : horn k (x :: r) = (0 * k + x.toNat) * k ^ r.length + horn k r := horn_fold k r _
    rw [e, List.foldl_cons, horn_fold k r, List.length_cons, Nat.pow_succ, Nat.zero_mul, Nat.zero_add, Nat.add_mul, Nat.mul_assoc, Nat.mul_comm k, Nat.add_assoc]
theorem horn_append (k : Nat) (l r : List Int) : horn k (l ++ r) = horn k l * k ^ r.length + horn k r := by
  unfold horn
  rw [List.foldl_append]
  exact horn_fold k r _
theorem horn_one (k : Nat) (x : Int) : horn k [x] = x.toNat := by simp [horn]
theorem horn_cons (k : Nat) (x : Int) (r : List Int) : horn k (x :: r) = x.toNat * k ^ r.length + horn k r := by
  have := horn_append k [x] r
  rwa [List.singleton_append, horn_one] at this
theorem horn_zeros (k n : Nat) : horn k (List.replicate n 0) = 0 := by
  induction n with
  | zero => rfl
  | succ n ih => rw [List.replicate_succ, horn_cons, ih]; simp
theorem horn_top {k : Nat} (hk : 1 ≤ k) (n : Nat) : horn k (List.replicate n ((k : Int) - 1)) + 1 = k ^ n := by
  induction n with
  | zero => simp [horn]
  | succ n ih =>
    rw [List.replicate_succ, horn_cons, List.length_replicate]
    have e : ((k : Int) - 1).toNat = k - 1 := by omega
    rw [e, Nat.pow_succ]
    obtain ⟨m, rfl⟩ : ∃ m, k = m + 1 := ⟨k - 1, by omega⟩
    rw [Nat.add_sub_cancel, Nat.mul_comm _ (m + 1), Nat.add_mul, Nat.one_mul]
    omega
/-- behind the last symbol that can go up all are the greatest -/
theorem top_tail {k : Nat} {l : List Int} {i : Nat} (hl : ∀ x ∈ l, 0 ≤ x ∧ x < (k : Int)) (h : ∀ j, i ≤ j → j < l.length → ¬ l.getD j 0 < (k : Int) - 1) : l.drop i = List.replicate (l.length - i) ((k : Int) - 1) := by
  apply List.ext_getElem
  · simp
  · intro j h1 h2
    rw [List.length_drop] at h1
    have a := h (i + j) (by omega) (by omega)
    have b := hl (l.getD (i + j) 0) (by simp [show i + j < l.length by omega])
    simp [show i + j < l.length by omega] at a b ⊢
    omega
theorem horn_bump {k : Nat} {l : List Int} {i : Nat} (hk : 1 ≤ k) (hl : ∀ x ∈ l, 0 ≤ x ∧ x < (k : Int)) (h : LastUp k l i) : horn k (bump l i) = horn k l + 1 := by
  obtain ⟨h1, h2, h3⟩ := h
  have e : l = l.take i ++ l.getD i 0 :: l.drop (i + 1) := by
    rw [show l.getD i 0 = l[i] by simp [h1], ← List.drop_eq_getElem_cons h1, List.take_append_drop]
  have ht := top_tail (i := i + 1) hl h3
  have hx := hl (l.getD i 0) (by simp [h1])
  have e2 : horn k l = horn k (l.take i) * k ^ (l.length - i) + ((l.getD i 0).toNat * k ^ (l.length - (i + 1)) + horn k (List.replicate (l.length - (i + 1)) ((k : Int) - 1))) := by
    conv => lhs; rw [e, horn_append, horn_cons, ht]
    simp
    rw [show l.length - (i + 1) + 1 = l.length - i by omega]
  unfold bump
  rw [horn_append, horn_cons, horn_zeros, e2, List.length_cons, List.length_replicate, show l.length - 1 - i + 1 = l.length - i by omega, show l.length - 1 - i = l.length - (i + 1) by omega]
  have := horn_top hk (l.length - (i + 1))
  rw [show (l.getD i 0 + 1).toNat = (l.getD i 0).toNat + 1 by omega, Nat.add_mul]
  omega
theorem horn_noUp {k : Nat} {l : List Int} (hk : 1 ≤ k) (hl : ∀ x ∈ l, 0 ≤ x ∧ x < (k : Int)) (h : NoUp k l) : horn k l + 1 = k ^ l.length := by
  have := top_tail (i := 0) hl fun j _ hj => h j hj
  rw [List.drop_zero, Nat.sub_zero] at this
  conv => lhs; rw [this]
  exact horn_top hk _
theorem bump_mem {k : Nat} {l : List Int} {i : Nat} (hl : ∀ x ∈ l, 0 ≤ x ∧ x < (k : Int)) (h : LastUp k l i) : ∀ x ∈ bump l i, 0 ≤ x ∧ x < (k : Int) := by
  obtain ⟨h1, h2, h3⟩ := h
  have hx := hl (l.getD i 0) (by simp [h1])
  intro x hm
  simp only [bump, List.mem_append, List.mem_cons, List.mem_replicate] at hm
  rcases hm with hm | rfl | ⟨_, rfl⟩
  · exact hl x (List.mem_of_mem_take hm)
  · omega
  · omega

/-- a word of a length is told by its number -/
theorem horn_inj {k : Nat} : ∀ {l v : List Int}, l.length = v.length → (∀ x ∈ l, 0 ≤ x ∧ x < (k : Int)) → (∀ x ∈ v, 0 ≤ x ∧ x < (k : Int)) → horn k l = horn k v → l = v
  | [], [], _, _, _, _ => rfl
  | x :: l, y :: v, he, hl, hv, hh => by
    have hx := hl x (by simp)
    have hy := hv y (by simp)
    have hll : l.length = v.length := by simpa using he
    have b1 := horn_lt (k := k) (l := l) fun z hz => hl z (by simp [hz])
    have b2 := horn_lt (k := k) (l := v) fun z hz => hv z (by simp [hz])
    rw [horn_cons, horn_cons, ← hll] at hh
    rw [← hll] at b2
    have ih := horn_inj hll (fun z hz => hl z (by simp [hz])) (fun z hz => hv z (by simp [hz]))
    generalize horn k l = p at *
    generalize horn k v = q at *
    generalize k ^ l.length = K at *
    have e1 : x.toNat = y.toNat := by
      rcases Nat.lt_trichotomy x.toNat y.toNat with h | h | h
      · have : (x.toNat + 1) * K ≤ y.toNat * K := Nat.mul_le_mul_right _ h
        rw [Nat.add_mul, Nat.one_mul] at this
        omega
      · exact h
      · have : (y.toNat + 1) * K ≤ x.toNat * K := Nat.mul_le_mul_right _ h
        rw [Nat.add_mul, Nat.one_mul] at this
        omega
    rw [e1] at hh
    have e2 : x = y := by omega
    rw [e2, ih (by omega)]
end Go.Proofs.YteneiianpghalaaDoor
