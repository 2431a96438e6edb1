import Derived.Test.YtiglilecmieelaaGreatDoorEdnB
/- Plain: the nodes behind a set, gathered one by one. -/
namespace Go.Proofs.YtiglilecmieelaaGreatDoor
set_option linter.unusedVariables false

section
variable (k n : Nat) (lab : Nat → Nat) (ms : List Nat) (s : Nat)
/-- gathered from the first j members, and from the next one by the first c symbols -/
def bhP (j c : Nat) : List Nat := (ms.take j).flatMap (behV k n lab s) ++ ((List.range c).filter fun c => lab (ms.getD j 0 * k + c) == s).map fun c => (ms.getD j 0 * k + c) % n
end
section
variable {k n : Nat} {lab : Nat → Nat} {ms : List Nat} {s : Nat}
theorem bhP_zero : bhP k n lab ms s 0 0 = [] := rfl
theorem bhP_succ (j c : Nat) : bhP k n lab ms s j (c + 1) = bhP k n lab ms s j c ++ (if lab (ms.getD j 0 * k + c) = s then [(ms.getD j 0 * k + c) % n] else []) := by
  unfold bhP
  rw [List.range_succ, List.filter_append, List.map_append, ← List.append_assoc]
  congr 1
  generalize ms.getD j 0 = v
  by_cases h : lab (v * k + c) = s
  · rw [if_pos h]; simp [h]
  · rw [if_neg h]; simp [h]
theorem bhP_next {j : Nat} (h : j < ms.length) : bhP k n lab ms s j k = bhP k n lab ms s (j + 1) 0 := by
  unfold bhP
  rw [List.take_succ_eq_append_getElem h, List.flatMap_append]
  have e : ms.getD j 0 = ms[j] := by rw [List.getD_eq_getElem?_getD, List.getElem?_eq_getElem h]; rfl
  rw [e]
  simp [behV]
theorem bhP_end : bhP k n lab ms s ms.length 0 = behB k n lab ms s := by
  unfold bhP behB
  rw [List.take_of_length_le (Nat.le_refl _)]
  simp
theorem behV_len (v : Nat) : (behV k n lab s v).length ≤ k := by
  unfold behV
  rw [List.length_map]
  exact Nat.le_trans (List.length_filter_le ..) (by simp)
theorem flat_lenB {α β : Type} (f : β → List α) (B : Nat) (h : ∀ x, (f x).length ≤ B) : ∀ l : List β, (l.flatMap f).length ≤ l.length * B
  | [] => by simp
  | x :: l => by
    have := flat_lenB f B h l
    have := h x
    rw [List.flatMap_cons, List.length_append, List.length_cons, Nat.add_mul]
    omega
theorem bhP_len {j c : Nat} (hj : j ≤ 256) (hk : k ≤ 4) (hc : c ≤ k) : (bhP k n lab ms s j c).length ≤ 1100 := by
  unfold bhP
  rw [List.length_append, List.length_map]
  have h1 := flat_lenB (behV k n lab s) k behV_len (ms.take j)
  have h2 : (ms.take j).length ≤ 256 := by rw [List.length_take]; omega
  have h3 : (ms.take j).length * k ≤ 256 * 4 := Nat.mul_le_mul h2 hk
  have h4 := List.length_filter_le (fun c => lab (ms.getD j 0 * k + c) == s) (List.range c)
  rw [List.length_range] at h4
  omega
theorem behB_lt (hn : 0 < n) {l : List Nat} : ∀ x ∈ behB k n lab l s, x < n := by
  intro x hx
  obtain ⟨v, _, c, _, _, rfl⟩ := behB_mem.1 hx
  exact Nat.mod_lt _ hn
theorem memB_lt {n m : Nat} : ∀ x ∈ memB n m, x < n := fun x hx => (memB_mem.1 hx).1
end
end Go.Proofs.YtiglilecmieelaaGreatDoor
