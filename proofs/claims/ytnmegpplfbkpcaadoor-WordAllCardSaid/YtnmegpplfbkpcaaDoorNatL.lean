/- Natural numbers as limbs of 32 bits, the lowest first: plain laws. -/
namespace Go.Proofs.YtnmegpplfbkpcaaDoor
set_option linter.unusedVariables false

abbrev B32 : Nat := 4294967296
def val : List Nat → Nat
  | [] => 0
  | x :: r => x + B32 * val r
def U32 (l : List Nat) : Prop := ∀ x ∈ l, x < B32
/-- without limbs 0 at the end -/
def trim : List Nat → List Nat
  | [] => []
  | x :: r => if trim r = [] ∧ x = 0 then [] else x :: trim r
def limbsF : Nat → Nat → List Nat
  | 0, _ => []
  | f + 1, n => if n = 0 then [] else n % B32 :: limbsF f (n / B32)
/-- a number's limbs -/
def limbs (n : Nat) : List Nat := limbsF n n

theorem limbsF_eq : ∀ (f g n : Nat), n ≤ f → n ≤ g → limbsF f n = limbsF g n := by
  intro f
  induction f with
  | zero =>
    intro g n h1 h2
    obtain rfl : n = 0 := by omega
    cases g <;> simp [limbsF]
  | succ f ih =>
    intro g n h1 h2
    cases g with
    | zero => obtain rfl : n = 0 := by omega
              simp [limbsF]
    | succ g =>
      simp only [limbsF]
      by_cases h : n = 0
      · rw [if_pos h, if_pos h]
      · rw [if_neg h, if_neg h]
        congr 1
        have : n / B32 < n := Nat.div_lt_self (by omega) (by decide)
        exact ih g _ (by omega) (by omega)
theorem limbs_zero : limbs 0 = [] := rfl
theorem limbs_pos {n : Nat} (h : n ≠ 0) : limbs n = n % B32 :: limbs (n / B32) := by
  unfold limbs
  cases n with
  | zero => exact absurd rfl h
  | succ n =>
    have : (n + 1) / B32 < n + 1 := Nat.div_lt_self (by omega) (by decide)
    conv => lhs; unfold limbsF
    rw [if_neg h]
    congr 1
    exact limbsF_eq _ _ _ (by omega) (Nat.le_refl _)
theorem val_limbs (n : Nat) : val (limbs n) = n := by
  induction n using Nat.strongRecOn with
  | ind n ih =>
    by_cases h : n = 0
    · subst h; rfl
    · rw [limbs_pos h]
      have hlt : n / B32 < n := Nat.div_lt_self (by omega) (by decide)
      simp only [val, ih _ hlt]
      exact Nat.mod_add_div n B32
theorem limbs_u32 (n : Nat) : U32 (limbs n) := by
  induction n using Nat.strongRecOn with
  | ind n ih =>
    by_cases h : n = 0
    · subst h; intro x hx; cases hx
    · rw [limbs_pos h]
      have hlt : n / B32 < n := Nat.div_lt_self (by omega) (by decide)
      intro x hx
      rcases List.mem_cons.1 hx with rfl | hx
      · exact Nat.mod_lt _ (by decide)
      · exact ih _ hlt x hx
theorem trim_val (l : List Nat) : val (trim l) = val l := by
  induction l with
  | nil => rfl
  | cons x r ih =>
    simp only [trim]
    split
    · rename_i h
      rw [h.1] at ih
      have e : val r = 0 := ih.symm
      show 0 = x + B32 * val r
      rw [e, h.2]; rfl
    · simp only [val, ih]
theorem val_zero {l : List Nat} (h : val l = 0) : trim l = [] := by
  induction l with
  | nil => rfl
  | cons x r ih =>
    simp only [val] at h
    have h1 : x = 0 := by omega
    have h2 : val r = 0 := by
      rcases Nat.eq_zero_or_pos (val r) with h3 | h3
      · exact h3
      · have : 0 < B32 * val r := Nat.mul_pos (by decide) h3
        omega
    simp only [trim]
    rw [if_pos ⟨ih h2, h1⟩]
theorem limbs_val {l : List Nat} (h : U32 l) : limbs (val l) = trim l := by
  induction l with
  | nil => rfl
  | cons x r ih =>
    have hx : x < B32 := h x (List.mem_cons_self ..)
    have hr := ih fun y hy => h y (List.mem_cons_of_mem _ hy)
    by_cases h0 : val (x :: r) = 0
    · rw [h0, val_zero h0, limbs_zero]
    · rw [limbs_pos h0]
      have e1 : val (x :: r) % B32 = x := by
        simp only [val]
        rw [Nat.add_mul_mod_self_left, Nat.mod_eq_of_lt hx]
      have e2 : val (x :: r) / B32 = val r := by
        simp only [val]
        rw [Nat.add_mul_div_left _ _ (by decide), Nat.div_eq_of_lt hx, Nat.zero_add]
      rw [e1, e2, hr]
      simp only [trim]
      rw [if_neg]
      rintro ⟨a, b⟩
      apply h0
      have := trim_val r
      rw [a] at this
      have e : val r = 0 := this.symm
      show x + B32 * val r = 0
      rw [e, b]; rfl

theorem trim_snoc_zero (l : List Nat) : trim (l ++ [0]) = trim l := by
  induction l with
  | nil => simp [trim]
  | cons x r ih => simp only [List.cons_append, trim, ih]
theorem trim_snoc {l : List Nat} {x : Nat} (h : x ≠ 0) : trim (l ++ [x]) = l ++ [x] := by
  induction l with
  | nil => simp [trim, h]
  | cons y r ih =>
    simp only [List.cons_append, trim, ih]
    rw [if_neg (fun hh => by simp at hh)]
theorem takeN_snoc {l : List Nat} {k : Nat} (h : k < l.length) : l.take (k + 1) = l.take k ++ [l.getD k 0] := by
  rw [List.take_succ_eq_append_getElem h]; simp [h]
theorem trim_take_zero {l : List Nat} {k : Nat} (h : k < l.length) (h0 : l.getD k 0 = 0) : trim (l.take (k + 1)) = trim (l.take k) := by
  rw [takeN_snoc h, h0, trim_snoc_zero]
theorem trim_take_pos {l : List Nat} {k : Nat} (h : k < l.length) (h0 : l.getD k 0 ≠ 0) : trim (l.take (k + 1)) = l.take (k + 1) := by
  rw [takeN_snoc h, trim_snoc h0]
theorem u32_take {l : List Nat} (h : U32 l) (k : Nat) : U32 (l.take k) := fun x hx => h x (List.mem_of_mem_take hx)
theorem u32_at {l : List Nat} (h : U32 l) (k : Nat) : l.getD k 0 < B32 := by
  by_cases hk : k < l.length
  · have := h l[k] (List.getElem_mem hk)
    simpa [hk] using this
  · simp [List.getD_eq_getElem?_getD, show l.length ≤ k by omega]
theorem u32_set {l : List Nat} (h : U32 l) (k : Nat) {x : Nat} (hx : x < B32) : U32 (l.set k x) := by
  intro y hy
  rcases List.mem_or_eq_of_mem_set hy with h1 | h1
  · exact h y h1
  · rw [h1]; exact hx
theorem u32_zeros (n : Nat) : U32 (List.replicate n 0) := fun x hx => by rw [List.eq_of_mem_replicate hx]; decide

theorem val_append (a b : List Nat) : val (a ++ b) = val a + B32 ^ a.length * val b := by
  induction a with
  | nil => simp [val]
  | cons x a ih =>
    simp only [List.cons_append, val, ih, List.length_cons, Nat.pow_succ]
    rw [Nat.mul_add, Nat.mul_comm (B32 ^ a.length) B32, Nat.mul_assoc]
    omega
theorem val_lt {l : List Nat} (h : U32 l) : val l < B32 ^ l.length := by
  induction l with
  | nil => simp [val]
  | cons x r ih =>
    have hx : x < B32 := h x (List.mem_cons_self ..)
    have hr := ih fun y hy => h y (List.mem_cons_of_mem _ hy)
    simp only [val, List.length_cons, Nat.pow_succ]
    have : B32 * (val r + 1) ≤ B32 * B32 ^ r.length := Nat.mul_le_mul_left _ hr
    rw [Nat.mul_comm (B32 ^ r.length)]
    rw [Nat.mul_add] at this
    omega
theorem val_take_succ (l : List Nat) (k : Nat) : val (l.take (k + 1)) = val (l.take k) + l.getD k 0 * B32 ^ k := by
  by_cases h : k < l.length
  · rw [takeN_snoc h, val_append]
    simp only [List.length_take, val, Nat.mul_zero, Nat.add_zero]
    rw [Nat.min_eq_left (by omega), Nat.mul_comm]
  · have e : l.getD k 0 = 0 := by simp [List.getD_eq_getElem?_getD, show l.length ≤ k by omega]
    rw [e, List.take_of_length_le (by omega), List.take_of_length_le (by omega)]
    simp
theorem val_set {l : List Nat} {k : Nat} (h : k < l.length) (x : Nat) : val (l.set k x) + l.getD k 0 * B32 ^ k = val l + x * B32 ^ k := by
  have e1 : l = l.take k ++ l.getD k 0 :: l.drop (k + 1) := by
    conv => lhs; rw [← List.take_append_drop k l, List.drop_eq_getElem_cons h]
    simp [h]
  have e2 : l.set k x = l.take k ++ x :: l.drop (k + 1) := by
    rw [List.set_eq_take_append_cons_drop, if_pos h]
  have hl : (l.take k).length = k := by simp; omega
  rw [e2]
  conv => rhs; rw [e1]
  rw [val_append, val_append, hl]
  simp only [val]
  rw [Nat.mul_add, Nat.mul_add, Nat.mul_comm (B32 ^ k) x, Nat.mul_comm (B32 ^ k) (l.getD k 0)]
  omega
theorem val_zeros (n : Nat) : val (List.replicate n 0) = 0 := by
  induction n with
  | zero => rfl
  | succ n ih => simp [List.replicate_succ, val, ih]

/-! ### comparison -/
def cmpN (x y : Nat) : Int := if x < y then -1 else if y < x then 1 else 0
theorem limbs_len_lt {x y : Nat} (h : (limbs x).length < (limbs y).length) : x < y := by
  have hx := val_lt (limbs_u32 x)
  rw [val_limbs] at hx
  have hy : B32 ^ ((limbs y).length - 1) ≤ y := by
    have : ∀ n, n ≠ 0 → B32 ^ ((limbs n).length - 1) ≤ n := by
      intro n
      induction n using Nat.strongRecOn with
      | ind n ih =>
        intro hn
        rw [limbs_pos hn, List.length_cons, Nat.add_sub_cancel]
        by_cases h1 : n / B32 = 0
        · rw [h1, limbs_zero]; simp; omega
        · have hlt : n / B32 < n := Nat.div_lt_self (by omega) (by decide)
          have h2 := ih _ hlt h1
          have h3 : 0 < (limbs (n / B32)).length := by rw [limbs_pos h1]; simp
          have e : (limbs (n / B32)).length = (limbs (n / B32)).length - 1 + 1 := by omega
          rw [e, Nat.pow_succ]
          have h4 : B32 ^ ((limbs (n / B32)).length - 1) * B32 ≤ n / B32 * B32 := Nat.mul_le_mul_right _ h2
          exact Nat.le_trans h4 (Nat.div_mul_le_self n B32)
    apply this
    intro e
    rw [e, limbs_zero] at h
    simp at h
  have : B32 ^ (limbs x).length ≤ B32 ^ ((limbs y).length - 1) := Nat.pow_le_pow_right (by decide) (by omega)
  omega
theorem val_cmp_top {a b : List Nat} {k : Nat} (ha : U32 a) (hb : U32 b) (hl : a.length = b.length) (hk : k < a.length) (hd : a.drop (k + 1) = b.drop (k + 1)) (hlt : a.getD k 0 < b.getD k 0) : val a < val b := by
  have e : ∀ l : List Nat, k < l.length → val l = val (l.take k) + B32 ^ k * (l.getD k 0 + B32 * val (l.drop (k + 1))) := by
    intro l hkl
    have e1 : l = l.take k ++ l.getD k 0 :: l.drop (k + 1) := by
      conv => lhs; rw [← List.take_append_drop k l, List.drop_eq_getElem_cons hkl]
      simp [hkl]
    conv => lhs; rw [e1]
    rw [val_append]
    have hl : (l.take k).length = k := by simp; omega
    rw [hl]; rfl
  rw [e a hk, e b (by omega), hd]
  have h1 := val_lt (u32_take ha k)
  have hl2 : (a.take k).length = k := by simp; omega
  rw [hl2] at h1
  have h2 : B32 ^ k * (a.getD k 0 + B32 * val (b.drop (k + 1)) + 1) ≤ B32 ^ k * (b.getD k 0 + B32 * val (b.drop (k + 1))) := Nat.mul_le_mul_left _ (by omega)
  rw [Nat.mul_add _ _ 1, Nat.mul_one] at h2
  omega
end Go.Proofs.YtnmegpplfbkpcaaDoor
