/- Plain: numbers as halves of 16 bits: values of lists of halves. -/
import Derived.Test.YtnmegpplfbkpcaaDoorHlv
namespace Go.Proofs.YtnmegpplfbkpcaaDoor
set_option linter.unusedVariables false
def v16 : List Nat → Nat
  | [] => 0
  | x :: r => x + 65536 * v16 r
def H16 (l : List Nat) : Prop := ∀ x ∈ l, x < 65536
theorem v16_hlv (n : Nat) : v16 (hlv n) = n := by
  induction n using Nat.strongRecOn with
  | ind n ih =>
    by_cases h : n = 0
    · subst h; rfl
    · rw [hlv_pos h]
      have hlt : n / 65536 < n := Nat.div_lt_self (by omega) (by decide)
      simp only [v16, ih _ hlt]
      omega
theorem trim_v16 (l : List Nat) : v16 (trim l) = v16 l := by
  induction l with
  | nil => rfl
  | cons x r ih =>
    simp only [trim]
    split
    · rename_i h
      rw [h.1] at ih
      have e : v16 r = 0 := ih.symm
      show 0 = x + 65536 * v16 r
      rw [e, h.2]
    · simp only [v16, ih]
theorem v16_zero {l : List Nat} (h : v16 l = 0) : trim l = [] := by
  induction l with
  | nil => rfl
  | cons x r ih =>
    simp only [v16] at h
    have h1 : x = 0 := by omega
    have h2 : v16 r = 0 := by omega
    simp only [trim]
    rw [if_pos ⟨ih h2, h1⟩]
theorem hlv_v16 {l : List Nat} (h : H16 l) : hlv (v16 l) = trim l := by
  induction l with
  | nil => rfl
  | cons x r ih =>
    have hx : x < 65536 := h x (List.mem_cons_self ..)
    have hr := ih fun y hy => h y (List.mem_cons_of_mem _ hy)
    by_cases h0 : v16 (x :: r) = 0
    · rw [h0, v16_zero h0, hlv_zero]
    · rw [hlv_pos h0]
      have e1 : v16 (x :: r) % 65536 = x := by simp only [v16]; omega
      have e2 : v16 (x :: r) / 65536 = v16 r := by simp only [v16]; omega
      rw [e1, e2, hr]
      simp only [trim]
      rw [if_neg]
      rintro ⟨a, b⟩
      apply h0
      have := trim_v16 r
      rw [a] at this
      have e : v16 r = 0 := this.symm
      show x + 65536 * v16 r = 0
      rw [e, b]
theorem h16_take {l : List Nat} (h : H16 l) (k : Nat) : H16 (l.take k) := fun x hx => h x (List.mem_of_mem_take hx)
theorem h16_at {l : List Nat} (h : H16 l) (k : Nat) : l.getD k 0 < 65536 := by
  by_cases hk : k < l.length
  · have := h l[k] (List.getElem_mem hk)
    simpa [hk] using this
  · simp [List.getD_eq_getElem?_getD, show l.length ≤ k by omega]
theorem h16_set {l : List Nat} (h : H16 l) (k : Nat) {x : Nat} (hx : x < 65536) : H16 (l.set k x) := by
  intro y hy
  rcases List.mem_or_eq_of_mem_set hy with h1 | h1
  · exact h y h1
  · rw [h1]; exact hx
theorem h16_zeros (n : Nat) : H16 (List.replicate n 0) := fun x hx => by rw [List.eq_of_mem_replicate hx]; decide
theorem h16_app {a b : List Nat} (h : H16 a) (k : H16 b) : H16 (a ++ b) := fun x hx => by
  rcases List.mem_append.1 hx with h1 | h1
  · exact h x h1
  · exact k x h1
theorem h16_one {x : Nat} (h : x < 65536) : H16 [x] := fun y hy => by rw [List.mem_singleton.1 hy]; exact h
theorem v16_append (a b : List Nat) : v16 (a ++ b) = v16 a + 65536 ^ a.length * v16 b := by
  induction a with
  | nil => simp [v16]
  | cons x a ih =>
    simp only [List.cons_append, v16, ih, List.length_cons, Nat.pow_succ]
    rw [Nat.mul_add, Nat.mul_comm (65536 ^ a.length) 65536, Nat.mul_assoc]
    omega
theorem v16_lt {l : List Nat} (h : H16 l) : v16 l < 65536 ^ l.length := by
  induction l with
  | nil => simp [v16]
  | cons x r ih =>
    have hx : x < 65536 := h x (List.mem_cons_self ..)
    have hr := ih fun y hy => h y (List.mem_cons_of_mem _ hy)
    simp only [v16, List.length_cons, Nat.pow_succ]
    generalize 65536 ^ r.length = P at *
    omega
theorem v16_take_succ (l : List Nat) (k : Nat) : v16 (l.take (k + 1)) = v16 (l.take k) + l.getD k 0 * 65536 ^ k := by
  by_cases h : k < l.length
  · rw [takeN_snoc h, v16_append]
    simp only [List.length_take, v16, Nat.mul_zero, Nat.add_zero]
    rw [Nat.min_eq_left (by omega), Nat.mul_comm]
  · have e : l.getD k 0 = 0 := by simp [List.getD_eq_getElem?_getD, show l.length ≤ k by omega]
    rw [e, List.take_of_length_le (by omega), List.take_of_length_le (by omega)]
    simp
theorem v16_set {l : List Nat} {k : Nat} (h : k < l.length) (x : Nat) : v16 (l.set k x) + l.getD k 0 * 65536 ^ k = v16 l + x * 65536 ^ k := by
  have e1 : l = l.take k ++ l.getD k 0 :: l.drop (k + 1) := by
    conv => lhs; rw [← List.take_append_drop k l, List.drop_eq_getElem_cons h]
    simp [h]
  have e2 : l.set k x = l.take k ++ x :: l.drop (k + 1) := by
    rw [List.set_eq_take_append_cons_drop, if_pos h]
  have hl : (l.take k).length = k := by simp; omega
  rw [e2]
  conv => rhs; rw [e1]
  rw [v16_append, v16_append, hl]
  simp only [v16]
  rw [Nat.mul_add, Nat.mul_add, Nat.mul_comm (65536 ^ k) x, Nat.mul_comm (65536 ^ k) (l.getD k 0)]
  omega
theorem v16_zeros (n : Nat) : v16 (List.replicate n 0) = 0 := by
  induction n with
  | zero => rfl
  | succ n ih => simp [List.replicate_succ, v16, ih]
/-- the halves of limbs -/
def halves : List Nat → List Nat
  | [] => []
  | x :: r => x % 65536 :: x / 65536 :: halves r
theorem halves_len (l : List Nat) : (halves l).length = 2 * l.length := by
  induction l with
  | nil => rfl
  | cons x r ih => simp only [halves, List.length_cons, ih]; omega
theorem halves_app (a b : List Nat) : halves (a ++ b) = halves a ++ halves b := by
  induction a with
  | nil => rfl
  | cons x a ih => simp only [List.cons_append, halves, ih]
theorem halves_take {l : List Nat} {k : Nat} (h : k < l.length) : halves (l.take (k + 1)) = halves (l.take k) ++ [l.getD k 0 % 65536, l.getD k 0 / 65536] := by
  rw [takeN_snoc h, halves_app]; rfl
theorem v16_halves (l : List Nat) : v16 (halves l) = val l := by
  induction l with
  | nil => rfl
  | cons x r ih =>
    simp only [halves, v16, val, ih]
    show _ = x + 4294967296 * val r
    omega
theorem h16_halves {l : List Nat} (h : U32 l) : H16 (halves l) := by
  induction l with
  | nil => intro x hx; cases hx
  | cons x r ih =>
    have hx : x < 4294967296 := h x (List.mem_cons_self ..)
    have hr := ih fun y hy => h y (List.mem_cons_of_mem _ hy)
    intro y hy
    simp only [halves, List.mem_cons] at hy
    rcases hy with rfl | rfl | hy
    · omega
    · omega
    · exact hr y hy
theorem hlv_halves {l : List Nat} (h : U32 l) : hlv (val l) = trim (halves l) := by rw [← v16_halves, hlv_v16 (h16_halves h)]
theorem trim_len_le (l : List Nat) : (trim l).length ≤ l.length := by
  induction l with
  | nil => exact Nat.le_refl _
  | cons x r ih =>
    simp only [trim]
    split
    · simp
    · simp; exact ih
theorem hlv_len_le {l : List Nat} (h : H16 l) : (hlv (v16 l)).length ≤ l.length := by rw [hlv_v16 h]; exact trim_len_le l
theorem hlv_h16 (n : Nat) : H16 (hlv n) := hlv_lt n

/-! ### adding -/
/-- the sum so far (digits laid one by one) and the carry -/
structure AddH (la lb cur : List Nat) (i c : Nat) : Prop where
  len : cur.length = i
  u : H16 cur
  le : c ≤ 1
  eq : v16 cur + c * 65536 ^ i = v16 (la.take i) + v16 (lb.take i)
theorem addH_start (la lb : List Nat) : AddH la lb [] 0 0 := ⟨rfl, (fun x hx => by cases hx), by omega, by simp [v16]⟩
theorem addH_step {la lb cur : List Nat} {i c : Nat} (h : AddH la lb cur i c) (ha : H16 la) (hb : H16 lb) : AddH la lb (cur ++ [(c + la.getD i 0 + lb.getD i 0) % 65536]) (i + 1) ((c + la.getD i 0 + lb.getD i 0) / 65536) := by
  obtain ⟨h1, h2, h3, h4⟩ := h
  have ux := h16_at ha i
  have uy := h16_at hb i
  generalize hxx : la.getD i 0 = x at *
  generalize hyy : lb.getD i 0 = y at *
  refine ⟨by simp [h1], h16_app h2 (h16_one (Nat.mod_lt _ (by decide))), by omega, ?_⟩
  rw [v16_append, v16_take_succ la, v16_take_succ lb, hxx, hyy, h1]
  simp only [v16, Nat.mul_zero, Nat.add_zero]
  rw [Nat.pow_succ]
  obtain ⟨q, hq⟩ : ∃ q, (c + x + y) / 65536 = q := ⟨_, rfl⟩
  obtain ⟨m, hm⟩ : ∃ m, (c + x + y) % 65536 = m := ⟨_, rfl⟩
  have e : c + x + y = m + 65536 * q := by omega
  rw [hq, hm]
  have e3 : 65536 ^ i * m + q * (65536 ^ i * 65536) = (c + x + y) * 65536 ^ i := by
    rw [e, Nat.add_mul, Nat.mul_comm (65536 ^ i) m, Nat.mul_comm (65536 ^ i) 65536, ← Nat.mul_assoc, Nat.mul_comm q 65536]
  rw [Nat.add_mul, Nat.add_mul] at e3
  omega
theorem addH_end {la lb cur : List Nat} {i : Nat} (h : AddH la lb cur i 0) (hi : la.length ≤ i) (hj : lb.length ≤ i) : v16 cur = v16 la + v16 lb := by
  have := h.eq
  rw [List.take_of_length_le hi, List.take_of_length_le hj] at this
  omega

/-! ### multiplying -/
structure MulH (la lb cur : List Nat) (i : Nat) : Prop where
  len : cur.length = la.length + lb.length + 1
  u : H16 cur
  eq : v16 cur = v16 (la.take i) * v16 lb
  zero : ∀ j, i + lb.length ≤ j → cur.getD j 0 = 0
structure MulHI (la lb cur : List Nat) (i j c : Nat) : Prop where
  len : cur.length = la.length + lb.length + 1
  u : H16 cur
  lt : c < 65536
  eq : v16 cur + c * 65536 ^ (i + j) = v16 (la.take i) * v16 lb + la.getD i 0 * v16 (lb.take j) * 65536 ^ i
  zero : ∀ j, i + lb.length ≤ j → cur.getD j 0 = 0
theorem mulHI_start {la lb cur : List Nat} {i : Nat} (h : MulH la lb cur i) : MulHI la lb cur i 0 0 :=
  ⟨h.len, h.u, by decide, by rw [h.eq]; simp [v16], h.zero⟩
theorem mulH_lt {x y o c : Nat} (hx : x < 65536) (hy : y < 65536) (ho : o < 65536) (hc : c < 65536) : x * y + c < 4294967296 ∧ o + (x * y + c) % 65536 < 4294967296 ∧ (x * y + c) / 65536 + (o + (x * y + c) % 65536) / 65536 < 65536 ∧ (o + (x * y + c) % 65536) % 65536 + 65536 * ((x * y + c) / 65536 + (o + (x * y + c) % 65536) / 65536) = x * y + o + c := by
  have h1 : x * y ≤ 65535 * 65535 := Nat.mul_le_mul (Nat.le_of_lt_succ hx) (Nat.le_of_lt_succ hy)
  generalize x * y = t at *
  omega
theorem mulHI_step {la lb cur : List Nat} {i j c : Nat} (h : MulHI la lb cur i j c) (hi : i < la.length) (hj : j < lb.length) (ha : H16 la) (hb : H16 lb) :
    MulHI la lb (cur.set (i + j) ((cur.getD (i + j) 0 + (la.getD i 0 * lb.getD j 0 + c) % 65536) % 65536)) i (j + 1) ((la.getD i 0 * lb.getD j 0 + c) / 65536 + (cur.getD (i + j) 0 + (la.getD i 0 * lb.getD j 0 + c) % 65536) / 65536) := by
  have ux := h16_at ha i
  have uy := h16_at hb j
  have uo := h16_at h.u (i + j)
  obtain ⟨l1, l2, l3, l4⟩ := mulH_lt ux uy uo h.lt
  have hk : i + j < cur.length := by rw [h.len]; omega
  have hs := v16_set hk ((cur.getD (i + j) 0 + (la.getD i 0 * lb.getD j 0 + c) % 65536) % 65536)
  have he := h.eq
  refine ⟨by simpa using h.len, h16_set h.u _ (Nat.mod_lt _ (by decide)), l3, ?_, ?_⟩
  · rw [v16_take_succ lb]
    have e2 : 65536 ^ (i + (j + 1)) = 65536 * 65536 ^ (i + j) := by rw [← Nat.add_assoc, Nat.pow_succ, Nat.mul_comm]
    have e3 : 65536 ^ (i + j) = 65536 ^ j * 65536 ^ i := by rw [Nat.add_comm, Nat.pow_add]
    have e4 : la.getD i 0 * (v16 (lb.take j) + lb.getD j 0 * 65536 ^ j) * 65536 ^ i = la.getD i 0 * v16 (lb.take j) * 65536 ^ i + la.getD i 0 * lb.getD j 0 * 65536 ^ (i + j) := by
      rw [Nat.mul_add, Nat.add_mul, e3]
      simp only [Nat.mul_assoc]
    rw [e2, e4]
    generalize la.getD i 0 * v16 (lb.take j) * 65536 ^ i = p1 at *
    generalize v16 (la.take i) * v16 lb = p2 at *
    generalize la.getD i 0 * lb.getD j 0 = xy at *
    generalize 65536 ^ (i + j) = P at *
    generalize cur.getD (i + j) 0 = o at *
    generalize (o + (xy + c) % 65536) % 65536 = r1 at *
    generalize (xy + c) / 65536 + (o + (xy + c) % 65536) / 65536 = r2 at *
    generalize v16 (cur.set (i + j) r1) = v1 at *
    generalize v16 cur = v0 at *
    have e5 : r1 * P + r2 * (65536 * P) = xy * P + o * P + c * P := by
      rw [← Nat.add_mul, ← Nat.add_mul, ← l4, Nat.add_mul, Nat.mul_comm 65536 r2, Nat.mul_assoc]
    generalize r2 * (65536 * P) = q1 at *
    generalize r1 * P = q2 at *
    generalize xy * P = q3 at *
    generalize o * P = q4 at *
    generalize c * P = q5 at *
    omega
  · intro m hm
    have := h.zero m hm
    rw [List.getD_eq_getElem?_getD, List.getElem?_set_ne (by omega), ← List.getD_eq_getElem?_getD]
    exact this
theorem mulHI_end {la lb cur : List Nat} {i c : Nat} (h : MulHI la lb cur i lb.length c) (hi : i < la.length) : MulH la lb (cur.set (i + lb.length) c) (i + 1) := by
  have hk : i + lb.length < cur.length := by rw [h.len]; omega
  have hs := v16_set hk c
  have he := h.eq
  rw [h.zero _ (Nat.le_refl _), Nat.zero_mul, Nat.add_zero] at hs
  refine ⟨by simpa using h.len, h16_set h.u _ h.lt, ?_, ?_⟩
  · rw [hs, he, v16_take_succ la, List.take_of_length_le (Nat.le_refl _), Nat.add_mul, Nat.mul_assoc, Nat.mul_assoc, Nat.mul_comm (v16 lb)]
  · intro m hm
    have := h.zero m (by omega)
    rw [List.getD_eq_getElem?_getD, List.getElem?_set_ne (by omega), ← List.getD_eq_getElem?_getD]
    exact this
theorem mulHI_end0 {la lb cur : List Nat} {i : Nat} (h : MulHI la lb cur i lb.length 0) (hi : i < la.length) : MulH la lb cur (i + 1) := by
  have h2 := mulHI_end h hi
  have hk : i + lb.length < cur.length := by rw [h.len]; omega
  have e : cur.set (i + lb.length) 0 = cur := by
    apply List.ext_getElem?
    intro m
    by_cases hm : m = i + lb.length
    · subst hm
      have hz := h.zero _ (Nat.le_refl (i + lb.length))
      rw [List.getElem?_set_self hk]
      simp [hk] at hz ⊢
      exact hz.symm
    · rw [List.getElem?_set_ne (by omega)]
  rwa [e] at h2
theorem mulH_start (la lb : List Nat) : MulH la lb (List.replicate (la.length + lb.length + 1) 0) 0 := ⟨by simp, h16_zeros _, by simp [v16_zeros, v16], fun j _ => by simp [List.getD_eq_getElem?_getD, List.getElem?_replicate]; split <;> rfl⟩
theorem mulH_end {la lb cur : List Nat} (h : MulH la lb cur la.length) : v16 cur = v16 la * v16 lb := by
  have := h.eq
  rwa [List.take_of_length_le (Nat.le_refl _)] at this
end Go.Proofs.YtnmegpplfbkpcaaDoor
