/- Plain laws on lists of numbers: borders, periods (no program in sight). -/
namespace Go.Proofs.YtnmegpplfbkpcaaDoor
set_option linter.unusedVariables false

/-- the first i symbols have a border of b -/
def Bdr (l : List Int) (b i : Nat) : Prop := b < i ∧ ∀ j, j < b → l.getD j 0 = l.getD (i - b + j) 0
/-- .. their longest -/
def LBdr (l : List Int) (b i : Nat) : Prop := Bdr l b i ∧ ∀ c, Bdr l c i → c ≤ b

theorem bdr_zero (l : List Int) {i : Nat} (h : 0 < i) : Bdr l 0 i := ⟨h, fun j hj => absurd hj (Nat.not_lt_zero _)⟩
theorem lbdr_one (l : List Int) : LBdr l 0 1 := ⟨bdr_zero l (by omega), fun c hc => by have := hc.1; omega⟩
theorem bdr_trans {l : List Int} {a b i : Nat} (h1 : Bdr l a b) (h2 : Bdr l b i) : Bdr l a i := by
  obtain ⟨h1, h1'⟩ := h1
  obtain ⟨h2, h2'⟩ := h2
  refine ⟨by omega, fun j hj => ?_⟩
  rw [h1' j hj, h2' (b - a + j) (by omega)]
  congr 1
  omega
theorem bdr_of {l : List Int} {a b i : Nat} (h1 : Bdr l a i) (h2 : Bdr l b i) (h : a < b) : Bdr l a b := by
  obtain ⟨h1, h1'⟩ := h1
  obtain ⟨h2, h2'⟩ := h2
  refine ⟨h, fun j hj => ?_⟩
  rw [h1' j hj, h2' (b - a + j) (by omega)]
  congr 1
  omega
theorem bdr_succ {l : List Int} {b i : Nat} (h : Bdr l b i) (e : l.getD b 0 = l.getD i 0) : Bdr l (b + 1) (i + 1) := by
  obtain ⟨h1, h2⟩ := h
  refine ⟨by omega, fun j hj => ?_⟩
  have e2 : i + 1 - (b + 1) + j = i - b + j := by omega
  rw [e2]
  by_cases hj2 : j = b
  · subst hj2; rw [e]; congr 1; omega
  · exact h2 j (by omega)
theorem bdr_pred {l : List Int} {b i : Nat} (h : Bdr l (b + 1) (i + 1)) : Bdr l b i ∧ l.getD b 0 = l.getD i 0 := by
  obtain ⟨h1, h2⟩ := h
  refine ⟨⟨by omega, fun j hj => ?_⟩, ?_⟩
  · rw [h2 j (by omega)]; congr 1; omega
  · rw [h2 b (by omega)]; congr 1; omega

/-- what holds of the candidate at the head of the inner loop -/
def Cand (l : List Int) (b i : Nat) : Prop := Bdr l b i ∧ ∀ c, Bdr l c i → l.getD c 0 = l.getD i 0 → c ≤ b
theorem cand_start {l : List Int} {b i : Nat} (h : LBdr l b i) : Cand l b i := ⟨h.1, fun c hc _ => h.2 c hc⟩
theorem cand_step {l : List Int} {b d i : Nat} (h : Cand l b i) (hne : ¬ l.getD i 0 = l.getD b 0) (hd : LBdr l d b) : Cand l d i := by
  refine ⟨bdr_trans hd.1 h.1, fun c hc e => ?_⟩
  have h1 := h.2 c hc e
  have h2 : c ≠ b := fun e2 => by subst e2; exact hne e.symm
  exact hd.2 c (bdr_of hc h.1 (by omega))
theorem cand_hit {l : List Int} {b i : Nat} (h : Cand l b i) (e : l.getD i 0 = l.getD b 0) : LBdr l (b + 1) (i + 1) := by
  refine ⟨bdr_succ h.1 e.symm, fun c hc => ?_⟩
  cases c with
  | zero => omega
  | succ c =>
    obtain ⟨h1, h2⟩ := bdr_pred hc
    have := h.2 c h1 h2
    omega
theorem cand_miss {l : List Int} {i : Nat} (h : Cand l 0 i) (hne : ¬ l.getD i 0 = l.getD 0 0) : LBdr l 0 (i + 1) := by
  refine ⟨bdr_zero l (by omega), fun c hc => ?_⟩
  cases c with
  | zero => omega
  | succ c =>
    obtain ⟨h1, h2⟩ := bdr_pred hc
    have h3 := h.2 c h1 h2
    obtain rfl : c = 0 := by omega
    exact absurd h2.symm hne

/-- d is a period -/
def Per (l : List Int) (d : Nat) : Prop := ∀ j, j + d < l.length → l.getD j 0 = l.getD (j + d) 0
theorem per_bdr {l : List Int} {b : Nat} (h : Bdr l b l.length) : Per l (l.length - b) := by
  obtain ⟨h1, h2⟩ := h
  intro j hj
  rw [h2 j (by omega)]; congr 1; omega
theorem bdr_per {l : List Int} {d : Nat} (h : Per l d) (h1 : 1 ≤ d) (h2 : d ≤ l.length) : Bdr l (l.length - d) l.length := by
  refine ⟨by omega, fun j hj => ?_⟩
  rw [h j (by omega)]; congr 1; omega

/-- two periods that fit both: their greatest common divisor is one -/
theorem per_gcd (l : List Int) : ∀ (m p q : Nat), p + q ≤ m → 1 ≤ p → 1 ≤ q → p + q ≤ l.length → Per l p → Per l q → Per l (Nat.gcd p q) := by
  intro m
  induction m with
  | zero => intro p q h; omega
  | succ m ih =>
    intro p q hm hp hq hl h1 h2
    rcases Nat.lt_trichotomy p q with h | h | h
    · have h3 : Per l (q - p) := by
        intro j hj
        by_cases hjp : p ≤ j
        · have e1 := h1 (j - p) (by omega)
          have e2 := h2 (j - p) (by omega)
          rw [show j - p + p = j by omega] at e1
          rw [show j - p + q = j + (q - p) by omega] at e2
          rw [← e1, e2]
        · have e1 := h2 j (by omega)
          have e2 := h1 (j + (q - p)) (by omega)
          rw [show j + (q - p) + p = j + q by omega] at e2
          rw [e1, e2]
      have := ih p (q - p) (by omega) hp (by omega) (by omega) h1 h3
      rwa [Nat.gcd_sub_self_right (by omega)] at this
    · subst h; rwa [Nat.gcd_self]
    · have h3 : Per l (p - q) := by
        intro j hj
        by_cases hjp : q ≤ j
        · have e1 := h2 (j - q) (by omega)
          have e2 := h1 (j - q) (by omega)
          rw [show j - q + q = j by omega] at e1
          rw [show j - q + p = j + (p - q) by omega] at e2
          rw [← e1, e2]
        · have e1 := h1 j (by omega)
          have e2 := h2 (j + (p - q)) (by omega)
          rw [show j + (p - q) + q = j + p by omega] at e2
          rw [e1, e2]
      have := ih q (p - q) (by omega) hq (by omega) (by omega) h2 h3
      rwa [Nat.gcd_sub_self_right (by omega), Nat.gcd_comm] at this

/-- p is the length of the shortest word of which l is a repeat (0 of the empty word) -/
structure IsPer (l : List Int) (p : Nat) : Prop where
  zero : l.length = 0 → p = 0
  pos : 0 < l.length → 1 ≤ p
  dvd : 0 < l.length → l.length % p = 0
  per : Per l p
  least : ∀ q, 1 ≤ q → l.length % q = 0 → Per l q → p ≤ q

theorem IsPer.uniq {l : List Int} {p q : Nat} (h1 : IsPer l p) (h2 : IsPer l q) : p = q := by
  by_cases h0 : l.length = 0
  · rw [h1.zero h0, h2.zero h0]
  · have a := h1.least q (h2.pos (by omega)) (h2.dvd (by omega)) h2.per
    have b := h2.least p (h1.pos (by omega)) (h1.dvd (by omega)) h1.per
    omega
theorem per_len (l : List Int) : Per l l.length := fun j hj => by omega
theorem dvd_le {n p : Nat} (hn : 0 < n) (h : n % p = 0) : p ≤ n := Nat.le_of_dvd hn (Nat.dvd_of_mod_eq_zero h)
theorem half_of {n p : Nat} (h : n % p = 0) (h1 : p < n) (hp : 1 ≤ p) : 2 * p ≤ n := by
  obtain ⟨c, rfl⟩ := Nat.dvd_of_mod_eq_zero h
  rcases c with _ | _ | c
  · simp at h1
  · simp at h1
  · have : p * 2 ≤ p * (c + 1 + 1) := Nat.mul_le_mul_left _ (by omega)
    omega

/-- what is told of the longest border -/
theorem isPer_of_border {l : List Int} {b : Nat} (h : LBdr l b l.length) : IsPer l (if l.length % (l.length - b) = 0 then l.length - b else l.length) := by
  have hb := h.1.1
  have hp := per_bdr h.1
  have hn : 0 < l.length := by omega
  have hmin : ∀ q, 1 ≤ q → q ≤ l.length → Per l q → l.length - b ≤ q := fun q h1 h2 hq => by
    have := h.2 _ (bdr_per hq h1 h2)
    omega
  by_cases hd : l.length % (l.length - b) = 0
  · rw [if_pos hd]
    exact ⟨fun e => by omega, fun _ => by omega, fun _ => hd, hp, fun q h1 h2 h3 => hmin q h1 (dvd_le hn h2) h3⟩
  · rw [if_neg hd]
    refine ⟨fun e => by omega, fun _ => by omega, fun _ => Nat.mod_self _, per_len l, fun q h1 h2 h3 => ?_⟩
    by_cases hq : l.length ≤ q
    · exact hq
    · exfalso
      apply hd
      have h4 := hmin q h1 (by omega) h3
      have h5 := half_of h2 (by omega) h1
      have hg := per_gcd l _ (l.length - b) q (Nat.le_refl _) (by omega) h1 (by omega) hp h3
      have hg1 : 1 ≤ Nat.gcd (l.length - b) q := Nat.gcd_pos_of_pos_right _ (by omega)
      have hg2 : Nat.gcd (l.length - b) q ≤ q := Nat.gcd_le_right _ (by omega)
      have hg3 := hmin _ hg1 (by omega) hg
      have hg4 : Nat.gcd (l.length - b) q ∣ l.length - b := Nat.gcd_dvd_left _ _
      have hg5 : Nat.gcd (l.length - b) q = l.length - b := Nat.le_antisymm (Nat.le_of_dvd (by omega) hg4) hg3
      have hg6 : l.length - b ∣ q := hg5 ▸ Nat.gcd_dvd_right _ _
      exact Nat.mod_eq_zero_of_dvd (Nat.dvd_trans hg6 (Nat.dvd_of_mod_eq_zero h2))

theorem isPer_nil {l : List Int} (h : l.length = 0) : IsPer l 0 :=
  ⟨fun _ => rfl, fun h2 => by omega, fun h2 => by omega, fun j hj => by omega, fun q _ _ _ => Nat.zero_le _⟩

/-- a period that divides: each symbol is the one of its place within the period -/
theorem per_mod {l : List Int} {p : Nat} (h : Per l p) (hp : 1 ≤ p) : ∀ j, j < l.length → l.getD j 0 = l.getD (j % p) 0 := by
  intro j
  induction j using Nat.strongRecOn with
  | ind j ih =>
    intro hj
    by_cases hjp : j < p
    · rw [Nat.mod_eq_of_lt hjp]
    · have e := h (j - p) (by omega)
      rw [show j - p + p = j by omega] at e
      rw [← e, ih (j - p) (by omega) (by omega), Nat.mod_eq_sub_mod (a := j) (by omega)]

/-! ### turns -/
/-- from place t on, and then what stands ahead of it -/
def rot (l : List Int) (t : Nat) : List Int := l.drop t ++ l.take t
theorem rot_len (l : List Int) (t : Nat) : (rot l t).length = l.length := by simp [rot]; omega
theorem rot_get (l : List Int) (t j : Nat) (ht : t ≤ l.length) (hj : j < l.length) : (rot l t).getD j 0 = l.getD ((j + t) % l.length) 0 := by
  unfold rot
  by_cases h : j + t < l.length
  · rw [Nat.mod_eq_of_lt h]
    simp only [List.getD_eq_getElem?_getD]
    rw [List.getElem?_append_left (by simp; omega), List.getElem?_drop]
    congr 2
    omega
  · have e : (j + t) % l.length = j + t - l.length := by
      rw [Nat.mod_eq_sub_mod (by omega), Nat.mod_eq_of_lt (by omega)]
    rw [e]
    simp only [List.getD_eq_getElem?_getD]
    rw [List.getElem?_append_right (by simp; omega), List.getElem?_take, if_pos (by simp; omega)]
    congr 2
    simp; omega
theorem ext_getD {a b : List Int} (hl : a.length = b.length) (h : ∀ j, j < a.length → a.getD j 0 = b.getD j 0) : a = b := by
  apply List.ext_getElem hl
  intro j h1 h2
  have := h j h1
  simpa [h1, h2] using this
theorem rot_eq_iff {l : List Int} {p : Nat} (hp : 1 ≤ p) (hl : 0 < l.length) (hd : l.length % p = 0) : rot l p = l ↔ Per l p := by
  have hpl := dvd_le hl hd
  constructor
  · intro h j hj
    have := rot_get l p j hpl (by omega)
    rw [h, Nat.mod_eq_of_lt hj] at this
    exact this
  · intro h
    refine ext_getD (rot_len l p) fun j hj => ?_
    rw [rot_len] at hj
    rw [rot_get l p j hpl hj, per_mod h hp _ (Nat.mod_lt _ hl), per_mod h hp j hj]
    congr 1
    rw [Nat.mod_mod_of_dvd _ (Nat.dvd_of_mod_eq_zero hd)]
    simp
end Go.Proofs.YtnmegpplfbkpcaaDoor
