/- Plain laws on the turns of a word: which is the least. -/
import Derived.Test.YtjgblanpaanglaaDoorLexP
import Derived.Test.YtjgblanpaanglaaDoorPer
namespace Go.Proofs.YtjgblanpaanglaaDoor
set_option linter.unusedVariables false

theorem lexI_refl (a : List Int) : lexI a a = 0 := by
  induction a with
  | nil => rfl
  | cons x a ih => simp [lexI, ih]
theorem lexI_zero : ∀ {a b : List Int}, lexI a b = 0 → a = b := by
  intro a
  induction a with
  | nil => intro b h; cases b with | nil => rfl | cons y b => simp [lexI] at h
  | cons x a ih =>
    intro b h
    cases b with
    | nil => simp [lexI] at h
    | cons y b =>
      simp only [lexI] at h
      split at h
      · omega
      split at h
      · omega
      rw [ih h, show x = y by omega]
theorem lexI_neg : ∀ (a b : List Int), lexI b a = - lexI a b := by
  intro a
  induction a with
  | nil => intro b; cases b with | nil => rfl | cons y b => rfl
  | cons x a ih =>
    intro b
    cases b with
    | nil => rfl
    | cons y b =>
      simp only [lexI]
      by_cases h1 : x < y
      · rw [if_neg (by omega), if_pos h1, if_pos h1]; rfl
      · by_cases h2 : y < x
        · rw [if_pos h2, if_neg h1, if_pos h2]
        · rw [if_neg h2, if_neg h1, if_neg h1, if_neg h2]; exact ih b
theorem lexI_vals : ∀ (a b : List Int), lexI a b = -1 ∨ lexI a b = 0 ∨ lexI a b = 1 := by
  intro a
  induction a with
  | nil => intro b; cases b with | nil => exact .inr (.inl rfl) | cons y b => exact .inl rfl
  | cons x a ih =>
    intro b
    cases b with
    | nil => exact .inr (.inr rfl)
    | cons y b =>
      simp only [lexI]
      split
      · exact .inl rfl
      split
      · exact .inr (.inr rfl)
      · exact ih b
theorem lexI_trans : ∀ {a b c : List Int}, lexI a b ≤ 0 → lexI b c ≤ 0 → lexI a c ≤ 0 := by
  intro a
  induction a with
  | nil => intro b c _ _; cases c with | nil => simp [lexI] | cons z c => simp [lexI]
  | cons x a ih =>
    intro b c h1 h2
    cases b with
    | nil => simp [lexI] at h1
    | cons y b =>
      cases c with
      | nil => simp [lexI] at h2
      | cons z c =>
        simp only [lexI] at h1 h2 ⊢
        by_cases p : x < y
        · by_cases q : y < z
          · rw [if_pos (by omega)]; omega
          · by_cases r : z < y
            · rw [if_neg q, if_pos r] at h2; omega
            · rw [if_pos (by omega)]; omega
        · by_cases p2 : y < x
          · rw [if_neg p, if_pos p2] at h1; omega
          · rw [if_neg p, if_neg p2] at h1
            by_cases q : y < z
            · rw [if_pos (by omega)]; omega
            · by_cases r : z < y
              · rw [if_neg q, if_pos r] at h2; omega
              · rw [if_neg q, if_neg r] at h2
                rw [if_neg (by omega), if_neg (by omega)]
                exact ih h1 h2
/-- the first place that differs decides -/
theorem lexI_lt : ∀ {a b : List Int} (d : Nat), d < a.length → d < b.length → (∀ j, j < d → a.getD j 0 = b.getD j 0) → a.getD d 0 < b.getD d 0 → lexI a b = -1 := by
  intro a
  induction a with
  | nil => intro b d h; simp at h
  | cons x a ih =>
    intro b d h1 h2 h3 h4
    cases b with
    | nil => simp at h2
    | cons y b =>
      simp only [lexI]
      cases d with
      | zero => simp at h4; rw [if_pos h4]
      | succ d =>
        have e := h3 0 (by omega)
        simp at e
        subst e
        rw [if_neg (by omega), if_neg (by omega)]
        refine ih d (by simpa using h1) (by simpa using h2) (fun j hj => ?_) (by simpa using h4)
        simpa using h3 (j + 1) (by omega)

/-! ### turns -/
theorem rot_at (l : List Int) (t j : Nat) (hl : 0 < l.length) (hj : j < l.length) : (rot l (t % l.length)).getD j 0 = l.getD ((j + t) % l.length) 0 := by
  rw [rot_get l _ j (Nat.le_of_lt (Nat.mod_lt _ hl)) hj, Nat.add_mod_mod]
theorem rot_rot (l : List Int) (a b : Nat) (hl : 0 < l.length) : rot (rot l (a % l.length)) (b % l.length) = rot l ((a + b) % l.length) := by
  refine ext_getD (by simp [rot_len]) fun j hj => ?_
  rw [rot_len, rot_len] at hj
  have hl2 : 0 < (rot l (a % l.length)).length := by rw [rot_len]; exact hl
  have e := rot_at (rot l (a % l.length)) b j hl2 (by rw [rot_len]; exact hj)
  rw [rot_len] at e
  rw [e, rot_at l (a + b) j hl hj, rot_at l a _ hl (Nat.mod_lt _ hl), Nat.mod_add_mod]
  congr 2
  omega
theorem rot_zero (l : List Int) : rot l 0 = l := by simp [rot]
theorem rot_full (l : List Int) : rot l l.length = l := by simp [rot]

/-- the turn by k (below the length) -/
def Beat (l : List Int) (k : Nat) : Prop := ∃ k', k' < l.length ∧ lexI (rot l k') (rot l k) = -1
structure IsLeast (l : List Int) (m : Nat) : Prop where
  lt : m < l.length
  le : ∀ k, k < l.length → lexI (rot l m) (rot l k) ≤ 0
  first : ∀ k, k < m → rot l k ≠ rot l m

theorem IsLeast.uniq {l : List Int} {m m' : Nat} (h : IsLeast l m) (h' : IsLeast l m') : m = m' := by
  have h1 := h.le m' h'.lt
  have h2 := h'.le m h.lt
  rw [lexI_neg] at h2
  have e : rot l m = rot l m' := lexI_zero (by omega)
  rcases Nat.lt_trichotomy m m' with a | a | a
  · exact absurd e (h'.first m a)
  · exact a
  · exact absurd e.symm (h.first m' a)
theorem least_nat0 {P : Nat → Prop} : ∀ n, P n → ∃ m, P m ∧ ∀ k, P k → m ≤ k := by
  intro n
  induction n using Nat.strongRecOn with
  | ind n ih =>
    intro hn
    by_cases h : ∃ k, k < n ∧ P k
    · obtain ⟨k, h1, h2⟩ := h
      exact ih k h1 h2
    · exact ⟨n, hn, fun k hk => by
        by_cases hlt : n ≤ k
        · exact hlt
        · exact absurd ⟨k, by omega, hk⟩ h⟩
theorem isLeast_ex (l : List Int) (hl : 0 < l.length) : ∃ m, IsLeast l m := by
  have key : ∀ c, c < l.length → ∃ m, m < l.length ∧ ∀ k, k ≤ c → lexI (rot l m) (rot l k) ≤ 0 := by
    intro c
    induction c with
    | zero => intro _; exact ⟨0, hl, fun k hk => by rw [show k = 0 by omega, lexI_refl]; omega⟩
    | succ c ih =>
      intro hc
      obtain ⟨m, h1, h2⟩ := ih (by omega)
      by_cases h3 : lexI (rot l m) (rot l (c + 1)) ≤ 0
      · exact ⟨m, h1, fun k hk => by
          by_cases e : k = c + 1
          · rw [e]; exact h3
          · exact h2 k (by omega)⟩
      · have h4 : lexI (rot l (c + 1)) (rot l m) ≤ 0 := by rw [lexI_neg]; omega
        exact ⟨c + 1, hc, fun k hk => by
          by_cases e : k = c + 1
          · rw [e, lexI_refl]; omega
          · exact lexI_trans h4 (h2 k (by omega))⟩
  obtain ⟨m0, h1, h2⟩ := key (l.length - 1) (by omega)
  obtain ⟨m, ⟨a, b⟩, c⟩ := least_nat0 (P := fun m => m < l.length ∧ ∀ k, k < l.length → lexI (rot l m) (rot l k) ≤ 0) m0 ⟨h1, fun k hk => h2 k (by omega)⟩
  refine ⟨m, a, b, fun k hk e => ?_⟩
  have := c k ⟨by omega, fun k' hk' => by rw [e]; exact b k' hk'⟩
  omega
theorem isLeast_not_beat {l : List Int} {m : Nat} (h : IsLeast l m) : ¬ Beat l m := by
  rintro ⟨k, h1, h2⟩
  have := h.le k h1
  rw [lexI_neg] at this
  omega

/-- what holds at the head of a round: two candidates, how far they agree; the others ahead are beaten -/
structure LInv (l : List Int) (i j s : Nat) : Prop where
  ne : i ≠ j
  same : ∀ d, d < s → l.getD ((i + d) % l.length) 0 = l.getD ((j + d) % l.length) 0
  beat : ∀ k, k < l.length → (k < i ∨ k < j) → k ≠ i → k ≠ j → Beat l k
theorem linv_symm {l : List Int} {i j s : Nat} (h : LInv l i j s) : LInv l j i s := ⟨h.ne.symm, fun d hd => (h.same d hd).symm, fun k hk h1 h2 h3 => h.beat k hk h1.symm h3 h2⟩
theorem linv_start (l : List Int) : LInv l 0 1 0 := ⟨by omega, fun d hd => by omega, fun k _ h1 h2 h3 => by omega⟩
theorem linv_same {l : List Int} {i j s : Nat} (h : LInv l i j s) (e : l.getD ((i + s) % l.length) 0 = l.getD ((j + s) % l.length) 0) : LInv l i j (s + 1) := by
  refine ⟨h.ne, fun d hd => ?_, h.beat⟩
  by_cases a : d = s
  · rw [a]; exact e
  · exact h.same d (by omega)
theorem linv_beat {l : List Int} {i j s : Nat} (h : LInv l i j s) (hs : s < l.length) (e : l.getD ((j + s) % l.length) 0 < l.getD ((i + s) % l.length) 0) (d : Nat) (hd : d ≤ s) (hk : i + d < l.length) : Beat l (i + d) := by
  have hl : 0 < l.length := by omega
  refine ⟨(j + d) % l.length, Nat.mod_lt _ hl, ?_⟩
  have ei : rot l (i + d) = rot l ((i + d) % l.length) := by rw [Nat.mod_eq_of_lt hk]
  rw [ei]
  refine lexI_lt (s - d) (by rw [rot_len]; omega) (by rw [rot_len]; omega) (fun x hx => ?_) ?_
  · rw [rot_at l _ x hl (by omega), rot_at l _ x hl (by omega), show x + (j + d) = j + (d + x) by omega, show x + (i + d) = i + (d + x) by omega]
    exact (h.same (d + x) (by omega)).symm
  · rw [rot_at l _ _ hl (by omega), rot_at l _ _ hl (by omega), show s - d + (j + d) = j + s by omega, show s - d + (i + d) = i + s by omega]
    exact e
theorem linv_step {l : List Int} {i j s : Nat} (h : LInv l i j s) (hs : s < l.length) (e : l.getD ((j + s) % l.length) 0 < l.getD ((i + s) % l.length) 0) : LInv l (i + (s + 1)) (if i + (s + 1) = j then j + 1 else j) 0 := by
  have hb : ∀ k, k < l.length → (k < i + (s + 1) ∨ k < j) → k ≠ j → Beat l k := by
    intro k hk h1 h2
    by_cases a : i ≤ k ∧ k < i + (s + 1)
    · have := linv_beat h hs e (k - i) (by omega) (by omega)
      rwa [show i + (k - i) = k by omega] at this
    · exact h.beat k hk (by omega) (by omega) h2
  by_cases c : i + (s + 1) = j
  · rw [if_pos c]
    exact ⟨by omega, fun d hd => by omega, fun k hk h1 h2 h3 => hb k hk (by omega) (by omega)⟩
  · rw [if_neg c]
    exact ⟨c, fun d hd => by omega, fun k hk h1 h2 h3 => hb k hk h1 h3⟩
theorem linv_end {l : List Int} {i j s : Nat} (h : LInv l i j s) (hl : 0 < l.length) (hx : l.length ≤ i ∨ l.length ≤ j ∨ l.length ≤ s) : IsLeast l (if i < j then i else j) := by
  obtain ⟨m, hm⟩ := isLeast_ex l hl
  have hnb := isLeast_not_beat hm
  have hml := hm.lt
  suffices e : m = (if i < j then i else j) by rw [← e]; exact hm
  have hne := h.ne
  by_cases hi : l.length ≤ i
  · by_cases hmj : m = j
    · rw [if_neg (by omega)]; exact hmj
    · exact absurd (h.beat m hml (by omega) (by omega) hmj) hnb
  · by_cases hj : l.length ≤ j
    · by_cases hmi : m = i
      · rw [if_pos (by omega)]; exact hmi
      · exact absurd (h.beat m hml (by omega) hmi (by omega)) hnb
    · have hs : l.length ≤ s := by omega
      have heq : rot l i = rot l j := by
        refine ext_getD (by simp [rot_len]) fun x hx2 => ?_
        rw [rot_len] at hx2
        rw [rot_get l i x (by omega) hx2, rot_get l j x (by omega) hx2, Nat.add_comm x i, Nat.add_comm x j]
        exact h.same x (by omega)
      have key : ∀ a b, a < b → b < l.length → rot l a = rot l b → (∀ k, k < l.length → k < b → k ≠ a → Beat l k) → m = a := by
        intro a b hab hbl hrot hbt
        by_cases hma : m = a
        · exact hma
        · exfalso
          have hmb : b ≤ m := by
            by_cases c : b ≤ m
            · exact c
            · exact absurd (hbt m hml (by omega) hma) hnb
          apply hm.first (m - b + a) (by omega)
          have e1 : rot l (m - b + a) = rot (rot l a) (m - b) := by
            have := rot_rot l a (m - b) hl
            rw [Nat.mod_eq_of_lt (by omega), Nat.mod_eq_of_lt (by omega), Nat.mod_eq_of_lt (by omega)] at this
            rw [this]; congr 1; omega
          have e2 : rot l m = rot (rot l b) (m - b) := by
            have := rot_rot l b (m - b) hl
            rw [Nat.mod_eq_of_lt (by omega), Nat.mod_eq_of_lt (by omega), Nat.mod_eq_of_lt (by omega)] at this
            rw [this]; congr 1; omega
          rw [e1, e2, hrot]
      by_cases c : i < j
      · rw [if_pos c]
        exact key i j c (by omega) heq fun k hk h1 h2 => h.beat k hk (.inr h1) h2 (by omega)
      · rw [if_neg c]
        exact key j i (by omega) (by omega) heq.symm fun k hk h1 h2 => h.beat k hk (.inl h1) (by omega) h2
end Go.Proofs.YtjgblanpaanglaaDoor
