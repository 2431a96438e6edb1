import Derived.Test.YtiglilecmieelaaGreatDoorEdnP
/- Plain: pairs of nodes, the way that leaves the diagonal and comes back; the search for it. -/
namespace Go.Proofs.YtiglilecmieelaaGreatDoor
set_option linter.unusedVariables false

section
variable (k N : Nat) (lab : Nat → Nat)
/-- an edge from a pair to a pair: equal labels -/
def PE (p q : Nat) : Bool := (List.range k).any fun c => (List.range k).any fun d => lab (p / N * k + c) == lab (p % N * k + d) && q == ((p / N * k + c) % N) * N + (p % N * k + d) % N
end
/-- the pair's nodes are unlike -/
def Off (N p : Nat) : Prop := p / N ≠ p % N
instance (N p : Nat) : Decidable (Off N p) := inferInstanceAs (Decidable (_ ≠ _))
section
variable {k N : Nat} {lab : Nat → Nat}
theorem pe_iff {p q : Nat} : PE k N lab p q = true ↔ ∃ c d, c < k ∧ d < k ∧ lab (p / N * k + c) = lab (p % N * k + d) ∧ q = ((p / N * k + c) % N) * N + (p % N * k + d) % N := by
  unfold PE
  simp only [List.any_eq_true, List.mem_range, Bool.and_eq_true, beq_iff_eq]
  constructor
  · rintro ⟨c, hc, d, hd, h1, h2⟩; exact ⟨c, d, hc, hd, h1, h2⟩
  · rintro ⟨c, d, hc, hd, h1, h2⟩; exact ⟨c, hc, d, hd, h1, h2⟩
theorem pair_div {u v : Nat} (hv : v < N) : (u * N + v) / N = u := by
  rw [Nat.mul_comm, Nat.mul_add_div (by omega), Nat.div_eq_of_lt hv, Nat.add_zero]
theorem pair_mod {u v : Nat} (hv : v < N) : (u * N + v) % N = v := by
  rw [Nat.mul_comm, Nat.mul_add_mod, Nat.mod_eq_of_lt hv]
theorem pair_lt {u v : Nat} (hu : u < N) (hv : v < N) : u * N + v < N * N := by
  have h : (u + 1) * N ≤ N * N := Nat.mul_le_mul_right _ hu
  rw [Nat.add_mul, Nat.one_mul] at h
  omega
theorem pair_div_lt {p : Nat} (h : p < N * N) : p / N < N := Nat.div_lt_of_lt_mul h
theorem pair_mod_lt {p : Nat} (h : p < N * N) : p % N < N := Nat.mod_lt _ (Nat.pos_of_ne_zero (by rintro rfl; simp at h))
theorem pe_lt (hN : 0 < N) {p q : Nat} (h : PE k N lab p q = true) : q < N * N := by
  obtain ⟨c, d, _, _, _, rfl⟩ := pe_iff.1 h
  exact pair_lt (Nat.mod_lt _ hN) (Nat.mod_lt _ hN)
/-- reached from the diagonal through pairs that are apart -/
inductive OffR (k N : Nat) (lab : Nat → Nat) : Nat → Prop
  | base {u q : Nat} : u < N → PE k N lab (u * N + u) q = true → Off N q → OffR k N lab q
  | step {p q : Nat} : OffR k N lab p → PE k N lab p q = true → Off N q → OffR k N lab q
/-- a way leaves the diagonal and comes back -/
def Meets (k N : Nat) (lab : Nat → Nat) : Prop := ∃ p q, OffR k N lab p ∧ PE k N lab p q = true ∧ ¬ Off N q
theorem offR_off {p : Nat} (h : OffR k N lab p) : Off N p := by cases h <;> assumption
theorem offR_lt (hN : 0 < N) {p : Nat} (h : OffR k N lab p) : p < N * N := by
  cases h with
  | base _ h _ => exact pe_lt hN h
  | step _ h _ => exact pe_lt hN h
theorem mod_sym {u c : Nat} (hk : c < k) (hd : k ∣ N) : (u * k + c) % N % k = c := by
  rw [Nat.mod_mod_of_dvd _ hd, Nat.mul_comm, Nat.mul_add_mod, Nat.mod_eq_of_lt hk]
theorem meets_of (hN : 0 < N) : ∀ (x y : List Nat) (u v : Nat), u < N → v < N → OffR k N lab (u * N + v) → x.length = y.length → (∀ c ∈ x, c < k) → (∀ c ∈ y, c < k) → runG k N u x = runG k N v y → labG k N lab u x = labG k N lab v y → Meets k N lab
  | [], [], u, v, hu, hv, ho, _, _, _, hr, _ => by
    have h := offR_off ho
    unfold Off at h
    rw [pair_div hv, pair_mod hv] at h
    exact absurd hr h
  | [], _ :: _, _, _, _, _, _, hl, _, _, _, _ => by cases hl
  | _ :: _, [], _, _, _, _, _, hl, _, _, _, _ => by cases hl
  | c :: x, d :: y, u, v, hu, hv, ho, hl, hx, hy, hr, hlab => by
    have h2 := List.cons.inj hlab
    have hpe : PE k N lab (u * N + v) ((u * k + c) % N * N + (v * k + d) % N) = true :=
      pe_iff.2 ⟨c, d, hx c (List.mem_cons_self ..), hy d (List.mem_cons_self ..), by rw [pair_div hv, pair_mod hv]; exact h2.1, by rw [pair_div hv, pair_mod hv]⟩
    by_cases hoff : Off N ((u * k + c) % N * N + (v * k + d) % N)
    · exact meets_of hN x y _ _ (Nat.mod_lt _ hN) (Nat.mod_lt _ hN) (.step ho hpe hoff) (Nat.succ.inj hl) (fun e he => hx e (List.mem_cons_of_mem _ he)) (fun e he => hy e (List.mem_cons_of_mem _ he)) hr h2.2
    · exact ⟨_, _, ho, hpe, hoff⟩
theorem meets_diag (hN : 0 < N) (hd : k ∣ N) : ∀ (x y : List Nat) (u : Nat), u < N → x.length = y.length → x ≠ y → (∀ c ∈ x, c < k) → (∀ c ∈ y, c < k) → runG k N u x = runG k N u y → labG k N lab u x = labG k N lab u y → Meets k N lab
  | [], [], _, _, _, hne, _, _, _, _ => absurd rfl hne
  | [], _ :: _, _, _, hl, _, _, _, _, _ => by cases hl
  | _ :: _, [], _, _, hl, _, _, _, _, _ => by cases hl
  | c :: x, d :: y, u, hu, hl, hne, hx, hy, hr, hlab => by
    have h2 := List.cons.inj hlab
    have hc := hx c (List.mem_cons_self ..)
    have hdk := hy d (List.mem_cons_self ..)
    by_cases hcd : c = d
    · subst hcd
      exact meets_diag hN hd x y _ (Nat.mod_lt _ hN) (Nat.succ.inj hl) (fun e => hne (by rw [e])) (fun e he => hx e (List.mem_cons_of_mem _ he)) (fun e he => hy e (List.mem_cons_of_mem _ he)) hr h2.2
    · have hpe : PE k N lab (u * N + u) ((u * k + c) % N * N + (u * k + d) % N) = true :=
        pe_iff.2 ⟨c, d, hc, hdk, by rw [pair_div hu, pair_mod hu]; exact h2.1, by rw [pair_div hu, pair_mod hu]⟩
      have hoff : Off N ((u * k + c) % N * N + (u * k + d) % N) := by
        unfold Off
        rw [pair_div (Nat.mod_lt _ hN), pair_mod (Nat.mod_lt _ hN)]
        intro e
        exact hcd ((mod_sym (u := u) hc hd).symm.trans ((congrArg (· % k) e).trans (mod_sym hdk hd)))
      exact meets_of hN x y _ _ (Nat.mod_lt _ hN) (Nat.mod_lt _ hN) (.base hu hpe hoff) (Nat.succ.inj hl) (fun e he => hx e (List.mem_cons_of_mem _ he)) (fun e he => hy e (List.mem_cons_of_mem _ he)) hr h2.2
theorem words_of (hN : 0 < N) {p : Nat} (h : OffR k N lab p) : ∃ v x y, v < N ∧ (∀ c ∈ x, c < k) ∧ (∀ c ∈ y, c < k) ∧ x.length = y.length ∧ x ≠ y ∧ runG k N v x = p / N ∧ runG k N v y = p % N ∧ labG k N lab v x = labG k N lab v y := by
  induction h with
  | @base u q hu hpe hoff =>
    obtain ⟨c, d, hc, hd, hl, rfl⟩ := pe_iff.1 hpe
    rw [pair_div hu, pair_mod hu] at hl hoff ⊢
    refine ⟨u, [c], [d], hu, by simpa using hc, by simpa using hd, rfl, ?_, ?_, ?_, ?_⟩
    · intro e
      rw [List.cons.injEq] at e
      unfold Off at hoff
      rw [pair_div (Nat.mod_lt _ hN), pair_mod (Nat.mod_lt _ hN), e.1] at hoff
      exact hoff rfl
    · rw [pair_div (Nat.mod_lt _ hN)]; rfl
    · rw [pair_mod (Nat.mod_lt _ hN)]; rfl
    · simp only [labG, hl]
  | @step p q ho hpe hoff ih =>
    obtain ⟨v, x, y, hv, hx, hy, hxy, hne, hrx, hry, hlab⟩ := ih
    obtain ⟨c, d, hc, hd, hl, rfl⟩ := pe_iff.1 hpe
    refine ⟨v, x ++ [c], y ++ [d], hv, ?_, ?_, by simp [hxy], fun e => hne (List.append_inj e hxy).1, ?_, ?_, ?_⟩
    · intro e he
      rcases List.mem_append.1 he with h | h
      · exact hx e h
      · rw [List.mem_singleton.1 h]; exact hc
    · intro e he
      rcases List.mem_append.1 he with h | h
      · exact hy e h
      · rw [List.mem_singleton.1 h]; exact hd
    · rw [runG_app, hrx, pair_div (Nat.mod_lt _ hN)]; rfl
    · rw [runG_app, hry, pair_mod (Nat.mod_lt _ hN)]; rfl
    · rw [labG_app, labG_app, hlab, hrx, hry]
      simp only [labG, hl]
/-- twins just if a way leaves the diagonal and comes back -/
theorem twin_iff (hN : 0 < N) (hd : k ∣ N) : TwinG k N lab ↔ Meets k N lab := by
  constructor
  · rintro ⟨v, x, y, hv, hx, hy, hl, hne, hr, hlab⟩
    exact meets_diag hN hd x y v hv hl hne hx hy hr hlab
  · rintro ⟨p, q, ho, hpe, hoff⟩
    obtain ⟨v, x, y, hv, hx, hy, hxy, hne, hrx, hry, hlab⟩ := words_of hN ho
    obtain ⟨c, d, hc, hdk, hl, rfl⟩ := pe_iff.1 hpe
    refine ⟨v, x ++ [c], y ++ [d], hv, ?_, ?_, by simp [hxy], fun e => hne (List.append_inj e hxy).1, ?_, ?_⟩
    · intro e he
      rcases List.mem_append.1 he with h | h
      · exact hx e h
      · rw [List.mem_singleton.1 h]; exact hc
    · intro e he
      rcases List.mem_append.1 he with h | h
      · exact hy e h
      · rw [List.mem_singleton.1 h]; exact hdk
    · rw [runG_app, runG_app, hrx, hry]
      have h2 : ¬ ((p / N * k + c) % N ≠ (p % N * k + d) % N) := by
        unfold Off at hoff
        rwa [pair_div (Nat.mod_lt _ hN), pair_mod (Nat.mod_lt _ hN)] at hoff
      exact Classical.byContradiction h2
    · rw [labG_app, labG_app, hlab, hrx, hry]
      simp only [labG, hl]
/-- radius 0: one node, twins just if two symbols have one image -/
theorem twin_one : TwinG k 1 lab ↔ ∃ c d, c < k ∧ d < k ∧ c ≠ d ∧ lab c = lab d := by
  constructor
  · rintro ⟨v, x, y, hv, hx, hy, hl, hne, _, hlab⟩
    obtain rfl : v = 0 := by omega
    have go : ∀ (x y : List Nat), x.length = y.length → x ≠ y → (∀ c ∈ x, c < k) → (∀ c ∈ y, c < k) → labG k 1 lab 0 x = labG k 1 lab 0 y → ∃ c d, c < k ∧ d < k ∧ c ≠ d ∧ lab c = lab d := by
      intro x
      induction x with
      | nil =>
        intro y hl hne _ _ _
        cases y with
        | nil => exact absurd rfl hne
        | cons _ _ => cases hl
      | cons c x ih =>
        intro y hl hne hx hy hlab
        cases y with
        | nil => cases hl
        | cons d y =>
          have h2 := List.cons.inj hlab
          rw [Nat.mod_one, Nat.mod_one, Nat.zero_mul, Nat.zero_add, Nat.zero_add] at h2
          by_cases hcd : c = d
          · subst hcd
            exact ih y (Nat.succ.inj hl) (fun e => hne (by rw [e])) (fun e he => hx e (List.mem_cons_of_mem _ he)) (fun e he => hy e (List.mem_cons_of_mem _ he)) h2.2
          · exact ⟨c, d, hx c (List.mem_cons_self ..), hy d (List.mem_cons_self ..), hcd, h2.1⟩
    exact go x y hl hne hx hy hlab
  · rintro ⟨c, d, hc, hd, hne, hl⟩
    refine ⟨0, [c], [d], by omega, by simpa using hc, by simpa using hd, rfl, by simpa using hne, ?_, ?_⟩
    · simp only [runG, Nat.mod_one]
    · simp only [labG, Nat.zero_mul, Nat.zero_add, hl]
end
end Go.Proofs.YtiglilecmieelaaGreatDoor
