/- Plain: the garden of Eden theorem for labelled graphs of overlapping windows. -/
namespace Go.Proofs.YtiglilecmieelaaGreatDoor
set_option linter.unusedVariables false

/-! ### counting -/
theorem nodup_le {α : Type} [DecidableEq α] : ∀ {l m : List α}, l.Nodup → (∀ x ∈ l, x ∈ m) → l.length ≤ m.length
  | [], m, _, _ => Nat.zero_le _
  | x :: r, m, h, hs => by
    have hx := hs x (List.mem_cons_self ..)
    have hn := List.nodup_cons.1 h
    have h1 := nodup_le (l := r) (m := m.erase x) hn.2 fun y hy => by
      rw [List.mem_erase_of_ne (by rintro rfl; exact hn.1 hy)]
      exact hs y (List.mem_cons_of_mem _ hy)
    rw [List.length_erase_of_mem hx] at h1
    have := List.length_pos_of_mem hx
    simp only [List.length_cons]
    omega
theorem pigeon {α β : Type} [DecidableEq α] [DecidableEq β] {l : List α} {m : List β} {f : α → β} (hl : l.Nodup) (hf : ∀ x ∈ l, f x ∈ m) (hlt : m.length < l.length) : ∃ x y, x ∈ l ∧ y ∈ l ∧ x ≠ y ∧ f x = f y := by
  apply Classical.byContradiction
  intro hn
  have hinj : ∀ x ∈ l, ∀ y ∈ l, f x = f y → x = y := fun x hx y hy e => Classical.byContradiction fun h => hn ⟨x, y, hx, hy, h, e⟩
  have hnd : (l.map f).Nodup := by
    clear hf hlt hn
    induction l with
    | nil => simp
    | cons x r ih =>
      have h := List.nodup_cons.1 hl
      rw [List.map_cons, List.nodup_cons]
      refine ⟨fun hm => ?_, ih h.2 fun a ha b hb => hinj a (List.mem_cons_of_mem _ ha) b (List.mem_cons_of_mem _ hb)⟩
      obtain ⟨y, hy, e⟩ := List.mem_map.1 hm
      have := hinj y (List.mem_cons_of_mem _ hy) x (List.mem_cons_self ..) e
      exact h.1 (this ▸ hy)
  have := nodup_le hnd fun y hy => by
    obtain ⟨x, hx, rfl⟩ := List.mem_map.1 hy
    exact hf x hx
  rw [List.length_map] at this
  omega
/-- n blocks one behind another -/
def catW {α : Type} (G : List (List α)) : Nat → List (List α)
  | 0 => [[]]
  | n + 1 => G.flatMap fun g => (catW G n).map fun x => g ++ x
theorem catW_len {α : Type} (G : List (List α)) : ∀ n, (catW G n).length = G.length ^ n
  | 0 => by simp [catW]
  | n + 1 => by
    have h := catW_len G n
    simp only [catW, List.length_flatMap, List.length_map, h]
    rw [show (fun g : List α => G.length ^ n) = fun _ => G.length ^ n from rfl]
    rw [Nat.pow_succ, Nat.mul_comm]
    generalize G.length ^ n = c
    clear h
    induction G with
    | nil => simp
    | cons g r ih => simp only [List.map_cons, List.sum_cons, ih, List.length_cons, Nat.add_mul, Nat.one_mul]; omega
theorem catW_mem {α : Type} {G : List (List α)} {n : Nat} {g x : List α} (hg : g ∈ G) (hx : x ∈ catW G n) : g ++ x ∈ catW G (n + 1) :=
  List.mem_flatMap.2 ⟨g, hg, List.mem_map.2 ⟨x, hx, rfl⟩⟩
theorem nodup_flat {α β : Type} {f : α → List β} : ∀ {l : List α}, l.Nodup → (∀ x ∈ l, (f x).Nodup) → (∀ x ∈ l, ∀ y ∈ l, ∀ z, z ∈ f x → z ∈ f y → x = y) → (l.flatMap f).Nodup
  | [], _, _, _ => by simp
  | x :: r, h, h1, h2 => by
    have hn := List.nodup_cons.1 h
    rw [List.flatMap_cons, List.nodup_append]
    refine ⟨h1 x (List.mem_cons_self ..), nodup_flat hn.2 (fun y hy => h1 y (List.mem_cons_of_mem _ hy)) (fun a ha b hb => h2 a (List.mem_cons_of_mem _ ha) b (List.mem_cons_of_mem _ hb)), fun a ha b hb e => ?_⟩
    obtain ⟨y, hy, hb2⟩ := List.mem_flatMap.1 hb
    have := h2 x (List.mem_cons_self ..) y (List.mem_cons_of_mem _ hy) a ha (e ▸ hb2)
    exact hn.1 (this ▸ hy)
theorem nodup_inj {α β : Type} {f : α → β} : ∀ {l : List α}, l.Nodup → (∀ x ∈ l, ∀ y ∈ l, f x = f y → x = y) → (l.map f).Nodup
  | [], _, _ => by simp
  | x :: r, h, hi => by
    have hn := List.nodup_cons.1 h
    rw [List.map_cons, List.nodup_cons]
    refine ⟨fun hm => ?_, nodup_inj hn.2 fun a ha b hb => hi a (List.mem_cons_of_mem _ ha) b (List.mem_cons_of_mem _ hb)⟩
    obtain ⟨y, hy, e⟩ := List.mem_map.1 hm
    have := hi y (List.mem_cons_of_mem _ hy) x (List.mem_cons_self ..) e
    exact hn.1 (this ▸ hy)
theorem catW_nodup {α : Type} {G : List (List α)} {m : Nat} (hG : G.Nodup) (hm : ∀ g ∈ G, g.length = m) : ∀ n, (catW G n).Nodup
  | 0 => by simp [catW]
  | n + 1 => by
    refine nodup_flat hG (fun g _ => nodup_inj (catW_nodup hG hm n) fun a _ b _ e => List.append_cancel_left e) fun g hg h hh z hz1 hz2 => ?_
    obtain ⟨a, _, rfl⟩ := List.mem_map.1 hz1
    obtain ⟨b, _, e⟩ := List.mem_map.1 hz2
    exact ((List.append_inj e ((hm h hh).trans (hm g hg).symm)).1).symm
/-- all words of a length over k symbols -/
def allW (k n : Nat) : List (List Nat) := catW ((List.range k).map fun c => [c]) n
theorem allW_len (k n : Nat) : (allW k n).length = k ^ n := by unfold allW; rw [catW_len]; simp
theorem allW_nodup (k n : Nat) : (allW k n).Nodup :=
  catW_nodup (m := 1) (nodup_inj List.nodup_range fun a _ b _ e => by simpa using e) (fun g hg => by obtain ⟨c, _, rfl⟩ := List.mem_map.1 hg; rfl) n
theorem allW_mem {k : Nat} : ∀ {n : Nat} {x : List Nat}, x ∈ allW k n ↔ x.length = n ∧ ∀ c ∈ x, c < k
  | 0, x => by
    unfold allW catW
    simp only [List.mem_singleton]
    constructor
    · rintro rfl; simp
    · rintro ⟨h, _⟩; exact List.eq_nil_of_length_eq_zero h
  | n + 1, x => by
    have ih := @allW_mem k n
    unfold allW at ih ⊢
    simp only [catW, List.mem_flatMap, List.mem_map, List.mem_range]
    constructor
    · rintro ⟨g, ⟨c, hc, rfl⟩, y, hy, rfl⟩
      have h := ih.1 hy
      refine ⟨by simp [h.1], fun d hd => ?_⟩
      simp only [List.cons_append, List.nil_append, List.mem_cons] at hd
      rcases hd with rfl | hd
      · exact hc
      · exact h.2 d hd
    · rintro ⟨hl, hk⟩
      cases x with
      | nil => simp at hl
      | cons c y =>
        exact ⟨[c], ⟨c, hk c (List.mem_cons_self ..), rfl⟩, y, ih.2 ⟨by simpa using hl, fun d hd => hk d (List.mem_cons_of_mem _ hd)⟩, rfl⟩
theorem allW_cat {k m : Nat} : ∀ {n : Nat} {x : List Nat}, x ∈ catW (allW k m) n → x.length = n * m ∧ ∀ c ∈ x, c < k
  | 0, x, h => by
    simp only [catW, List.mem_singleton] at h
    subst h; simp
  | n + 1, x, h => by
    simp only [catW, List.mem_flatMap, List.mem_map] at h
    obtain ⟨g, hg, y, hy, rfl⟩ := h
    have h1 := allW_mem.1 hg
    have h2 := allW_cat hy
    refine ⟨by rw [List.length_append, h1.1, h2.1, Nat.add_mul, Nat.one_mul, Nat.add_comm], fun c hc => ?_⟩
    rcases List.mem_append.1 hc with h | h
    · exact h1.2 c h
    · exact h2.2 c h
/-- a power outgrows any multiple of the lesser power -/
theorem outgrow (K N : Nat) (hK : 1 ≤ K) : ∃ n, N * (K - 1) ^ n < K ^ n := by
  obtain ⟨q, rfl⟩ : ∃ q, K = q + 1 := ⟨K - 1, by omega⟩
  rw [Nat.add_sub_cancel]
  have bern : ∀ n, q ^ (n + 1) + (n + 1) * q ^ n ≤ (q + 1) ^ (n + 1) := by
    intro n
    induction n with
    | zero => simp
    | succ n ih =>
      have h1 : (q + 1) ^ (n + 1 + 1) = (q + 1) ^ (n + 1) * q + (q + 1) ^ (n + 1) := by rw [Nat.pow_succ (q + 1) (n + 1), Nat.mul_add, Nat.mul_one]
      have h2 : (q ^ (n + 1) + (n + 1) * q ^ n) * q ≤ (q + 1) ^ (n + 1) * q := Nat.mul_le_mul_right _ ih
      have h3 : q ^ (n + 1) ≤ (q + 1) ^ (n + 1) := Nat.pow_le_pow_left (Nat.le_succ q) _
      have h4 : (q ^ (n + 1) + (n + 1) * q ^ n) * q = q ^ (n + 1 + 1) + (n + 1) * q ^ (n + 1) := by
        rw [Nat.add_mul, ← Nat.pow_succ, Nat.mul_assoc, ← Nat.pow_succ]
      rw [h1]
      rw [h4] at h2
      have h5 : (n + 1 + 1) * q ^ (n + 1) = (n + 1) * q ^ (n + 1) + q ^ (n + 1) := by rw [Nat.add_mul (n + 1) 1, Nat.one_mul]
      rw [h5]
      omega
  rcases Nat.eq_zero_or_pos q with rfl | hq
  · exact ⟨1, by simp⟩
  · refine ⟨N * q + 1, ?_⟩
    have h := bern (N * q)
    have h1 : N * q ^ (N * q + 1) = (N * q) * q ^ (N * q) := by rw [Nat.pow_succ, Nat.mul_assoc, Nat.mul_comm (q ^ (N * q)) q]
    rw [h1]
    have h2 : 0 < q ^ (N * q) := Nat.pow_pos hq
    have h3 : (N * q + 1) * q ^ (N * q) = N * q * q ^ (N * q) + q ^ (N * q) := by rw [Nat.add_mul, Nat.one_mul]
    omega

/-! ### graphs of windows -/
section
variable (k N : Nat) (lab : Nat → Nat)
/-- the node behind a word -/
def runG (v : Nat) : List Nat → Nat
  | [] => v
  | c :: x => runG ((v * k + c) % N) x
/-- the labels along a word -/
def labG (v : Nat) : List Nat → List Nat
  | [] => []
  | c :: x => lab (v * k + c) :: labG ((v * k + c) % N) x
end
section
variable {k N : Nat} {lab : Nat → Nat}
theorem runG_app (v : Nat) : ∀ (x y : List Nat), runG k N v (x ++ y) = runG k N (runG k N v x) y := by
  intro x
  induction x generalizing v with
  | nil => intro y; rfl
  | cons c x ih => intro y; exact ih _ y
theorem labG_app (v : Nat) : ∀ (x y : List Nat), labG k N lab v (x ++ y) = labG k N lab v x ++ labG k N lab (runG k N v x) y := by
  intro x
  induction x generalizing v with
  | nil => intro y; rfl
  | cons c x ih =>
    intro y
    show lab _ :: labG k N lab _ (x ++ y) = lab _ :: (labG k N lab _ x ++ _)
    rw [ih]; rfl
theorem labG_len (v : Nat) : ∀ x : List Nat, (labG k N lab v x).length = x.length := by
  intro x
  induction x generalizing v with
  | nil => rfl
  | cons c x ih => simp [labG, ih]
theorem runG_lt (hN : 0 < N) {v : Nat} (hv : v < N) : ∀ x : List Nat, runG k N v x < N := by
  intro x
  induction x generalizing v with
  | nil => exact hv
  | cons c x ih => exact ih (Nat.mod_lt _ hN)
/-- labels are symbols -/
def LabK (k N : Nat) (lab : Nat → Nat) : Prop := ∀ i, i < N * k → lab i < k
theorem labG_sym (hN : 0 < N) (hL : LabK k N lab) {v : Nat} (hv : v < N) : ∀ {x : List Nat}, (∀ c ∈ x, c < k) → ∀ s ∈ labG k N lab v x, s < k := by
  intro x
  induction x generalizing v with
  | nil => intro _ s hs; cases hs
  | cons c x ih =>
    intro hx s hs
    have hc := hx c (List.mem_cons_self ..)
    rcases List.mem_cons.1 hs with rfl | h
    · apply hL
      have : (v + 1) * k ≤ N * k := Nat.mul_le_mul_right _ hv
      rw [Nat.add_mul, Nat.one_mul] at this
      omega
    · exact ih (Nat.mod_lt _ hN) (fun d hd => hx d (List.mem_cons_of_mem _ hd)) s h
/-- every word has a preimage -/
def OntoG (k N : Nat) (lab : Nat → Nat) : Prop := ∀ w : List Nat, (∀ c ∈ w, c < k) → ∃ v x, v < N ∧ (∀ c ∈ x, c < k) ∧ labG k N lab v x = w
/-- two words from one node to one node with the same labels -/
def TwinG (k N : Nat) (lab : Nat → Nat) : Prop := ∃ v x y, v < N ∧ (∀ c ∈ x, c < k) ∧ (∀ c ∈ y, c < k) ∧ x.length = y.length ∧ x ≠ y ∧ runG k N v x = runG k N v y ∧ labG k N lab v x = labG k N lab v y
/-- each node ends a word of d symbols -/
def Reached (k N d : Nat) : Prop := ∀ v, v < N → ∃ p : List Nat, p.length = d ∧ (∀ c ∈ p, c < k) ∧ ∀ u, u < N → runG k N u p = v

theorem allW_erase_len {k m : Nat} {w : List Nat} (h : w ∈ allW k m) : ((allW k m).erase w).length = k ^ m - 1 := by rw [List.length_erase_of_mem h, allW_len]

/-- a word without a preimage makes twins -/
theorem twin_of_orphan {d : Nat} (k1 : 1 ≤ k) (hN : 0 < N) (hL : LabK k N lab) (hR : Reached k N d) (hno : ¬ OntoG k N lab) : TwinG k N lab := by
  obtain ⟨w, hw, hnw⟩ : ∃ w : List Nat, (∀ c ∈ w, c < k) ∧ ∀ v x, v < N → (∀ c ∈ x, c < k) → labG k N lab v x ≠ w := by
    apply Classical.byContradiction
    intro h
    apply hno
    intro w hw
    apply Classical.byContradiction
    intro h2
    exact h ⟨w, hw, fun v x hv hx e => h2 ⟨v, x, hv, hx, e⟩⟩
  obtain ⟨m, hm⟩ : ∃ m, w.length = m := ⟨_, rfl⟩
  have hwm : w ∈ allW k m := allW_mem.2 ⟨hm, hw⟩
  obtain ⟨p, hpl, hpk, hpr⟩ := hR 0 hN
  obtain ⟨n, hn⟩ := outgrow (k ^ m) (k ^ d) (Nat.pow_pos k1)
  let G := (allW k m).erase w
  have key : ∀ n v x, v < N → x ∈ catW (allW k m) n → labG k N lab v x ∈ catW G n := by
    intro n
    induction n with
    | zero =>
      intro v x hv hx
      simp only [catW, List.mem_singleton] at hx
      subst hx
      simp [labG, catW]
    | succ n ih =>
      intro v x hv hx
      simp only [catW, List.mem_flatMap, List.mem_map] at hx
      obtain ⟨g, hg, y, hy, rfl⟩ := hx
      have hg2 := allW_mem.1 hg
      rw [labG_app]
      refine catW_mem ?_ (ih _ _ (runG_lt hN hv g) hy)
      have h1 : labG k N lab v g ∈ allW k m := allW_mem.2 ⟨by rw [labG_len]; exact hg2.1, labG_sym hN hL hv hg2.2⟩
      exact (List.mem_erase_of_ne (hnw v g hv hg2.2)).2 h1
  let M := (catW G n).flatMap fun a => (allW k d).map fun b => (a, b)
  have hMl : M.length = (k ^ m - 1) ^ n * k ^ d := by
    show ((catW G n).flatMap fun a => (allW k d).map fun b => (a, b)).length = _
    rw [← allW_erase_len hwm, ← catW_len]
    show _ = (catW G n).length * _
    generalize catW G n = l
    induction l with
    | nil => simp
    | cons a r ih => rw [List.flatMap_cons, List.length_append, ih, List.length_map, allW_len, List.length_cons, Nat.add_mul, Nat.one_mul, Nat.add_comm]
  obtain ⟨x, y, hx, hy, hne, he⟩ := pigeon (l := catW (allW k m) n) (m := M) (f := fun x => (labG k N lab 0 x, labG k N lab (runG k N 0 x) p))
    (catW_nodup (m := m) (allW_nodup k m) (fun g hg => (allW_mem.1 hg).1) n)
    (fun x hx => List.mem_flatMap.2 ⟨_, key n 0 x hN hx, List.mem_map.2 ⟨_, allW_mem.2 ⟨by rw [labG_len]; exact hpl, labG_sym hN hL (runG_lt hN hN x) hpk⟩, rfl⟩⟩)
    (by rw [hMl, catW_len, allW_len, Nat.mul_comm]; exact hn)
  have hx2 := allW_cat hx
  have hy2 := allW_cat hy
  simp only [Prod.mk.injEq] at he
  refine ⟨0, x ++ p, y ++ p, hN, ?_, ?_, by rw [List.length_append, List.length_append, hx2.1, hy2.1], fun e => hne (List.append_cancel_right e), ?_, ?_⟩
  · intro c hc
    rcases List.mem_append.1 hc with h | h
    · exact hx2.2 c h
    · exact hpk c h
  · intro c hc
    rcases List.mem_append.1 hc with h | h
    · exact hy2.2 c h
    · exact hpk c h
  · rw [runG_app, runG_app, hpr _ (runG_lt hN hN x), hpr _ (runG_lt hN hN y)]
  · rw [labG_app, labG_app, he.1, he.2]

/-- twins make a word without a preimage -/
theorem orphan_of_twin {d : Nat} (k1 : 1 ≤ k) (hN : 0 < N) (hL : LabK k N lab) (hR : Reached k N d) (ht : TwinG k N lab) : ¬ OntoG k N lab := by
  intro ho
  obtain ⟨u, x, y, hu, hx, hy, hl, hne, hr, hlab⟩ := ht
  obtain ⟨p, hpl, hpk, hpr⟩ := hR u hu
  obtain ⟨m, hm⟩ : ∃ m, (p ++ x).length = m := ⟨_, rfl⟩
  have hym : (p ++ y).length = m := by rw [← hm, List.length_append, List.length_append, hl]
  have hpx : ∀ c ∈ p ++ x, c < k := fun c hc => by
    rcases List.mem_append.1 hc with h | h
    · exact hpk c h
    · exact hx c h
  have hpy : ∀ c ∈ p ++ y, c < k := fun c hc => by
    rcases List.mem_append.1 hc with h | h
    · exact hpk c h
    · exact hy c h
  have hY : p ++ y ∈ allW k m := allW_mem.2 ⟨hym, hpy⟩
  have hX : p ++ x ∈ allW k m := allW_mem.2 ⟨hm, hpx⟩
  obtain ⟨n, hn⟩ := outgrow (k ^ m) N (Nat.pow_pos k1)
  let G := (allW k m).erase (p ++ y)
  -- every block may be taken other than p ++ y
  have key : ∀ n v z, v < N → z ∈ catW (allW k m) n → ∃ z' ∈ catW G n, labG k N lab v z' = labG k N lab v z ∧ runG k N v z' = runG k N v z := by
    intro n
    induction n with
    | zero =>
      intro v z hv hz
      exact ⟨z, hz, rfl, rfl⟩
    | succ n ih =>
      intro v z hv hz
      simp only [catW, List.mem_flatMap, List.mem_map] at hz
      obtain ⟨g, hg, q, hq, rfl⟩ := hz
      obtain ⟨q', hq', e1, e2⟩ := ih (runG k N v g) q (runG_lt hN hv g) hq
      by_cases hgy : g = p ++ y
      · subst hgy
        have h1 : runG k N v (p ++ x) = runG k N v (p ++ y) := by rw [runG_app, runG_app, hpr v hv, hr]
        have h2 : labG k N lab v (p ++ x) = labG k N lab v (p ++ y) := by rw [labG_app, labG_app, hpr v hv, hlab]
        refine ⟨(p ++ x) ++ q', catW_mem ((List.mem_erase_of_ne fun e => hne (List.append_cancel_left e)).2 hX) hq', ?_, ?_⟩
        · rw [labG_app v (p ++ x) q', labG_app v (p ++ y) q, h2, h1, e1]
        · rw [runG_app v (p ++ x) q', runG_app v (p ++ y) q, h1, e2]
      · refine ⟨g ++ q', catW_mem ((List.mem_erase_of_ne hgy).2 hg) hq', ?_, ?_⟩
        · rw [labG_app, labG_app, e1]
        · rw [runG_app, runG_app, e2]
  -- a word of n * m symbols is n blocks
  have blocks : ∀ n (z : List Nat), z.length = n * m → (∀ c ∈ z, c < k) → z ∈ catW (allW k m) n := by
    intro n
    induction n with
    | zero =>
      intro z hz _
      rw [Nat.zero_mul] at hz
      rw [List.eq_nil_of_length_eq_zero hz]
      simp [catW]
    | succ n ih =>
      intro z hz hk
      rw [Nat.add_mul, Nat.one_mul] at hz
      rw [← List.take_append_drop m z]
      refine catW_mem (allW_mem.2 ⟨by rw [List.length_take]; omega, fun c hc => hk c (List.mem_of_mem_take hc)⟩) (ih _ (by rw [List.length_drop]; omega) fun c hc => hk c (List.mem_of_mem_drop hc))
  let M := (List.range N).flatMap fun v => (catW G n).map fun z => labG k N lab v z
  have hMl : M.length = N * (k ^ m - 1) ^ n := by
    show ((List.range N).flatMap fun v => (catW G n).map fun z => labG k N lab v z).length = _
    rw [List.length_flatMap]
    simp only [List.length_map, catW_len]
    rw [allW_erase_len hY]
    generalize (k ^ m - 1) ^ n = c
    clear hn key blocks ho hR hL hr hlab hu
    have : ∀ j, ((List.range j).map fun _ => c).sum = j * c := by
      intro j
      induction j with
      | zero => simp
      | succ j ih => rw [List.range_succ, List.map_append, List.sum_append, ih, Nat.add_mul]; simp
    exact this N
  have hle := nodup_le (l := catW (allW k m) n) (m := M) (catW_nodup (m := m) (allW_nodup k m) (fun g hg => (allW_mem.1 hg).1) n) fun z hz => by
    have hz2 := allW_cat hz
    obtain ⟨v, q, hv, hq, e⟩ := ho z hz2.2
    have hql : q.length = n * m := by rw [← hz2.1, ← e, labG_len]
    obtain ⟨q', hq', e1, _⟩ := key n v q hv (blocks n q hql hq)
    exact List.mem_flatMap.2 ⟨v, List.mem_range.2 hv, List.mem_map.2 ⟨q', hq', e1.trans e⟩⟩
  rw [hMl, catW_len, allW_len] at hle
  omega
/-- the garden of Eden theorem -/
theorem eden {d : Nat} (k1 : 1 ≤ k) (hN : 0 < N) (hL : LabK k N lab) (hR : Reached k N d) : OntoG k N lab ↔ ¬ TwinG k N lab :=
  ⟨fun h t => orphan_of_twin k1 hN hL hR t h, fun h => Classical.byContradiction fun hno => h (twin_of_orphan k1 hN hL hR hno)⟩
/-- the number that a word's symbols make -/
def numN (k : Nat) : List Nat → Nat → Nat
  | [], v => v
  | c :: x, v => numN k x (v * k + c)
theorem numN_eq (k : Nat) : ∀ (x : List Nat) (v : Nat), numN k x v = v * k ^ x.length + numN k x 0
  | [], v => by simp [numN]
  | c :: x, v => by
    show numN k x (v * k + c) = v * k ^ (x.length + 1) + numN k x (0 * k + c)
    rw [numN_eq k x (v * k + c), numN_eq k x (0 * k + c), Nat.zero_mul, Nat.zero_add, Nat.add_mul, Nat.pow_succ, Nat.mul_assoc, Nat.mul_comm k, Nat.add_assoc]
theorem runG_num {v : Nat} (hv : v < N) : ∀ x : List Nat, runG k N v x = numN k x v % N := by
  intro x
  induction x generalizing v with
  | nil => exact (Nat.mod_eq_of_lt hv).symm
  | cons c x ih =>
    have hN : 0 < N := Nat.lt_of_le_of_lt (Nat.zero_le _) hv
    show runG k N ((v * k + c) % N) x = numN k x (v * k + c) % N
    rw [ih (Nat.mod_lt _ hN), numN_eq, numN_eq k x (v * k + c), Nat.add_mod, Nat.mul_mod, Nat.mod_mod, ← Nat.mul_mod, ← Nat.add_mod]
/-- a node's digits -/
def digN (k : Nat) : Nat → Nat → List Nat
  | 0, _ => []
  | d + 1, v => digN k d (v / k) ++ [v % k]
theorem digN_len (k : Nat) : ∀ d v, (digN k d v).length = d
  | 0, _ => rfl
  | d + 1, v => by simp [digN, digN_len k d]
theorem digN_lt {k : Nat} (k1 : 1 ≤ k) : ∀ {d v : Nat}, ∀ c ∈ digN k d v, c < k
  | 0, _, c, h => by cases h
  | d + 1, v, c, h => by
    rcases List.mem_append.1 h with h | h
    · exact digN_lt k1 c h
    · rw [List.mem_singleton.1 h]; exact Nat.mod_lt _ k1
theorem numN_app (k : Nat) : ∀ (x y : List Nat) (v : Nat), numN k (x ++ y) v = numN k y (numN k x v)
  | [], y, v => rfl
  | c :: x, y, v => numN_app k x y _
theorem num_dig {k : Nat} : ∀ {d v : Nat}, v < k ^ d → numN k (digN k d v) 0 = v
  | 0, v, h => by
    have : v = 0 := by simpa using h
    subst this; rfl
  | d + 1, v, h => by
    show numN k (digN k d (v / k) ++ [v % k]) 0 = v
    rw [numN_app, num_dig (by rw [Nat.pow_succ] at h; exact Nat.div_lt_of_lt_mul (by rw [Nat.mul_comm]; exact h))]
    show v / k * k + v % k = v
    rw [Nat.mul_comm]
    exact Nat.div_add_mod v k
theorem reached_pow {k d : Nat} (k1 : 1 ≤ k) : Reached k (k ^ d) d := fun v hv => ⟨digN k d v, digN_len k d v, digN_lt k1, fun u hu => by
  rw [runG_num hu, numN_eq, digN_len, num_dig hv, Nat.mul_comm, Nat.mul_add_mod, Nat.mod_eq_of_lt hv]⟩
end
end Go.Proofs.YtiglilecmieelaaGreatDoor
