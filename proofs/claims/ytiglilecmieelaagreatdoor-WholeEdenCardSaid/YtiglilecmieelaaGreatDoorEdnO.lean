import Derived.Test.YtiglilecmieelaaGreatDoorEdnP
/- Plain: the walk over the sets of nodes behind each word. -/
namespace Go.Proofs.YtiglilecmieelaaGreatDoor
set_option linter.unusedVariables false

theorem nil_or_app {α : Type} (l : List α) : l = [] ∨ ∃ x c, l = x ++ [c] := by
  rcases List.eq_nil_or_concat l with h | ⟨x, c, h⟩
  · exact .inl h
  · exact .inr ⟨x, c, by rw [h, List.concat_eq_append]⟩
/-- a set as a number: bit x is set, if x is a member -/
def maskB (l : List Nat) : Nat := l.foldl (fun m x => m ||| 2 ^ x) 0
theorem foldl_bit (x : Nat) : ∀ (l : List Nat) (m : Nat), (l.foldl (fun m x => m ||| 2 ^ x) m).testBit x = (m.testBit x || decide (x ∈ l))
  | [], m => by simp
  | y :: l, m => by
    rw [List.foldl_cons, foldl_bit x l, Nat.testBit_or, Nat.testBit_two_pow, Bool.or_assoc]
    congr 1
    by_cases h : y = x
    · subst h; simp
    · have h2 : ¬ x = y := fun e => h e.symm
      simp [h, h2]
theorem mask_bit (l : List Nat) (x : Nat) : (maskB l).testBit x = decide (x ∈ l) := by
  unfold maskB
  rw [foldl_bit]; simp
theorem mask_app (l : List Nat) (x : Nat) : maskB (l ++ [x]) = maskB l ||| 2 ^ x := by unfold maskB; rw [List.foldl_append]; rfl
theorem mask_lt {n : Nat} {l : List Nat} (h : ∀ x ∈ l, x < n) : maskB l < 2 ^ n := by
  apply Nat.lt_pow_two_of_testBit
  intro i hi
  rw [mask_bit, decide_eq_false]
  intro hm
  have := h i hm
  omega
/-- the members of a set, rising -/
def memB (n m : Nat) : List Nat := (List.range n).filter fun x => m.testBit x
theorem memB_mem {n m x : Nat} : x ∈ memB n m ↔ x < n ∧ m.testBit x = true := by
  unfold memB
  rw [List.mem_filter, List.mem_range]
section
variable (k n : Nat) (lab : Nat → Nat)
/-- the nodes behind a node by the edges of a label -/
def behV (s v : Nat) : List Nat := ((List.range k).filter fun c => lab (v * k + c) == s).map fun c => (v * k + c) % n
/-- the nodes behind a list of nodes -/
def behB (l : List Nat) (s : Nat) : List Nat := l.flatMap fun v => behV k n lab s v
/-- what comes of a step -/
inductive StO
  | orphan (w : List Nat) : StO
  | big : StO
  | go (S : List Nat × List (List Nat)) : StO
def stepO (i s : Nat) (S : List Nat × List (List Nat)) : StO :=
  if behB k n lab (memB n (S.1.getD i 0)) s = [] then .orphan (S.2.getD i [] ++ [s])
  else if maskB (behB k n lab (memB n (S.1.getD i 0)) s) ∈ S.1 then .go S
  else if S.1.length = 4096 then .big
  else .go (S.1 ++ [maskB (behB k n lab (memB n (S.1.getD i 0)) s)], S.2 ++ [S.2.getD i [] ++ [s]])
/-- i states are done, and s symbols of the next one -/
inductive ORun : Nat → Nat → List Nat × List (List Nat) → Prop
  | start : ORun 0 0 ([maskB (List.range n)], [[]])
  | sym {i s : Nat} {S S' : List Nat × List (List Nat)} : ORun i s S → i < S.1.length → s < k → stepO k n lab i s S = .go S' → ORun i (s + 1) S'
  | row {i : Nat} {S : List Nat × List (List Nat)} : ORun i k S → i < S.1.length → ORun (i + 1) 0 S
/-- a node behind a word -/
def Rw (w : List Nat) (t : Nat) : Prop := ∃ v x, v < n ∧ (∀ c ∈ x, c < k) ∧ labG k n lab v x = w ∧ runG k n v x = t
end
section
variable {k n : Nat} {lab : Nat → Nat}
theorem behV_mem {s v t : Nat} : t ∈ behV k n lab s v ↔ ∃ c, c < k ∧ lab (v * k + c) = s ∧ t = (v * k + c) % n := by
  unfold behV
  simp only [List.mem_map, List.mem_filter, List.mem_range, beq_iff_eq]
  constructor
  · rintro ⟨c, ⟨hc, hl⟩, rfl⟩; exact ⟨c, hc, hl, rfl⟩
  · rintro ⟨c, hc, hl, rfl⟩; exact ⟨c, ⟨hc, hl⟩, rfl⟩
theorem behB_mem {l : List Nat} {s t : Nat} : t ∈ behB k n lab l s ↔ ∃ v ∈ l, ∃ c, c < k ∧ lab (v * k + c) = s ∧ t = (v * k + c) % n := by
  unfold behB
  simp only [List.mem_flatMap, behV_mem]
theorem rw_nil {t : Nat} : Rw k n lab [] t ↔ t < n := by
  constructor
  · rintro ⟨v, x, hv, _, hl, hr⟩
    cases x with
    | nil => rw [← hr]; exact hv
    | cons c x => cases hl
  · intro h
    exact ⟨t, [], h, by simp, rfl, rfl⟩
theorem rw_app {w : List Nat} {s t : Nat} : Rw k n lab (w ++ [s]) t ↔ ∃ u, Rw k n lab w u ∧ ∃ c, c < k ∧ lab (u * k + c) = s ∧ t = (u * k + c) % n := by
  constructor
  · rintro ⟨v, x, hv, hx, hl, hr⟩
    rcases nil_or_app x with rfl | ⟨x', c, rfl⟩
    · exact absurd hl.symm (by simp [labG])
    · rw [labG_app] at hl
      rw [runG_app] at hr
      have h := List.append_inj' hl rfl
      refine ⟨runG k n v x', ⟨v, x', hv, fun e he => hx e (List.mem_append.2 (.inl he)), h.1, rfl⟩, c, hx c (List.mem_append.2 (.inr (List.mem_singleton.2 rfl))), (List.cons.inj h.2).1, hr.symm⟩
  · rintro ⟨u, ⟨v, x, hv, hx, hl, hr⟩, c, hc, hlab, rfl⟩
    refine ⟨v, x ++ [c], hv, fun e he => ?_, ?_, ?_⟩
    · rcases List.mem_append.1 he with h | h
      · exact hx e h
      · rw [List.mem_singleton.1 h]; exact hc
    · rw [labG_app, hl, hr]
      simp only [labG, hlab]
    · rw [runG_app, hr]; rfl
theorem rw_lt (hn : 0 < n) {w : List Nat} {t : Nat} (h : Rw k n lab w t) : t < n := by
  obtain ⟨v, x, hv, _, _, rfl⟩ := h
  exact runG_lt hn hv x
structure OInv (k n : Nat) (lab : Nat → Nat) (i s : Nat) (S : List Nat × List (List Nat)) : Prop where
  len : S.2.length = S.1.length
  pos : 0 < S.1.length
  max : S.1.length ≤ 4096
  first : S.1.getD 0 0 = maskB (List.range n)
  ile : i ≤ S.1.length
  sle : s ≤ k
  sym : ∀ j, j < S.1.length → ∀ c ∈ S.2.getD j [], c < k
  reach : ∀ j, j < S.1.length → ∀ t, (S.1.getD j 0).testBit t = true ↔ Rw k n lab (S.2.getD j []) t
  closed : ∀ j c, c < k → (j < i ∨ (j = i ∧ c < s)) → behB k n lab (memB n (S.1.getD j 0)) c ≠ [] ∧ maskB (behB k n lab (memB n (S.1.getD j 0)) c) ∈ S.1
theorem beh_reach (hn : 0 < n) {i s : Nat} {S : List Nat × List (List Nat)} (h : OInv k n lab i s S) {j : Nat} (hj : j < S.1.length) (c t : Nat) : t ∈ behB k n lab (memB n (S.1.getD j 0)) c ↔ Rw k n lab (S.2.getD j [] ++ [c]) t := by
  rw [behB_mem, rw_app]
  constructor
  · rintro ⟨v, hv, h2⟩
    exact ⟨v, (h.reach j hj v).1 (memB_mem.1 hv).2, h2⟩
  · rintro ⟨u, hu, h2⟩
    exact ⟨u, memB_mem.2 ⟨rw_lt hn hu, (h.reach j hj u).2 hu⟩, h2⟩
theorem getD_app_lt {α : Type} {l m : List α} {i : Nat} {x : α} (h : i < l.length) : (l ++ m).getD i x = l.getD i x := by
  simp [List.getD_eq_getElem?_getD, List.getElem?_append_left h]
theorem getD_app_at {α : Type} {l : List α} {y x : α} : (l ++ [y]).getD l.length x = y := by
  simp [List.getD_eq_getElem?_getD]
theorem orun_inv (hn : 0 < n) {i s : Nat} {S : List Nat × List (List Nat)} (h : ORun k n lab i s S) : OInv k n lab i s S := by
  induction h with
  | start =>
    refine ⟨rfl, Nat.zero_lt_one, by show 1 ≤ 4096; decide, rfl, Nat.zero_le _, Nat.zero_le _, fun j hj => ?_, fun j hj t => ?_, fun j c _ h => by omega⟩
    · obtain rfl : j = 0 := by have : j < 1 := hj; omega
      intro c hc; cases hc
    · obtain rfl : j = 0 := by have : j < 1 := hj; omega
      show (maskB (List.range n)).testBit t = true ↔ Rw k n lab [] t
      rw [mask_bit, decide_eq_true_iff, List.mem_range, rw_nil]
  | @sym i s S S' hrun hi hs hst ih =>
    unfold stepO at hst
    by_cases h1 : behB k n lab (memB n (S.1.getD i 0)) s = []
    · rw [if_pos h1] at hst; cases hst
    · rw [if_neg h1] at hst
      by_cases h2 : maskB (behB k n lab (memB n (S.1.getD i 0)) s) ∈ S.1
      · rw [if_pos h2] at hst
        cases hst
        refine { ih with sle := hs, closed := fun j c hc h => ?_ }
        by_cases he : j = i ∧ c = s
        · rw [he.1, he.2]; exact ⟨h1, h2⟩
        · exact ih.closed j c hc (by omega)
      · rw [if_neg h2] at hst
        by_cases h3 : S.1.length = 4096
        · rw [if_pos h3] at hst; cases hst
        · rw [if_neg h3] at hst
          cases hst
          have hlen := ih.len
          have hmax := ih.max
          have hpos := ih.pos
          have hL : (S.1 ++ [maskB (behB k n lab (memB n (S.1.getD i 0)) s)]).length = S.1.length + 1 := by simp
          refine ⟨?_, ?_, ?_, ?_, ?_, hs, fun j hj => ?_, fun j hj t => ?_, fun j c hc h => ?_⟩
          · simp [hlen]
          · dsimp only; omega
          · dsimp only; omega
          · dsimp only
            rw [getD_app_lt hpos]; exact ih.first
          · dsimp only; omega
          · have hj' : j < S.1.length + 1 := by rw [← hL]; exact hj
            dsimp only
            by_cases hjl : j < S.1.length
            · rw [getD_app_lt (by omega)]; exact ih.sym j hjl
            · obtain rfl : j = S.2.length := by omega
              rw [getD_app_at]
              intro c hc
              rcases List.mem_append.1 hc with h | h
              · exact ih.sym i hi c h
              · rw [List.mem_singleton.1 h]; exact hs
          · have hj' : j < S.1.length + 1 := by rw [← hL]; exact hj
            show ((S.1 ++ _).getD j 0).testBit t = true ↔ Rw k n lab ((S.2 ++ _).getD j []) t
            by_cases hjl : j < S.1.length
            · rw [getD_app_lt hjl, getD_app_lt (by omega)]; exact ih.reach j hjl t
            · obtain rfl : j = S.1.length := by omega
              rw [getD_app_at, ← hlen, getD_app_at, mask_bit, decide_eq_true_iff]
              exact beh_reach hn ih hi s t
          · show behB k n lab (memB n ((S.1 ++ _).getD j 0)) c ≠ [] ∧ maskB (behB k n lab (memB n ((S.1 ++ _).getD j 0)) c) ∈ S.1 ++ _
            rw [getD_app_lt (by omega)]
            by_cases he : j = i ∧ c = s
            · rw [he.1, he.2]; exact ⟨h1, List.mem_append.2 (.inr (List.mem_singleton.2 rfl))⟩
            · have := ih.closed j c hc (by omega)
              exact ⟨this.1, List.mem_append.2 (.inl this.2)⟩
  | @row i S hrun hi ih =>
    exact { ih with ile := hi, sle := Nat.zero_le _, closed := fun j c hc h => ih.closed j c hc (by omega) }
/-- a step that finds no node: a word without a preimage -/
theorem orun_orphan (hn : 0 < n) {i s : Nat} {S : List Nat × List (List Nat)} (h : ORun k n lab i s S) (hi : i < S.1.length) (hs : s < k) {w : List Nat} (ho : stepO k n lab i s S = .orphan w) : ¬ OntoG k n lab := by
  have hI := orun_inv hn h
  unfold stepO at ho
  by_cases h1 : behB k n lab (memB n (S.1.getD i 0)) s = []
  · intro hon
    obtain ⟨v, x, hv, hx, hl⟩ := hon (S.2.getD i [] ++ [s]) fun c hc => by
      rcases List.mem_append.1 hc with h | h
      · exact hI.sym i hi c h
      · rw [List.mem_singleton.1 h]; exact hs
    have := (beh_reach hn hI hi s _).2 ⟨v, x, hv, hx, hl, rfl⟩
    rw [h1] at this
    cases this
  · rw [if_neg h1] at ho
    split at ho
    · cases ho
    · split at ho <;> cases ho
/-- no new state comes: every word has a preimage -/
theorem orun_done (hn : 0 < n) {i : Nat} {S : List Nat × List (List Nat)} (h : ORun k n lab i 0 S) (hend : S.1.length ≤ i) : OntoG k n lab := by
  have hI := orun_inv hn h
  have key : ∀ w : List Nat, (∀ c ∈ w, c < k) → ∃ j, j < S.1.length ∧ ∀ t, (S.1.getD j 0).testBit t = true ↔ Rw k n lab w t := by
    intro w
    generalize hL : w.length = L
    induction L generalizing w with
    | zero =>
      intro _
      obtain rfl := List.eq_nil_of_length_eq_zero hL
      refine ⟨0, hI.pos, fun t => ?_⟩
      rw [hI.first, mask_bit, decide_eq_true_iff, List.mem_range, rw_nil]
    | succ L ih =>
      intro hw
      rcases nil_or_app w with rfl | ⟨w', c, rfl⟩
      · cases hL
      · obtain ⟨j, hj, hR⟩ := ih w' (by simpa using hL) fun e he => hw e (List.mem_append.2 (.inl he))
        have hc := hw c (List.mem_append.2 (.inr (List.mem_singleton.2 rfl)))
        obtain ⟨_, hm⟩ := hI.closed j c hc (.inl (by omega))
        obtain ⟨j', hj', e⟩ := List.getElem_of_mem hm
        refine ⟨j', hj', fun t => ?_⟩
        rw [List.getD_eq_getElem?_getD, List.getElem?_eq_getElem hj', Option.getD_some, e, mask_bit, decide_eq_true_iff, behB_mem, rw_app]
        constructor
        · rintro ⟨v, hv, h2⟩; exact ⟨v, (hR v).1 (memB_mem.1 hv).2, h2⟩
        · rintro ⟨u, hu, h2⟩; exact ⟨u, memB_mem.2 ⟨rw_lt hn hu, (hR u).2 hu⟩, h2⟩
  intro w hw
  rcases nil_or_app w with rfl | ⟨w', c, rfl⟩
  · exact ⟨0, [], hn, by simp, rfl⟩
  · obtain ⟨j, hj, hR⟩ := key w' fun e he => hw e (List.mem_append.2 (.inl he))
    have hc := hw c (List.mem_append.2 (.inr (List.mem_singleton.2 rfl)))
    obtain ⟨hne, _⟩ := hI.closed j c hc (.inl (by omega))
    obtain ⟨t, ht⟩ := List.exists_mem_of_ne_nil _ hne
    obtain ⟨v, hv, c', hc', hlab, rfl⟩ := behB_mem.1 ht
    obtain ⟨v0, x, hv0, hx, hl, hr⟩ := rw_app.2 ⟨v, (hR v).1 (memB_mem.1 hv).2, c', hc', hlab, rfl⟩
    exact ⟨v0, x, hv0, hx, hl⟩
end
/-- what the walk answers: an orphan, or every word has a preimage -/
def OntoRes (k n : Nat) (lab : Nat → Nat) : Option (List Nat) → Prop
  | some w => ∃ i s S, ORun k n lab i s S ∧ i < S.1.length ∧ s < k ∧ stepO k n lab i s S = .orphan w
  | none => ∃ i S, ORun k n lab i 0 S ∧ S.1.length ≤ i
/-- the walk is too much -/
def OntoBig (k n : Nat) (lab : Nat → Nat) : Prop := ∃ i s S, ORun k n lab i s S ∧ i < S.1.length ∧ s < k ∧ stepO k n lab i s S = .big
theorem onto_iff {k n : Nat} {lab : Nat → Nat} (hn : 0 < n) {o : Option (List Nat)} (h : OntoRes k n lab o) : o.isNone = true ↔ OntoG k n lab := by
  cases o with
  | some w =>
    obtain ⟨i, s, S, hr, hi, hs, ho⟩ := h
    exact ⟨fun e => (by cases e), fun e => absurd e (orun_orphan hn hr hi hs ho)⟩
  | none =>
    obtain ⟨i, S, hr, hi⟩ := h
    exact ⟨fun _ => orun_done hn hr hi, fun _ => rfl⟩
/-- the walk's states as a function -/
def nextO (k n : Nat) (lab : Nat → Nat) (x : Nat × Nat × (List Nat × List (List Nat))) : Option (Nat × Nat × (List Nat × List (List Nat))) :=
  if x.1 < x.2.2.1.length then
    if x.2.1 < k then
      match stepO k n lab x.1 x.2.1 x.2.2 with
      | .go S' => some (x.1, x.2.1 + 1, S')
      | _ => none
    else some (x.1 + 1, 0, x.2.2)
  else none
def runO (k n : Nat) (lab : Nat → Nat) : Nat → Option (Nat × Nat × (List Nat × List (List Nat)))
  | 0 => some (0, 0, ([maskB (List.range n)], [[]]))
  | m + 1 => (runO k n lab m).bind (nextO k n lab)
theorem orun_fun {k n : Nat} {lab : Nat → Nat} {i s : Nat} {S : List Nat × List (List Nat)} (h : ORun k n lab i s S) : ∃ m, runO k n lab m = some (i, s, S) := by
  induction h with
  | start => exact ⟨0, rfl⟩
  | @sym i s S S' hrun hi hs hst ih =>
    obtain ⟨m, hm⟩ := ih
    refine ⟨m + 1, ?_⟩
    show (runO k n lab m).bind _ = _
    rw [hm]
    show nextO k n lab (i, s, S) = _
    unfold nextO
    rw [if_pos hi, if_pos hs, hst]
  | @row i S hrun hi ih =>
    obtain ⟨m, hm⟩ := ih
    refine ⟨m + 1, ?_⟩
    show (runO k n lab m).bind _ = _
    rw [hm]
    show nextO k n lab (i, k, S) = _
    unfold nextO
    rw [if_pos hi, if_neg (Nat.lt_irrefl _)]
theorem runO_none {k n : Nat} {lab : Nat → Nat} {m : Nat} (h : runO k n lab m = none) : ∀ {j}, m ≤ j → runO k n lab j = none
  | 0, hj => by
    obtain rfl : m = 0 := by omega
    exact h
  | j + 1, hj => by
    rcases Nat.lt_or_ge j m with hl | hl
    · obtain rfl : m = j + 1 := by omega
      exact h
    · show (runO k n lab j).bind _ = _
      rw [runO_none h hl]; rfl
/-- a test of all states of the walk -/
theorem runO_all {k n : Nat} {lab : Nat → Nat} {m : Nat} {P : Nat × Nat × (List Nat × List (List Nat)) → Bool} (hend : runO k n lab m = none) (h : ∀ j, j < m → (runO k n lab j).all P = true) {i s : Nat} {S : List Nat × List (List Nat)} (hr : ORun k n lab i s S) : P (i, s, S) = true := by
  obtain ⟨j, hj⟩ := orun_fun hr
  have hlt : j < m := by
    rcases Nat.lt_or_ge j m with hl | hl
    · exact hl
    · rw [runO_none hend hl] at hj; cases hj
  have := h j hlt
  rw [hj] at this
  exact this
/-- no orphan: the outcome is the other one -/
def noOrph : StO → Bool
  | .go _ => true
  | _ => false
def orph5 : StO → Bool
  | .orphan w => w.length == 5
  | .big => false
  | .go _ => true
end Go.Proofs.YtiglilecmieelaaGreatDoor
