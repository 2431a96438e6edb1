import Derived.Test.YtiglilecmieelaaGreatDoorEdnQ
/- Plain: the search for a way that leaves the diagonal and comes back. -/
namespace Go.Proofs.YtiglilecmieelaaGreatDoor
set_option linter.unusedVariables false

/-- the pairs of equal nodes -/
def diagL (N : Nat) : List Nat := (List.range N).map fun u => u * N + u
/-- one look at a pair t behind v -/
def stepM (N v : Nat) (s : List Int × List Nat) (t : Nat) : List Int × List Nat :=
  if Off N t ∧ s.1.getD t (-1) < 0 then (s.1.set t (v : Int), s.2 ++ [t]) else s
def scanM (N v : Nat) (l : List Nat) (s : List Int × List Nat) : List Int × List Nat := l.foldl (stepM N v) s
/-- the looks at a row come to an end on the diagonal -/
def hitM (N v : Nat) (l : List Nat) : Bool := decide (Off N v) && l.any fun t => decide (¬ Off N t)
/-- the way back -/
inductive Ch (N : Nat) (E : Nat → Nat → Bool) (came : List Int) : Nat → List Nat → Prop
  | root {u : Nat} : ¬ Off N u → came.getD u (-1) < 0 → Ch N E came u [u]
  | link {u v : Nat} {l : List Nat} : came.getD u (-1) = (v : Int) → E v u = true → Ch N E came v l → Ch N E came u (u :: l)
theorem ch_det {N : Nat} {E : Nat → Nat → Bool} {came : List Int} {u : Nat} {l : List Nat} (h : Ch N E came u l) : ∀ {l'}, Ch N E came u l' → l = l' := by
  induction h with
  | root _ hc =>
    intro l' h'
    cases h' with
    | root _ _ => rfl
    | link e _ _ => omega
  | link e _ _ ih =>
    intro l' h'
    cases h' with
    | root _ hc => omega
    | link e' _ h'' =>
      have : ((_ : Nat) : Int) = _ := e.symm.trans e'
      have := Int.ofNat.inj this
      subst this
      rw [ih h'']
theorem getD_set {l : List Int} {t u : Nat} {x : Int} : (l.set t x).getD u (-1) = if u = t ∧ t < l.length then x else l.getD u (-1) := by
  simp only [List.getD_eq_getElem?_getD, List.getElem?_set]
  by_cases h : t = u
  · subst h
    by_cases h2 : t < l.length
    · simp [h2]
    · simp [h2]
  · have h2 : ¬ (u = t ∧ t < l.length) := fun e => h e.1.symm
    rw [if_neg h, if_neg h2]
theorem ch_set {N : Nat} {E : Nat → Nat → Bool} {came : List Int} {t : Nat} {x : Int} (ho : Off N t) (hc : came.getD t (-1) < 0) {u : Nat} {l : List Nat} (h : Ch N E came u l) : Ch N E (came.set t x) u l := by
  induction h with
  | root h1 h2 =>
    refine .root h1 ?_
    rw [getD_set, if_neg]
    · exact h2
    · rintro ⟨rfl, _⟩; exact h1 ho
  | link e he _ ih =>
    refine .link ?_ he ih
    rw [getD_set, if_neg]
    · exact e
    · rintro ⟨rfl, _⟩; omega
/-- what holds of the search's state -/
structure MInv (k N : Nat) (lab : Nat → Nat) (s : List Int × List Nat) : Prop where
  len : s.1.length = N * N
  rng : ∀ t, -1 ≤ s.1.getD t (-1) ∧ s.1.getD t (-1) < (N * N : Nat)
  off : ∀ t, 0 ≤ s.1.getD t (-1) → Off N t
  que : ∃ o, s.2 = diagL N ++ o ∧ o.Nodup ∧ (∀ t, t ∈ o ↔ 0 ≤ s.1.getD t (-1)) ∧ ∀ t ∈ o, OffR k N lab t
  ch : ∀ u ∈ s.2, ∃ l, Ch N (PE k N lab) s.1 u l
theorem diag_not {N t : Nat} (h : t ∈ diagL N) : ¬ Off N t := by
  unfold diagL at h
  obtain ⟨u, hu, rfl⟩ := List.mem_map.1 h
  have := List.mem_range.1 hu
  unfold Off
  rw [pair_div this, pair_mod this]
  simp
theorem diag_lt {N t : Nat} (h : t ∈ diagL N) : t < N * N := by
  unfold diagL at h
  obtain ⟨u, hu, rfl⟩ := List.mem_map.1 h
  have := List.mem_range.1 hu
  exact pair_lt this this
section
variable {k N : Nat} {lab : Nat → Nat}
theorem minv_start : MInv k N lab (List.replicate (N * N) (-1), diagL N) := by
  have h0 : ∀ t, (List.replicate (N * N) (-1 : Int)).getD t (-1) = -1 := fun t => by
    rw [List.getD_eq_getElem?_getD, List.getElem?_replicate]
    split <;> rfl
  refine ⟨by simp, fun t => ?_, fun t h => ?_, ⟨[], by simp, by simp, fun t => ?_, by simp⟩, fun u hu => ⟨[u], .root (diag_not hu) ?_⟩⟩
  · show -1 ≤ List.getD _ t (-1) ∧ List.getD _ t (-1) < _
    rw [h0]
    have : (0 : Int) ≤ (N * N : Nat) := Int.natCast_nonneg _
    omega
  · have h : 0 ≤ (List.replicate (N * N) (-1 : Int)).getD t (-1) := h
    rw [h0] at h
    omega
  · have := h0 t
    show t ∈ [] ↔ 0 ≤ List.getD _ t (-1)
    rw [this]
    simp
  · show List.getD _ u (-1) < 0
    rw [h0]; decide
theorem minv_que_lt (hN : 0 < N) {s : List Int × List Nat} (h : MInv k N lab s) : ∀ v ∈ s.2, v < N * N := by
  obtain ⟨o, hq, _, _, hr⟩ := h.que
  intro v hv
  rw [hq] at hv
  rcases List.mem_append.1 hv with h | h
  · exact diag_lt h
  · exact offR_lt hN (hr v h)
theorem minv_step (hN : 0 < N) {s : List Int × List Nat} (h : MInv k N lab s) {v t : Nat} (hv : v ∈ s.2) (hpe : PE k N lab v t = true) : MInv k N lab (stepM N v s t) := by
  unfold stepM
  by_cases hc : Off N t ∧ s.1.getD t (-1) < 0
  · rw [if_pos hc]
    have ht := pe_lt hN hpe
    have hvl := minv_que_lt hN h v hv
    obtain ⟨o, hq, hnd, hm, hr⟩ := h.que
    have hg : ∀ u, (s.1.set t (v : Int)).getD u (-1) = if u = t then (v : Int) else s.1.getD u (-1) := fun u => by
      rw [getD_set]
      by_cases e : u = t
      · rw [if_pos ⟨e, by rw [h.len]; exact ht⟩, if_pos e]
      · rw [if_neg (fun x => e x.1), if_neg e]
    refine ⟨by simp [h.len], fun u => ?_, fun u hu => ?_, ⟨o ++ [t], by simp [hq], ?_, fun u => ?_, fun u hu => ?_⟩, fun u hu => ?_⟩
    · show -1 ≤ List.getD _ u (-1) ∧ List.getD _ u (-1) < _
      rw [hg]
      split
      · omega
      · exact h.rng u
    · change 0 ≤ List.getD _ u (-1) at hu
      rw [hg] at hu
      by_cases e : u = t
      · exact e ▸ hc.1
      · rw [if_neg e] at hu; exact h.off u hu
    · rw [List.nodup_append]
      refine ⟨hnd, by simp, fun a ha b hb => ?_⟩
      rw [List.mem_singleton.1 hb]
      rintro rfl
      have := (hm a).1 ha
      omega
    · show u ∈ o ++ [t] ↔ 0 ≤ List.getD _ u (-1)
      rw [hg]
      by_cases e : u = t
      · subst e; simp
      · rw [if_neg e, ← hm u]; simp [e]
    · rcases List.mem_append.1 hu with h' | h'
      · exact hr u h'
      · rw [List.mem_singleton.1 h']
        rw [hq] at hv
        rcases List.mem_append.1 hv with hd | ho
        · unfold diagL at hd
          obtain ⟨w, hw, rfl⟩ := List.mem_map.1 hd
          exact .base (List.mem_range.1 hw) hpe hc.1
        · exact .step (hr v ho) hpe hc.1
    · have keep : ∀ w ∈ s.2, ∃ l, Ch N (PE k N lab) (s.1.set t (v : Int)) w l := fun w hw => by
        obtain ⟨l, hl⟩ := h.ch w hw
        exact ⟨l, ch_set hc.1 hc.2 hl⟩
      rcases List.mem_append.1 hu with h' | h'
      · exact keep u h'
      · rw [List.mem_singleton.1 h']
        obtain ⟨l, hl⟩ := keep v hv
        exact ⟨t :: l, .link (by rw [hg, if_pos rfl]) hpe hl⟩
  · rw [if_neg hc]; exact h
theorem stepM_mem {v t u : Nat} {s : List Int × List Nat} (h : u ∈ s.2) : u ∈ (stepM N v s t).2 := by
  unfold stepM
  split
  · exact List.mem_append.2 (.inl h)
  · exact h
theorem stepM_pre {v t : Nat} {s : List Int × List Nat} : s.2 <+: (stepM N v s t).2 := by
  unfold stepM
  split
  · exact List.prefix_append ..
  · exact List.prefix_refl _
theorem scanM_pre {v : Nat} : ∀ {l : List Nat} {s : List Int × List Nat}, s.2 <+: (scanM N v l s).2
  | [], s => List.prefix_refl _
  | t :: l, s => stepM_pre.trans (scanM_pre (l := l) (s := stepM N v s t))
theorem pre_getD {a b : List Nat} (h : a <+: b) {i : Nat} (hi : i < a.length) : b.getD i 0 = a.getD i 0 := by
  obtain ⟨c, rfl⟩ := h
  simp [List.getD_eq_getElem?_getD, List.getElem?_append_left hi]
theorem getD_mem {a : List Nat} {i : Nat} (hi : i < a.length) : a.getD i 0 ∈ a := by
  rw [List.getD_eq_getElem?_getD, List.getElem?_eq_getElem hi]
  exact List.getElem_mem hi
theorem minv_scan (hN : 0 < N) {v : Nat} : ∀ {l : List Nat} {s : List Int × List Nat}, MInv k N lab s → v ∈ s.2 → (∀ t ∈ l, PE k N lab v t = true) → MInv k N lab (scanM N v l s)
  | [], s, h, _, _ => h
  | t :: l, s, h, hv, hp => minv_scan hN (l := l) (s := stepM N v s t) (minv_step hN h hv (hp t (List.mem_cons_self ..))) (stepM_mem hv) fun u hu => hp u (List.mem_cons_of_mem _ hu)
theorem scanM_mem (hN : 0 < N) {v : Nat} : ∀ {l : List Nat} {s : List Int × List Nat}, MInv k N lab s → v ∈ s.2 → (∀ t ∈ l, PE k N lab v t = true) → ∀ t ∈ l, Off N t → t ∈ (scanM N v l s).2
  | [], s, _, _, _, t, ht, _ => by cases ht
  | t :: l, s, h, hv, hp, u, hu, ho => by
    have h' := minv_step hN h hv (hp t (List.mem_cons_self ..))
    rcases List.mem_cons.1 hu with rfl | hu'
    · refine (scanM_pre (l := l) (s := stepM N v s u)).subset ?_
      obtain ⟨o, hq, _, hm, _⟩ := h'.que
      rw [hq]
      refine List.mem_append.2 (.inr ((hm u).2 ?_))
      unfold stepM
      by_cases hc : Off N u ∧ s.1.getD u (-1) < 0
      · rw [if_pos hc]
        show 0 ≤ List.getD (s.1.set u (v : Int)) u (-1)
        rw [getD_set, if_pos ⟨rfl, by rw [h.len]; exact pe_lt hN (hp u (List.mem_cons_self ..))⟩]
        exact Int.natCast_nonneg _
      · rw [if_neg hc]
        have : ¬ s.1.getD u (-1) < 0 := fun e => hc ⟨ho, e⟩
        omega
    · exact scanM_mem hN (l := l) (s := stepM N v s t) h' (stepM_mem hv) (fun w hw => hp w (List.mem_cons_of_mem _ hw)) u hu' ho
theorem minv_len (hN : 0 < N) {s : List Int × List Nat} (h : MInv k N lab s) : s.2.length ≤ N + N * N := by
  obtain ⟨o, hq, hnd, _, hr⟩ := h.que
  have : o.length ≤ (List.range (N * N)).length := nodup_le hnd fun t ht => List.mem_range.2 (offR_lt hN (hr t ht))
  rw [List.length_range] at this
  rw [hq, List.length_append]
  unfold diagL
  rw [List.length_map, List.length_range]
  omega
end
/-- i rows of the search are done, none came to an end on the diagonal -/
inductive MRun (N : Nat) (g : Nat → List Nat) : Nat → List Int × List Nat → Prop
  | start : MRun N g 0 (List.replicate (N * N) (-1), diagL N)
  | next {i : Nat} {s : List Int × List Nat} : MRun N g i s → i < s.2.length → hitM N (s.2.getD i 0) (g (s.2.getD i 0)) = false → MRun N g (i + 1) (scanM N (s.2.getD i 0) (g (s.2.getD i 0)) s)
section
variable {k N : Nat} {lab : Nat → Nat} {g : Nat → List Nat}
theorem mrun_inv (hN : 0 < N) (hg : ∀ v, v < N * N → ∀ t, t ∈ g v ↔ PE k N lab v t = true) {i : Nat} {s : List Int × List Nat} (h : MRun N g i s) : MInv k N lab s ∧ i ≤ s.2.length ∧ ∀ j, j < i → (∀ t ∈ g (s.2.getD j 0), Off N t → t ∈ s.2) ∧ hitM N (s.2.getD j 0) (g (s.2.getD j 0)) = false := by
  induction h with
  | start => exact ⟨minv_start, Nat.zero_le _, fun j hj => absurd hj (by omega)⟩
  | @next i s hrun hi hh ih =>
    obtain ⟨hI, hle, hcl⟩ := ih
    have hv := getD_mem hi
    have hvl := minv_que_lt hN hI _ hv
    have hp : ∀ t ∈ g (s.2.getD i 0), PE k N lab (s.2.getD i 0) t = true := fun t ht => (hg _ hvl t).1 ht
    have hpre : s.2 <+: (scanM N (s.2.getD i 0) (g (s.2.getD i 0)) s).2 := scanM_pre
    refine ⟨minv_scan hN hI hv hp, Nat.le_trans hi hpre.length_le, fun j hj => ?_⟩
    rcases Nat.lt_succ_iff_lt_or_eq.1 hj with hj | rfl
    · rw [pre_getD hpre (by omega)]
      exact ⟨fun t ht ho => hpre.subset ((hcl j hj).1 t ht ho), (hcl j hj).2⟩
    · rw [pre_getD hpre hi]
      exact ⟨fun t ht ho => scanM_mem hN hI hv hp t ht ho, hh⟩
theorem mrun_end (hN : 0 < N) (hg : ∀ v, v < N * N → ∀ t, t ∈ g v ↔ PE k N lab v t = true) {i : Nat} {s : List Int × List Nat} (h : MRun N g i s) (hend : s.2.length ≤ i) : ¬ Meets k N lab := by
  obtain ⟨hI, hle, hcl⟩ := mrun_inv hN hg h
  obtain ⟨o, hq, hnd, hm, hr⟩ := hI.que
  have all : ∀ u ∈ s.2, (∀ t ∈ g u, Off N t → t ∈ s.2) ∧ hitM N u (g u) = false := fun u hu => by
    obtain ⟨j, hj, e⟩ := List.getElem_of_mem hu
    have := hcl j (by omega)
    rw [List.getD_eq_getElem?_getD, List.getElem?_eq_getElem hj] at this
    rw [← e]; exact this
  have key : ∀ p, OffR k N lab p → p ∈ s.2 := fun p hp => by
    induction hp with
    | @base u q hu hpe hoff =>
      have hd : u * N + u ∈ s.2 := by rw [hq]; exact List.mem_append.2 (.inl (List.mem_map.2 ⟨u, List.mem_range.2 hu, rfl⟩))
      exact (all _ hd).1 q ((hg _ (pair_lt hu hu) q).2 hpe) hoff
    | @step p q ho hpe hoff ih => exact (all _ ih).1 q ((hg _ (offR_lt hN ho) q).2 hpe) hoff
  rintro ⟨p, q, hp, hpe, hoff⟩
  have h1 := (all p (key p hp)).2
  unfold hitM at h1
  rw [Bool.and_eq_false_iff] at h1
  rcases h1 with h1 | h1
  · exact absurd (offR_off hp) (of_decide_eq_false h1)
  · rw [List.any_eq_false] at h1
    exact h1 q ((hg _ (offR_lt hN hp) q).2 hpe) (decide_eq_true hoff)
theorem minv_hit (hN : 0 < N) {s : List Int × List Nat} (h : MInv k N lab s) {v t : Nat} (hv : v ∈ s.2) (hov : Off N v) (hpe : PE k N lab v t = true) (hot : ¬ Off N t) : Meets k N lab := by
  obtain ⟨o, hq, _, _, hr⟩ := h.que
  rw [hq] at hv
  rcases List.mem_append.1 hv with h | h
  · exact absurd hov (diag_not h)
  · exact ⟨v, t, hr v h, hpe, hot⟩
end
/-- what the search answers -/
def MeetRes (k N : Nat) (lab : Nat → Nat) (g : Nat → List Nat) (way : List Nat) : Prop :=
  (way = [] ∧ ∃ i s, MRun N g i s ∧ s.2.length ≤ i) ∨
  ∃ i s j l, MRun N g i s ∧ i < s.2.length ∧ j < (g (s.2.getD i 0)).length ∧ Off N (s.2.getD i 0) ∧ ¬ Off N ((g (s.2.getD i 0)).getD j 0) ∧ (∀ m, m < j → Off N ((g (s.2.getD i 0)).getD m 0)) ∧
    Ch N (PE k N lab) (scanM N (s.2.getD i 0) ((g (s.2.getD i 0)).take j) s).1 (s.2.getD i 0) l ∧ way = ((g (s.2.getD i 0)).getD j 0 :: l).reverse
/-- each step of a way is an edge -/
def WayOK (E : Nat → Nat → Bool) : List Nat → Prop
  | [] => True
  | [_] => True
  | a :: b :: l => E a b = true ∧ WayOK E (b :: l)
theorem way_app {E : Nat → Nat → Bool} : ∀ {l : List Nat} {a b : Nat}, WayOK E (l ++ [a]) → E a b = true → WayOK E (l ++ [a, b])
  | [], a, b, _, h => ⟨h, trivial⟩
  | [c], a, b, h, h2 => ⟨h.1, h2, trivial⟩
  | c :: d :: l, a, b, h, h2 => ⟨h.1, way_app (l := d :: l) h.2 h2⟩
theorem ch_way {N : Nat} {E : Nat → Nat → Bool} {came : List Int} {u : Nat} {l : List Nat} (h : Ch N E came u l) : WayOK E l.reverse ∧ ∃ l', l = u :: l' := by
  induction h with
  | root _ _ => exact ⟨trivial, [], rfl⟩
  | @link u v l e he _ ih =>
    obtain ⟨h1, l', rfl⟩ := ih
    refine ⟨?_, _, rfl⟩
    rw [List.reverse_cons, List.reverse_cons] at *
    rw [List.append_assoc]
    exact way_app h1 he
theorem ch_mem {k N : Nat} {lab : Nat → Nat} {came : List Int} {u : Nat} {l : List Nat} (h : Ch N (PE k N lab) came u l) (hN : 0 < N) (hc : ∀ t, came.getD t (-1) < (N * N : Nat)) (hu : u < N * N) : ∀ x ∈ l, x < N * N := by
  induction h with
  | root _ _ => intro x hx; rw [List.mem_singleton.1 hx]; exact hu
  | @link u v l e he _ ih =>
    intro x hx
    rcases List.mem_cons.1 hx with rfl | hx
    · exact hu
    · refine ih ?_ x hx
      have := hc u
      omega
section
variable {k N : Nat} {lab : Nat → Nat} {g : Nat → List Nat}
theorem take_mem {l : List Nat} {j t : Nat} (h : t ∈ l.take j) : t ∈ l := List.mem_of_mem_take h
theorem meet_ok (hN : 0 < N) (hg : ∀ v, v < N * N → ∀ t, t ∈ g v ↔ PE k N lab v t = true) {way : List Nat} (h : MeetRes k N lab g way) :
    (way = [] ↔ ¬ Meets k N lab) ∧ WayOK (PE k N lab) way ∧ ∀ x ∈ way, x < N * N := by
  rcases h with ⟨rfl, i, s, hrun, hend⟩ | ⟨i, s, j, l, hrun, hi, hj, hov, hot, _, hch, rfl⟩
  · exact ⟨⟨fun _ => mrun_end hN hg hrun hend, fun _ => rfl⟩, trivial, by simp⟩
  · obtain ⟨hI, _, _⟩ := mrun_inv hN hg hrun
    have hv := getD_mem hi
    have hvl := minv_que_lt hN hI _ hv
    have htm := getD_mem hj
    have hpe := (hg _ hvl _).1 htm
    have hI2 := minv_scan hN (l := (g (s.2.getD i 0)).take j) hI hv fun t ht => (hg _ hvl t).1 (take_mem ht)
    obtain ⟨hw, l', rfl⟩ := ch_way hch
    refine ⟨⟨fun e => by simp at e, fun e => absurd (minv_hit hN hI hv hov hpe hot) e⟩, ?_, fun x hx => ?_⟩
    · rw [List.reverse_cons, List.reverse_cons] at *
      rw [List.append_assoc]
      exact way_app hw hpe
    · rw [List.mem_reverse] at hx
      rcases List.mem_cons.1 hx with rfl | hx
      · exact pe_lt hN hpe
      · exact ch_mem hch hN (fun t => (hI2.rng t).2) hvl x hx
end
/-- the search's states as a function -/
def meetS (N : Nat) (g : Nat → List Nat) : Nat → List Int × List Nat
  | 0 => (List.replicate (N * N) (-1), diagL N)
  | i + 1 => scanM N ((meetS N g i).2.getD i 0) (g ((meetS N g i).2.getD i 0)) (meetS N g i)
def hitS (N : Nat) (g : Nat → List Nat) (i : Nat) : Bool := hitM N ((meetS N g i).2.getD i 0) (g ((meetS N g i).2.getD i 0))
theorem mrun_det {N : Nat} {g : Nat → List Nat} {i : Nat} {s : List Int × List Nat} (h : MRun N g i s) : s = meetS N g i ∧ ∀ j, j < i → hitS N g j = false ∧ j < (meetS N g j).2.length := by
  induction h with
  | start => exact ⟨rfl, fun j hj => absurd hj (by omega)⟩
  | @next i s hrun hi hh ih =>
    obtain ⟨rfl, h2⟩ := ih
    refine ⟨rfl, fun j hj => ?_⟩
    rcases Nat.lt_succ_iff_lt_or_eq.1 hj with hj | rfl
    · exact h2 j hj
    · exact ⟨hh, hi⟩
theorem mrun_of {N : Nat} {g : Nat → List Nat} : ∀ {i : Nat}, (∀ j, j < i → hitS N g j = false ∧ j < (meetS N g j).2.length) → MRun N g i (meetS N g i)
  | 0, _ => .start
  | i + 1, h => .next (mrun_of fun j hj => h j (by omega)) (h i (by omega)).2 (h i (by omega)).1
/-- the pairs behind a pair, rising -/
def adjF (k N : Nat) (lab : Nat → Nat) (v : Nat) : List Nat := (List.range (N * N)).filter fun q => PE k N lab v q
theorem adjF_mem {k N : Nat} {lab : Nat → Nat} (hN : 0 < N) (v t : Nat) : t ∈ adjF k N lab v ↔ PE k N lab v t = true := by
  unfold adjF
  rw [List.mem_filter, List.mem_range]
  exact ⟨fun h => h.2, fun h => ⟨pe_lt hN h, h⟩⟩
/-- the labels of a table -/
def labT (tb : List Int) (i : Nat) : Nat := (tb.getD i 0).toNat
end Go.Proofs.YtiglilecmieelaaGreatDoor
