import Derived.Test.YtiglilecmieelaaGreatDoorEdnS
import Derived.Test.YtiglilecmieelaaGreatDoorEdnO
import Derived.Test.YtiglilecmieelaaGreatDoorEcaA
/- Plain: the rules of which the program's first look asks. -/
namespace Go.Proofs.YtiglilecmieelaaGreatDoor
set_option linter.unusedVariables false
abbrev lab90 : Nat → Nat := labT (ecaL 90 8)
abbrev lab0 : Nat → Nat := labT (ecaL 0 8)
theorem eca90_no : ¬ Meets 2 4 lab90 :=
  mrun_end (g := adjF 2 4 lab90) (by decide) (fun v _ t => adjF_mem (by decide) v t) (mrun_of (i := 4) (by decide +kernel)) (by decide +kernel)
theorem hit_of {N : Nat} {g : Nat → List Nat} {i j : Nat} (hj : j < (g ((meetS N g i).2.getD i 0)).length) (ho : Off N ((meetS N g i).2.getD i 0)) (ht : ¬ Off N ((g ((meetS N g i).2.getD i 0)).getD j 0)) : hitS N g i = true := by
  unfold hitS hitM
  rw [decide_eq_true ho, Bool.true_and, List.any_eq_true]
  exact ⟨_, getD_mem hj, decide_eq_true ht⟩
theorem eca0_way {way : List Nat} (h : MeetRes 2 4 lab0 (adjF 2 4 lab0) way) : way.length = 4 := by
  have h8 : hitS 4 (adjF 2 4 lab0) 8 = true := by decide +kernel
  rcases h with ⟨rfl, i, s, hrun, hend⟩ | ⟨i, s, j, l, hrun, hi, hj, hov, hot, hmin, hch, rfl⟩
  · obtain ⟨rfl, hd⟩ := mrun_det hrun
    exfalso
    by_cases h : i ≤ 8
    · have : ∀ i, i < 9 → i < (meetS 4 (adjF 2 4 lab0) i).2.length := by decide +kernel
      have := this i (by omega)
      omega
    · have := (hd 8 (by omega)).1
      rw [h8] at this
      cases this
  · obtain ⟨rfl, hd⟩ := mrun_det hrun
    have hh := hit_of hj hov hot
    have hi8 : i = 8 := by
      rcases Nat.lt_trichotomy i 8 with h | h | h
      · have : ∀ i, i < 8 → hitS 4 (adjF 2 4 lab0) i = false := by decide +kernel
        rw [this i h] at hh
        cases hh
      · exact h
      · have := (hd 8 h).1
        rw [h8] at this
        cases this
    subst hi8
    have hj0 : j = 0 := by
      rcases Nat.eq_zero_or_pos j with h | h
      · exact h
      · have : ¬ Off 4 ((adjF 2 4 lab0 ((meetS 4 (adjF 2 4 lab0) 8).2.getD 8 0)).getD 0 0) := by decide +kernel
        exact absurd (hmin 0 h) this
    subst hj0
    have hv : (meetS 4 (adjF 2 4 lab0) 8).2.getD 8 0 = 2 := by decide +kernel
    have hc : (scanM 4 ((meetS 4 (adjF 2 4 lab0) 8).2.getD 8 0) ((adjF 2 4 lab0 ((meetS 4 (adjF 2 4 lab0) 8).2.getD 8 0)).take 0) (meetS 4 (adjF 2 4 lab0) 8)).1 = [-1, 0, 1, 1, 0, -1, 1, 1, 4, 4, -1, 5, 4, 4, 5, -1] := by decide +kernel
    rw [hc, hv] at hch
    have h3 : Ch 4 (PE 2 4 lab0) [-1, 0, 1, 1, 0, -1, 1, 1, 4, 4, -1, 5, 4, 4, 5, -1] 2 [2, 1, 0] :=
      .link (v := 1) (by decide) (by decide +kernel) (.link (v := 0) (by decide) (by decide +kernel) (.root (by decide) (by decide)))
    rw [ch_det hch h3]
    rfl
abbrev lab110 : Nat → Nat := labT (ecaL 110 8)
theorem onto90_go {i s : Nat} {S : List Nat × List (List Nat)} (h : ORun 2 4 lab90 i s S) (hi : i < S.1.length) (hs : s < 2) : noOrph (stepO 2 4 lab90 i s S) = true := by
  have := runO_all (m := 4) (P := fun x => decide (2 ≤ x.2.1) || (decide (x.2.2.1.length ≤ x.1) || noOrph (stepO 2 4 lab90 x.1 x.2.1 x.2.2))) (by decide +kernel) (by decide +kernel) h
  simp only [Bool.or_eq_true, decide_eq_true_eq] at this
  rcases this with h | h | h
  · omega
  · omega
  · exact h
theorem onto90_big : ¬ OntoBig 2 4 lab90 := by
  rintro ⟨i, s, S, hr, hi, hs, ho⟩
  have := onto90_go hr hi hs
  rw [ho] at this; cases this
theorem onto90_some {w : List Nat} : ¬ OntoRes 2 4 lab90 (some w) := by
  rintro ⟨i, s, S, hr, hi, hs, ho⟩
  have := onto90_go hr hi hs
  rw [ho] at this; cases this
theorem onto110_go {i s : Nat} {S : List Nat × List (List Nat)} (h : ORun 2 4 lab110 i s S) : i < S.1.length ∧ (s < 2 → orph5 (stepO 2 4 lab110 i s S) = true) := by
  have := runO_all (m := 16) (P := fun x => decide (x.1 < x.2.2.1.length) && (decide (2 ≤ x.2.1) || orph5 (stepO 2 4 lab110 x.1 x.2.1 x.2.2))) (by decide +kernel) (by decide +kernel) h
  simp only [Bool.and_eq_true, Bool.or_eq_true, decide_eq_true_eq] at this
  refine ⟨this.1, fun hs => ?_⟩
  rcases this.2 with h | h
  · omega
  · exact h
theorem onto110_big : ¬ OntoBig 2 4 lab110 := by
  rintro ⟨i, s, S, hr, hi, hs, ho⟩
  have := (onto110_go hr).2 hs
  rw [ho] at this; cases this
theorem onto110_none : ¬ OntoRes 2 4 lab110 none := by
  rintro ⟨i, S, hr, hi⟩
  have := (onto110_go hr).1
  omega
theorem onto110_len {w : List Nat} (h : OntoRes 2 4 lab110 (some w)) : w.length = 5 := by
  obtain ⟨i, s, S, hr, hi, hs, ho⟩ := h
  have := (onto110_go hr).2 hs
  rw [ho] at this
  exact eq_of_beq this
end Go.Proofs.YtiglilecmieelaaGreatDoor
