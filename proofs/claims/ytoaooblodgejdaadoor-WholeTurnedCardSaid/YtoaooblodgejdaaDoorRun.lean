/- Plain: a certificate that is gone through, entry by entry: when it holds, and with how many looks. -/
import Derived.Test.YtoaooblodgejdaaDoorRjP
namespace Go.Proofs.YtoaooblodgejdaaDoor
open Go.RowKit
set_option linter.unusedVariables false
set_option maxRecDepth 100000

/-- the looks for the third columns c, c + 1, .. (r of them) -/
def lkS (t : List Int) (a b want h : Nat) : Nat → Nat → Nat
  | 0, _ => 0
  | r + 1, c => (looksF t a b c want h 0).1 + lkS t a b want h r (c + 1)
theorem holdsF_cost {t : List Int} {h want col xa xb : Nat} {acc : List Ent} : ∀ r c n, (holdsF t h want col xa xb acc r c n).2 = true → (holdsF t h want col xa xb acc r c n).1 = n + lkS t xa xb want h r c
  | 0, c, n, _ => rfl
  | r + 1, c, n, hh => by
    unfold holdsF at hh ⊢
    unfold lkS
    by_cases h1 : (looksF t xa xb c want h 0).2 = true ∧ ¬ (((col + 1 : Nat) : Int), (xb : Int), (c : Int)) ∈ acc
    · rw [if_pos h1] at hh; cases hh
    · rw [if_neg h1] at hh ⊢
      rw [holdsF_cost r (c + 1) _ hh]
      omega
abbrev wantE (cols : List Int) (x : Ent) : Nat := (cols.getD x.1.toNat 0).toNat
/-- does an entry hold behind acc? -/
def hold (t cols : List Int) (h m : Nat) (x : Ent) (acc : List Ent) : Prop := (holdsF t h (wantE cols x) x.1.toNat x.2.1.toNat x.2.2.toNat acc m 0 0).2 = true
def costE (t cols : List Int) (h m : Nat) (x : Ent) : Nat := lkS t x.2.1.toNat x.2.2.toNat (wantE cols x) h m 0
theorem hold_iff {t cols : List Int} {h m : Nat} {x : Ent} {acc : List Ent} : hold t cols h m x acc ↔ ∀ c, c < m → (looksF t x.2.1.toNat x.2.2.toNat c (wantE cols x) h 0).2 = true → (((x.1.toNat + 1 : Nat) : Int), ((x.2.2.toNat : Nat) : Int), (c : Int)) ∈ acc := by
  unfold hold
  rw [holdsF_all]
  simp only [Nat.zero_add]
theorem hold_mono {t cols : List Int} {h m : Nat} {x : Ent} {acc acc2 : List Ent} (hs : ∀ y ∈ acc, y ∈ acc2) (hh : hold t cols h m x acc) : hold t cols h m x acc2 := by
  rw [hold_iff] at hh ⊢
  exact fun c hc hl => hs _ (hh c hc hl)
/-- each entry holds behind those ahead of it -/
def AllH (t cols : List Int) (h m : Nat) : List Ent → List Ent → Prop
  | [], _ => True
  | x :: r, acc => hold t cols h m x acc ∧ AllH t cols h m r (acc ++ [x])
def costs (t cols : List Int) (h m : Nat) : List Ent → Nat
  | [] => 0
  | x :: r => costE t cols h m x + costs t cols h m r
theorem AllH.mono {t cols : List Int} {h m : Nat} : ∀ {L acc acc2 : List Ent}, (∀ y ∈ acc, y ∈ acc2) → AllH t cols h m L acc → AllH t cols h m L acc2
  | [], _, _, _, _ => trivial
  | x :: r, acc, acc2, hs, hh => ⟨hold_mono hs hh.1, AllH.mono (fun y hy => by
      rcases List.mem_append.1 hy with hy | hy
      · exact List.mem_append_left _ (hs y hy)
      · exact List.mem_append_right _ hy) hh.2⟩
theorem allH_append {t cols : List Int} {h m : Nat} : ∀ {L K acc : List Ent}, AllH t cols h m (L ++ K) acc ↔ AllH t cols h m L acc ∧ AllH t cols h m K (acc ++ L)
  | [], K, acc => by simp [AllH]
  | x :: r, K, acc => by
    show hold t cols h m x acc ∧ AllH t cols h m (r ++ K) (acc ++ [x]) ↔ (hold t cols h m x acc ∧ AllH t cols h m r (acc ++ [x])) ∧ AllH t cols h m K (acc ++ x :: r)
    rw [allH_append (L := r), List.append_assoc, List.singleton_append, and_assoc]
theorem costs_append (t cols : List Int) (h m : Nat) : ∀ L K, costs t cols h m (L ++ K) = costs t cols h m L + costs t cols h m K
  | [], K => by show costs t cols h m K = 0 + _; omega
  | x :: r, K => by
    show costE t cols h m x + costs t cols h m (r ++ K) = (costE t cols h m x + costs t cols h m r) + _
    rw [costs_append t cols h m r K]; omega
theorem costE_pos {t cols : List Int} {h m : Nat} (hh : 1 ≤ h) (hm : 1 ≤ m) (x : Ent) : 1 ≤ costE t cols h m x := by
  obtain ⟨r, rfl⟩ : ∃ r, m = r + 1 := ⟨m - 1, by omega⟩
  obtain ⟨k, rfl⟩ : ∃ k, h = k + 1 := ⟨h - 1, by omega⟩
  unfold costE lkS looksF
  split
  · have := (looksF_le t x.2.1.toNat x.2.2.toNat 0 (wantE cols x) k (0 + 1)).1
    omega
  · show 1 ≤ 0 + 1 + _
    omega
theorem cnt0_mono {m : Nat} {acc acc2 : List Ent} (hs : ∀ y ∈ acc, y ∈ acc2) : ∀ K, cnt0 m acc K ≤ cnt0 m acc2 K
  | 0 => Nat.le_refl _
  | K + 1 => by
    have ih := cnt0_mono (m := m) hs K
    unfold cnt0
    by_cases h1 : key0 m K ∈ acc
    · rw [if_pos h1, if_pos (hs _ h1)]; omega
    · rw [if_neg h1]; omega
theorem run_all {t cols : List Int} {h m w : Nat} : ∀ (L : List Ent) (i : Nat) (acc : List Ent) (n : Nat), (∀ x ∈ L, Fit3 w m x) →
    ((judgeRun t cols h m L i acc (cnt0 m acc (m * m)) n).2 = none ↔ AllH t cols h m L acc ∧ m * m ≤ cnt0 m (acc ++ L) (m * m)) ∧ ((judgeRun t cols h m L i acc (cnt0 m acc (m * m)) n).2 = none → (judgeRun t cols h m L i acc (cnt0 m acc (m * m)) n).1 = n + costs t cols h m L)
  | [], i, acc, n, _ => by
    unfold judgeRun
    rw [List.append_nil]
    by_cases hc : cnt0 m acc (m * m) < m * m
    · rw [if_pos hc]
      exact ⟨⟨nofun, fun h => by omega⟩, nofun⟩
    · rw [if_neg hc]
      exact ⟨⟨fun _ => ⟨trivial, by omega⟩, fun _ => rfl⟩, fun _ => rfl⟩
  | x :: r, i, acc, n, hf => by
    have hx := hf x (by simp)
    have ih := run_all (t := t) (cols := cols) (h := h) r (i + 1) (acc ++ [x]) (n + (holdsF t h (wantE cols x) x.1.toNat x.2.1.toNat x.2.2.toNat acc m 0 0).1) (fun y hy => hf y (by simp [hy]))
    unfold judgeRun
    by_cases hh : (holdsF t h (wantE cols x) x.1.toNat x.2.1.toNat x.2.2.toNat acc m 0 0).2 = true
    · rw [if_pos hh, ← cnt0_step hx]
      have hcst := holdsF_cost m 0 0 hh
      rw [List.append_assoc, List.singleton_append] at ih
      refine ⟨⟨fun hn => ⟨⟨hh, (ih.1.1 hn).1⟩, (ih.1.1 hn).2⟩, fun hn => ih.1.2 ⟨hn.1.2, hn.2⟩⟩, fun hn => ?_⟩
      rw [ih.2 hn, hcst]
      show n + (0 + costE t cols h m x) + costs t cols h m r = n + (costE t cols h m x + costs t cols h m r)
      omega
    · rw [if_neg hh]
      exact ⟨⟨nofun, fun hn => absurd hn.1.1 hh⟩, nofun⟩
end Go.Proofs.YtoaooblodgejdaaDoor
