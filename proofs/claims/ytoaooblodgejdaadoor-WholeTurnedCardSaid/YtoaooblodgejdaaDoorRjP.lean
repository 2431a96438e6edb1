/- Plain: the entries that came, as marks at places; when all of column 0 came. -/
import Derived.Test.YtoaooblodgejdaaDoorJdgX
namespace Go.Proofs.YtoaooblodgejdaaDoor
open Go.RowKit
set_option linter.unusedVariables false
set_option maxRecDepth 100000

/-- the place of an entry in the list of marks -/
def posE (m : Nat) (x : Ent) : Nat := (x.1.toNat * m + x.2.1.toNat) * m + x.2.2.toNat
/-- the marks of those that came -/
def ahB (m : Nat) (acc : List Ent) (j : Nat) : Bool := acc.any fun y => posE m y == j
theorem ahB_nil (m j : Nat) : ahB m [] j = false := rfl
theorem ahB_snoc (m : Nat) (acc : List Ent) (x : Ent) (j : Nat) : ahB m (acc ++ [x]) j = (ahB m acc j || posE m x == j) := by simp [ahB]
theorem place2 {m a b c d : Nat} (hb : b < m) (hd : d < m) (h : a * m + b = c * m + d) : a = c ∧ b = d := by
  have hm : 0 < m := by omega
  have h1 : (a * m + b) / m = a := by rw [Nat.mul_comm, Nat.mul_add_div hm, Nat.div_eq_of_lt hb, Nat.add_zero]
  have h2 : (c * m + d) / m = c := by rw [Nat.mul_comm, Nat.mul_add_div hm, Nat.div_eq_of_lt hd, Nat.add_zero]
  have h3 : a = c := by rw [← h1, ← h2, h]
  subst h3
  exact ⟨rfl, by omega⟩
theorem posE_inj {w w' m : Nat} {x y : Ent} (hx : Fit3 w m x) (hy : Fit3 w' m y) (h : posE m x = posE m y) : x = y := by
  obtain ⟨a, b, c⟩ := x
  obtain ⟨d, e, f⟩ := y
  have q1 := hx.a0; have q2 := hx.b0; have q3 := hx.b1; have q4 := hx.c0; have q5 := hx.c1
  have r1 := hy.a0; have r2 := hy.b0; have r3 := hy.b1; have r4 := hy.c0; have r5 := hy.c1
  simp only at q1 q2 q3 q4 q5 r1 r2 r3 r4 r5
  unfold posE at h
  simp only at h
  obtain ⟨h1, h2⟩ := place2 (by omega) (by omega) h
  obtain ⟨h3, h4⟩ := place2 (by omega) (by omega) h1
  have e1 : a = d := by omega
  have e2 : b = e := by omega
  have e3 : c = f := by omega
  rw [e1, e2, e3]
theorem ahB_mem {w w' m : Nat} {acc : List Ent} {x : Ent} (ha : ∀ y ∈ acc, Fit3 w m y) (hx : Fit3 w' m x) : ahB m acc (posE m x) = decide (x ∈ acc) := by
  rw [Bool.eq_iff_iff, decide_eq_true_iff]
  unfold ahB
  rw [List.any_eq_true]
  constructor
  · rintro ⟨y, hy, he⟩
    rw [← posE_inj (ha y hy) hx (by simpa using he)]
    exact hy
  · intro h
    exact ⟨x, h, by simp⟩
theorem posE_lt {w m : Nat} {x : Ent} (hx : Fit3 w m x) : posE m x < w * m * m := by
  have q1 := hx.a0; have q2 := hx.a1; have q3 := hx.b0; have q4 := hx.b1; have q5 := hx.c0; have q6 := hx.c1
  have h1 : (x.1.toNat + 1) * m ≤ w * m := Nat.mul_le_mul_right _ (by omega)
  have h2 : (x.1.toNat * m + x.2.1.toNat + 1) * m ≤ w * m * m := Nat.mul_le_mul_right _ (by rw [Nat.succ_mul] at h1; omega)
  rw [Nat.succ_mul] at h2
  unfold posE
  omega
/-- the test for a third column -/
theorem looked {w m : Nat} {acc : List Ent} {col xb c : Nat} (ha : ∀ y ∈ acc, Fit3 w m y) (hb : xb < m) (hc : c < m) (hw : col + 1 ≤ w) :
    (w ≤ col + 1 → ¬ (((col + 1 : Nat) : Int), (xb : Int), (c : Int)) ∈ acc) ∧ (col + 1 < w → ahB m acc (((col + 1) * m + xb) * m + c) = decide ((((col + 1 : Nat) : Int), (xb : Int), (c : Int)) ∈ acc)) := by
  constructor
  · intro h hm
    have := (ha _ hm).a1
    simp only at this
    omega
  · intro h
    have hf : Fit3 w m (((col + 1 : Nat) : Int), (xb : Int), (c : Int)) := ⟨Int.natCast_nonneg _, Int.ofNat_lt.2 h, Int.natCast_nonneg _, Int.ofNat_lt.2 hb, Int.natCast_nonneg _, Int.ofNat_lt.2 hc⟩
    have := ahB_mem ha hf
    exact this
theorem posE_key0 {m k : Nat} (hm : 0 < m) : posE m (key0 m k) = k := by
  unfold posE key0
  simp only [Int.toNat_zero, Int.toNat_natCast, Nat.zero_mul, Nat.zero_add]
  have := Nat.div_add_mod k m
  rw [Nat.mul_comm] at this
  exact this
theorem key0_fit {m k w : Nat} (hm : 0 < m) (hw : 0 < w) (hk : k < m * m) : Fit3 w m (key0 m k) := by
  have h1 : k / m < m := Nat.div_lt_of_lt_mul hk
  have h2 := Nat.mod_lt k hm
  exact ⟨Int.le_refl _, Int.ofNat_lt.2 hw, Int.natCast_nonneg _, Int.ofNat_lt.2 h1, Int.natCast_nonneg _, Int.ofNat_lt.2 h2⟩
theorem ahB_key0 {w m : Nat} {acc : List Ent} (ha : ∀ y ∈ acc, Fit3 w m y) (hw : 0 < w) {k : Nat} (hk : k < m * m) : ahB m acc k = decide (key0 m k ∈ acc) := by
  have hm : 0 < m := by rcases Nat.eq_zero_or_pos m with h | h; (subst h; simp at hk); exact h
  have := ahB_mem (x := key0 m k) ha (key0_fit hm hw hk)
  rwa [posE_key0 hm] at this
theorem cnt0_full {m : Nat} {acc : List Ent} : ∀ K, (∀ k, k < K → key0 m k ∈ acc) → cnt0 m acc K = K
  | 0, _ => rfl
  | K + 1, h => by unfold cnt0; rw [cnt0_full K (fun k hk => h k (by omega)), if_pos (h K (by omega))]
theorem cnt0_miss {m : Nat} {acc : List Ent} : ∀ K k, k < K → ¬ key0 m k ∈ acc → cnt0 m acc K < K
  | 0, k, hk, _ => by omega
  | K + 1, k, hk, hn => by
    have hl := cnt0_le m acc K
    unfold cnt0
    rcases Nat.lt_or_ge k K with h | h
    · have := cnt0_miss K k h hn
      split <;> omega
    · obtain rfl : k = K := by omega
      rw [if_neg hn]; omega
/-- the run's end: all marks of column 0 stand, or one lacks -/
theorem run_end {t cols : List Int} {h w m i f n : Nat} {acc : List Ent} (ha : ∀ y ∈ acc, Fit3 w m y) (hw : 0 < w) (hf : cnt0 m acc (m * m) = f) :
    ((∀ k, k < m * m → ahB m acc k = true) → judgeRun t cols h m [] i acc f n = (n, none)) ∧ (∀ k, k < m * m → ahB m acc k = false → judgeRun t cols h m [] i acc f n = (n, some (4 + i))) := by
  constructor
  · intro hall
    have hc := cnt0_full (m := m) (acc := acc) (m * m) fun k hk => by
      have := hall k hk
      rw [ahB_key0 ha hw hk] at this
      simpa using this
    unfold judgeRun
    rw [if_neg (by omega)]
  · intro k hk hn
    rw [ahB_key0 ha hw hk] at hn
    have hc := cnt0_miss (m := m) (acc := acc) (m * m) k hk (by simpa using hn)
    unfold judgeRun
    rw [if_pos (by omega)]
/-- a row of marks in memory -/
abbrev bools (N : Nat) (f : Nat → Bool) : List Value := (List.range N).map fun j => Value.bool (f j)
theorem bools_at {N j : Nat} (f : Nat → Bool) (h : j < N) : (bools N f)[j]? = some (.bool (f j)) := by simp [bools, h]
theorem bools_set {N j : Nat} (f g : Nat → Bool) (hg : ∀ i, i < N → g i = (f i || j == i)) : (bools N f).set j (.bool true) = bools N g := by
  apply List.ext_getElem
  · simp [bools]
  · intro i h1 h2
    simp only [bools, List.length_map, List.length_range, List.length_set] at h1 h2
    rw [List.getElem_set]
    simp only [bools, List.getElem_map, List.getElem_range]
    rw [hg i h2]
    by_cases e : j = i
    · rw [if_pos e, e]; simp
    · rw [if_neg e, beq_eq_false_iff_ne.2 e, Bool.or_false]
theorem made_bools (N : Nat) : (madeCells (Value.bool false).cells (N * 1)).toList = bools N fun _ => false := by
  rw [show (Value.bool false).cells = #[.bool false] from by rfl, toList_madeCells_one]
  simp [bools, List.map_const']
end Go.Proofs.YtoaooblodgejdaaDoor
