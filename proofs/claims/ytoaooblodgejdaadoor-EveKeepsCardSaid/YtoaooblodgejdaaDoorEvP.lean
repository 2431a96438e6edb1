/- Plain: the entries that came, as marks at places; when all of column 0 came. Plain: the document's count of ways; where it is not none there is a predecessor. What three columns make. Plain: a certificate that is gone through, entry by entry: when it holds, and with how many looks. Plain: predecessors counted from behind and from ahead; the count is not none just if there is a predecessor. Plain: the search for predecessors: what it tells, with how many tries. Plain: a found patch has the image, a found certificate holds; which of them is found. Plain: predecessors told by codes; a turned patch has as many by a table to which turns don't matter. Plain: the predecessors of all patches of a few cells, added up, are all wider patches. Plain: the looks are bounded by the bytes. -/
import Derived.Test.YtoaooblodgejdaaDoorJdgX
namespace Go.Proofs.YtoaooblodgejdaaDoor
open Go.RowKit
set_option linter.unusedVariables false
set_option maxRecDepth 100000

/-- the place of an entry in the list of marks -/
def posE (m : Nat) (x : Ent) : Nat := (x.1.toNat * m + x.2.1.toNat) * m + x.2.2.toNat
/-- the marks of those that came -/
def ahB (m : Nat) (acc : List Ent) (j : Nat) : Bool := acc.any fun y => posE m y == j
theorem ahB_nil (m j : Nat) : ahB m [] j = false := rfl
theorem ahB_snoc (m : Nat) (acc : List Ent) (x : Ent) (j : Nat) : ahB m (acc ++ [x]) j = (ahB m acc j || posE m x == j) := by simp [ahB]
theorem place2 {m a b c d : Nat} (hb : b < m) (hd : d < m) (h : a * m + b = c * m + d) : a = c ∧ b = d := by
  have hm : 0 < m := by omega
  have h1 : (a * m + b) / m = a := by rw [Nat.mul_comm, Nat.mul_add_div hm, Nat.div_eq_of_lt hb, Nat.add_zero]
  have h2 : (c * m + d) / m = c := by rw [Nat.mul_comm, Nat.mul_add_div hm, Nat.div_eq_of_lt hd, Nat.add_zero]
  have h3 : a = c := by rw [← h1, ← h2, h]
  subst h3
  exact ⟨rfl, by omega⟩
theorem posE_inj {w w' m : Nat} {x y : Ent} (hx : Fit3 w m x) (hy : Fit3 w' m y) (h : posE m x = posE m y) : x = y := by
  obtain ⟨a, b, c⟩ := x
  obtain ⟨d, e, f⟩ := y
  have q1 := hx.a0; have q2 := hx.b0; have q3 := hx.b1; have q4 := hx.c0; have q5 := hx.c1
  have r1 := hy.a0; have r2 := hy.b0; have r3 := hy.b1; have r4 := hy.c0; have r5 := hy.c1
  simp only at q1 q2 q3 q4 q5 r1 r2 r3 r4 r5
  unfold posE at h
  simp only at h
  obtain ⟨h1, h2⟩ := place2 (by omega) (by omega) h
  obtain ⟨h3, h4⟩ := place2 (by omega) (by omega) h1
  have e1 : a = d := by omega
  have e2 : b = e := by omega
  have e3 : c = f := by omega
  rw [e1, e2, e3]
theorem ahB_mem {w w' m : Nat} {acc : List Ent} {x : Ent} (ha : ∀ y ∈ acc, Fit3 w m y) (hx : Fit3 w' m x) : ahB m acc (posE m x) = decide (x ∈ acc) := by
  rw [Bool.eq_iff_iff, decide_eq_true_iff]
  unfold ahB
  rw [List.any_eq_true]
  constructor
  · rintro ⟨y, hy, he⟩
    rw [← posE_inj (ha y hy) hx (by simpa using he)]
    exact hy
  · intro h
    exact ⟨x, h, by simp⟩
theorem posE_lt {w m : Nat} {x : Ent} (hx : Fit3 w m x) : posE m x < w * m * m := by
  have q1 := hx.a0; have q2 := hx.a1; have q3 := hx.b0; have q4 := hx.b1; have q5 := hx.c0; have q6 := hx.c1
  have h1 : (x.1.toNat + 1) * m ≤ w * m := Nat.mul_le_mul_right _ (by omega)
  have h2 : (x.1.toNat * m + x.2.1.toNat + 1) * m ≤ w * m * m := Nat.mul_le_mul_right _ (by rw [Nat.succ_mul] at h1; omega)
  rw [Nat.succ_mul] at h2
  unfold posE
  omega
/-- the test for a third column -/
theorem looked {w m : Nat} {acc : List Ent} {col xb c : Nat} (ha : ∀ y ∈ acc, Fit3 w m y) (hb : xb < m) (hc : c < m) (hw : col + 1 ≤ w) :
    (w ≤ col + 1 → ¬ (((col + 1 : Nat) : Int), (xb : Int), (c : Int)) ∈ acc) ∧ (col + 1 < w → ahB m acc (((col + 1) * m + xb) * m + c) = decide ((((col + 1 : Nat) : Int), (xb : Int), (c : Int)) ∈ acc)) := by
  constructor
  · intro h hm
    have := (ha _ hm).a1
    simp only at this
    omega
  · intro h
    have hf : Fit3 w m (((col + 1 : Nat) : Int), (xb : Int), (c : Int)) := ⟨Int.natCast_nonneg _, Int.ofNat_lt.2 h, Int.natCast_nonneg _, Int.ofNat_lt.2 hb, Int.natCast_nonneg _, Int.ofNat_lt.2 hc⟩
    have := ahB_mem ha hf
    exact this
theorem posE_key0 {m k : Nat} (hm : 0 < m) : posE m (key0 m k) = k := by
  unfold posE key0
  simp only [Int.toNat_zero, Int.toNat_natCast, Nat.zero_mul, Nat.zero_add]
  have := Nat.div_add_mod k m
  rw [Nat.mul_comm] at this
  exact this
theorem key0_fit {m k w : Nat} (hm : 0 < m) (hw : 0 < w) (hk : k < m * m) : Fit3 w m (key0 m k) := by
  have h1 : k / m < m := Nat.div_lt_of_lt_mul hk
  have h2 := Nat.mod_lt k hm
  exact ⟨Int.le_refl _, Int.ofNat_lt.2 hw, Int.natCast_nonneg _, Int.ofNat_lt.2 h1, Int.natCast_nonneg _, Int.ofNat_lt.2 h2⟩
theorem ahB_key0 {w m : Nat} {acc : List Ent} (ha : ∀ y ∈ acc, Fit3 w m y) (hw : 0 < w) {k : Nat} (hk : k < m * m) : ahB m acc k = decide (key0 m k ∈ acc) := by
  have hm : 0 < m := by rcases Nat.eq_zero_or_pos m with h | h; (subst h; simp at hk); exact h
  have := ahB_mem (x := key0 m k) ha (key0_fit hm hw hk)
  rwa [posE_key0 hm] at this
theorem cnt0_full {m : Nat} {acc : List Ent} : ∀ K, (∀ k, k < K → key0 m k ∈ acc) → cnt0 m acc K = K
  | 0, _ => rfl
  | K + 1, h => by unfold cnt0; rw [cnt0_full K (fun k hk => h k (by omega)), if_pos (h K (by omega))]
theorem cnt0_miss {m : Nat} {acc : List Ent} : ∀ K k, k < K → ¬ key0 m k ∈ acc → cnt0 m acc K < K
  | 0, k, hk, _ => by omega
  | K + 1, k, hk, hn => by
    have hl := cnt0_le m acc K
    unfold cnt0
    rcases Nat.lt_or_ge k K with h | h
    · have := cnt0_miss K k h hn
      split <;> omega
    · obtain rfl : k = K := by omega
      rw [if_neg hn]; omega
/-- the run's end: all marks of column 0 stand, or one lacks -/
theorem run_end {t cols : List Int} {h w m i f n : Nat} {acc : List Ent} (ha : ∀ y ∈ acc, Fit3 w m y) (hw : 0 < w) (hf : cnt0 m acc (m * m) = f) :
    ((∀ k, k < m * m → ahB m acc k = true) → judgeRun t cols h m [] i acc f n = (n, none)) ∧ (∀ k, k < m * m → ahB m acc k = false → judgeRun t cols h m [] i acc f n = (n, some (4 + i))) := by
  constructor
  · intro hall
    have hc := cnt0_full (m := m) (acc := acc) (m * m) fun k hk => by
      have := hall k hk
      rw [ahB_key0 ha hw hk] at this
      simpa using this
    unfold judgeRun
    rw [if_neg (by omega)]
  · intro k hk hn
    rw [ahB_key0 ha hw hk] at hn
    have hc := cnt0_miss (m := m) (acc := acc) (m * m) k hk (by simpa using hn)
    unfold judgeRun
    rw [if_pos (by omega)]
/-- a row of marks in memory -/
abbrev bools (N : Nat) (f : Nat → Bool) : List Value := (List.range N).map fun j => Value.bool (f j)
theorem bools_at {N j : Nat} (f : Nat → Bool) (h : j < N) : (bools N f)[j]? = some (.bool (f j)) := by simp [bools, h]
theorem bools_set {N j : Nat} (f g : Nat → Bool) (hg : ∀ i, i < N → g i = (f i || j == i)) : (bools N f).set j (.bool true) = bools N g := by
  apply List.ext_getElem
  · simp [bools]
  · intro i h1 h2
    simp only [bools, List.length_map, List.length_range, List.length_set] at h1 h2
    rw [List.getElem_set]
    simp only [bools, List.getElem_map, List.getElem_range]
    rw [hg i h2]
    by_cases e : j = i
    · rw [if_pos e, e]; simp
    · rw [if_neg e, beq_eq_false_iff_ne.2 e, Bool.or_false]
theorem made_bools (N : Nat) : (madeCells (Value.bool false).cells (N * 1)).toList = bools N fun _ => false := by
  rw [show (Value.bool false).cells = #[.bool false] from by rfl, toList_madeCells_one]
  simp [bools, List.map_const']
end Go.Proofs.YtoaooblodgejdaaDoor
namespace Go.Proofs.YtoaooblodgejdaaDoor
open Go.RowKit
set_option linter.unusedVariables false
set_option maxRecDepth 100000

abbrev M64 : Nat := 18446744073709551616
/-- the sum of the first n -/
def sumN (n : Nat) (f : Nat → Nat) : Nat := match n with
  | 0 => 0
  | n + 1 => sumN n f + f n
theorem sumN_pos {f : Nat → Nat} : ∀ n, sumN n f ≠ 0 → ∃ i, i < n ∧ f i ≠ 0
  | 0, h => absurd rfl h
  | n + 1, h => by
    by_cases h0 : f n = 0
    · have h2 : sumN n f ≠ 0 := by intro e; apply h; show sumN n f + f n = 0; omega
      obtain ⟨i, hi, hf⟩ := sumN_pos n h2
      exact ⟨i, by omega, hf⟩
    · exact ⟨n, by omega, h0⟩
theorem sumN_zero {f : Nat → Nat} : ∀ n, (∀ i, i < n → f i = 0) → sumN n f = 0
  | 0, _ => rfl
  | n + 1, h => by
    show sumN n f + f n = 0
    rw [sumN_zero n (fun i hi => h i (by omega)), h n (by omega)]
/-- do the three columns of the number y (of base m) make column k? -/
def mkF (t cols : List Int) (h m k y : Nat) : Bool := (looksF t (y / m / m) (y / m % m) (y % m) (cols.getD k 0).toNat h 0).2
def trm (t cols : List Int) (h m k : Nat) (at_ : Nat → Nat) (u y : Nat) : Nat := if y % (m * m) = u ∧ mkF t cols h m k y = true then at_ (y / m) else 0
/-- what of at comes to the pair u by the first x threes -/
def nxF (t cols : List Int) (h m k : Nat) (at_ : Nat → Nat) (x u : Nat) : Nat := sumN x (trm t cols h m k at_ u) % M64
theorem nxF_succ (t cols : List Int) (h m k : Nat) (at_ : Nat → Nat) (x u : Nat) : nxF t cols h m k at_ (x + 1) u = (sumN x (trm t cols h m k at_ u) + trm t cols h m k at_ u x) % M64 := rfl
/-- in how many ways the pair u is come to behind k columns -/
def fwF (t cols : List Int) (h m : Nat) : Nat → Nat → Nat
  | 0, _ => 1
  | k + 1, u => nxF t cols h m k (fwF t cols h m k) (m * m * m) u
def waysF (t cols : List Int) (h m w : Nat) : Nat := sumN (m * m) (fwF t cols h m w) % M64
theorem fwF_lt (t cols : List Int) (h m : Nat) : ∀ k u, fwF t cols h m k u < M64
  | 0, _ => by show 1 < _; decide
  | k + 1, u => Nat.mod_lt _ (by decide)
theorem nxF_zero (t cols : List Int) (h m k : Nat) (at_ : Nat → Nat) (u : Nat) : nxF t cols h m k at_ 0 u = 0 := rfl
theorem nxF_skip {t cols : List Int} {h m k : Nat} {at_ : Nat → Nat} {x : Nat} (hs : mkF t cols h m k x = false ∨ at_ (x / m) = 0) (u : Nat) : nxF t cols h m k at_ (x + 1) u = nxF t cols h m k at_ x u := by
  have h0 : trm t cols h m k at_ u x = 0 := by
    unfold trm
    rcases hs with hs | hs
    · rw [if_neg (by rw [hs]; simp)]
    · rw [hs, ite_self]
  rw [nxF_succ, h0, Nat.add_zero]
  rfl
theorem nxF_ne {t cols : List Int} {h m k : Nat} {at_ : Nat → Nat} {x u : Nat} (hu : x % (m * m) ≠ u) : nxF t cols h m k at_ (x + 1) u = nxF t cols h m k at_ x u := by
  have h0 : trm t cols h m k at_ u x = 0 := by unfold trm; rw [if_neg (fun e => hu e.1)]
  rw [nxF_succ, h0, Nat.add_zero]
  rfl
theorem nxF_take {t cols : List Int} {h m k : Nat} {at_ : Nat → Nat} {x : Nat} (hs : mkF t cols h m k x = true) : nxF t cols h m k at_ (x + 1) (x % (m * m)) = (nxF t cols h m k at_ x (x % (m * m)) + at_ (x / m)) % M64 := by
  have h0 : trm t cols h m k at_ (x % (m * m)) x = at_ (x / m) := by unfold trm; rw [if_pos ⟨rfl, hs⟩]
  rw [nxF_succ, h0]
  unfold nxF
  rw [Nat.mod_add_mod]
/-- a whole line of threes that comes to nothing -/
theorem nxF_line {t cols : List Int} {h m k : Nat} {at_ : Nat → Nat} {i : Nat} (h0 : at_ i = 0) : ∀ c, c ≤ m → ∀ u, nxF t cols h m k at_ (i * m + c) u = nxF t cols h m k at_ (i * m) u
  | 0, _, u => rfl
  | c + 1, hc, u => by
    have e : (i * m + c) / m = i := by rw [Nat.mul_comm, Nat.mul_add_div (by omega), Nat.div_eq_of_lt (by omega), Nat.add_zero]
    show nxF t cols h m k at_ (i * m + c + 1) u = _
    rw [nxF_skip (.inr (by rw [e]; exact h0)), nxF_line h0 c (by omega) u]
/-- where a pair is come to there are columns that make the first k -/
theorem fw_path {t cols : List Int} {h m : Nat} (hm : 0 < m) : ∀ k u, u < m * m → fwF t cols h m k u ≠ 0 → ∃ v : Nat → Nat, (∀ x, v x < m) ∧ v k = u / m ∧ v (k + 1) = u % m ∧ ∀ x, x < k → (looksF t (v x) (v (x + 1)) (v (x + 2)) (cols.getD x 0).toNat h 0).2 = true
  | 0, u, hu, _ => by
    have h1 : u / m < m := Nat.div_lt_of_lt_mul hu
    have h2 := Nat.mod_lt u hm
    exact ⟨fun x => if x = 0 then u / m else u % m, fun x => by show (if x = 0 then u / m else u % m) < m; split <;> omega, rfl, rfl, fun x hx => by omega⟩
  | k + 1, u, hu, hne => by
    have hs : sumN (m * m * m) (trm t cols h m k (fwF t cols h m k) u) ≠ 0 := by
      intro e
      apply hne
      show sumN (m * m * m) (trm t cols h m k (fwF t cols h m k) u) % M64 = 0
      rw [e]
      rfl
    obtain ⟨y, hy, hf⟩ := sumN_pos _ hs
    unfold trm at hf
    by_cases hc : y % (m * m) = u ∧ mkF t cols h m k y = true
    · rw [if_pos hc] at hf
      have hym : y / m < m * m := Nat.div_lt_of_lt_mul (by rw [Nat.mul_comm]; exact hy)
      obtain ⟨v, hv, e1, e2, hp⟩ := fw_path hm k (y / m) hym hf
      have hu1 : u / m = y / m % m := by
        rw [← hc.1, Nat.mod_mul_left_div_self]
      have hu2 : u % m = y % m := by
        rw [← hc.1, Nat.mod_mul_right_mod]
      refine ⟨fun x => if x = k + 2 then u % m else v x, fun x => ?_, ?_, ?_, fun x hx => ?_⟩
      · show (if x = k + 2 then u % m else v x) < m
        split
        · exact Nat.mod_lt _ hm
        · exact hv x
      · show (if k + 1 = k + 2 then u % m else v (k + 1)) = u / m
        rw [if_neg (by omega), e2, hu1]
      · show (if k + 1 + 1 = k + 2 then u % m else v (k + 1 + 1)) = u % m
        rw [if_pos rfl]
      · show (looksF t (if x = k + 2 then u % m else v x) (if x + 1 = k + 2 then u % m else v (x + 1)) (if x + 2 = k + 2 then u % m else v (x + 2)) (cols.getD x 0).toNat h 0).2 = true
        rw [if_neg (by omega), if_neg (by omega)]
        rcases Nat.lt_or_ge x k with h1 | h1
        · rw [if_neg (by omega)]
          exact hp x h1
        · obtain rfl : x = k := by omega
          rw [if_pos rfl, e1, e2, hu2]
          exact hc.2
    · rw [if_neg hc] at hf
      exact absurd rfl hf
theorem ways_none {t cols : List Int} {h m w : Nat} (hm : 0 < m) (hno : ∀ v, ¬ Pred t cols h m w v) : waysF t cols h m w = 0 := by
  have h0 : sumN (m * m) (fwF t cols h m w) = 0 := sumN_zero _ fun i hi => by
    refine Decidable.byContradiction fun hne => ?_
    obtain ⟨v, hv, _, _, hp⟩ := fw_path hm w i hi hne
    exact hno v ⟨fun x _ => hv x, hp⟩
  unfold waysF
  rw [h0]
  rfl
/-- what three columns make, of the first k lines -/
def madeV (t : List Int) (a b c : Nat) : Nat → Nat
  | 0 => 0
  | k + 1 => madeV t a b c k + (symF t a b c k).toNat * 2 ^ k
theorem madeV_lt {t : List Int} (ht : IsTab t) (a b c : Nat) : ∀ k, madeV t a b c k < 2 ^ k
  | 0 => by simp [madeV]
  | k + 1 => by
    have ih := madeV_lt ht a b c k
    have hs : symF t a b c k = 0 ∨ symF t a b c k = 1 := by
      unfold symF
      have h9 := wixT_lt a b c k 3
      have h2 : (2 : Nat) ^ (3 * 3) = 512 := by decide
      refine ht.sym _ ?_
      rw [List.getD_eq_getElem?_getD, List.getElem?_eq_getElem (by rw [ht.len]; omega)]
      exact List.getElem_mem _
    have h1 : (symF t a b c k).toNat ≤ 1 := by omega
    have h3 : (symF t a b c k).toNat * 2 ^ k ≤ 1 * 2 ^ k := Nat.mul_le_mul_right _ h1
    unfold madeV
    rw [Nat.pow_succ]
    omega
theorem madeV_of {t : List Int} {a b c x : Nat} : ∀ k, (∀ j, j < k → symF t a b c j = ((cb x j : Nat) : Int)) → madeV t a b c k = x % 2 ^ k
  | 0, _ => by simp [madeV, Nat.mod_one]
  | k + 1, h => by
    unfold madeV
    rw [madeV_of k (fun j hj => h j (by omega)), h k (by omega), Int.toNat_natCast]
    unfold cb
    rw [Nat.pow_succ, Nat.mod_mul, Nat.mul_comm]
end Go.Proofs.YtoaooblodgejdaaDoor
namespace Go.Proofs.YtoaooblodgejdaaDoor
open Go.RowKit
set_option linter.unusedVariables false
set_option maxRecDepth 100000

/-- the looks for the third columns c, c + 1, .. (r of them) -/
def lkS (t : List Int) (a b want h : Nat) : Nat → Nat → Nat
  | 0, _ => 0
  | r + 1, c => (looksF t a b c want h 0).1 + lkS t a b want h r (c + 1)
theorem holdsF_cost {t : List Int} {h want col xa xb : Nat} {acc : List Ent} : ∀ r c n, (holdsF t h want col xa xb acc r c n).2 = true → (holdsF t h want col xa xb acc r c n).1 = n + lkS t xa xb want h r c
  | 0, c, n, _ => rfl
  | r + 1, c, n, hh => by
    unfold holdsF at hh ⊢
    unfold lkS
    by_cases h1 : (looksF t xa xb c want h 0).2 = true ∧ ¬ (((col + 1 : Nat) : Int), (xb : Int), (c : Int)) ∈ acc
    · rw [if_pos h1] at hh; cases hh
    · rw [if_neg h1] at hh ⊢
      rw [holdsF_cost r (c + 1) _ hh]
      omega
abbrev wantE (cols : List Int) (x : Ent) : Nat := (cols.getD x.1.toNat 0).toNat
/-- does an entry hold behind acc? -/
def hold (t cols : List Int) (h m : Nat) (x : Ent) (acc : List Ent) : Prop := (holdsF t h (wantE cols x) x.1.toNat x.2.1.toNat x.2.2.toNat acc m 0 0).2 = true
def costE (t cols : List Int) (h m : Nat) (x : Ent) : Nat := lkS t x.2.1.toNat x.2.2.toNat (wantE cols x) h m 0
theorem hold_iff {t cols : List Int} {h m : Nat} {x : Ent} {acc : List Ent} : hold t cols h m x acc ↔ ∀ c, c < m → (looksF t x.2.1.toNat x.2.2.toNat c (wantE cols x) h 0).2 = true → (((x.1.toNat + 1 : Nat) : Int), ((x.2.2.toNat : Nat) : Int), (c : Int)) ∈ acc := by
  unfold hold
  rw [holdsF_all]
  simp only [Nat.zero_add]
theorem hold_mono {t cols : List Int} {h m : Nat} {x : Ent} {acc acc2 : List Ent} (hs : ∀ y ∈ acc, y ∈ acc2) (hh : hold t cols h m x acc) : hold t cols h m x acc2 := by
  rw [hold_iff] at hh ⊢
  exact fun c hc hl => hs _ (hh c hc hl)
/-- each entry holds behind those ahead of it -/
def AllH (t cols : List Int) (h m : Nat) : List Ent → List Ent → Prop
  | [], _ => True
  | x :: r, acc => hold t cols h m x acc ∧ AllH t cols h m r (acc ++ [x])
def costs (t cols : List Int) (h m : Nat) : List Ent → Nat
  | [] => 0
  | x :: r => costE t cols h m x + costs t cols h m r
theorem AllH.mono {t cols : List Int} {h m : Nat} : ∀ {L acc acc2 : List Ent}, (∀ y ∈ acc, y ∈ acc2) → AllH t cols h m L acc → AllH t cols h m L acc2
  | [], _, _, _, _ => trivial
  | x :: r, acc, acc2, hs, hh => ⟨hold_mono hs hh.1, AllH.mono (fun y hy => by
      rcases List.mem_append.1 hy with hy | hy
      · exact List.mem_append_left _ (hs y hy)
      · exact List.mem_append_right _ hy) hh.2⟩
theorem allH_append {t cols : List Int} {h m : Nat} : ∀ {L K acc : List Ent}, AllH t cols h m (L ++ K) acc ↔ AllH t cols h m L acc ∧ AllH t cols h m K (acc ++ L)
  | [], K, acc => by simp [AllH]
  | x :: r, K, acc => by
    show hold t cols h m x acc ∧ AllH t cols h m (r ++ K) (acc ++ [x]) ↔ (hold t cols h m x acc ∧ AllH t cols h m r (acc ++ [x])) ∧ AllH t cols h m K (acc ++ x :: r)
    rw [allH_append (L := r), List.append_assoc, List.singleton_append, and_assoc]
theorem costs_append (t cols : List Int) (h m : Nat) : ∀ L K, costs t cols h m (L ++ K) = costs t cols h m L + costs t cols h m K
  | [], K => by show costs t cols h m K = 0 + _; omega
  | x :: r, K => by
    show costE t cols h m x + costs t cols h m (r ++ K) = (costE t cols h m x + costs t cols h m r) + _
    rw [costs_append t cols h m r K]; omega
theorem costE_pos {t cols : List Int} {h m : Nat} (hh : 1 ≤ h) (hm : 1 ≤ m) (x : Ent) : 1 ≤ costE t cols h m x := by
  obtain ⟨r, rfl⟩ : ∃ r, m = r + 1 := ⟨m - 1, by omega⟩
  obtain ⟨k, rfl⟩ : ∃ k, h = k + 1 := ⟨h - 1, by omega⟩
  unfold costE lkS looksF
  split
  · have := (looksF_le t x.2.1.toNat x.2.2.toNat 0 (wantE cols x) k (0 + 1)).1
    omega
  · show 1 ≤ 0 + 1 + _
    omega
theorem cnt0_mono {m : Nat} {acc acc2 : List Ent} (hs : ∀ y ∈ acc, y ∈ acc2) : ∀ K, cnt0 m acc K ≤ cnt0 m acc2 K
  | 0 => Nat.le_refl _
  | K + 1 => by
    have ih := cnt0_mono (m := m) hs K
    unfold cnt0
    by_cases h1 : key0 m K ∈ acc
    · rw [if_pos h1, if_pos (hs _ h1)]; omega
    · rw [if_neg h1]; omega
theorem run_all {t cols : List Int} {h m w : Nat} : ∀ (L : List Ent) (i : Nat) (acc : List Ent) (n : Nat), (∀ x ∈ L, Fit3 w m x) →
    ((judgeRun t cols h m L i acc (cnt0 m acc (m * m)) n).2 = none ↔ AllH t cols h m L acc ∧ m * m ≤ cnt0 m (acc ++ L) (m * m)) ∧ ((judgeRun t cols h m L i acc (cnt0 m acc (m * m)) n).2 = none → (judgeRun t cols h m L i acc (cnt0 m acc (m * m)) n).1 = n + costs t cols h m L)
  | [], i, acc, n, _ => by
    unfold judgeRun
    rw [List.append_nil]
    by_cases hc : cnt0 m acc (m * m) < m * m
    · rw [if_pos hc]
      exact ⟨⟨nofun, fun h => by omega⟩, nofun⟩
    · rw [if_neg hc]
      exact ⟨⟨fun _ => ⟨trivial, by omega⟩, fun _ => rfl⟩, fun _ => rfl⟩
  | x :: r, i, acc, n, hf => by
    have hx := hf x (by simp)
    have ih := run_all (t := t) (cols := cols) (h := h) r (i + 1) (acc ++ [x]) (n + (holdsF t h (wantE cols x) x.1.toNat x.2.1.toNat x.2.2.toNat acc m 0 0).1) (fun y hy => hf y (by simp [hy]))
    unfold judgeRun
    by_cases hh : (holdsF t h (wantE cols x) x.1.toNat x.2.1.toNat x.2.2.toNat acc m 0 0).2 = true
    · rw [if_pos hh, ← cnt0_step hx]
      have hcst := holdsF_cost m 0 0 hh
      rw [List.append_assoc, List.singleton_append] at ih
      refine ⟨⟨fun hn => ⟨⟨hh, (ih.1.1 hn).1⟩, (ih.1.1 hn).2⟩, fun hn => ih.1.2 ⟨hn.1.2, hn.2⟩⟩, fun hn => ?_⟩
      rw [ih.2 hn, hcst]
      show n + (0 + costE t cols h m x) + costs t cols h m r = n + (costE t cols h m x + costs t cols h m r)
      omega
    · rw [if_neg hh]
      exact ⟨⟨nofun, fun hn => absurd hn.1.1 hh⟩, nofun⟩
end Go.Proofs.YtoaooblodgejdaaDoor
namespace Go.Proofs.YtoaooblodgejdaaDoor
open Go.RowKit
set_option linter.unusedVariables false
set_option maxRecDepth 100000

theorem sumN_congr {f g : Nat → Nat} : ∀ n, (∀ i, i < n → f i = g i) → sumN n f = sumN n g
  | 0, _ => rfl
  | n + 1, h => by
    show sumN n f + f n = sumN n g + g n
    rw [sumN_congr n (fun i hi => h i (by omega)), h n (by omega)]
theorem sumN_mod {f g : Nat → Nat} {M : Nat} : ∀ n, (∀ i, i < n → f i % M = g i % M) → sumN n f % M = sumN n g % M
  | 0, _ => rfl
  | n + 1, h => by
    show (sumN n f + f n) % M = (sumN n g + g n) % M
    rw [Nat.add_mod, sumN_mod n (fun i hi => h i (by omega)), h n (by omega), ← Nat.add_mod]
theorem sumN_add (f g : Nat → Nat) : ∀ n, sumN n (fun i => f i + g i) = sumN n f + sumN n g
  | 0 => rfl
  | n + 1 => by
    show sumN n (fun i => f i + g i) + (f n + g n) = (sumN n f + f n) + (sumN n g + g n)
    rw [sumN_add f g n]; omega
theorem sumN_const0 (n : Nat) : sumN n (fun _ => 0) = 0 := sumN_zero n fun _ _ => rfl
theorem sumN_swap (f : Nat → Nat → Nat) (m : Nat) : ∀ n, sumN n (fun i => sumN m (fun j => f i j)) = sumN m (fun j => sumN n (fun i => f i j))
  | 0 => (sumN_const0 m).symm
  | n + 1 => by
    show sumN n (fun i => sumN m (fun j => f i j)) + sumN m (fun j => f n j) = sumN m (fun j => sumN n (fun i => f i j) + f n j)
    rw [sumN_swap f m n, sumN_add]
theorem sumN_mul (f : Nat → Nat) (c : Nat) : ∀ n, sumN n (fun i => c * f i) = c * sumN n f
  | 0 => rfl
  | n + 1 => by
    show sumN n (fun i => c * f i) + c * f n = c * (sumN n f + f n)
    rw [sumN_mul f c n, Nat.mul_add]
theorem sumN_one (g : Nat → Nat) (y : Nat) : ∀ n, sumN n (fun u => if y = u then g u else 0) = if y < n then g y else 0
  | 0 => rfl
  | n + 1 => by
    show sumN n (fun u => if y = u then g u else 0) + (if y = n then g n else 0) = _
    rw [sumN_one g y n]
    by_cases h : y = n
    · subst h; rw [if_neg (by omega), if_pos rfl, if_pos (by omega)]; omega
    · rw [if_neg h]
      by_cases h2 : y < n
      · rw [if_pos h2, if_pos (by omega)]; omega
      · rw [if_neg h2, if_neg (by omega)]
theorem sumN_append (f : Nat → Nat) (n : Nat) : ∀ m, sumN (n + m) f = sumN n f + sumN m (fun c => f (n + c))
  | 0 => rfl
  | m + 1 => by
    show sumN (n + m) f + f (n + m) = sumN n f + (sumN m (fun c => f (n + c)) + f (n + m))
    rw [sumN_append f n m]; omega
theorem sumN_split (f : Nat → Nat) (m : Nat) : ∀ n, sumN (n * m) f = sumN n (fun i => sumN m (fun c => f (i * m + c)))
  | 0 => by rw [Nat.zero_mul]; rfl
  | n + 1 => by
    rw [Nat.succ_mul, sumN_append, sumN_split f m n]
    rfl
theorem sumN_le {f : Nat → Nat} {b : Nat} : ∀ n, (∀ i, i < n → f i ≤ b) → sumN n f ≤ n * b
  | 0, _ => by show 0 ≤ _; omega
  | n + 1, h => by
    have := sumN_le n (fun i hi => h i (by omega))
    have := h n (by omega)
    show sumN n f + f n ≤ _
    rw [Nat.succ_mul]; omega
theorem sumN_ge {f : Nat → Nat} {j : Nat} : ∀ n, j < n → f j ≤ sumN n f
  | 0, h => by omega
  | n + 1, h => by
    show f j ≤ sumN n f + f n
    by_cases e : j = n
    · subst e; omega
    · have := sumN_ge (f := f) n (by omega : j < n); omega
/-- in how many ways a pair goes on, over the last s columns -/
def bwN (t cols : List Int) (h m w : Nat) : Nat → Nat → Nat
  | 0, _ => 1
  | s + 1, i => sumN m (fun c => if mkF t cols h m (w - 1 - s) (i * m + c) = true then bwN t cols h m w s (i % m * m + c) else 0)
/-- the same, in 64 bits -/
def bwF (t cols : List Int) (h m w : Nat) : Nat → Nat → Nat
  | 0, _ => 1
  | s + 1, i => sumN m (fun c => if mkF t cols h m (w - 1 - s) (i * m + c) = true then bwF t cols h m w s (i % m * m + c) else 0) % M64
/-- how many predecessors -/
def cntN (t cols : List Int) (h m w : Nat) : Nat := sumN (m * m) (bwN t cols h m w w)
def fwN (t cols : List Int) (h m : Nat) : Nat → Nat → Nat
  | 0, _ => 1
  | k + 1, u => sumN (m * m * m) (trm t cols h m k (fwN t cols h m k) u)
theorem fw_mod (t cols : List Int) (h m : Nat) : ∀ k u, fwF t cols h m k u = fwN t cols h m k u % M64
  | 0, _ => by show 1 = 1 % M64; decide
  | k + 1, u => by
    refine sumN_mod _ fun y _ => ?_
    unfold trm
    split
    · rw [fw_mod t cols h m k, Nat.mod_mod]
    · rfl
theorem bw_mod (t cols : List Int) (h m w : Nat) : ∀ s i, bwF t cols h m w s i = bwN t cols h m w s i % M64
  | 0, _ => by show 1 = 1 % M64; decide
  | s + 1, i => by
    refine sumN_mod _ fun c _ => ?_
    by_cases e : mkF t cols h m (w - 1 - s) (i * m + c) = true
    · rw [if_pos e, if_pos e, bw_mod t cols h m w s, Nat.mod_mod]
    · rw [if_neg e, if_neg e]
theorem bwF_lt (t cols : List Int) (h m w : Nat) : ∀ s i, bwF t cols h m w s i < M64
  | 0, _ => by show 1 < _; decide
  | s + 1, i => Nat.mod_lt _ (by decide)
theorem pair_mod {m i c : Nat} (hc : c < m) : (i * m + c) % (m * m) = i % m * m + c := by
  have h1 := Nat.div_add_mod i m
  have h2 : i * m = (m * (i / m) + i % m) * m := by rw [h1]
  have h3 : i % m < m := Nat.mod_lt _ (by omega)
  have h4 : (i % m + 1) * m ≤ m * m := Nat.mul_le_mul_right _ h3
  rw [Nat.succ_mul] at h4
  rw [h2, Nat.add_mul, Nat.mul_right_comm, Nat.add_assoc, Nat.mul_add_mod, Nat.mod_eq_of_lt (by omega)]
theorem pair_rem {m i c : Nat} (hc : c < m) : (i * m + c) % m = c := by rw [Nat.mul_comm, Nat.mul_add_mod, Nat.mod_eq_of_lt hc]
theorem pair_div {m i c : Nat} (hc : c < m) : (i * m + c) / m = i := by rw [Nat.mul_comm, Nat.mul_add_div (by omega), Nat.div_eq_of_lt hc, Nat.add_zero]
theorem meet_step (t cols : List Int) (h m w k : Nat) (hk : k < w) : sumN (m * m) (fun u => bwN t cols h m w (w - (k + 1)) u * fwN t cols h m (k + 1) u) = sumN (m * m) (fun u => bwN t cols h m w (w - k) u * fwN t cols h m k u) := by
  obtain ⟨s, hs⟩ : ∃ s, w - k = s + 1 := ⟨w - k - 1, by omega⟩
  have hs1 : w - (k + 1) = s := by omega
  have hs2 : w - 1 - s = k := by omega
  rw [hs, hs1]
  have e1 : sumN (m * m) (fun u => bwN t cols h m w s u * fwN t cols h m (k + 1) u) = sumN (m * m) (fun u => sumN (m * m * m) (fun y => bwN t cols h m w s u * trm t cols h m k (fwN t cols h m k) u y)) :=
    sumN_congr _ fun u _ => (sumN_mul _ _ _).symm
  rw [e1, sumN_swap]
  have e2 : ∀ y, y < m * m * m → sumN (m * m) (fun u => bwN t cols h m w s u * trm t cols h m k (fwN t cols h m k) u y) = if mkF t cols h m k y = true then bwN t cols h m w s (y % (m * m)) * fwN t cols h m k (y / m) else 0 := by
    intro y hy
    have hmm : 0 < m * m := by
      rcases Nat.eq_zero_or_pos (m * m) with e | e
      · rw [e] at hy; omega
      · exact e
    by_cases hm : mkF t cols h m k y = true
    · rw [if_pos hm]
      have := sumN_one (fun u => bwN t cols h m w s u * fwN t cols h m k (y / m)) (y % (m * m)) (m * m)
      rw [if_pos (Nat.mod_lt _ hmm)] at this
      rw [← this]
      refine sumN_congr _ fun u _ => ?_
      unfold trm
      by_cases e : y % (m * m) = u
      · rw [if_pos ⟨e, hm⟩, if_pos e]
      · rw [if_neg (fun g => e g.1), if_neg e, Nat.mul_zero]
    · rw [if_neg hm]
      refine sumN_zero _ fun u _ => ?_
      unfold trm
      rw [if_neg (fun g => hm g.2), Nat.mul_zero]
  rw [sumN_congr _ e2, sumN_split]
  refine sumN_congr _ fun i _ => ?_
  show _ = sumN m (fun c => if mkF t cols h m (w - 1 - s) (i * m + c) = true then bwN t cols h m w s (i % m * m + c) else 0) * fwN t cols h m k i
  rw [hs2, Nat.mul_comm (sumN m _), ← sumN_mul]
  refine sumN_congr _ fun c hc => ?_
  by_cases e : mkF t cols h m k (i * m + c) = true
  · rw [if_pos e, if_pos e, pair_mod hc, pair_div hc, Nat.mul_comm]
  · rw [if_neg e, if_neg e, Nat.mul_zero]
theorem meet_all (t cols : List Int) (h m w : Nat) : ∀ k, k ≤ w → sumN (m * m) (fun u => bwN t cols h m w (w - k) u * fwN t cols h m k u) = cntN t cols h m w
  | 0, _ => by
    unfold cntN
    rw [Nat.sub_zero]
    refine sumN_congr _ fun u _ => ?_
    show _ * 1 = _
    rw [Nat.mul_one]
  | k + 1, hk => by rw [meet_step t cols h m w k (by omega), meet_all t cols h m w k (by omega)]
/-- both counts are one -/
theorem ways_cnt (t cols : List Int) (h m w : Nat) : waysF t cols h m w = cntN t cols h m w % M64 ∧ sumN (m * m) (bwF t cols h m w w) % M64 = cntN t cols h m w % M64 := by
  constructor
  · have hm := meet_all t cols h m w w (Nat.le_refl _)
    rw [Nat.sub_self] at hm
    unfold waysF
    rw [← hm]
    refine sumN_mod _ fun u _ => ?_
    rw [fw_mod, Nat.mod_mod]
    show _ = 1 * _ % _
    rw [Nat.one_mul]
  · unfold cntN
    refine sumN_mod _ fun u _ => ?_
    rw [bw_mod, Nat.mod_mod]
theorem bwN_le (t cols : List Int) (h m w : Nat) : ∀ s i, bwN t cols h m w s i ≤ m ^ s
  | 0, _ => by show 1 ≤ 1; omega
  | s + 1, i => by
    have := sumN_le (f := fun c => if mkF t cols h m (w - 1 - s) (i * m + c) = true then bwN t cols h m w s (i % m * m + c) else 0) (b := m ^ s) m (fun c _ => by
      show (if _ then _ else 0) ≤ _
      split
      · exact bwN_le t cols h m w s _
      · omega)
    rw [Nat.pow_succ, Nat.mul_comm]
    exact this
theorem cntN_le (t cols : List Int) (h m w : Nat) : cntN t cols h m w ≤ m * m * m ^ w := sumN_le _ fun i _ => bwN_le t cols h m w w i
theorem cntN_lt {t cols : List Int} {h m w : Nat} (hm : m ≤ 64) (hw : w ≤ 8) : cntN t cols h m w < M64 := by
  have h1 := cntN_le t cols h m w
  have h2 : m ^ w ≤ 64 ^ 8 := Nat.le_trans (Nat.pow_le_pow_left hm w) (Nat.pow_le_pow_right (by omega) hw)
  have h3 : m * m * m ^ w ≤ 64 * 64 * 64 ^ 8 := Nat.mul_le_mul (Nat.mul_le_mul hm hm) h2
  have h4 : (64 : Nat) * 64 * 64 ^ 8 = 1152921504606846976 := by decide
  show _ < 18446744073709551616
  omega
theorem bwN_pos {t cols : List Int} {h m w : Nat} {v : Nat → Nat} (hv : Pred t cols h m w v) : ∀ s, s ≤ w → 1 ≤ bwN t cols h m w s (v (w - s) * m + v (w - s + 1))
  | 0, _ => Nat.le_refl _
  | s + 1, hs => by
    have ih := bwN_pos hv s (by omega)
    have e1 : w - s = w - (s + 1) + 1 := by omega
    rw [e1] at ih
    have c0 := hv.lt (w - (s + 1)) (by omega)
    have c1 := hv.lt (w - (s + 1) + 1) (by omega)
    have c2 := hv.lt (w - (s + 1) + 1 + 1) (by omega)
    have hm := hv.mks (w - (s + 1)) (by omega)
    generalize w - (s + 1) = k at *
    have hk : w - 1 - s = k := by omega
    have hmk : mkF t cols h m (w - 1 - s) ((v k * m + v (k + 1)) * m + v (k + 1 + 1)) = true := by
      unfold mkF
      rw [pair_div c2, pair_div c1, pair_rem c1, pair_rem c2, hk]
      exact hm
    have hge := sumN_ge (f := fun c => if mkF t cols h m (w - 1 - s) ((v k * m + v (k + 1)) * m + c) = true then bwN t cols h m w s ((v k * m + v (k + 1)) % m * m + c) else 0) m c2
    rw [if_pos hmk, pair_rem c1] at hge
    refine Nat.le_trans ih (Nat.le_trans hge ?_)
    show _ ≤ sumN m (fun c => if mkF t cols h m (w - 1 - s) ((v k * m + v (k + 1)) * m + c) = true then bwN t cols h m w s ((v k * m + v (k + 1)) % m * m + c) else 0)
    rw [pair_rem c1]
    exact Nat.le_refl _
/-- there is a predecessor just if they are not none -/
theorem cntN_pos {t cols : List Int} {h m w : Nat} (hm0 : 0 < m) (hm : m ≤ 64) (hw : w ≤ 8) : cntN t cols h m w ≠ 0 ↔ ∃ v, Pred t cols h m w v := by
  constructor
  · intro hne
    refine Classical.byContradiction fun hno => ?_
    have hz := ways_none (t := t) (cols := cols) (h := h) (w := w) hm0 (fun v hv => hno ⟨v, hv⟩)
    rw [(ways_cnt t cols h m w).1, Nat.mod_eq_of_lt (cntN_lt hm hw)] at hz
    exact hne hz
  · rintro ⟨v, hv⟩ hz
    have h1 := bwN_pos hv w (Nat.le_refl _)
    rw [Nat.sub_self] at h1
    have c0 := hv.lt 0 (by omega)
    have c1 := hv.lt 1 (by omega)
    have h2 : v 0 * m + v (0 + 1) < m * m := by
      have : (v 0 + 1) * m ≤ m * m := Nat.mul_le_mul_right _ c0
      rw [Nat.succ_mul] at this
      have e : v (0 + 1) = v 1 := rfl
      omega
    have h3 := sumN_ge (f := bwN t cols h m w w) (m * m) h2
    unfold cntN at hz
    omega
end Go.Proofs.YtoaooblodgejdaaDoor
namespace Go.Proofs.YtoaooblodgejdaaDoor
open Go.RowKit
set_option linter.unusedVariables false
set_option maxRecDepth 100000

/-- what the search keeps: tries made and left, pairs that are dead in the order they were found, the way; st: the pairs that were begun -/
structure SS where
  tries : Nat
  left : Nat
  order : List Ent
  way : List Int
  st : List Ent
abbrev entN (col a b : Nat) : Ent := ((col : Int), (a : Int), (b : Int))
/-- the third columns c, c + 1, .. (r of them) are tried -/
def lpF (mk : Nat → Bool) (rec : Nat → SS → SS × Option Bool) (a : Nat) : Nat → Nat → SS → SS × Option Bool
  | 0, _, S => (S, some false)
  | r + 1, c, S => if S.left = 0 then (S, none) else
      if mk c = true then match rec c { S with left := S.left - 1, tries := S.tries + 1 } with
        | (S2, none) => (S2, none)
        | (S2, some true) => ({ S2 with way := S2.way ++ [(a : Int)] }, some true)
        | (S2, some false) => lpF mk rec a r (c + 1) S2
      else lpF mk rec a r (c + 1) { S with left := S.left - 1, tries := S.tries + 1 }
/-- does anything go on behind two columns, d columns ahead of the end? -/
def onF (mk : Nat → Nat → Nat → Nat → Bool) (m : Nat) : Nat → Nat → Nat → Nat → SS → SS × Option Bool
  | 0, _, a, b, S => ({ S with way := S.way ++ [(b : Int), (a : Int)] }, some true)
  | d + 1, col, a, b, S => if entN col a b ∈ S.order then (S, some false) else
      match lpF (mk col a b) (fun c S => onF mk m d (col + 1) b c S) a m 0 { S with st := S.st ++ [entN col a b] } with
      | (S2, none) => (S2, none)
      | (S2, some true) => (S2, some true)
      | (S2, some false) => ({ S2 with order := S2.order ++ [entN col a b] }, some false)
/-- all pairs of first columns, from the number n on (r of them) -/
def allF (mk : Nat → Nat → Nat → Nat → Bool) (m w : Nat) : Nat → Nat → SS → SS × Option Bool
  | 0, _, S => (S, some false)
  | r + 1, n, S => match onF mk m w 0 (n / m) (n % m) S with
      | (S2, none) => (S2, none)
      | (S2, some true) => (S2, some true)
      | (S2, some false) => allF mk m w r (n + 1) S2
/-- what holds of the search all the time -/
structure Inv (t cols : List Int) (h m w L0 : Nat) (S : SS) : Prop where
  fit : ∀ x ∈ S.order, Fit3 w m x
  all : AllH t cols h m S.order []
  sfit : ∀ x ∈ S.st, Fit3 w m x
  nd : S.st.Nodup
  sub : ∀ x ∈ S.order, x ∈ S.st
  ond : S.order.Nodup
  sum : S.tries + S.left = L0
/-- the columns of a way from col on, from the last on -/
def wayL (v : Nat → Nat) (w col : Nat) : List Int := (List.range (w + 2 - col)).map fun j => ((v (w + 1 - j) : Nat) : Int)
structure Path (mk : Nat → Nat → Nat → Nat → Bool) (m w col : Nat) (v : Nat → Nat) : Prop where
  lt : ∀ x, x < w + 2 → v x < m
  mks : ∀ x, col ≤ x → x < w → mk x (v x) (v (x + 1)) (v (x + 2)) = true
abbrev mkL (t cols : List Int) (h : Nat) (col a b c : Nat) : Bool := (looksF t a b c (cols.getD col 0).toNat h 0).2
/-- what a call of on brings about -/
structure OnPost (t cols : List Int) (h m w L0 col a b : Nat) (S S2 : SS) (r : Option Bool) : Prop where
  inv : Inv t cols h m w L0 S2
  os : ∀ x ∈ S.order, x ∈ S2.order
  ss : ∀ x ∈ S.st, x ∈ S2.st
  sl : S.st.length ≤ S2.st.length
  lo : ∀ x ∈ S2.order, x ∈ S.order ∨ (col : Int) ≤ x.1
  slo : ∀ x ∈ S2.st, x ∈ S.st ∨ (col : Int) ≤ x.1
  err : r = none → S2.left = 0 ∧ S2.tries + 1 ≤ S.tries + m * (S2.st.length - S.st.length)
  ok : r ≠ none → S2.tries ≤ S.tries + m * (S2.st.length - S.st.length)
  no : r = some false → S2.way = S.way ∧ entN col a b ∈ S2.order ∧ ∀ x ∈ S2.st, (col : Int) ≤ x.1 → x ∈ S2.order
  yes : r = some true → ∃ v, v col = a ∧ v (col + 1) = b ∧ Path (mkL t cols h) m w col v ∧ S2.way = S.way ++ wayL v w col
theorem wayL_last (v : Nat → Nat) (w : Nat) : wayL v w w = [((v (w + 1) : Nat) : Int), ((v w : Nat) : Int)] := by
  unfold wayL
  rw [show w + 2 - w = 2 by omega]
  show [((v (w + 1 - 0) : Nat) : Int), ((v (w + 1 - 1) : Nat) : Int)] = _
  rw [Nat.sub_zero, Nat.add_sub_cancel]
theorem wayL_step (v : Nat → Nat) {w col : Nat} (h : col < w) : wayL v w col = wayL v w (col + 1) ++ [((v col : Nat) : Int)] := by
  unfold wayL
  rw [show w + 2 - col = (w + 2 - (col + 1)) + 1 by omega, List.range_succ, List.map_append]
  congr 1
  show [((v (w + 1 - (w + 2 - (col + 1))) : Nat) : Int)] = _
  rw [show w + 1 - (w + 2 - (col + 1)) = col by omega]
/-- the loop over the third columns -/
structure LpPost (t cols : List Int) (h m w L0 col a b r c T0 : Nat) (S S2 : SS) (o : Option Bool) : Prop where
  inv : Inv t cols h m w L0 S2
  os : ∀ x ∈ S.order, x ∈ S2.order
  ss : ∀ x ∈ S.st, x ∈ S2.st
  sl : S.st.length ≤ S2.st.length
  lo : ∀ x ∈ S2.order, x ∈ S.order ∨ ((col + 1 : Nat) : Int) ≤ x.1
  slo : ∀ x ∈ S2.st, x ∈ S.st ∨ ((col + 1 : Nat) : Int) ≤ x.1
  err : o = none → S2.left = 0 ∧ S2.tries + 1 ≤ S.tries + r + m * (S2.st.length - S.st.length)
  ok : o ≠ none → S2.tries ≤ S.tries + r + m * (S2.st.length - S.st.length)
  no : o = some false → S2.way = S.way ∧ (∀ x ∈ S2.st, ((col + 1 : Nat) : Int) ≤ x.1 → x ∈ S2.order) ∧ ∀ c', c ≤ c' → c' < c + r → mkL t cols h col a b c' = true → entN (col + 1) b c' ∈ S2.order
  yes : o = some true → ∃ v, v col = a ∧ v (col + 1) = b ∧ Path (mkL t cols h) m w col v ∧ S2.way = S.way ++ wayL v w col
theorem inv_try {t cols : List Int} {h m w L0 : Nat} {S : SS} (hi : Inv t cols h m w L0 S) (hl : S.left ≠ 0) : Inv t cols h m w L0 { S with left := S.left - 1, tries := S.tries + 1 } :=
  ⟨hi.fit, hi.all, hi.sfit, hi.nd, hi.sub, hi.ond, by have := hi.sum; show S.tries + 1 + (S.left - 1) = L0; omega⟩
theorem lp_post {t cols : List Int} {h m w L0 col a b : Nat} (hcw : col < w) (ha : a < m)
    (hrec : ∀ c S, c < m → Inv t cols h m w L0 S → (∀ x ∈ S.st, ((col + 1 : Nat) : Int) ≤ x.1 → x ∈ S.order) → col + 1 < w ∨ col + 1 = w →
      OnPost t cols h m w L0 (col + 1) b c S (onF (mkL t cols h) m (w - (col + 1)) (col + 1) b c S).1 (onF (mkL t cols h) m (w - (col + 1)) (col + 1) b c S).2)
    (hend : ∀ c S, col + 1 = w → (onF (mkL t cols h) m (w - (col + 1)) (col + 1) b c S).2 = some true) :
    ∀ (r c : Nat) (S : SS), c + r = m → Inv t cols h m w L0 S → (∀ x ∈ S.st, ((col + 1 : Nat) : Int) ≤ x.1 → x ∈ S.order) →
      LpPost t cols h m w L0 col a b r c S.tries S (lpF (mkL t cols h col a b) (fun c S => onF (mkL t cols h) m (w - (col + 1)) (col + 1) b c S) a r c S).1 (lpF (mkL t cols h col a b) (fun c S => onF (mkL t cols h) m (w - (col + 1)) (col + 1) b c S) a r c S).2
  | 0, c, S, hcr, hi, hA => by
    unfold lpF
    exact ⟨hi, fun _ h => h, fun _ h => h, Nat.le_refl _, fun _ h => .inl h, fun _ h => .inl h, nofun, fun _ => by show S.tries ≤ S.tries + 0 + m * (S.st.length - S.st.length); omega, fun _ => ⟨rfl, hA, fun c' h1 h2 => by omega⟩, nofun⟩
  | r + 1, c, S, hcr, hi, hA => by
    unfold lpF
    by_cases hl : S.left = 0
    · rw [if_pos hl]
      exact ⟨hi, fun _ h => h, fun _ h => h, Nat.le_refl _, fun _ h => .inl h, fun _ h => .inl h, fun _ => ⟨hl, by show S.tries + 1 ≤ S.tries + (r + 1) + m * (S.st.length - S.st.length); omega⟩, fun h => absurd rfl h, nofun, nofun⟩
    rw [if_neg hl]
    have hi1 := inv_try hi hl
    obtain ⟨S1, hS1⟩ : ∃ S1, ({ S with left := S.left - 1, tries := S.tries + 1 } : SS) = S1 := ⟨_, rfl⟩
    have e1 : S1.order = S.order := by rw [← hS1]
    have e2 : S1.st = S.st := by rw [← hS1]
    have e3 : S1.way = S.way := by rw [← hS1]
    have e4 : S1.tries = S.tries + 1 := by rw [← hS1]
    rw [hS1] at hi1 ⊢
    have hA1 : ∀ x ∈ S1.st, ((col + 1 : Nat) : Int) ≤ x.1 → x ∈ S1.order := by rw [e1, e2]; exact hA
    by_cases hmk : mkL t cols h col a b c = true
    · rw [if_pos hmk]
      have hp := hrec c S1 (by omega) hi1 hA1 (by omega)
      have hed := hend c S1
      generalize onF (mkL t cols h) m (w - (col + 1)) (col + 1) b c S1 = X at hp hed
      obtain ⟨S2, o⟩ := X
      simp only at hp hed ⊢
      cases o with
      | none =>
        obtain ⟨q1, q2⟩ := hp.err rfl
        have hsl := hp.sl
        refine ⟨hp.inv, fun x hx => hp.os x (by rw [e1]; exact hx), fun x hx => hp.ss x (by rw [e2]; exact hx), by rw [← e2]; exact hsl, by rw [← e1]; exact hp.lo, by rw [← e2]; exact hp.slo, fun _ => ⟨q1, ?_⟩, fun h => absurd rfl h, nofun, nofun⟩
        rw [e2, e4] at q2
        show S2.tries + 1 ≤ S.tries + (r + 1) + m * (S2.st.length - S.st.length)
        omega
      | some o =>
        cases o with
        | true =>
          have hq := hp.ok nofun
          obtain ⟨v, v1, v2, v3, v4⟩ := hp.yes rfl
          have hsl := hp.sl
          refine ⟨⟨hp.inv.fit, hp.inv.all, hp.inv.sfit, hp.inv.nd, hp.inv.sub, hp.inv.ond, hp.inv.sum⟩, fun x hx => hp.os x (by rw [e1]; exact hx), fun x hx => hp.ss x (by rw [e2]; exact hx), by rw [← e2]; exact hsl, by rw [← e1]; exact hp.lo, by rw [← e2]; exact hp.slo, nofun, fun _ => ?_, nofun, fun _ => ?_⟩
          · rw [e2, e4] at hq
            show S2.tries ≤ S.tries + (r + 1) + m * (S2.st.length - S.st.length)
            omega
          · refine ⟨fun x => if x = col then a else v x, if_pos rfl, by show (if col + 1 = col then a else v (col + 1)) = b; rw [if_neg (by omega)]; exact v1, ⟨fun x hx => ?_, fun x hx1 hx2 => ?_⟩, ?_⟩
            · show (if x = col then a else v x) < m
              split
              · exact ha
              · exact v3.lt x hx
            · show mkL t cols h x (if x = col then a else v x) (if x + 1 = col then a else v (x + 1)) (if x + 2 = col then a else v (x + 2)) = true
              by_cases e : x = col
              · subst e
                rw [if_pos rfl, if_neg (by omega), if_neg (by omega), v1, show x + 2 = x + 1 + 1 from rfl, v2]
                exact hmk
              · rw [if_neg e, if_neg (by omega), if_neg (by omega)]
                exact v3.mks x (by omega) hx2
            · show S2.way ++ [(a : Int)] = _
              rw [v4, e3, wayL_step _ hcw, List.append_assoc]
              congr 1
              congr 1
              · unfold wayL
                refine List.map_congr_left fun j hj => ?_
                have := List.mem_range.1 hj
                show ((v (w + 1 - j) : Nat) : Int) = ((if w + 1 - j = col then a else v (w + 1 - j) : Nat) : Int)
                rw [if_neg (by omega)]
              · show [(a : Int)] = [((if col = col then a else v col : Nat) : Int)]
                rw [if_pos rfl]
        | false =>
          have hq := hp.ok nofun
          obtain ⟨n1, n2, n3⟩ := hp.no rfl
          have hsl := hp.sl
          have ih := lp_post hcw ha hrec hend r (c + 1) S2 (by omega) hp.inv n3
          simp only
          generalize lpF (mkL t cols h col a b) (fun c S => onF (mkL t cols h) m (w - (col + 1)) (col + 1) b c S) a r (c + 1) S2 = Y at ih ⊢
          obtain ⟨S3, o3⟩ := Y
          simp only at ih ⊢
          have hsl3 := ih.sl
          rw [e2, e4] at hq
          have hml : m * (S3.st.length - S.st.length) = m * (S3.st.length - S2.st.length) + m * (S2.st.length - S.st.length) := by
            rw [← Nat.mul_add]
            congr 1
            rw [e2] at hsl
            omega
          refine ⟨ih.inv, fun x hx => ih.os x (hp.os x (by rw [e1]; exact hx)), fun x hx => ih.ss x (hp.ss x (by rw [e2]; exact hx)), by rw [e2] at hsl; omega, fun x hx => by rcases ih.lo x hx with h | h; (rw [← e1]; exact hp.lo x h); exact .inr h, fun x hx => by rcases ih.slo x hx with h | h; (rw [← e2]; exact hp.slo x h); exact .inr h, fun e => ⟨(ih.err e).1, ?_⟩, fun e => ?_, fun e => ⟨?_, (ih.no e).2.1, fun c' h1 h2 h3 => ?_⟩, fun e => ?_⟩
          · have := (ih.err e).2; omega
          · have := ih.ok e; omega
          · rw [(ih.no e).1, n1, e3]
          · rcases Nat.lt_or_ge c c' with hc' | hc'
            · exact (ih.no e).2.2 c' (by omega) (by omega) h3
            · obtain rfl : c' = c := by omega
              exact ih.os _ n2
          · obtain ⟨v, v1, v2, v3, v4⟩ := ih.yes e
            exact ⟨v, v1, v2, v3, by rw [v4, n1, e3]⟩
    · rw [if_neg hmk]
      have ih := lp_post hcw ha hrec hend r (c + 1) S1 (by omega) hi1 hA1
      generalize lpF (mkL t cols h col a b) (fun c S => onF (mkL t cols h) m (w - (col + 1)) (col + 1) b c S) a r (c + 1) S1 = Y at ih ⊢
      obtain ⟨S3, o3⟩ := Y
      simp only at ih ⊢
      have hsl3 := ih.sl
      refine ⟨ih.inv, fun x hx => ih.os x (by rw [e1]; exact hx), fun x hx => ih.ss x (by rw [e2]; exact hx), by rw [← e2]; exact hsl3, by rw [← e1]; exact ih.lo, by rw [← e2]; exact ih.slo, fun e => ⟨(ih.err e).1, ?_⟩, fun e => ?_, fun e => ⟨?_, (ih.no e).2.1, fun c' h1 h2 h3 => ?_⟩, fun e => ?_⟩
      · have := (ih.err e).2; rw [e2, e4] at this; omega
      · have := ih.ok e; rw [e2, e4] at this; omega
      · rw [(ih.no e).1, e3]
      · rcases Nat.lt_or_ge c c' with hc' | hc'
        · exact (ih.no e).2.2 c' (by omega) (by omega) h3
        · obtain rfl : c' = c := by omega
          exact absurd h3 hmk
      · obtain ⟨v, v1, v2, v3, v4⟩ := ih.yes e
        exact ⟨v, v1, v2, v3, by rw [v4, e3]⟩
theorem entN_fit {w m col a b : Nat} (h1 : col < w) (h2 : a < m) (h3 : b < m) : Fit3 w m (entN col a b) := ⟨Int.natCast_nonneg _, Int.ofNat_lt.2 h1, Int.natCast_nonneg _, Int.ofNat_lt.2 h2, Int.natCast_nonneg _, Int.ofNat_lt.2 h3⟩
theorem on_post {t cols : List Int} {h m w L0 : Nat} : ∀ (d col a b : Nat) (S : SS), col + d = w → a < m → b < m → Inv t cols h m w L0 S → (∀ x ∈ S.st, (col : Int) ≤ x.1 → x ∈ S.order) →
    OnPost t cols h m w L0 col a b S (onF (mkL t cols h) m d col a b S).1 (onF (mkL t cols h) m d col a b S).2
  | 0, col, a, b, S, hd, ha, hb, hi, hA => by
    obtain rfl : col = w := by omega
    unfold onF
    refine ⟨⟨hi.fit, hi.all, hi.sfit, hi.nd, hi.sub, hi.ond, hi.sum⟩, fun _ h => h, fun _ h => h, Nat.le_refl _, fun _ h => .inl h, fun _ h => .inl h, nofun, fun _ => by show S.tries ≤ S.tries + _; omega, nofun, fun _ => ?_⟩
    refine ⟨fun x => if x = col then a else b, if_pos rfl, if_neg (by omega), ⟨fun x hx => ?_, fun x h1 h2 => by omega⟩, ?_⟩
    · show (if x = col then a else b) < m
      split
      · exact ha
      · exact hb
    · rw [wayL_last]
      show S.way ++ [(b : Int), (a : Int)] = S.way ++ [((if col + 1 = col then a else b : Nat) : Int), ((if col = col then a else b : Nat) : Int)]
      rw [if_neg (by omega), if_pos rfl]
  | d + 1, col, a, b, S, hd, ha, hb, hi, hA => by
    have hcw : col < w := by omega
    have hfit := entN_fit (w := w) hcw ha hb
    unfold onF
    by_cases hmem : entN col a b ∈ S.order
    · rw [if_pos hmem]
      exact ⟨hi, fun _ h => h, fun _ h => h, Nat.le_refl _, fun _ h => .inl h, fun _ h => .inl h, nofun, fun _ => by show S.tries ≤ S.tries + _; omega, fun _ => ⟨rfl, hmem, hA⟩, nofun⟩
    rw [if_neg hmem]
    have hnew : ¬ entN col a b ∈ S.st := fun hin => hmem (hA _ hin (Int.le_refl _))
    obtain ⟨S1, hS1⟩ : ∃ S1, ({ S with st := S.st ++ [entN col a b] } : SS) = S1 := ⟨_, rfl⟩
    rw [hS1]
    have e1 : S1.order = S.order := by rw [← hS1]
    have e2 : S1.st = S.st ++ [entN col a b] := by rw [← hS1]
    have e3 : S1.way = S.way := by rw [← hS1]
    have e4 : S1.tries = S.tries := by rw [← hS1]
    have e5 : S1.left = S.left := by rw [← hS1]
    have hi1 : Inv t cols h m w L0 S1 := by
      refine ⟨by rw [e1]; exact hi.fit, by rw [e1]; exact hi.all, fun x hx => ?_, ?_, fun x hx => ?_, by rw [e1]; exact hi.ond, by rw [e4, e5]; exact hi.sum⟩
      · rw [e2] at hx
        rcases List.mem_append.1 hx with hx | hx
        · exact hi.sfit x hx
        · obtain rfl : x = entN col a b := by simpa using hx
          exact hfit
      · rw [e2, List.nodup_append]
        exact ⟨hi.nd, by simp, fun x hx y hy e => by
          obtain rfl : y = entN col a b := by simpa using hy
          rw [e] at hx
          exact hnew hx⟩
      · rw [e1] at hx
        rw [e2]
        exact List.mem_append_left _ (hi.sub x hx)
    have hA1 : ∀ x ∈ S1.st, ((col + 1 : Nat) : Int) ≤ x.1 → x ∈ S1.order := by
      intro x hx hc
      rw [e2] at hx
      rw [e1]
      rcases List.mem_append.1 hx with hx | hx
      · exact hA x hx (by omega)
      · obtain rfl : x = entN col a b := by simpa using hx
        exact absurd hc (by show ¬ ((col + 1 : Nat) : Int) ≤ (col : Int); omega)
    have hdw : w - (col + 1) = d := by omega
    have hlp := lp_post (t := t) (cols := cols) (h := h) (L0 := L0) (b := b) hcw ha (fun c S' hc hi' hA' hw' => by rw [hdw]; exact on_post d (col + 1) b c S' (by omega) hb hc hi' hA') (fun c S' hw' => by
      rw [show w - (col + 1) = 0 by omega]; rfl) m 0 S1 (by omega) hi1 hA1
    rw [hdw] at hlp
    generalize lpF (mkL t cols h col a b) (fun c S => onF (mkL t cols h) m d (col + 1) b c S) a m 0 S1 = Y at hlp ⊢
    obtain ⟨S2, o⟩ := Y
    simp only at hlp ⊢
    have hsl := hlp.sl
    rw [e2, List.length_append, List.length_singleton] at hsl
    have hml : m * (S2.st.length - S.st.length) = m * (S2.st.length - (S.st.length + 1)) + m := by
      rw [← Nat.mul_succ]
      congr 1
      omega
    have hl1 : S1.st.length = S.st.length + 1 := by rw [e2, List.length_append, List.length_singleton]
    have hslo : ∀ x ∈ S2.st, x ∈ S.st ∨ (col : Int) ≤ x.1 := fun x hx => by
      rcases hlp.slo x hx with h | h
      · rw [e2] at h
        rcases List.mem_append.1 h with h | h
        · exact .inl h
        · obtain rfl : x = entN col a b := by simpa using h
          exact .inr (Int.le_refl _)
      · exact .inr (by omega)
    cases o with
    | none =>
      obtain ⟨q1, q2⟩ := hlp.err rfl
      rw [hl1, e4] at q2
      exact ⟨hlp.inv, fun x hx => hlp.os x (by rw [e1]; exact hx), fun x hx => hlp.ss x (by rw [e2]; exact List.mem_append_left _ hx), by show S.st.length ≤ S2.st.length; omega, fun x hx => by rcases hlp.lo x hx with h | h; (rw [e1] at h; exact .inl h); exact .inr (by omega), fun x hx => hslo x hx, fun _ => ⟨q1, by show S2.tries + 1 ≤ S.tries + m * (S2.st.length - S.st.length); omega⟩, fun h => absurd rfl h, nofun, nofun⟩
    | some o =>
      have q2 := hlp.ok nofun
      rw [hl1, e4] at q2
      cases o with
      | true =>
        obtain ⟨v, v1, v2, v3, v4⟩ := hlp.yes rfl
        exact ⟨hlp.inv, fun x hx => hlp.os x (by rw [e1]; exact hx), fun x hx => hlp.ss x (by rw [e2]; exact List.mem_append_left _ hx), by show S.st.length ≤ S2.st.length; omega, fun x hx => by rcases hlp.lo x hx with h | h; (rw [e1] at h; exact .inl h); exact .inr (by omega), fun x hx => hslo x hx, nofun, fun _ => by show S2.tries ≤ S.tries + m * (S2.st.length - S.st.length); omega, nofun, fun _ => ⟨v, v1, v2, v3, by rw [v4, e3]⟩⟩
      | false =>
        obtain ⟨n1, n2, n3⟩ := hlp.no rfl
        have hin : entN col a b ∈ S2.st := hlp.ss _ (by rw [e2]; simp)
        have hdup : ¬ entN col a b ∈ S2.order := fun hd => by
          rcases hlp.lo _ hd with h | h
          · rw [e1] at h; exact hmem h
          · exact absurd h (by show ¬ ((col + 1 : Nat) : Int) ≤ (col : Int); omega)
        have hhold : hold t cols h m (entN col a b) S2.order := by
          rw [hold_iff]
          intro c hc hlk
          simp only [Int.toNat_natCast] at hlk ⊢
          exact n3 c (by omega) (by omega) hlk
        refine ⟨⟨fun x hx => ?_, ?_, hlp.inv.sfit, hlp.inv.nd, fun x hx => ?_, ?_, hlp.inv.sum⟩, fun x hx => List.mem_append_left _ (hlp.os x (by rw [e1]; exact hx)), fun x hx => hlp.ss x (by rw [e2]; exact List.mem_append_left _ hx), by show S.st.length ≤ S2.st.length; omega, fun x hx => ?_, fun x hx => hslo x hx, nofun, fun _ => by show S2.tries ≤ S.tries + m * (S2.st.length - S.st.length); omega, fun _ => ⟨by rw [← e3]; exact n1, by simp, fun x hx hc => ?_⟩, nofun⟩
        · rcases List.mem_append.1 hx with hx | hx
          · exact hlp.inv.fit x hx
          · obtain rfl : x = entN col a b := by simpa using hx
            exact hfit
        · rw [allH_append]
          exact ⟨hlp.inv.all, hhold, trivial⟩
        · rcases List.mem_append.1 hx with hx | hx
          · exact hlp.inv.sub x hx
          · obtain rfl : x = entN col a b := by simpa using hx
            exact hin
        · show (S2.order ++ [entN col a b]).Nodup
          rw [List.nodup_append]
          exact ⟨hlp.inv.ond, by simp, fun x hx y hy e => by
            obtain rfl : y = entN col a b := by simpa using hy
            rw [e] at hx
            exact hdup hx⟩
        · rcases List.mem_append.1 hx with hx | hx
          · rcases hlp.lo x hx with h | h
            · rw [e1] at h; exact .inl h
            · exact .inr (by omega)
          · obtain rfl : x = entN col a b := by simpa using hx
            exact .inr (Int.le_refl _)
        · rcases hlp.slo x hx with h | h
          · rw [e2] at h
            rcases List.mem_append.1 h with h | h
            · exact List.mem_append_left _ (hlp.os x (by rw [e1]; exact hA x h hc))
            · obtain rfl : x = entN col a b := by simpa using h
              exact List.mem_append_right _ (by simp)
          · exact List.mem_append_left _ (n2 x hx h)
/-- all pairs -/
structure AllPost (t cols : List Int) (h m w L0 r n : Nat) (S S2 : SS) (o : Option Bool) : Prop where
  inv : Inv t cols h m w L0 S2
  sl : S.st.length ≤ S2.st.length
  err : o = none → S2.left = 0 ∧ S2.tries + 1 ≤ S.tries + m * (S2.st.length - S.st.length)
  ok : o ≠ none → S2.tries ≤ S.tries + m * (S2.st.length - S.st.length)
  os : ∀ x ∈ S.order, x ∈ S2.order
  no : o = some false → S2.way = S.way ∧ ∀ k, n ≤ k → k < n + r → key0 m k ∈ S2.order
  yes : o = some true → ∃ v, Path (mkL t cols h) m w 0 v ∧ S2.way = S.way ++ wayL v w 0
theorem all_post {t cols : List Int} {h m w L0 : Nat} : ∀ (r n : Nat) (S : SS), n + r = m * m → Inv t cols h m w L0 S → (∀ x ∈ S.st, x ∈ S.order) →
    AllPost t cols h m w L0 r n S (allF (mkL t cols h) m w r n S).1 (allF (mkL t cols h) m w r n S).2
  | 0, n, S, hr, hi, hA => by
    unfold allF
    exact ⟨hi, Nat.le_refl _, nofun, fun _ => by show S.tries ≤ S.tries + _; omega, fun _ h => h, fun _ => ⟨rfl, fun k h1 h2 => by omega⟩, nofun⟩
  | r + 1, n, S, hr, hi, hA => by
    have hm : 0 < m := by
      rcases Nat.eq_zero_or_pos m with e | e
      · rw [e] at hr; omega
      · exact e
    have hp := on_post (t := t) (cols := cols) (h := h) (L0 := L0) w 0 (n / m) (n % m) S (by omega) (Nat.div_lt_of_lt_mul (by omega)) (Nat.mod_lt _ hm) hi (fun x hx _ => hA x hx)
    unfold allF
    generalize onF (mkL t cols h) m w 0 (n / m) (n % m) S = X at hp ⊢
    obtain ⟨S2, o⟩ := X
    simp only at hp ⊢
    have hsl := hp.sl
    cases o with
    | none => exact ⟨hp.inv, hsl, fun _ => hp.err rfl, fun h => absurd rfl h, hp.os, nofun, nofun⟩
    | some o =>
      have hq := hp.ok nofun
      cases o with
      | true =>
        obtain ⟨v, v1, v2, v3, v4⟩ := hp.yes rfl
        exact ⟨hp.inv, hsl, nofun, fun _ => hq, hp.os, nofun, fun _ => ⟨v, v3, v4⟩⟩
      | false =>
        obtain ⟨n1, n2, n3⟩ := hp.no rfl
        have ih := all_post r (n + 1) S2 (by omega) hp.inv (fun x hx => n3 x hx (hp.inv.sfit x hx).a0)
        simp only
        generalize allF (mkL t cols h) m w r (n + 1) S2 = Y at ih ⊢
        obtain ⟨S3, o3⟩ := Y
        simp only at ih ⊢
        have hsl3 := ih.sl
        have hml : m * (S3.st.length - S.st.length) = m * (S3.st.length - S2.st.length) + m * (S2.st.length - S.st.length) := by
          rw [← Nat.mul_add]
          congr 1
          omega
        refine ⟨ih.inv, by omega, fun e => ⟨(ih.err e).1, ?_⟩, fun e => ?_, fun x hx => ih.os x (hp.os x hx), fun e => ⟨by rw [(ih.no e).1, n1], fun k h1 h2 => ?_⟩, fun e => ?_⟩
        · have := (ih.err e).2; omega
        · have := ih.ok e; omega
        · rcases Nat.lt_or_ge n k with hk | hk
          · exact (ih.no e).2 k (by omega) (by omega)
          · obtain rfl : k = n := by omega
            exact ih.os _ n2
        · obtain ⟨v, v3, v4⟩ := ih.yes e
          exact ⟨v, v3, by rw [v4, n1]⟩
theorem nodup_len : ∀ (N : Nat) (l : List Nat), l.Nodup → (∀ x ∈ l, x < N) → l.length ≤ N
  | 0, l, _, h => by
    cases l with
    | nil => exact Nat.le_refl _
    | cons x r => exact absurd (h x (by simp)) (by omega)
  | N + 1, l, hd, h => by
    by_cases hN : N ∈ l
    · have h1 := nodup_len N (l.erase N) (hd.erase N) (fun x hx => by
        have hx2 := (hd.mem_erase_iff).1 hx
        have := h x hx2.2
        omega)
      rw [List.length_erase_of_mem hN] at h1
      omega
    · have := nodup_len N l hd (fun x hx => by
        have h1 := h x hx
        have h2 : x ≠ N := fun e => hN (e ▸ hx)
        omega)
      omega
theorem ents_len {w m : Nat} : ∀ {L : List Ent}, L.Nodup → (∀ x ∈ L, Fit3 w m x) → L.length ≤ w * m * m := by
  intro L hd hf
  have h1 : (L.map (posE m)).Nodup := by
    induction L with
    | nil => simp
    | cons x r ih =>
      rw [List.nodup_cons] at hd
      rw [List.map_cons, List.nodup_cons]
      refine ⟨fun hin => ?_, ih hd.2 (fun y hy => hf y (by simp [hy]))⟩
      obtain ⟨y, hy, he⟩ := List.mem_map.1 hin
      have := posE_inj (hf y (by simp [hy])) (hf x (by simp)) he
      rw [this] at hy
      exact hd.1 hy
  have := nodup_len (w * m * m) (L.map (posE m)) h1 (fun x hx => by
    obtain ⟨y, hy, rfl⟩ := List.mem_map.1 hx
    exact posE_lt (hf y hy))
  rwa [List.length_map] at this
def S0 (L0 : Nat) : SS := ⟨0, L0, [], [], []⟩
theorem inv0 (t cols : List Int) (h m w L0 : Nat) : Inv t cols h m w L0 (S0 L0) := ⟨nofun, trivial, nofun, List.nodup_nil, nofun, List.nodup_nil, by show 0 + L0 = L0; omega⟩
/-- what the whole search tells -/
def seekF (t cols : List Int) (h m w L0 : Nat) : SS × Option Bool := allF (mkL t cols h) m w (m * m) 0 (S0 L0)
structure SeekPost (t cols : List Int) (h m w L0 : Nat) (S : SS) (o : Option Bool) : Prop where
  tl : S.tries ≤ L0
  sum : S.tries + S.left = L0
  fit : ∀ x ∈ S.order, Fit3 w m x
  len : S.order.length ≤ w * m * m
  err : o = none → S.left = 0 ∧ S.tries = L0 ∧ L0 < w * m * m * m
  ok : o ≠ none → S.tries ≤ w * m * m * m
  no : o = some false → AllH t cols h m S.order [] ∧ cnt0 m S.order (m * m) = m * m
  yes : o = some true → ∃ v, Path (mkL t cols h) m w 0 v ∧ S.way = wayL v w 0
theorem seek_post (t cols : List Int) (h m w L0 : Nat) : SeekPost t cols h m w L0 (seekF t cols h m w L0).1 (seekF t cols h m w L0).2 := by
  have hp := all_post (t := t) (cols := cols) (h := h) (w := w) (m * m) 0 (S0 L0) (by omega) (inv0 t cols h m w L0) nofun
  unfold seekF
  generalize allF (mkL t cols h) m w (m * m) 0 (S0 L0) = X at hp ⊢
  obtain ⟨S, o⟩ := X
  simp only at hp ⊢
  have hs := hp.inv.sum
  have hst := ents_len hp.inv.nd hp.inv.sfit
  have hml : m * (S.st.length - (S0 L0).st.length) ≤ w * m * m * m := by
    rw [Nat.mul_comm]
    exact Nat.mul_le_mul_right _ (by show S.st.length - 0 ≤ _; omega)
  have e0 : (S0 L0).tries = 0 := rfl
  refine ⟨by omega, hs, hp.inv.fit, ents_len hp.inv.ond hp.inv.fit, fun e => ?_, fun e => ?_, fun e => ⟨hp.inv.all, ?_⟩, fun e => ?_⟩
  · obtain ⟨h1, h2⟩ := hp.err e
    rw [e0] at h2
    exact ⟨h1, by omega, by omega⟩
  · have := hp.ok e
    rw [e0] at this
    omega
  · exact cnt0_full _ fun k hk => (hp.no e).2 k (by omega) (by omega)
  · obtain ⟨v, h1, h2⟩ := hp.yes e
    exact ⟨v, h1, h2⟩
/-- without tries nothing is told -/
theorem seek_zero {t cols : List Int} {h m w : Nat} (hm : 0 < m) (hw : 0 < w) : (seekF t cols h m w 0).2 = none := by
  obtain ⟨q, hq⟩ : ∃ q, m * m = q + 1 := ⟨m * m - 1, by have := Nat.mul_pos hm hm; omega⟩
  obtain ⟨d, rfl⟩ : ∃ d, w = d + 1 := ⟨w - 1, by omega⟩
  obtain ⟨p, rfl⟩ : ∃ p, m = p + 1 := ⟨m - 1, by omega⟩
  unfold seekF
  rw [hq]
  have h1 : onF (mkL t cols h) (p + 1) (d + 1) 0 (0 / (p + 1)) (0 % (p + 1)) (S0 0) = (⟨0, 0, [], [], [entN 0 (0 / (p + 1)) (0 % (p + 1))]⟩, none) := by
    unfold onF
    rw [if_neg (show ¬ entN 0 (0 / (p + 1)) (0 % (p + 1)) ∈ (S0 0).order from nofun)]
    show (match lpF (mkL t cols h 0 (0 / (p + 1)) (0 % (p + 1))) (fun c S => onF (mkL t cols h) (p + 1) d (0 + 1) (0 % (p + 1)) c S) (0 / (p + 1)) (p + 1) 0 ⟨0, 0, [], [], [entN 0 (0 / (p + 1)) (0 % (p + 1))]⟩ with | (S2, none) => (S2, none) | (S2, some true) => (S2, some true) | (S2, some false) => ({ S2 with order := S2.order ++ [entN 0 (0 / (p + 1)) (0 % (p + 1))] }, some false)) = _
    unfold lpF
    have hz : (⟨0, 0, [], [], [entN 0 (0 / (p + 1)) (0 % (p + 1))]⟩ : SS).left = 0 := rfl
    rw [if_pos hz]
  unfold allF
  rw [h1]
end Go.Proofs.YtoaooblodgejdaaDoor
namespace Go.Proofs.YtoaooblodgejdaaDoor
open Go.RowKit
set_option linter.unusedVariables false
set_option maxRecDepth 100000

theorem path_pred {t cols : List Int} {h m w : Nat} {v : Nat → Nat} (hp : Path (mkL t cols h) m w 0 v) : Pred t cols h m w v := ⟨hp.lt, fun x hx => hp.mks x (by omega) hx⟩
/-- the columns of a way, from the first on -/
def colsV (v : Nat → Nat) (w : Nat) : List Int := (List.range (w + 2)).map fun x => ((v x : Nat) : Int)
theorem wayL_rev (v : Nat → Nat) (w : Nat) : (wayL v w 0).reverse = colsV v w := by
  apply List.ext_getElem
  · simp [wayL, colsV]
  · intro i h1 h2
    simp only [colsV, List.length_map, List.length_range] at h2
    rw [List.getElem_reverse]
    simp only [wayL, colsV, List.getElem_map, List.getElem_range, List.length_map, List.length_range]
    congr 2
    omega
theorem colsV_ok {v : Nat → Nat} {w h m : Nat} (hm : m = 4 * 2 ^ h) (h1 : 1 ≤ h) (h4 : h ≤ 4) (w8 : w ≤ 8) (hv : ∀ x, x < w + 2 → v x < m) : JoinOk (h + 2) (colsV v w) := by
  have e : ((2 : Int) ^ (h + 2)) = ((4 * 2 ^ h : Nat) : Int) := by
    have h2 : (2 : Nat) ^ (h + 2) = 4 * 2 ^ h := by rw [Nat.pow_add]; omega
    rw [← h2, Int.natCast_pow]; rfl
  refine ⟨by omega, by omega, by simp [colsV], by simp [colsV]; omega, fun x hx => ?_⟩
  obtain ⟨j, hj, rfl⟩ := List.mem_map.1 hx
  have h2 := hv j (List.mem_range.1 hj)
  rw [e, ← hm]
  omega
theorem bits_eq {a b h : Nat} (ha : a < 2 ^ h) (hb : b < 2 ^ h) {t : List Int} {x y z : Nat} (h1 : (looksF t x y z a h 0).2 = true) (h2 : (looksF t x y z b h 0).2 = true) : a = b := by
  have e1 := madeV_of (t := t) (a := x) (b := y) (c := z) (x := a) h (fun j hj => by have := (looksF_all h 0).1 h1 j hj; rwa [Nat.zero_add] at this)
  have e2 := madeV_of (t := t) (a := x) (b := y) (c := z) (x := b) h (fun j hj => by have := (looksF_all h 0).1 h2 j hj; rwa [Nat.zero_add] at this)
  rw [Nat.mod_eq_of_lt ha] at e1
  rw [Nat.mod_eq_of_lt hb] at e2
  rw [← e1, ← e2]
/-- the patch of a predecessor's columns has the image -/
theorem pred_step {t l : List Int} {w h : Nat} {v : Nat → Nat} (ht : IsTab t) (hp : IsPatch w h l) (w8 : w ≤ 8) (h4 : h ≤ 4) (hv : Pred t (colL w h l) h (4 * 2 ^ h) w v) :
    IsPatch (w + 2) (h + 2) (joinL (h + 2) (colsV v w)) ∧ stepL t (w + 2) (h + 2) (joinL (h + 2) (colsV v w)) = l := by
  have hj := colsV_ok (v := v) (w := w) rfl hp.h1 h4 w8 hv.lt
  have hlen : (colsV v w).length = w + 2 := by simp [colsV]
  have hq := join_patch hj
  rw [hlen] at hq
  refine ⟨hq, ?_⟩
  have hcj := col_join hj
  rw [hlen] at hcj
  have hS : IsPatch (w + 2 - 2) (h + 2 - 2) (stepL t (w + 2) (h + 2) (joinL (h + 2) (colsV v w))) := stepL_patch hq ht.len ht.sym (by have := hp.w1; omega) (by have := hp.h1; omega)
  have hS2 : IsPatch w h (stepL t (w + 2) (h + 2) (joinL (h + 2) (colsV v w))) := hS
  have hsp := step_pred hq ht
  rw [← join_col hS2 (by omega), ← join_col hp (by omega)]
  congr 1
  apply List.ext_getElem
  · rw [colL_len, colL_len]
  · intro x h1 h2
    rw [colL_len] at h1
    have g1 : ∀ L : List Int, (hl : x < (colL w h L).length) → (colL w h L)[x] = (colV w L x h : Int) := fun L hl => by simp [colL]
    rw [g1, g1]
    have cv : ∀ y, y < w + 2 → colV (w + 2) (joinL (h + 2) (colsV v w)) y (h + 2) = v y := fun y hy => by
      have e1 := colL_getD (l := joinL (h + 2) (colsV v w)) (h := h + 2) hy
      rw [hcj] at e1
      have e2 : (colsV v w).getD y 0 = ((v y : Nat) : Int) := by simp [colsV, hy]
      rw [e2] at e1
      omega
    have a1 := hsp.mks x h1
    have a2 := hv.mks x h1
    simp only [cv x (by omega), cv (x + 1) (by omega), cv (x + 2) (by omega)] at a1
    rw [colL_getD h1, Int.toNat_natCast] at a1 a2
    rw [bits_eq (colV_lt hS2 h1 h (Nat.le_refl _)) (colV_lt hp h1 h (Nat.le_refl _)) a1 a2]
theorem gvD_right {t l : List Int} {w h : Nat} (ht : IsTab t) (hp : IsPatch w h l) (w8 : w ≤ 8) (h4 : h ≤ 4) : gvD t (w : Int) (h : Int) l = none := by
  unfold gvD
  rw [tabD_of ht, patchErr_of hp]
  exact (if_neg (by omega)).trans (if_neg (by omega))
theorem encOk_fit {w h : Nat} {L : List Ent} (h1 : 1 ≤ w) (w8 : w ≤ 8) (h2 : 1 ≤ h) (h4 : h ≤ 4) (hl : L.length ≤ 43689) (hf : ∀ x ∈ L, Fit3 w (4 * 2 ^ h) x) : EncOk (w : Int) (h : Int) L := by
  refine ⟨by omega, by omega, by omega, by omega, hl, fun x hx => ?_⟩
  have q := hf x hx
  have q1 := q.a0; have q2 := q.a1; have q3 := q.b0; have q4 := q.b1; have q5 := q.c0; have q6 := q.c1
  simp only [fitsE, fitsB, Bool.and_eq_true, decide_eq_true_eq, most_nat]
  omega
/-- a certificate that goes through holds -/
theorem judge_of {t l : List Int} {w h : Nat} {L : List Ent} (ht : IsTab t) (hp : IsPatch w h l) (w8 : w ≤ 8) (h4 : h ≤ 4) (H : EncOk (w : Int) (h : Int) L) (hf : ∀ x ∈ L, Fit3 w (4 * 2 ^ h) x) :
    ((judgeF t (w : Int) (h : Int) l (encL (w : Int) (h : Int) L)).2 = none ↔ AllH t (colL w h l) h (4 * 2 ^ h) L [] ∧ 4 * 2 ^ h * (4 * 2 ^ h) ≤ cnt0 (4 * 2 ^ h) L (4 * 2 ^ h * (4 * 2 ^ h))) ∧
    ((judgeF t (w : Int) (h : Int) l (encL (w : Int) (h : Int) L)).2 = none → (judgeF t (w : Int) (h : Int) l (encL (w : Int) (h : Int) L)).1 = costs t (colL w h l) h (4 * 2 ^ h) L) := by
  have hr := run_all (t := t) (cols := colL w h l) (h := h) (m := 4 * 2 ^ h) (w := w) L 0 [] 0 hf
  rw [cnt0_nil] at hr
  rw [judgeF_run (gvD_right ht hp w8 h4) (decF_enc H) rfl]
  generalize judgeRun t (colL w h l) h (4 * 2 ^ h) L 0 [] 0 0 = X at hr
  obtain ⟨n, o⟩ := X
  rw [List.nil_append, Nat.zero_add] at hr
  cases o with
  | none => exact ⟨⟨fun _ => hr.1.1 rfl, fun _ => rfl⟩, fun _ => hr.2 rfl⟩
  | some a => exact ⟨⟨nofun, fun h => absurd (hr.1.2 h) nofun⟩, nofun⟩
theorem m_le {h : Nat} (h4 : h ≤ 4) : 4 * 2 ^ h ≤ 64 ∧ 0 < 4 * 2 ^ h := by
  have := Nat.pow_le_pow_right (n := 2) (by omega) h4
  have h2 : (2 : Nat) ^ 4 = 16 := by decide
  have := Nat.one_le_two_pow (n := h)
  omega
/-- the most tries that are made -/
theorem enough_le {w h : Nat} (w8 : w ≤ 8) (h4 : h ≤ 4) : w * (4 * 2 ^ h) * (4 * 2 ^ h) ≤ 32768 ∧ w * (4 * 2 ^ h) * (4 * 2 ^ h) * (4 * 2 ^ h) ≤ 2097152 := by
  have hm := (m_le h4).1
  have a := Nat.mul_le_mul w8 hm
  have b := Nat.mul_le_mul a hm
  exact ⟨b, Nat.mul_le_mul b hm⟩
/-- the search of a right table and patch -/
structure SeekEnd (t l : List Int) (w h L0 : Nat) (S : SS) (o : Option Bool) : Prop where
  tl : S.tries ≤ L0
  te : S.tries ≤ w * (4 * 2 ^ h) * (4 * 2 ^ h) * (4 * 2 ^ h)
  enc : EncOk (w : Int) (h : Int) S.order
  err : o = none → S.tries = L0 ∧ L0 < w * (4 * 2 ^ h) * (4 * 2 ^ h) * (4 * 2 ^ h)
  cert : o = some false → (judgeF t (w : Int) (h : Int) l (encL (w : Int) (h : Int) S.order)).2 = none ∧ ∀ v, ¬ Pred t (colL w h l) h (4 * 2 ^ h) w v
  patch : o = some true → ∃ v, S.way.reverse = colsV v w ∧ JoinOk (h + 2) (colsV v w) ∧ Pred t (colL w h l) h (4 * 2 ^ h) w v ∧ IsPatch (w + 2) (h + 2) (joinL (h + 2) (colsV v w)) ∧ stepL t (w + 2) (h + 2) (joinL (h + 2) (colsV v w)) = l
theorem seek_end {t l : List Int} {w h : Nat} (ht : IsTab t) (hp : IsPatch w h l) (w8 : w ≤ 8) (h4 : h ≤ 4) (L0 : Nat) :
    SeekEnd t l w h L0 (seekF t (colL w h l) h (4 * 2 ^ h) w L0).1 (seekF t (colL w h l) h (4 * 2 ^ h) w L0).2 := by
  have hs := seek_post t (colL w h l) h (4 * 2 ^ h) w L0
  have hb := enough_le w8 h4
  generalize seekF t (colL w h l) h (4 * 2 ^ h) w L0 = X at hs ⊢
  obtain ⟨S, o⟩ := X
  simp only at hs ⊢
  have henc := encOk_fit hp.w1 w8 hp.h1 h4 (L := S.order) (by have := hs.len; omega) hs.fit
  refine ⟨hs.tl, ?_, henc, fun e => (hs.err e).2, fun e => ?_, fun e => ?_⟩
  · by_cases e : o = none
    · have := hs.err e; omega
    · exact hs.ok e
  · have hj := (judge_of ht hp w8 h4 henc hs.fit).1.2 ⟨(hs.no e).1, by rw [(hs.no e).2]; exact Nat.le_refl _⟩
    refine ⟨hj, ?_⟩
    obtain ⟨w', h', e1, e2, _, _, _, _, hno⟩ := judge_sound hj
    obtain rfl : w = w' := by omega
    obtain rfl : h = h' := by omega
    exact hno
  · obtain ⟨v, hv, hw⟩ := hs.yes e
    have hpr := path_pred hv
    obtain ⟨q1, q2⟩ := pred_step ht hp w8 h4 hpr
    exact ⟨v, by rw [hw, wayL_rev], colsV_ok rfl hp.h1 h4 w8 hpr.lt, hpr, q1, q2⟩
end Go.Proofs.YtoaooblodgejdaaDoor
namespace Go.Proofs.YtoaooblodgejdaaDoor
open Go.RowKit
set_option linter.unusedVariables false
set_option maxRecDepth 100000

/-- the k-th of w + 2 digits -/
def dgN (m w C k : Nat) : Nat := C / m ^ (w + 1 - k) % m
/-- the code of the first n digits -/
def encN (m : Nat) (v : Nat → Nat) : Nat → Nat
  | 0 => 0
  | n + 1 => encN m v n * m + v n
theorem encN_lt {m : Nat} {v : Nat → Nat} : ∀ n, (∀ k, k < n → v k < m) → encN m v n < m ^ n
  | 0, _ => by show 0 < 1; omega
  | n + 1, h => by
    have h1 := encN_lt n (fun k hk => h k (by omega))
    have h2 := h n (by omega)
    have h3 : (encN m v n + 1) * m ≤ m ^ n * m := Nat.mul_le_mul_right _ h1
    rw [Nat.succ_mul] at h3
    rw [encN, Nat.pow_succ]
    omega
theorem encN_dig {m : Nat} {v : Nat → Nat} (hm : 0 < m) : ∀ n, (∀ k, k < n → v k < m) → ∀ k, k < n → encN m v n / m ^ (n - 1 - k) % m = v k
  | 0, _, k, hk => by omega
  | n + 1, h, k, hk => by
    have h2 := h n (by omega)
    by_cases e : k = n
    · subst e
      rw [show k + 1 - 1 - k = 0 by omega, Nat.pow_zero, Nat.div_one, encN, Nat.mul_comm, Nat.mul_add_mod, Nat.mod_eq_of_lt h2]
    · have ih := encN_dig hm n (fun k hk => h k (by omega)) k (by omega)
      rw [show n + 1 - 1 - k = (n - 1 - k) + 1 by omega, Nat.pow_succ, Nat.mul_comm (m ^ _) m, ← Nat.div_div_eq_div_mul, encN, Nat.mul_comm, Nat.mul_add_div hm, Nat.div_eq_of_lt h2, Nat.add_zero]
      exact ih
theorem encN_congr {m : Nat} {v u : Nat → Nat} : ∀ n, (∀ k, k < n → v k = u k) → encN m v n = encN m u n
  | 0, _ => rfl
  | n + 1, h => by rw [encN, encN, encN_congr n (fun k hk => h k (by omega)), h n (by omega)]
theorem encN_of {m y N : Nat} : ∀ n, n ≤ N → encN m (fun k => y / m ^ (N - 1 - k) % m) n = y / m ^ (N - n) % m ^ n
  | 0, _ => by rw [encN, Nat.pow_zero, Nat.mod_one]
  | n + 1, h => by
    rw [encN, encN_of n (by omega)]
    show y / m ^ (N - n) % m ^ n * m + y / m ^ (N - 1 - n) % m = y / m ^ (N - (n + 1)) % m ^ (n + 1)
    rw [show N - n = (N - (n + 1)) + 1 by omega, show N - 1 - n = N - (n + 1) by omega, Nat.pow_succ, ← Nat.div_div_eq_div_mul, Nat.pow_succ, Nat.mul_comm (m ^ n) m, Nat.mod_mul, Nat.mul_comm m]
    omega
theorem encN_all {m w C : Nat} (hC : C < m ^ (w + 2)) : encN m (dgN m w C) (w + 2) = C := by
  have h := encN_of (m := m) (y := C) (N := w + 2) (w + 2) (Nat.le_refl _)
  rw [Nat.sub_self, Nat.pow_zero, Nat.div_one, Nat.mod_eq_of_lt hC] at h
  exact h
theorem dgN_enc {m w : Nat} {v : Nat → Nat} (hm : 0 < m) (hv : ∀ k, k < w + 2 → v k < m) {k : Nat} (hk : k < w + 2) : dgN m w (encN m v (w + 2)) k = v k := encN_dig hm (w + 2) hv k hk

/-- each three of the digits make the next column -/
def chainN (t cols : List Int) (h m w s y : Nat) : Prop := ∀ j, j < s → mkF t cols h m (w - 1 - j) (y / m ^ j % (m * m * m)) = true
open Classical in
theorem bw_chain {t cols : List Int} {h m w : Nat} (hm : 0 < m) : ∀ s i, i < m * m → bwN t cols h m w s i = sumN (m ^ s) (fun C => if chainN t cols h m w s (i * m ^ s + C) then 1 else 0)
  | 0, i, _ => by
    show 1 = (0 + if _ then 1 else 0 : Nat)
    rw [if_pos (show chainN t cols h m w 0 (i * m ^ 0 + 0) from fun j hj => absurd hj (by omega))]
  | s + 1, i, hi => by
    rw [Nat.pow_succ, Nat.mul_comm (m ^ s) m, sumN_split]
    refine sumN_congr m fun c hc => ?_
    have hlt : i % m * m + c < m * m := by
      have h1 := Nat.mod_lt i hm
      have h2 : (i % m + 1) * m ≤ m * m := Nat.mul_le_mul_right _ h1
      rw [Nat.succ_mul] at h2
      omega
    rw [bw_chain hm s _ hlt]
    have hcc : ∀ C, C < m ^ s → (chainN t cols h m w (s + 1) (i * (m * m ^ s) + (c * m ^ s + C)) ↔ mkF t cols h m (w - 1 - s) (i * m + c) = true ∧ chainN t cols h m w s ((i % m * m + c) * m ^ s + C)) := by
      intro C hC
      have e0 : i * (m * m ^ s) + (c * m ^ s + C) = (i * m + c) * m ^ s + C := by rw [Nat.add_mul, Nat.mul_assoc]; omega
      have e1 : ((i * m + c) * m ^ s + C) / m ^ s % (m * m * m) = i * m + c := by
        have h3 : (i + 1) * m ≤ m * m * m := Nat.mul_le_mul_right _ hi
        rw [Nat.succ_mul] at h3
        rw [Nat.mul_comm, Nat.mul_add_div (Nat.pow_pos hm), Nat.div_eq_of_lt hC, Nat.add_zero, Nat.mod_eq_of_lt (by omega)]
      have e2 : ∀ j, j < s → ((i * m + c) * m ^ s + C) / m ^ j % (m * m * m) = ((i % m * m + c) * m ^ s + C) / m ^ j % (m * m * m) := by
        intro j hj
        obtain ⟨r, hr⟩ : ∃ r, s = j + 1 + r := ⟨s - j - 1, by omega⟩
        have d1 : i * m + c = m * m * (i / m) + (i % m * m + c) := by
          have := Nat.div_add_mod i m
          have h2 : i * m = (m * (i / m) + i % m) * m := by rw [this]
          rw [h2, Nat.add_mul, Nat.mul_right_comm]
          omega
        have d2 : (i * m + c) * m ^ s + C = m ^ j * (m * m * m * (i / m * m ^ r)) + ((i % m * m + c) * m ^ s + C) := by
          rw [d1, Nat.add_mul, Nat.add_assoc]
          congr 1
          rw [hr, Nat.pow_add, Nat.pow_add, Nat.pow_one]
          ac_rfl
        rw [d2, Nat.mul_add_div (Nat.pow_pos hm), Nat.mul_add_mod]
      rw [e0]
      constructor
      · intro hh
        refine ⟨by have := hh s (by omega); rwa [e1] at this, fun j hj => ?_⟩
        have := hh j (by omega)
        rwa [e2 j hj] at this
      · rintro ⟨h1, h2⟩ j hj
        by_cases e : j = s
        · subst e; rw [e1]; exact h1
        · rw [e2 j (by omega)]; exact h2 j (by omega)
    show (if mkF t cols h m (w - 1 - s) (i * m + c) = true then _ else 0) = _
    by_cases hk : mkF t cols h m (w - 1 - s) (i * m + c) = true
    · rw [if_pos hk]
      refine sumN_congr _ fun C hC => ?_
      by_cases hh : chainN t cols h m w s ((i % m * m + c) * m ^ s + C)
      · rw [if_pos hh, if_pos ((hcc C hC).2 ⟨hk, hh⟩)]
      · rw [if_neg hh, if_neg (fun g => hh ((hcc C hC).1 g).2)]
    · rw [if_neg hk]
      refine (sumN_zero _ fun C hC => ?_).symm
      rw [if_neg (fun g => hk ((hcc C hC).1 g).1)]
theorem chain_pred {t cols : List Int} {h m w y : Nat} (hm : 0 < m) : chainN t cols h m w w y ↔ Pred t cols h m w (dgN m w y) := by
  have hk : ∀ x, x < w → (mkF t cols h m x (y / m ^ (w - 1 - x) % (m * m * m)) = (looksF t (dgN m w y x) (dgN m w y (x + 1)) (dgN m w y (x + 2)) (cols.getD x 0).toNat h 0).2) := by
    intro x hx
    unfold mkF dgN
    rw [show w + 1 - x = (w - 1 - x) + 1 + 1 by omega, show w + 1 - (x + 1) = (w - 1 - x) + 1 by omega, show w + 1 - (x + 2) = w - 1 - x by omega]
    generalize w - 1 - x = j
    rw [Nat.pow_succ, Nat.pow_succ, ← Nat.div_div_eq_div_mul, ← Nat.div_div_eq_div_mul]
    generalize y / m ^ j = z
    have a1 : z % (m * m * m) / m / m = z / m / m % m := by
      rw [Nat.mul_assoc, Nat.mod_mul, Nat.add_comm, Nat.mul_add_div hm, Nat.div_eq_of_lt (Nat.mod_lt _ hm), Nat.add_zero, Nat.mod_mul, Nat.add_comm, Nat.mul_add_div hm, Nat.div_eq_of_lt (Nat.mod_lt _ hm), Nat.add_zero]
    have a2 : z % (m * m * m) / m % m = z / m % m := by
      rw [Nat.mul_assoc, Nat.mod_mul, Nat.add_comm, Nat.mul_add_div hm, Nat.div_eq_of_lt (Nat.mod_lt _ hm), Nat.add_zero, Nat.mod_mul_right_mod]
    have a3 : z % (m * m * m) % m = z % m := by rw [Nat.mul_assoc, Nat.mod_mul_right_mod]
    rw [a1, a2, a3]
  constructor
  · intro hc
    refine ⟨fun x _ => Nat.mod_lt _ hm, fun x hx => ?_⟩
    have := hc (w - 1 - x) (by omega)
    rw [show w - 1 - (w - 1 - x) = x by omega, hk x hx] at this
    exact this
  · intro hp j hj
    have := hp.mks (w - 1 - j) (by omega)
    rw [← hk _ (by omega), show w - 1 - (w - 1 - j) = j by omega] at this
    exact this
open Classical in
/-- the predecessors' count by codes -/
theorem cnt_codes {t cols : List Int} {h m w : Nat} (hm : 0 < m) : cntN t cols h m w = sumN (m ^ (w + 2)) (fun C => if Pred t cols h m w (dgN m w C) then 1 else 0) := by
  unfold cntN
  rw [show m ^ (w + 2) = m * m * m ^ w by rw [Nat.pow_succ, Nat.pow_succ]; ac_rfl]
  refine Eq.trans ?_ (sumN_split _ _ _).symm
  refine sumN_congr _ fun i hi => ?_
  rw [bw_chain hm w i hi]
  refine sumN_congr _ fun C _ => ?_
  by_cases hc : chainN t cols h m w w (i * m ^ w + C)
  · rw [if_pos hc, if_pos ((chain_pred hm).1 hc)]
  · rw [if_neg hc, if_neg (fun g => hc ((chain_pred hm).2 g))]
theorem sumN_mono {f g : Nat → Nat} : ∀ n, (∀ i, i < n → f i ≤ g i) → sumN n f ≤ sumN n g
  | 0, _ => Nat.le_refl _
  | n + 1, h => by
    have h1 := sumN_mono n (fun i hi => h i (by omega))
    have h2 := h n (by omega)
    show sumN n f + f n ≤ sumN n g + g n
    omega
theorem sumN_inj {f g F G : Nat → Nat} {n k : Nat} (hF : ∀ i, i < n → F i < k) (hG : ∀ i, i < n → G (F i) = i) (hfg : ∀ i, i < n → f i ≤ g (F i)) : sumN n f ≤ sumN k g := by
  refine Nat.le_trans (sumN_mono (g := fun i => sumN k (fun j => if F i = j then g j else 0)) n fun i hi => ?_) ?_
  · show _ ≤ sumN k (fun j => if F i = j then g j else 0)
    rw [sumN_one, if_pos (hF i hi)]
    exact hfg i hi
  · rw [sumN_swap]
    refine sumN_mono k fun j _ => ?_
    refine Nat.le_trans (sumN_mono (g := fun i => if G j = i then g j else 0) n fun i hi => ?_) ?_
    · show (if F i = j then g j else 0) ≤ (if G j = i then g j else 0)
      by_cases e : F i = j
      · rw [if_pos e, if_pos (by rw [← e]; exact hG i hi)]; omega
      · rw [if_neg e]; omega
    · have := sumN_one (fun _ => g j) (G j) n
      rw [this]
      split <;> omega

def patC (w h C : Nat) : List Int := joinL (h + 2) (colsV (dgN (4 * 2 ^ h) w C) w)
def codC (w h : Nat) (B : List Int) : Nat := encN (4 * 2 ^ h) (fun x => colV (w + 2) B x (h + 2)) (w + 2)
theorem four_pow (h : Nat) : 4 * 2 ^ h = 2 ^ (h + 2) ∧ 0 < 4 * 2 ^ h := by
  have : 0 < 2 ^ h := Nat.two_pow_pos h
  rw [Nat.pow_add]; omega
theorem codC_lt {w h : Nat} {B : List Int} (hB : IsPatch (w + 2) (h + 2) B) : codC w h B < (4 * 2 ^ h) ^ (w + 2) :=
  encN_lt _ fun k hk => by
    have := colV_lt hB hk (h + 2) (Nat.le_refl _)
    rw [(four_pow h).1]; exact this
theorem dg_cod {w h : Nat} {B : List Int} (hB : IsPatch (w + 2) (h + 2) B) {k : Nat} (hk : k < w + 2) : dgN (4 * 2 ^ h) w (codC w h B) k = colV (w + 2) B k (h + 2) :=
  dgN_enc (v := fun x => colV (w + 2) B x (h + 2)) (four_pow h).2 (fun k hk => by
    have := colV_lt hB hk (h + 2) (Nat.le_refl _)
    rw [(four_pow h).1]; exact this) hk
theorem pat_cod {w h : Nat} {B : List Int} (hB : IsPatch (w + 2) (h + 2) B) (h4 : h ≤ 4) : patC w h (codC w h B) = B := by
  unfold patC
  have e : colsV (dgN (4 * 2 ^ h) w (codC w h B)) w = colL (w + 2) (h + 2) B := by
    unfold colsV colL
    refine List.map_congr_left fun x hx => ?_
    rw [dg_cod hB (List.mem_range.1 hx)]
  rw [e]
  exact join_col hB (by omega)
theorem patC_ok {w h C : Nat} (w1 : 1 ≤ w) (w8 : w ≤ 8) (h1 : 1 ≤ h) (h4 : h ≤ 4) : IsPatch (w + 2) (h + 2) (patC w h C) := by
  have hj := colsV_ok (v := dgN (4 * 2 ^ h) w C) (w := w) rfl h1 h4 w8 (fun x _ => Nat.mod_lt _ (four_pow h).2)
  have hq := join_patch hj
  rw [show (colsV (dgN (4 * 2 ^ h) w C) w).length = w + 2 by simp [colsV]] at hq
  exact hq
theorem cod_pat {w h C : Nat} (w1 : 1 ≤ w) (w8 : w ≤ 8) (h1 : 1 ≤ h) (h4 : h ≤ 4) (hC : C < (4 * 2 ^ h) ^ (w + 2)) : codC w h (patC w h C) = C := by
  have hj := colsV_ok (v := dgN (4 * 2 ^ h) w C) (w := w) rfl h1 h4 w8 (fun x _ => Nat.mod_lt _ (four_pow h).2)
  have hcj := col_join hj
  rw [show (colsV (dgN (4 * 2 ^ h) w C) w).length = w + 2 by simp [colsV]] at hcj
  unfold codC
  refine (encN_congr (w + 2) fun y hy => ?_).trans (encN_all hC)
  have e1 := colL_getD (l := patC w h C) (h := h + 2) hy
  unfold patC at e1
  rw [hcj] at e1
  have e2 : (colsV (dgN (4 * 2 ^ h) w C) w).getD y 0 = ((dgN (4 * 2 ^ h) w C y : Nat) : Int) := by simp [colsV, hy]
  rw [e2] at e1
  show colV (w + 2) (patC w h C) y (h + 2) = _
  unfold patC
  omega
theorem pred_congr {t cols : List Int} {h m w : Nat} {v u : Nat → Nat} (e : ∀ k, k < w + 2 → v k = u k) (hp : Pred t cols h m w v) : Pred t cols h m w u := by
  refine ⟨fun x hx => by rw [← e x hx]; exact hp.lt x hx, fun x hx => ?_⟩
  rw [← e x (by omega), ← e (x + 1) (by omega), ← e (x + 2) (by omega)]
  exact hp.mks x hx
theorem turnX2 (w h T : Nat) : turnW (w + 2) (h + 2) T = turnW w h T + 2 := by unfold turnW; split <;> rfl
theorem turnX_le {w h T m : Nat} (hw : w ≤ m) (hh : h ≤ m) : turnW w h T ≤ m := by unfold turnW; split <;> omega
theorem turnX_ge {w h T m : Nat} (hw : m ≤ w) (hh : m ≤ h) : m ≤ turnW w h T := by unfold turnW; split <;> omega
def bakT (T : Nat) : Nat := if 4 ≤ T then T else (4 - T) % 4
theorem lt8' {T : Nat} (h : T < 8) : T = 0 ∨ T = 1 ∨ T = 2 ∨ T = 3 ∨ T = 4 ∨ T = 5 ∨ T = 6 ∨ T = 7 := by omega
theorem bak_both {T : Nat} (hT : T < 8) : bothT T (bakT T) = 0 ∧ bakT T < 8 := by
  rcases lt8' hT with rfl | rfl | rfl | rfl | rfl | rfl | rfl | rfl <;> decide
/-- turned back -/
theorem turn_bak {w h T : Nat} {l : List Int} (hp : IsPatch w h l) (hT : T < 8) : turnW (turnW w h T) (turnW h w T) (bakT T) = w ∧ turnW (turnW h w T) (turnW w h T) (bakT T) = h ∧ turnL (turnW w h T) (turnW h w T) (turnL w h l T) (bakT T) = l := by
  obtain ⟨hb, hb8⟩ := bak_both hT
  obtain ⟨e1, e2, e3⟩ := turn_turn (l := l) hp.w1 hp.h1 hT hb8
  rw [hb] at e1 e2 e3
  refine ⟨e1, e2, ?_⟩
  rw [e3]
  exact made_atL (w := w) (h := h) hp.w1 hp.len
theorem turn_cntW {t l : List Int} {w h T : Nat} (ht : IsTab t) (he : evB t = true) (hp : IsPatch w h l) (w4 : w ≤ 4) (h4 : h ≤ 4) (hT : T < 8) :
    cntN t (colL w h l) h (4 * 2 ^ h) w ≤ cntN t (colL (turnW w h T) (turnW h w T) (turnL w h l T)) (turnW h w T) (4 * 2 ^ turnW h w T) (turnW w h T) := by
  classical
  have w1 := hp.w1
  have h1 := hp.h1
  have b1 := turnX_le (T := T) w4 h4
  have b2 := turnX_le (T := T) h4 w4
  have b3 := turnX_ge (T := T) w1 h1
  have b4 := turnX_ge (T := T) h1 w1
  rw [cnt_codes (four_pow h).2, cnt_codes (four_pow _).2]
  have hpt : ∀ C, IsPatch (turnW w h T + 2) (turnW h w T + 2) (turnL (w + 2) (h + 2) (patC w h C) T) := fun C => by
    have := turn_patch (t := T) (patC_ok (C := C) w1 (by omega) h1 h4)
    rw [turnX2, turnX2] at this
    exact this
  refine sumN_inj (F := fun C => codC (turnW w h T) (turnW h w T) (turnL (w + 2) (h + 2) (patC w h C) T)) (G := fun D => codC w h (turnL (turnW w h T + 2) (turnW h w T + 2) (patC (turnW w h T) (turnW h w T) D) (bakT T))) (fun C _ => codC_lt (hpt C)) (fun C hC => ?_) (fun C hC => ?_)
  · show codC w h (turnL _ _ (patC _ _ (codC _ _ _)) _) = C
    rw [pat_cod (hpt C) b2]
    obtain ⟨_, _, e3⟩ := turn_bak (patC_ok (C := C) w1 (show w ≤ 8 by omega) h1 h4) hT
    rw [turnX2, turnX2] at e3
    rw [e3]
    exact cod_pat w1 (by omega) h1 h4 hC
  · show (if _ then 1 else 0) ≤ (if _ then 1 else 0)
    by_cases hv : Pred t (colL w h l) h (4 * 2 ^ h) w (dgN (4 * 2 ^ h) w C)
    · rw [if_pos hv, if_pos]
      · omega
      · obtain ⟨hB, hs⟩ := pred_step ht hp (by omega) h4 hv
        have hst := step_turn hB ht.len ht.sym (by omega) (by omega) he hT
        rw [hs, turnX2] at hst
        have hpr := step_pred (hpt C) ht
        have e : turnW (w + 2) (h + 2) T = turnW w h T + 2 := turnX2 w h T
        have hst2 : stepL t (turnW w h T + 2) (turnW h w T + 2) (turnL (w + 2) (h + 2) (patC w h C) T) = turnL w h l T := by
          rw [turnX2] at hst
          exact hst
        rw [hst2] at hpr
        exact pred_congr (fun k hk => (dg_cod (hpt C) hk).symm) hpr
    · rw [if_neg hv]; omega
/-- a turned patch has as many -/
theorem turn_cnt {t l : List Int} {w h T : Nat} (ht : IsTab t) (he : evB t = true) (hp : IsPatch w h l) (w4 : w ≤ 4) (h4 : h ≤ 4) (hT : T < 8) :
    cntN t (colL (turnW w h T) (turnW h w T) (turnL w h l T)) (turnW h w T) (4 * 2 ^ turnW h w T) (turnW w h T) = cntN t (colL w h l) h (4 * 2 ^ h) w := by
  refine Nat.le_antisymm ?_ (turn_cntW ht he hp w4 h4 hT)
  have hh := turn_cntW ht he (turn_patch (t := T) hp) (turnX_le w4 h4) (turnX_le h4 w4) (bak_both hT).2
  obtain ⟨e1, e2, e3⟩ := turn_bak hp hT
  rw [e1, e2, e3] at hh
  exact hh
end Go.Proofs.YtoaooblodgejdaaDoor
namespace Go.Proofs.YtoaooblodgejdaaDoor
open Go.RowKit
set_option linter.unusedVariables false
set_option maxRecDepth 100000

/-- the cells that a number tells -/
def bitC (K i : Nat) : List Int := (List.range K).map fun k => ((i / 2 ^ k % 2 : Nat) : Int)
theorem bitC_len (K i : Nat) : (bitC K i).length = K := by simp [bitC]
theorem bitC_sym (K i : Nat) : ∀ x ∈ bitC K i, x = 0 ∨ x = 1 := by
  intro x hx
  obtain ⟨k, _, rfl⟩ := List.mem_map.1 hx
  omega
theorem bitC_patch {w h i : Nat} (w1 : 1 ≤ w) (w8 : w ≤ 64) (h1 : 1 ≤ h) (h8 : h ≤ 64) : IsPatch w h (bitC (w * h) i) := ⟨w1, w8, h1, h8, bitC_len _ _, bitC_sym _ _⟩
theorem bitC_succ (K i : Nat) : bitC (K + 1) i = bitC K i ++ [((i / 2 ^ K % 2 : Nat) : Int)] := by simp [bitC, List.range_succ]
theorem bitC_take {K i k : Nat} (hk : k ≤ K) : (bitC K i).take k = bitC k i := by
  unfold bitC
  rw [← List.map_take, List.take_range, Nat.min_eq_left hk]
theorem bitC_row {K : Nat} {L : List Int} (k1 : 1 ≤ K) (k2 : K ≤ 64) (hl : L.length = K) (hs : ∀ x ∈ L, x = 0 ∨ x = 1) : IsPatch 1 K L := ⟨by omega, by omega, k1, k2, by omega, hs⟩
theorem bitC_eq {K i : Nat} {L : List Int} (k1 : 1 ≤ K) (k2 : K ≤ 64) (hi : i < 2 ^ K) (hl : L.length = K) (hs : ∀ x ∈ L, x = 0 ∨ x = 1) : bitC K i = L ↔ colV 1 L 0 K = i := by
  have hp := bitC_row k1 k2 hl hs
  constructor
  · intro e
    have hc : ∀ k, k < K → cellN 1 L 0 k = i / 2 ^ k % 2 := by
      intro k hk
      unfold cellN
      rw [← e]
      unfold atL bitC
      have e2 : ((i / 2 ^ k % 2 : Nat) : Int) = (i : Int) / 2 ^ k % 2 := by rw [Int.natCast_emod, Int.natCast_ediv, Int.natCast_pow]; rfl
      simp [hk]
      rw [← e2, Int.toNat_natCast]
    have := pow_bits i K (colV 1 L 0) rfl fun k hk => by rw [colV, hc k hk]
    rw [this, Nat.mod_eq_of_lt hi]
  · rintro rfl
    apply List.ext_getElem
    · rw [bitC_len, hl]
    · intro k h1 h2
      rw [bitC_len] at h1
      have hb := colV_bit hp (show 0 < 1 by omega) K (Nat.le_refl _) h1
      have hc := (cellN_le hp (show 0 < 1 by omega) h1).2
      simp only [bitC, List.getElem_map, List.getElem_range]
      rw [hb, hc]
      unfold atL
      simp [h2]
open Classical in
theorem cnt_step {t l : List Int} {w h : Nat} (ht : IsTab t) (hp : IsPatch w h l) (w8 : w ≤ 8) (h4 : h ≤ 4) (C : Nat) :
    Pred t (colL w h l) h (4 * 2 ^ h) w (dgN (4 * 2 ^ h) w C) ↔ stepL t (w + 2) (h + 2) (patC w h C) = l := by
  constructor
  · intro hv
    exact (pred_step ht hp w8 h4 hv).2
  · intro e
    have hB := patC_ok (C := C) hp.w1 w8 hp.h1 h4
    have hpr := step_pred hB ht
    rw [e] at hpr
    refine pred_congr (fun k hk => ?_) hpr
    have hj := colsV_ok (v := dgN (4 * 2 ^ h) w C) (w := w) rfl hp.h1 h4 w8 (fun x _ => Nat.mod_lt _ (four_pow h).2)
    have hcj := col_join hj
    rw [show (colsV (dgN (4 * 2 ^ h) w C) w).length = w + 2 by simp [colsV]] at hcj
    have e1 := colL_getD (l := patC w h C) (h := h + 2) hk
    unfold patC at e1
    rw [hcj] at e1
    have e2 : (colsV (dgN (4 * 2 ^ h) w C) w).getD k 0 = ((dgN (4 * 2 ^ h) w C k : Nat) : Int) := by simp [colsV, hk]
    rw [e2] at e1
    show colV (w + 2) (patC w h C) k (h + 2) = _
    unfold patC
    omega
theorem sumN_ones : ∀ n, sumN n (fun _ => 1) = n
  | 0 => rfl
  | n + 1 => by show sumN n (fun _ => 1) + 1 = _; rw [sumN_ones n]
/-- added up over all patches -/
theorem sum_all {t : List Int} {w h : Nat} (ht : IsTab t) (w1 : 1 ≤ w) (w8 : w ≤ 8) (h1 : 1 ≤ h) (h4 : h ≤ 4) :
    sumN (2 ^ (w * h)) (fun i => cntN t (colL w h (bitC (w * h) i)) h (4 * 2 ^ h) w) = 2 ^ ((w + 2) * (h + 2)) := by
  classical
  have hK : 1 ≤ w * h := Nat.mul_pos w1 h1
  have hK2 : w * h ≤ 64 := Nat.le_trans (Nat.mul_le_mul w8 h4) (by decide)
  have e1 : sumN (2 ^ (w * h)) (fun i => cntN t (colL w h (bitC (w * h) i)) h (4 * 2 ^ h) w) = sumN (2 ^ (w * h)) (fun i => sumN ((4 * 2 ^ h) ^ (w + 2)) (fun C => if colV 1 (stepL t (w + 2) (h + 2) (patC w h C)) 0 (w * h) = i then 1 else 0)) := by
    refine sumN_congr _ fun i hi => ?_
    rw [cnt_codes (four_pow h).2]
    refine sumN_congr _ fun C hC => ?_
    have hS : IsPatch w h (stepL t (w + 2) (h + 2) (patC w h C)) := stepL_patch (patC_ok (C := C) w1 w8 h1 h4) ht.len ht.sym (by omega) (by omega)
    have a1 := cnt_step ht (bitC_patch (i := i) w1 (show w ≤ 64 by omega) h1 (show h ≤ 64 by omega)) w8 h4 C
    have a2 := bitC_eq (i := i) hK hK2 hi hS.len hS.sym
    by_cases hc : colV 1 (stepL t (w + 2) (h + 2) (patC w h C)) 0 (w * h) = i
    · rw [if_pos hc, if_pos (a1.2 (a2.2 hc).symm)]
    · rw [if_neg hc, if_neg (fun g => hc (a2.1 (a1.1 g).symm))]
  rw [e1, sumN_swap]
  have e2 : sumN ((4 * 2 ^ h) ^ (w + 2)) (fun C => sumN (2 ^ (w * h)) (fun i => if colV 1 (stepL t (w + 2) (h + 2) (patC w h C)) 0 (w * h) = i then 1 else 0)) = sumN ((4 * 2 ^ h) ^ (w + 2)) (fun _ => 1) := by
    refine sumN_congr _ fun C hC => ?_
    have hS : IsPatch w h (stepL t (w + 2) (h + 2) (patC w h C)) := stepL_patch (patC_ok (C := C) w1 w8 h1 h4) ht.len ht.sym (by omega) (by omega)
    have := colV_lt (bitC_row hK hK2 hS.len hS.sym) (show 0 < 1 by omega) (w * h) (Nat.le_refl _)
    rw [sumN_one (fun _ => 1), if_pos this]
  rw [e2, sumN_ones, (four_pow h).1, ← Nat.pow_mul, Nat.mul_comm (h + 2)]
end Go.Proofs.YtoaooblodgejdaaDoor
namespace Go.Proofs.YtoaooblodgejdaaDoor
open Go.RowKit
set_option linter.unusedVariables false
set_option maxRecDepth 100000
theorem judgeRun_le (t cols : List Int) (h m : Nat) : ∀ (L : List (Int × Int × Int)) (i : Nat) (acc : List (Int × Int × Int)) (f n : Nat), (judgeRun t cols h m L i acc f n).1 ≤ n + L.length * (m * h)
  | [], i, acc, f, n => by
    unfold judgeRun
    split <;> simp
  | x :: r, i, acc, f, n => by
    have hl := (holdsF_le t h (cols.getD x.1.toNat 0).toNat x.1.toNat x.2.1.toNat x.2.2.toNat acc m 0 0).2
    have hs : (x :: r).length * (m * h) = r.length * (m * h) + m * h := Nat.succ_mul _ _
    rw [hs]
    unfold judgeRun
    split
    · have ih := judgeRun_le t cols h m r (i + 1) (acc ++ [x]) (f + if ¬ x ∈ acc ∧ x.1 = 0 then 1 else 0) (n + (holdsF t h (cols.getD x.1.toNat 0).toNat x.1.toNat x.2.1.toNat x.2.2.toNat acc m 0 0).1)
      omega
    · show n + _ ≤ _
      omega
/-- the looks are bounded by the bytes -/
theorem judgeF_le {t : List Int} {w h : Int} {l bs : List Int} : (judgeF t w h l bs).1 = 0 ∨ ∃ h' : Nat, h = (h' : Int) ∧ 1 ≤ h' ∧ h' ≤ 4 ∧ (judgeF t w h l bs).1 ≤ 8 * (bs.length + 1) * (h' + 2) * (4 * 2 ^ h') := by
  unfold judgeF
  cases hg : gvD t w h l with
  | some e => exact .inl rfl
  | none =>
    simp only
    cases hd : decF bs with
    | error y => exact .inl rfl
    | ok z =>
      obtain ⟨cw, ch, L⟩ := z
      simp only
      split
      · exact .inl rfl
      · rename_i hn
        right
        obtain ⟨w', h', hcw, hch, _, _, h1, h4, _, hL, _⟩ := dec_ok hd
        have e1 : h = (h' : Int) := by omega
        refine ⟨h', e1, h1, h4, ?_⟩
        have hr := judgeRun_le t (colL w.toNat h.toNat l) h.toNat (4 * 2 ^ h.toNat) L 0 [] 0 0
        have hle : L.length * (4 * 2 ^ h.toNat * h.toNat) ≤ 8 * (bs.length + 1) * (h' + 2) * (4 * 2 ^ h') := by
          have e2 : h.toNat = h' := by omega
          rw [e2]
          have e3 : L.length * (4 * 2 ^ h' * h') = (L.length * h') * (4 * 2 ^ h') := by rw [Nat.mul_comm (4 * 2 ^ h') h', Nat.mul_assoc]
          rw [e3]
          exact Nat.mul_le_mul_right _ (Nat.mul_le_mul (by omega) (by omega))
        generalize judgeRun t (colL w.toNat h.toNat l) h.toNat (4 * 2 ^ h.toNat) L 0 [] 0 0 = X at hr ⊢
        obtain ⟨n, o⟩ := X
        cases o <;> (simp only at hr ⊢; omega)
end Go.Proofs.YtoaooblodgejdaaDoor
