/- Plain: rows as functions of a place, numbers of windows, images; two rows that are alike. -/
import Derived.Test.YtiglilecmieelaaGreatDoorBase
namespace Go.Proofs.YtiglilecmieelaaGreatDoor
set_option linter.unusedVariables false

/-- the number that m symbols make -/
def winF (k : Nat) (f : Nat → Int) : Nat → Nat
  | 0 => 0
  | m + 1 => winF k f m * k + (f m).toNat
theorem winF_lt {k : Nat} {f : Nat → Int} : ∀ {m : Nat}, (∀ j, j < m → 0 ≤ f j ∧ f j < (k : Int)) → winF k f m < k ^ m
  | 0, _ => by simp [winF]
  | m + 1, h => by
    have h1 := winF_lt (m := m) fun j hj => h j (by omega)
    have h2 := h m (by omega)
    unfold winF
    rw [Nat.pow_succ]
    have h3 : (winF k f m + 1) * k ≤ k ^ m * k := Nat.mul_le_mul_right _ h1
    rw [Nat.add_mul, Nat.one_mul] at h3
    omega
theorem winF_congr {k : Nat} {f g : Nat → Int} : ∀ {m : Nat}, (∀ j, j < m → f j = g j) → winF k f m = winF k g m
  | 0, _ => rfl
  | m + 1, h => by
    unfold winF
    rw [winF_congr (m := m) fun j hj => h j (by omega), h m (by omega)]
theorem winF_add {k : Nat} {f : Nat → Int} {a : Nat} : ∀ m : Nat, winF k f (a + m) = winF k f a * k ^ m + winF k (fun j => f (a + j)) m
  | 0 => by simp [winF]
  | m + 1 => by
    show winF k f (a + m) * k + (f (a + m)).toNat = _
    rw [winF_add m]
    show _ = winF k f a * k ^ (m + 1) + (winF k (fun j => f (a + j)) m * k + (f (a + m)).toNat)
    rw [Nat.add_mul, Nat.pow_succ, Nat.mul_assoc, Nat.add_assoc]
theorem winF_mod {k : Nat} {f : Nat → Int} {a m : Nat} (h : ∀ j, j < m → 0 ≤ f (a + j) ∧ f (a + j) < (k : Int)) : winF k f (a + m) % k ^ m = winF k (fun j => f (a + j)) m := by
  rw [winF_add, Nat.mul_comm, Nat.mul_add_mod]
  exact Nat.mod_eq_of_lt (winF_lt h)
theorem winF_step {k T i : Nat} {f : Nat → Int} : (winF k f i % T * k + (f i).toNat) % T = winF k f (i + 1) % T := by
  show _ = (winF k f i * k + (f i).toNat) % T
  rw [Nat.add_mod, Nat.mul_mod, Nat.mod_mod, ← Nat.mul_mod, ← Nat.add_mod]

/-- the image of a function of places -/
def img (k r : Nat) (tb : List Int) (s : Int → Int) (i : Int) : Int := tb.getD (winF k (fun j => s (i - (r : Int) + (j : Int))) (2 * r + 1)) 0
theorem img_congr {k r : Nat} {tb : List Int} {s t : Int → Int} {i i2 : Int} (h : ∀ j : Nat, j < 2 * r + 1 → s (i - (r : Int) + (j : Int)) = t (i2 - (r : Int) + (j : Int))) : img k r tb s i = img k r tb t i2 := by
  unfold img
  rw [winF_congr h]
theorem getD_all {P : Int → Prop} {l : List Int} (h : ∀ x ∈ l, P x) (h0 : P 0) (i : Nat) : P (l.getD i 0) := by
  by_cases hi : i < l.length
  · have : l.getD i 0 = l[i] := by simp [hi]
    rw [this]; exact h _ (List.getElem_mem hi)
  · rw [show l.getD i 0 = 0 by simp [List.getD_eq_getElem?_getD, show l.length ≤ i by omega]]; exact h0
theorem img_range {k r : Nat} {tb : List Int} {s : Int → Int} (h : ∀ x ∈ tb, 0 ≤ x ∧ x < (k : Int)) (k1 : 1 ≤ k) (i : Int) : 0 ≤ img k r tb s i ∧ img k r tb s i < (k : Int) :=
  getD_all (P := fun x => 0 ≤ x ∧ x < (k : Int)) h ⟨by omega, by omega⟩ _
/-- n values of a function from a place on -/
def valsF (s : Int → Int) (a : Int) (n : Nat) : List Int := (List.range n).map fun (j : Nat) => s (a + (j : Int))
theorem valsF_len (s : Int → Int) (a : Int) (n : Nat) : (valsF s a n).length = n := by simp [valsF]
theorem valsF_getD {s : Int → Int} {a : Int} {n j : Nat} (h : j < n) : (valsF s a n).getD j 0 = s (a + (j : Int)) := by simp [valsF, h]
theorem valsF_mem {P : Int → Prop} {s : Int → Int} {a : Int} {n : Nat} (h : ∀ i, P (s i)) : ∀ x ∈ valsF s a n, P x := by
  intro x hx
  obtain ⟨j, _, rfl⟩ := List.mem_map.1 hx
  exact h _
theorem valsF_congr {s t : Int → Int} {a b : Int} {n : Nat} (h : ∀ j : Nat, j < n → s (a + (j : Int)) = t (b + (j : Int))) : valsF s a n = valsF t b n := by
  apply List.ext_getElem
  · simp [valsF]
  · intro i h1 h2
    simp [valsF] at h1 h2 ⊢
    exact h i h1
theorem valsF_inj {s t : Int → Int} {a b : Int} {n : Nat} (h : valsF s a n = valsF t b n) : ∀ j : Nat, j < n → s (a + (j : Int)) = t (b + (j : Int)) := by
  intro j hj
  have := congrArg (fun l => l.getD j 0) h
  simpa only [valsF_getD hj] using this
theorem valsF_app (s : Int → Int) (a : Int) (n m : Nat) : valsF s a n ++ valsF s (a + (n : Int)) m = valsF s a (n + m) := by
  unfold valsF
  rw [List.range_add, List.map_append, List.map_map]
  congr 1
  apply List.map_congr_left
  intro j _
  simp only [Function.comp]
  congr 1
  omega
theorem valsF_take {s : Int → Int} {a : Int} {n m : Nat} (h : m ≤ n) : (valsF s a n).take m = valsF s a m := by
  unfold valsF
  rw [← List.map_take, List.take_range, Nat.min_eq_left h]
theorem valsF_drop {s : Int → Int} {a : Int} {n m : Nat} (h : m ≤ n) : (valsF s a n).drop m = valsF s (a + (m : Int)) (n - m) := by
  obtain ⟨d, rfl⟩ : ∃ d, n = m + d := ⟨n - m, by omega⟩
  rw [← valsF_app, List.drop_left' (valsF_len _ _ _), Nat.add_sub_cancel_left]

/-! ### rows -/
def cellF (p : Int) (L C R : List Int) (i : Int) : Int :=
  if i - p < 0 then L.getD ((i - p) % (L.length : Int)).toNat 0
  else if i - p < (C.length : Int) then C.getD (i - p).toNat 0
  else R.getD ((i - p - (C.length : Int)) % (R.length : Int)).toNat 0
theorem cellF_left {p : Int} {L C R : List Int} {i : Int} (h : i < p) : cellF p L C R i = L.getD ((i - p) % (L.length : Int)).toNat 0 := by unfold cellF; rw [if_pos (by omega)]
theorem cellF_mid {p : Int} {L C R : List Int} {i : Int} (h1 : p ≤ i) (h2 : i < p + (C.length : Int)) : cellF p L C R i = C.getD (i - p).toNat 0 := by unfold cellF; rw [if_neg (by omega), if_pos (by omega)]
theorem cellF_right {p : Int} {L C R : List Int} {i : Int} (h : p + (C.length : Int) ≤ i) : cellF p L C R i = R.getD ((i - p - (C.length : Int)) % (R.length : Int)).toNat 0 := by unfold cellF; rw [if_neg (by omega), if_neg (by omega)]
theorem cellF_perL {p : Int} {L C R : List Int} {i j q : Int} (hi : i < p) (hj : j < p) (e : i = j + (L.length : Int) * q) : cellF p L C R i = cellF p L C R j := by
  rw [cellF_left hi, cellF_left hj, show i - p = j - p + (L.length : Int) * q by omega, Int.add_mul_emod_self_left]
theorem cellF_perR {p : Int} {L C R : List Int} {i j q : Int} (hi : p + (C.length : Int) ≤ i) (hj : p + (C.length : Int) ≤ j) (e : i = j + (R.length : Int) * q) : cellF p L C R i = cellF p L C R j := by
  rw [cellF_right hi, cellF_right hj, show i - p - (C.length : Int) = j - p - (C.length : Int) + (R.length : Int) * q by omega, Int.add_mul_emod_self_left]
theorem cellF_range {k : Nat} {p : Int} {L C R : List Int} (k1 : 1 ≤ k) (hL : ∀ x ∈ L, 0 ≤ x ∧ x < (k : Int)) (hC : ∀ x ∈ C, 0 ≤ x ∧ x < (k : Int)) (hR : ∀ x ∈ R, 0 ≤ x ∧ x < (k : Int)) (i : Int) : 0 ≤ cellF p L C R i ∧ cellF p L C R i < (k : Int) := by
  have h0 : (0 : Int) ≤ 0 ∧ (0 : Int) < (k : Int) := ⟨by omega, by omega⟩
  unfold cellF
  split
  · exact getD_all (P := fun x => 0 ≤ x ∧ x < (k : Int)) hL h0 _
  · split
    · exact getD_all (P := fun x => 0 ≤ x ∧ x < (k : Int)) hC h0 _
    · exact getD_all (P := fun x => 0 ≤ x ∧ x < (k : Int)) hR h0 _

/-- a row without fault -/
structure IsRow (k : Nat) (p : Int) (L C R : List Int) : Prop where
  k1 : 1 ≤ k
  k4 : k ≤ 4
  p1 : -4096 ≤ p
  p2 : p ≤ 4096
  l1 : 0 < L.length
  l2 : L.length ≤ 8192
  r1 : 0 < R.length
  r2 : R.length ≤ 8192
  c2 : C.length ≤ 16384
  symL : ∀ x ∈ L, 0 ≤ x ∧ x < (k : Int)
  symC : ∀ x ∈ C, 0 ≤ x ∧ x < (k : Int)
  symR : ∀ x ∈ R, 0 ≤ x ∧ x < (k : Int)
theorem IsRow.cell {k : Nat} {p : Int} {L C R : List Int} (h : IsRow k p L C R) (i : Int) : 0 ≤ cellF p L C R i ∧ cellF p L C R i < (k : Int) := cellF_range h.k1 h.symL h.symC h.symR i

/-- the image, as a row -/
theorem cellF_image {k r : Nat} {tb : List Int} {p : Int} {L C R : List Int} (hl : 0 < L.length) (hr : 0 < R.length) (i : Int) :
    cellF (p - (r : Int)) (valsF (img k r tb (cellF p L C R)) (p - (r : Int) - (L.length : Int)) L.length) (valsF (img k r tb (cellF p L C R)) (p - (r : Int)) (C.length + 2 * r)) (valsF (img k r tb (cellF p L C R)) (p - (r : Int) + ((C.length + 2 * r : Nat) : Int)) R.length) i = img k r tb (cellF p L C R) i := by
  by_cases h1 : i < p - (r : Int)
  · rw [cellF_left h1, valsF_len]
    have hd1 := Int.emod_nonneg (i - (p - (r : Int))) (show (L.length : Int) ≠ 0 by omega)
    have hd2 := Int.emod_lt_of_pos (i - (p - (r : Int))) (show (0 : Int) < (L.length : Int) by omega)
    have hd3 := Int.emod_add_mul_ediv (i - (p - (r : Int))) (L.length : Int)
    generalize (i - (p - (r : Int))) % (L.length : Int) = d at *
    generalize (i - (p - (r : Int))) / (L.length : Int) = q at *
    rw [valsF_getD (by omega)]
    refine img_congr fun j hj => cellF_perL (q := -1 - q) (by omega) (by omega) ?_
    rw [Int.mul_sub]
    omega
  · by_cases h2 : i < p - (r : Int) + ((C.length + 2 * r : Nat) : Int)
    · rw [cellF_mid (by omega) (by rw [valsF_len]; omega), valsF_getD (by omega)]
      congr 1
      omega
    · rw [cellF_right (by rw [valsF_len]; omega), valsF_len, valsF_len]
      have hd1 := Int.emod_nonneg (i - (p - (r : Int)) - ((C.length + 2 * r : Nat) : Int)) (show (R.length : Int) ≠ 0 by omega)
      have hd2 := Int.emod_lt_of_pos (i - (p - (r : Int)) - ((C.length + 2 * r : Nat) : Int)) (show (0 : Int) < (R.length : Int) by omega)
      have hd3 := Int.emod_add_mul_ediv (i - (p - (r : Int)) - ((C.length + 2 * r : Nat) : Int)) (R.length : Int)
      have hq0 := Int.ediv_nonneg (show 0 ≤ i - (p - (r : Int)) - ((C.length + 2 * r : Nat) : Int) by omega) (show (0 : Int) ≤ (R.length : Int) by omega)
      generalize (i - (p - (r : Int)) - ((C.length + 2 * r : Nat) : Int)) % (R.length : Int) = d at *
      generalize (i - (p - (r : Int)) - ((C.length + 2 * r : Nat) : Int)) / (R.length : Int) = q at *
      rw [valsF_getD (by omega)]
      have hm := Int.mul_nonneg (show (0 : Int) ≤ (R.length : Int) by omega) hq0
      refine img_congr fun j hj => cellF_perR (q := -q) (by omega) (by omega) ?_
      rw [Int.mul_neg]
      omega

theorem agree_left {A B : Int → Int} {m : Int} {p q : Nat} (p0 : 0 < p) (q0 : 0 < q) (hp : ∀ i, i + (p : Int) < m → A i = A (i + (p : Int))) (hq : ∀ i, i + (q : Int) < m → B i = B (i + (q : Int)))
    (h : ∀ i, m - (p : Int) - (q : Int) ≤ i → i < m → A i = B i) : ∀ i, i < m → A i = B i := by
  have : ∀ (n : Nat) i, m - i ≤ (n : Int) → i < m → A i = B i := by
    intro n
    induction n with
    | zero => intro i h1 h2; omega
    | succ n ih =>
      intro i h1 h2
      by_cases h3 : m - (p : Int) - (q : Int) ≤ i
      · exact h i h3 h2
      · rw [hp i (by omega), ih (i + p) (by omega) (by omega), hq (i + p) (by omega), ← ih (i + p + q) (by omega) (by omega),
          show i + (p : Int) + (q : Int) = i + q + p by omega, ← hp (i + q) (by omega), ih (i + q) (by omega) (by omega), ← hq i (by omega)]
  intro i hi
  exact this (m - i).toNat i (by omega) hi
theorem agree_right {A B : Int → Int} {m : Int} {p q : Nat} (p0 : 0 < p) (q0 : 0 < q) (hp : ∀ i, m ≤ i - (p : Int) → A i = A (i - (p : Int))) (hq : ∀ i, m ≤ i - (q : Int) → B i = B (i - (q : Int)))
    (h : ∀ i, m ≤ i → i < m + (p : Int) + (q : Int) → A i = B i) : ∀ i, m ≤ i → A i = B i := by
  have : ∀ (n : Nat) i, i - m ≤ (n : Int) → m ≤ i → A i = B i := by
    intro n
    induction n with
    | zero => intro i h1 h2; exact h i h2 (by omega)
    | succ n ih =>
      intro i h1 h2
      by_cases h3 : i < m + (p : Int) + (q : Int)
      · exact h i h2 h3
      · rw [hp i (by omega), ih (i - p) (by omega) (by omega), hq (i - p) (by omega), ← ih (i - p - q) (by omega) (by omega),
          show i - (p : Int) - (q : Int) = i - q - p by omega, ← hp (i - q) (by omega), ih (i - q) (by omega) (by omega), ← hq i (by omega)]
  intro i hi
  exact this (i - m).toNat i (by omega) hi
/-- two rows that are alike as far as both blocks reach are one -/
theorem rows_one {pa pb : Int} {La Ca Ra Lb Cb Rb : List Int} (ha : 0 < La.length) (hb : 0 < Lb.length) (ra : 0 < Ra.length) (rb : 0 < Rb.length)
    (h : ∀ i, min pa pb - (La.length : Int) - (Lb.length : Int) ≤ i → i < max (pa + (Ca.length : Int)) (pb + (Cb.length : Int)) + (Ra.length : Int) + (Rb.length : Int) → cellF pa La Ca Ra i = cellF pb Lb Cb Rb i) (i : Int) :
    cellF pa La Ca Ra i = cellF pb Lb Cb Rb i := by
  by_cases h1 : i < min pa pb
  · refine agree_left ha hb (m := min pa pb) (fun j hj => ?_) (fun j hj => ?_) (fun j h2 h3 => h j h2 (by omega)) i h1
    · exact cellF_perL (q := -1) (by omega) (by omega) (by omega)
    · exact cellF_perL (q := -1) (by omega) (by omega) (by omega)
  · by_cases h2 : i < max (pa + (Ca.length : Int)) (pb + (Cb.length : Int))
    · exact h i (by omega) (by omega)
    · refine agree_right ra rb (m := max (pa + (Ca.length : Int)) (pb + (Cb.length : Int))) (fun j hj => ?_) (fun j hj => ?_) (fun j h3 h4 => h j (by omega) (by omega)) i (by omega)
      · exact cellF_perR (q := 1) (by omega) (by omega) (by omega)
      · exact cellF_perR (q := 1) (by omega) (by omega) (by omega)
theorem made_i64r (n : Nat) : (madeCells (Value.int .i64 0).cells (n * 1)).toList = (List.replicate n (0 : Int)).map (Value.int .i64) := by
  rw [show (Value.int .i64 0).cells = #[.int .i64 0] from by rfl, toList_madeCells_one]
  simp
theorem vals_set {s : Int → Int} {a : Int} {n i : Nat} (h : i < n) : ((valsF s a i ++ List.replicate (n - i) 0).map (Value.int .i64)).set i (.int .i64 (s (a + (i : Int)))) = (valsF s a (i + 1) ++ List.replicate (n - (i + 1)) 0).map (Value.int .i64) := by
  rw [← valsF_app s a i 1]
  obtain ⟨m, rfl⟩ : ∃ m, n = i + (m + 1) := ⟨n - i - 1, by omega⟩
  rw [show i + (m + 1) - i = m + 1 by omega, show i + (m + 1) - (i + 1) = m by omega, List.replicate_succ, List.map_append, List.map_cons, List.map_append, List.set_append_right _ _ (by simp [valsF])]
  simp [valsF]
theorem tm_mod (n : Int) (L : Nat) (hL : 0 < L) : n.tmod L % L = n % (L : Int) := by
  rw [Int.tmod_eq_emod]
  split
  · simp
  · simp
end Go.Proofs.YtiglilecmieelaaGreatDoor
