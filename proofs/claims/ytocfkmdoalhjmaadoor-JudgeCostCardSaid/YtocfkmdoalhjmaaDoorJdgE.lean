/- Plain: what a certificate that decodes holds. -/
import Derived.Test.YtocfkmdoalhjmaaDoorJdgC
namespace Go.Proofs.YtocfkmdoalhjmaaDoor
open Go.RowKit
set_option linter.unusedVariables false
set_option maxRecDepth 100000

theorem firstBad_all {bs : List Int} (h : firstBad bs = none) : ∀ i, i < bs.length → okAt bs i = true := by
  intro i hi
  unfold firstBad at h
  have := List.find?_eq_none.1 h i (List.mem_range.2 hi)
  simpa using this
theorem getD_any {bs : List Int} {i : Nat} (hi : i < bs.length) (d : Int) : bs.getD i d = bs.getD i 0 := by simp [hi]
theorem okAt_bd {bs : List Int} {i : Nat} (h : okAt bs i = true) : (lim i (bW bs i) (bH bs i)).1 ≤ bs.getD i 0 ∧ bs.getD i 0 ≤ (lim i (bW bs i) (bH bs i)).2 := by
  unfold okAt at h
  rw [Bool.and_eq_true, decide_eq_true_iff, decide_eq_true_iff] at h
  exact h
theorem most_nat (h : Nat) : most (h : Int) = ((4 * 2 ^ h : Nat) : Int) := by
  unfold most
  rw [Int.toNat_natCast, Int.natCast_mul, Int.natCast_pow]
  rfl
theorem dec_ok {bs : List Int} {cw ch : Int} {L : List (Int × Int × Int)} (hd : decF bs = .ok (cw, ch, L)) :
    ∃ w h : Nat, cw = (w : Int) ∧ ch = (h : Int) ∧ 1 ≤ w ∧ w ≤ 8 ∧ 1 ≤ h ∧ h ≤ 4 ∧ (∀ x ∈ L, Fit3 w (4 * 2 ^ h) x) ∧ 3 * L.length + 4 = bs.length ∧ bs.length ≤ 131072 := by
  unfold decF at hd
  split at hd
  · cases hd
  rename_i hbig
  cases hf : firstBad bs with
  | some i => rw [hf] at hd; cases hd
  | none =>
    rw [hf] at hd
    simp only at hd
    split at hd
    · cases hd
    rename_i hlen
    cases hd
    have hok := firstBad_all hf
    have hl4 : 4 ≤ bs.length := by omega
    have hl3 : ((bs.length : Int) - 4) % 3 = 0 := by omega
    have h2 := okAt_bd (hok 2 (by omega))
    have h3 := okAt_bd (hok 3 (by omega))
    have e2 : lim ((2 : Nat) : Int) (bW bs 2) (bH bs 2) = (1, 8) := rfl
    have e3 : lim ((3 : Nat) : Int) (bW bs 3) (bH bs 3) = (1, 4) := rfl
    rw [e2] at h2
    rw [e3] at h3
    simp only at h2 h3
    rw [getD_any (i := 2) (by omega) 1, getD_any (i := 3) (by omega) 1]
    obtain ⟨w, hw⟩ : ∃ w : Nat, bs.getD 2 0 = (w : Int) := ⟨(bs.getD 2 0).toNat, by omega⟩
    obtain ⟨h, hh⟩ : ∃ h : Nat, bs.getD 3 0 = (h : Int) := ⟨(bs.getD 3 0).toNat, by omega⟩
    rw [hw] at h2
    rw [hh] at h3
    obtain ⟨k, hk⟩ : ∃ k, bs.length = 3 * k + 4 := ⟨(bs.length - 4) / 3, by omega⟩
    have hdl : (bs.drop 4).length = 3 * k := by rw [List.length_drop]; omega
    refine ⟨w, h, hw, hh, by omega, by omega, by omega, by omega, entsOf_fit k (bs.drop 4) hdl fun j hj => ?_, ?_, by omega⟩
    · rw [hdl] at hj
      have hb := okAt_bd (hok (4 + j) (by omega))
      have eg : (bs.drop 4).getD j 0 = bs.getD (4 + j) 0 := by simp
      have ew : bW bs (4 + j) = (w : Int) := by unfold bW; rw [if_pos (by omega), getD_any (by omega), hw]
      have eh : bH bs (4 + j) = (h : Int) := by unfold bH; rw [if_pos (by omega), getD_any (by omega), hh]
      have el : lim (((4 + j : Nat)) : Int) (w : Int) (h : Int) = if j % 3 = 0 then (0, (w : Int) - 1) else (0, most (h : Int) - 1) := by
        unfold lim
        rw [if_neg (by omega), if_neg (by omega), if_neg (by omega), if_neg (by omega)]
        by_cases hj3 : j % 3 = 0
        · rw [if_pos (by omega), if_pos hj3]
        · rw [if_neg (by omega), if_neg hj3]
      rw [ew, eh, el] at hb
      rw [eg]
      by_cases hj3 : j % 3 = 0
      · rw [if_pos hj3] at hb ⊢
        simp only at hb
        omega
      · rw [if_neg hj3] at hb ⊢
        rw [most_nat] at hb
        simp only at hb
        omega
    · rw [entsOf_len k _ hdl]; omega
end Go.Proofs.YtocfkmdoalhjmaaDoor
