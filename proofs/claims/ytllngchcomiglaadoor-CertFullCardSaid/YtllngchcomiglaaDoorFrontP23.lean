/- Fronts of a certificate: plain laws. -/
import Derived.Test.YtllngchcomiglaaDoorEncL
namespace Go.Proofs.YtllngchcomiglaaDoor
open Go.RowKit
set_option linter.unusedVariables false

theorem getD_take {L : List Int} {n i : Nat} {d : Int} (hi : i < n) : (L.take n).getD i d = L.getD i d := by
  simp [List.getD, hi]
theorem okAt_take {L : List Int} {n i : Nat} (hi : i < n) : okAt (L.take n) i = okAt L i := by
  have e1 : bW (L.take n) i = bW L i := by
    unfold bW
    split
    · exact getD_take (by omega)
    · rfl
  have e2 : bH (L.take n) i = bH L i := by
    unfold bH
    split
    · exact getD_take (by omega)
    · rfl
  unfold okAt
  rw [e1, e2, getD_take hi]

theorem entsOf_take (l : List (Int × Int × Int)) : ∀ q, q ≤ l.length → entsOf ((flat3 l).take (3 * q)) = l.take q := by
  induction l with
  | nil => intro q hq; simp at hq; subst hq; rfl
  | cons x l ih =>
    intro q hq
    cases q with
    | zero => rfl
    | succ q =>
      have e : flat3 (x :: l) = x.1 :: x.2.1 :: x.2.2 :: flat3 l := rfl
      rw [e, show 3 * (q + 1) = 3 * q + 1 + 1 + 1 from by omega]
      simp only [List.take_succ_cons, entsOf]
      rw [ih q (by simpa using hq)]

theorem decF_front {w h : Int} {l : List (Int × Int × Int)} (H : EncOk w h l) (n : Nat) (hn : n ≤ (encL w h l).length) :
    decF ((encL w h l).take n) = if n < 4 ∨ ¬ ((n : Int) - 4) % 3 = 0 then .error (n, 8) else .ok (w, h, l.take ((n - 4) / 3)) := by
  have hlen := encL_len w h l
  have hl := H.len
  have hln : ((encL w h l).take n).length = n := by simp [hn]
  have ho : okTo ((encL w h l).take n) ((encL w h l).take n).length := by
    rw [hln]
    intro i hi
    rw [okAt_take hi]
    exact encL_ok H n hn i hi
  unfold decF
  rw [hln, if_neg (by omega), firstBad_none ho]
  by_cases hc : n < 4 ∨ ¬ ((n : Int) - 4) % 3 = 0
  · simp only [if_pos hc]
  · simp only [if_neg hc]
    have h4 : 4 ≤ n := by omega
    have hw : ((encL w h l).take n).getD 2 1 = w := by rw [getD_take (by omega)]; rfl
    have hh : ((encL w h l).take n).getD 3 1 = h := by rw [getD_take (by omega)]; rfl
    have hd : ((encL w h l).take n).drop 4 = (flat3 l).take (3 * ((n - 4) / 3)) := by
      have e : n - 4 = 3 * ((n - 4) / 3) := by omega
      rw [List.drop_take]
      show (flat3 l).take (n - 4) = _
      rw [← e]
    rw [hw, hh, hd, entsOf_take l _ (by omega)]

theorem decF_more {w h : Int} {l : List (Int × Int × Int)} (H : EncOk w h l) : decF (encL w h l ++ [0]) = .error (((encL w h l).length : Int) + 1, 8) ∨ 131072 < (encL w h l ++ [0]).length := by
  by_cases hbig : 131072 < (encL w h l ++ [0]).length
  · exact .inr hbig
  left
  have hlen := encL_len w h l
  have h1 := H.w1; have h2 := H.h1; have h3 := H.h2
  have hm := most_cases h h2 h3
  have hln : (encL w h l ++ [0]).length = (encL w h l).length + 1 := by simp
  have ho : okTo (encL w h l ++ [0]) (encL w h l ++ [0]).length := by
    rw [hln]
    refine okTo_succ ?_ ?_
    · intro i hi
      have := okAt_take (L := encL w h l ++ [0]) hi
      rw [List.take_left' rfl] at this
      rw [← this]
      exact encL_ok H _ (Nat.le_refl _) i hi
    · have eW : bW (encL w h l ++ [0]) (encL w h l).length = w := by
        unfold bW; rw [if_pos (by omega)]; rfl
      have eH : bH (encL w h l ++ [0]) (encL w h l).length = h := by
        unfold bH; rw [if_pos (by omega)]; rfl
      unfold okAt
      rw [eW, eH]
      have hg : (encL w h l ++ [0]).getD (encL w h l).length 0 = 0 := by simp
      rw [hg]
      unfold lim
      rw [if_neg (by omega), if_neg (by omega), if_neg (by omega), if_neg (by omega)]
      simp only [Bool.and_eq_true, decide_eq_true_eq]
      split <;> simp only <;> omega
  unfold decF
  rw [if_neg hbig, firstBad_none ho]
  simp only
  rw [if_pos (by right; rw [hln]; omega), hln]
  simp
end Go.Proofs.YtllngchcomiglaaDoor
