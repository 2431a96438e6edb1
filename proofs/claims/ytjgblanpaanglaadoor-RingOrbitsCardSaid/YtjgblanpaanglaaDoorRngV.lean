/- Plain: images of turned and repeated rings, and the word that goes on about a ring. -/
import Derived.Test.YtjgblanpaanglaaDoorRngP
import Derived.Test.YtjgblanpaanglaaDoorPer
import Derived.Test.YtjgblanpaanglaaDoorWordR
import Derived.Test.YtjgblanpaanglaaDoorRuleB
namespace Go.Proofs.YtjgblanpaanglaaDoor
open Go.RowKit
set_option linter.unusedVariables false
set_option maxRecDepth 100000

theorem ext_gd {l1 l2 : List Int} (h : l1.length = l2.length) (hg : ∀ i, i < l1.length → l1.getD i 0 = l2.getD i 0) : l1 = l2 := by
  apply List.ext_getElem h
  intro i h1 h2
  have := hg i h1
  simpa [h1, h2] using this
theorem ringF_nat {wl : List Int} {j : Nat} (h : j < wl.length) : ringF wl (j : Int) = wl.getD j 0 := by
  unfold ringF
  rw [Int.emod_eq_of_lt (by omega) (by omega)]
  rfl
theorem ringL_gd {k r : Nat} {tb wl : List Int} {i : Nat} (h : i < wl.length) : (ringL k r tb wl).getD i 0 = img k r tb (ringF wl) i := by
  unfold ringL
  rw [valsF_getD h, Int.zero_add]
theorem ringF_rot {wl : List Int} {t : Nat} (hl : 0 < wl.length) (ht : t ≤ wl.length) (i : Int) : ringF (rot wl t) i = ringF wl (i + (t : Int)) := by
  have hd1 := Int.emod_nonneg i (show (wl.length : Int) ≠ 0 by omega)
  have hd2 := Int.emod_lt_of_pos i (show (0 : Int) < (wl.length : Int) by omega)
  have hd3 := Int.emod_add_mul_ediv i (wl.length : Int)
  obtain ⟨q, hq⟩ : ∃ q : Nat, i % (wl.length : Int) = (q : Int) := ⟨(i % (wl.length : Int)).toNat, by omega⟩
  have e1 : ringF (rot wl t) i = (rot wl t).getD q 0 := by
    unfold ringF
    rw [rot_len, hq]
    rfl
  rw [e1, rot_get wl t q ht (by omega)]
  have e2 : ringF wl (i + (t : Int)) = ringF wl ((q + t : Nat) : Int) := ringF_per (q := i / (wl.length : Int)) (by rw [show ((q + t : Nat) : Int) = (q : Int) + (t : Int) by omega]; omega)
  rw [e2]
  unfold ringF
  rw [← Int.natCast_emod]
  rfl
/-- the image of a turned ring is the turned image -/
theorem ring_turn {k r : Nat} {tb wl : List Int} {t : Nat} (hl : 0 < wl.length) (ht : t ≤ wl.length) : ringL k r tb (rot wl t) = rot (ringL k r tb wl) t := by
  apply ext_gd
  · rw [ringL_len, rot_len, rot_len, ringL_len]
  · intro i hi
    rw [ringL_len, rot_len] at hi
    rw [ringL_gd (by rw [rot_len]; exact hi), rot_get _ _ _ (by rw [ringL_len]; exact ht) (by rw [ringL_len]; exact hi), ringL_len]
    rw [ringL_gd (Nat.mod_lt _ hl)]
    refine img_congr fun j hj => ?_
    rw [ringF_rot hl ht]
    have hm := Nat.div_add_mod (i + t) wl.length
    refine ringF_per (q := (((i + t) / wl.length : Nat) : Int)) ?_
    have : ((i + t : Nat) : Int) = ((wl.length * ((i + t) / wl.length) + (i + t) % wl.length : Nat) : Int) := by rw [hm]
    rw [Int.natCast_add, Int.natCast_add, Int.natCast_mul] at this
    omega
theorem ringF_rep {wl : List Int} {t : Nat} (hl : 0 < wl.length) (ht : 0 < t) (i : Int) : ringF (repL wl (wl.length * t)) i = ringF wl i := by
  have hp : 0 < wl.length * t := Nat.mul_pos hl ht
  have hd1 := Int.emod_nonneg i (show ((wl.length * t : Nat) : Int) ≠ 0 by omega)
  have hd2 := Int.emod_lt_of_pos i (show (0 : Int) < ((wl.length * t : Nat) : Int) by omega)
  have hd3 := Int.emod_add_mul_ediv i ((wl.length * t : Nat) : Int)
  obtain ⟨q, hq⟩ : ∃ q : Nat, i % ((wl.length * t : Nat) : Int) = (q : Int) := ⟨(i % ((wl.length * t : Nat) : Int)).toNat, by omega⟩
  have e1 : ringF (repL wl (wl.length * t)) i = (repL wl (wl.length * t)).getD q 0 := by
    unfold ringF
    rw [repL_len, hq]
    rfl
  rw [e1, repL_at _ _ _ (by omega)]
  have e2 : ringF wl i = ringF wl (q : Int) := by
    refine ringF_per (q := (t : Int) * (i / ((wl.length * t : Nat) : Int))) ?_
    rw [← Int.mul_assoc, ← Int.natCast_mul]
    omega
  rw [e2]
  unfold ringF
  rw [← Int.natCast_emod]
  rfl
/-- of a ring repeated the image repeated -/
theorem ring_times {k r : Nat} {tb wl : List Int} {t : Nat} (hl : 0 < wl.length) (ht : 0 < t) : ringL k r tb (repL wl (wl.length * t)) = repL (ringL k r tb wl) (wl.length * t) := by
  apply ext_gd
  · rw [ringL_len, repL_len, repL_len]
  · intro i hi
    rw [ringL_len, repL_len] at hi
    rw [ringL_gd (by rw [repL_len]; exact hi), repL_at _ _ _ hi, ringL_len, ringL_gd (Nat.mod_lt _ hl)]
    refine img_congr fun j hj => ?_
    rw [ringF_rep hl ht]
    have hm := Nat.div_add_mod i wl.length
    refine ringF_per (q := ((i / wl.length : Nat) : Int)) ?_
    have : (i : Int) = ((wl.length * (i / wl.length) + i % wl.length : Nat) : Int) := by rw [hm]
    rw [Int.natCast_add, Int.natCast_mul] at this
    omega
/-- cut out of the image of a word that goes on about the ring -/
theorem ring_long {k r : Nat} {tb wl : List Int} : stepL k r tb (valsF (ringF wl) (-(r : Int)) (wl.length + 2 * r)) = ringL k r tb wl := by
  rw [stepL_vals, show -(r : Int) + (r : Int) = 0 by omega, show wl.length + 2 * r - 2 * r = wl.length by omega]
  rfl
theorem ring_rot {k : Nat} {wl : List Int} {t : Nat} (h : IsRing k wl) : IsRing k (rot wl t) := by
  refine ⟨by rw [rot_len]; exact h.l1, by rw [rot_len]; exact h.l2, fun x hx => h.sym x ?_⟩
  unfold rot at hx
  rcases List.mem_append.1 hx with h1 | h1
  · exact List.mem_of_mem_drop h1
  · exact List.mem_of_mem_take h1
theorem ring_rep {k : Nat} {wl : List Int} {m : Nat} (h : IsRing k wl) (h0 : 0 < m) (h4 : m ≤ 4096) : IsRing k (repL wl m) := by
  refine ⟨by rw [repL_len]; exact h0, by rw [repL_len]; exact h4, fun x hx => ?_⟩
  unfold repL at hx
  obtain ⟨j, hj, rfl⟩ := List.mem_map.1 hx
  have hlt := Nat.mod_lt j h.l1
  rw [List.getD_eq_getElem?_getD, List.getElem?_eq_getElem hlt]
  exact h.sym _ (List.getElem_mem hlt)
theorem valsF_succ (s : Int → Int) (a : Int) (q : Nat) : valsF s a (q + 1) = valsF s a q ++ [s (a + (q : Int))] := by simp [valsF, List.range_succ]
/-- where the number j lies in a ring, as the program computes it -/
theorem ring_at (j : Int) {n : Nat} (hn : 0 < n) : ∃ (u : Int) (X : Nat), j.tmod (n : Int) = u ∧ -(n : Int) < u ∧ u < (n : Int) ∧ (u + n).tmod n = (X : Int) ∧ X < n ∧ j % (n : Int) = (X : Int) := by
  have h1 := Int.lt_tmod_of_pos j (show (0 : Int) < (n : Int) by omega)
  have h2 := Int.tmod_lt_of_pos j (show (0 : Int) < (n : Int) by omega)
  have h3 := Int.emod_nonneg j (show (n : Int) ≠ 0 by omega)
  have h4 := Int.emod_lt_of_pos j (show (0 : Int) < (n : Int) by omega)
  refine ⟨j.tmod n, (j % (n : Int)).toNat, rfl, by omega, h2, ?_, by omega, by omega⟩
  rw [Int.tmod_eq_emod_of_nonneg (by omega), Int.tmod_eq_emod]
  have e : ((j % (n : Int)).toNat : Int) = j % (n : Int) := by omega
  rw [e]
  split
  · simp
  · simp
end Go.Proofs.YtjgblanpaanglaaDoor
