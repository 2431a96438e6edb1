/- Plain: a ring's images one behind the other, and their first cells. -/
import Derived.Test.YtnmegpplfbkpcaaDoorRingA
namespace Go.Proofs.YtnmegpplfbkpcaaDoor
open Go.RowKit
set_option linter.unusedVariables false
set_option maxRecDepth 100000

theorem ringL_len (k r : Nat) (tb wl : List Int) : (ringL k r tb wl).length = wl.length := valsF_len _ _ _
theorem ring_next {k r : Nat} {tb wl : List Int} (h : IsRule k r tb) (hw : IsRing k wl) : IsRing k (ringL k r tb wl) :=
  ⟨by rw [ringL_len]; exact hw.l1, by rw [ringL_len]; exact hw.l2, valsF_mem (P := fun x => 0 ≤ x ∧ x < (k : Int)) fun i => img_range h.sym h.k1 i⟩
/-- behind t steps -/
def itR (k r : Nat) (tb : List Int) : Nat → List Int → List Int
  | 0, wl => wl
  | t + 1, wl => ringL k r tb (itR k r tb t wl)
theorem itR_len (k r : Nat) (tb : List Int) : ∀ t wl, (itR k r tb t wl).length = wl.length
  | 0, _ => rfl
  | t + 1, wl => by rw [itR, ringL_len, itR_len k r tb t wl]
theorem itR_ring {k r : Nat} {tb wl : List Int} (h : IsRule k r tb) (hw : IsRing k wl) : ∀ t, IsRing k (itR k r tb t wl)
  | 0 => hw
  | t + 1 => ring_next h (itR_ring h hw t)
theorem itR_add (k r : Nat) (tb : List Int) (s : Nat) (wl : List Int) : ∀ t, itR k r tb (s + t) wl = itR k r tb t (itR k r tb s wl)
  | 0 => rfl
  | t + 1 => by
    show ringL k r tb (itR k r tb (s + t) wl) = ringL k r tb (itR k r tb t (itR k r tb s wl))
    rw [itR_add k r tb s wl t]
/-- the first cells -/
def trR (k r : Nat) (tb : List Int) (t : Nat) (wl : List Int) : List Int := (List.range t).map fun i => (itR k r tb i wl).getD 0 0
theorem trR_len (k r : Nat) (tb : List Int) (t : Nat) (wl : List Int) : (trR k r tb t wl).length = t := by simp [trR]
theorem trR_succ (k r : Nat) (tb : List Int) (t : Nat) (wl : List Int) : trR k r tb (t + 1) wl = trR k r tb t wl ++ [(itR k r tb t wl).getD 0 0] := by simp [trR, List.range_succ]
theorem trR_add (k r : Nat) (tb : List Int) (s t : Nat) (wl : List Int) : trR k r tb (s + t) wl = trR k r tb s wl ++ trR k r tb t (itR k r tb s wl) := by
  unfold trR
  rw [List.range_add, List.map_append, List.map_map]
  congr 1
  refine List.map_congr_left fun i _ => ?_
  show (itR k r tb (s + i) wl).getD 0 0 = _
  rw [itR_add]
theorem trR_zero {k r t : Nat} {tb wl : List Int} (ht : 0 < t) : (trR k r tb t wl).getD 0 0 = wl.getD 0 0 := by
  obtain ⟨q, rfl⟩ : ∃ q, t = q + 1 := ⟨t - 1, by omega⟩
  simp [trR, List.range_succ_eq_map, itR]
end Go.Proofs.YtnmegpplfbkpcaaDoor
