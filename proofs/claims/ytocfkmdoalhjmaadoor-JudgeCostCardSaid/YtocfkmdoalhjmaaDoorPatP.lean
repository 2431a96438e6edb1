/- Plain: patches, their turns and pieces, as lists. -/
import Derived.Test.YtocfkmdoalhjmaaDoorIdx
namespace Go.Proofs.YtocfkmdoalhjmaaDoor
open Go.RowKit
set_option linter.unusedVariables false

def cellB (x : Int) : Bool := decide (x ≠ 0 ∧ x ≠ 1)
theorem cellB_false {x : Int} : cellB x = false ↔ x = 0 ∨ x = 1 := by unfold cellB; rw [decide_eq_false_iff_not]; omega
theorem cellB_true {x : Int} : cellB x = true ↔ x ≠ 0 ∧ x ≠ 1 := by unfold cellB; rw [decide_eq_true_iff]
structure IsPatch (w h : Nat) (l : List Int) : Prop where
  w1 : 1 ≤ w
  w2 : w ≤ 64
  h1 : 1 ≤ h
  h2 : h ≤ 64
  len : l.length = w * h
  sym : ∀ x ∈ l, x = 0 ∨ x = 1
/-- a patch's fault: place and number -/
def patchErr (W H : Int) (l : List Int) : Option (Int × Int) :=
  if W < 1 ∨ 64 < W then some (0, 7) else if H < 1 ∨ 64 < H then some (1, 7) else if (l.length : Int) ≠ W * H then some (2, 7) else if 0 ≤ idxI cellB l then some (3 + idxI cellB l, 7) else none
theorem patchErr_none {W H : Int} {l : List Int} (h : patchErr W H l = none) : ∃ w g : Nat, W = (w : Int) ∧ H = (g : Int) ∧ IsPatch w g l := by
  unfold patchErr at h
  split at h
  · cases h
  split at h
  · cases h
  split at h
  · cases h
  split at h
  · cases h
  rename_i a b c d
  refine ⟨W.toNat, H.toNat, by omega, by omega, by omega, by omega, by omega, by omega, ?_, fun x hx => cellB_false.1 (idxI_neg d x hx)⟩
  have e : (l.length : Int) = W * H := Decidable.byContradiction c
  have e1 : W = (W.toNat : Int) := by omega
  have e2 : H = (H.toNat : Int) := by omega
  rw [e1, e2, ← Int.natCast_mul] at e
  omega
theorem patchErr_of {w g : Nat} {l : List Int} (h : IsPatch w g l) : patchErr w g l = none := by
  have := h.w1; have := h.w2; have := h.h1; have := h.h2
  have hi : idxI cellB l = -1 := findIdx_none fun x hx => cellB_false.2 (h.sym x hx)
  unfold patchErr
  rw [if_neg (by omega), if_neg (by omega), if_neg (by rw [h.len, Int.natCast_mul]; omega), if_neg (by rw [hi]; omega)]

/-- the cells that are told one by one -/
def madeL (w h : Nat) (f : Nat → Nat → Int) : List Int := (List.range (w * h)).map fun i => f (i % w) (i / w)
theorem madeL_len (w h : Nat) (f : Nat → Nat → Int) : (madeL w h f).length = w * h := by simp [madeL]
theorem div_lt_of {w h i : Nat} (hw : 0 < w) (hi : i < w * h) : i / w < h := by
  rw [Nat.div_lt_iff_lt_mul hw, Nat.mul_comm]; exact hi
theorem madeL_congr {w h : Nat} {f g : Nat → Nat → Int} (hw : 0 < w) (e : ∀ x y, x < w → y < h → f x y = g x y) : madeL w h f = madeL w h g := by
  unfold madeL
  apply List.map_congr_left
  intro i hi
  rw [List.mem_range] at hi
  exact e _ _ (Nat.mod_lt _ hw) (div_lt_of hw hi)
theorem madeL_getD {w h : Nat} {f : Nat → Nat → Int} {x y : Nat} (hx : x < w) (hy : y < h) : (madeL w h f).getD (y * w + x) 0 = f x y := by
  have hlt : y * w + x < w * h := by
    have : (y + 1) * w ≤ h * w := Nat.mul_le_mul_right _ hy
    rw [Nat.add_mul, Nat.one_mul] at this
    rw [Nat.mul_comm w h]; omega
  have h1 : (y * w + x) % w = x := by rw [Nat.mul_comm, Nat.mul_add_mod]; exact Nat.mod_eq_of_lt hx
  have h2 : (y * w + x) / w = y := by rw [Nat.mul_comm, Nat.mul_add_div (by omega), Nat.div_eq_of_lt hx, Nat.add_zero]
  simp [madeL, List.getD_eq_getElem?_getD, hlt, h1, h2]
theorem madeL_mem {P : Int → Prop} {w h : Nat} {f : Nat → Nat → Int} (hw : 0 < w) (e : ∀ x y, x < w → y < h → P (f x y)) : ∀ x ∈ madeL w h f, P x := by
  intro x hx
  obtain ⟨i, hi, rfl⟩ := List.mem_map.1 hx
  rw [List.mem_range] at hi
  exact e _ _ (Nat.mod_lt _ hw) (div_lt_of hw hi)
/-- the cell at a place -/
def atL (w : Nat) (l : List Int) (x y : Nat) : Int := l.getD (y * w + x) 0
theorem atL_made {w h : Nat} {f : Nat → Nat → Int} {x y : Nat} (hx : x < w) (hy : y < h) : atL w (madeL w h f) x y = f x y := madeL_getD hx hy
theorem made_atL {w h : Nat} {l : List Int} (hw : 0 < w) (hl : l.length = w * h) : madeL w h (atL w l) = l := by
  apply List.ext_getElem
  · rw [madeL_len, hl]
  · intro i h1 h2
    simp only [madeL, List.getElem_map, List.getElem_range, atL]
    rw [show i / w * w + i % w = i by rw [Nat.mul_comm]; exact Nat.div_add_mod i w]
    simp [h2]
theorem place_lt {w h x y : Nat} (hx : x < w) (hy : y < h) : y * w + x < w * h := by
  have : (y + 1) * w ≤ h * w := Nat.mul_le_mul_right _ hy
  rw [Nat.add_mul, Nat.one_mul] at this
  rw [Nat.mul_comm w h]; omega
theorem atL_sym {w h : Nat} {l : List Int} (hp : IsPatch w h l) {x y : Nat} (hx : x < w) (hy : y < h) : atL w l x y = 0 ∨ atL w l x y = 1 := by
  have hlt := place_lt hx hy
  rw [← hp.len] at hlt
  unfold atL
  rw [show l.getD (y * w + x) 0 = l[y * w + x] by simp [hlt]]
  exact hp.sym _ (List.getElem_mem hlt)

/-! ### turns -/
def turnW (w h t : Nat) : Nat := if t % 2 = 1 then h else w
def turnF (w h : Nat) (l : List Int) (t : Nat) (x y : Nat) : Int :=
  if t % 4 = 1 then atL w l y (h - 1 - (if 4 ≤ t then turnW w h t - 1 - x else x))
  else if t % 4 = 2 then atL w l (w - 1 - (if 4 ≤ t then turnW w h t - 1 - x else x)) (h - 1 - y)
  else if t % 4 = 3 then atL w l (w - 1 - y) (if 4 ≤ t then turnW w h t - 1 - x else x)
  else atL w l (if 4 ≤ t then turnW w h t - 1 - x else x) y
def turnL (w h : Nat) (l : List Int) (t : Nat) : List Int := madeL (turnW w h t) (turnW h w t) (turnF w h l t)
theorem turn_patch {w h t : Nat} {l : List Int} (hp : IsPatch w h l) : IsPatch (turnW w h t) (turnW h w t) (turnL w h l t) := by
  have := hp.w1; have := hp.w2; have := hp.h1; have := hp.h2
  refine ⟨by unfold turnW; split <;> omega, by unfold turnW; split <;> omega, by unfold turnW; split <;> omega, by unfold turnW; split <;> omega, madeL_len _ _ _, ?_⟩
  refine madeL_mem (P := fun x => x = 0 ∨ x = 1) (by unfold turnW; split <;> omega) fun x y hx hy => ?_
  unfold turnF
  unfold turnW at hx hy ⊢
  (repeat' split) <;> (refine atL_sym hp ?_ ?_ <;> (repeat' split at hx) <;> (repeat' split at hy) <;> omega)
/-- a piece -/
def cutL (w : Nat) (l : List Int) (x y p q : Nat) : List Int := madeL p q fun i j => atL w l (x + i) (y + j)
theorem cut_patch {w h x y p q : Nat} {l : List Int} (hp : IsPatch w h l) (h1 : 1 ≤ p) (h2 : 1 ≤ q) (h3 : x + p ≤ w) (h4 : y + q ≤ h) : IsPatch p q (cutL w l x y p q) := by
  have := hp.w2; have := hp.h2
  refine ⟨h1, by omega, h2, by omega, madeL_len _ _ _, madeL_mem (P := fun x => x = 0 ∨ x = 1) (by omega) fun i j hi hj => atL_sym hp (by omega) (by omega)⟩
end Go.Proofs.YtocfkmdoalhjmaaDoor
