/- Plain: patches, their turns and pieces, as lists. The contracts of patch.side, patch.Check. The contract of patch.made. The contracts of patch.within, patch.Cut. A patch's columns as numbers (plain). The turns of a patch are a group; the cells' sum stays (plain). Facts of patches that stay over calls. Lent lists stay over calls. The contract of patch.Columns, for any patch. The contract of patch.Join, for any numbers. Columns and joined patches, there and back (plain). The contract of edenraw.Patches; an argument of the type api.Patch, opened. The contract of edenref21.Check, for any patch; ends of functions that return an error as plain data. Ends of functions that return a patch, or a list, and an error as plain data. -/
import Derived.Test.YtoaooblodgejdaaDoorIdx
import Derived.Test.YtoaooblodgejdaaDoorErrB
import Derived.Test.YtoaooblodgejdaaDoorSl
import Derived.Test.YtoaooblodgejdaaDoorBitI
import Derived.IntWalk
import Derived.Shelf.Abstract
import Derived.Test.YtoaooblodgejdaaDoorBase
import Derived.Deep.RegionHeld3
import Derived.Test.YtoaooblodgejdaaDoorTrk
import Derived.Test.YtoaooblodgejdaaDoorLentE
import Derived.Test.YtoaooblodgejdaaDoorOpenInts
import Derived.Lib.SmallJoins
namespace Go.Proofs.YtoaooblodgejdaaDoor
open Go.RowKit
set_option linter.unusedVariables false

def cellB (x : Int) : Bool := decide (x ≠ 0 ∧ x ≠ 1)
theorem cellB_false {x : Int} : cellB x = false ↔ x = 0 ∨ x = 1 := by unfold cellB; rw [decide_eq_false_iff_not]; omega
theorem cellB_true {x : Int} : cellB x = true ↔ x ≠ 0 ∧ x ≠ 1 := by unfold cellB; rw [decide_eq_true_iff]
structure IsPatch (w h : Nat) (l : List Int) : Prop where
  w1 : 1 ≤ w
  w2 : w ≤ 64
  h1 : 1 ≤ h
  h2 : h ≤ 64
  len : l.length = w * h
  sym : ∀ x ∈ l, x = 0 ∨ x = 1
/-- a patch's fault: place and number -/
def patchErr (W H : Int) (l : List Int) : Option (Int × Int) :=
  if W < 1 ∨ 64 < W then some (0, 7) else if H < 1 ∨ 64 < H then some (1, 7) else if (l.length : Int) ≠ W * H then some (2, 7) else if 0 ≤ idxI cellB l then some (3 + idxI cellB l, 7) else none
theorem patchErr_none {W H : Int} {l : List Int} (h : patchErr W H l = none) : ∃ w g : Nat, W = (w : Int) ∧ H = (g : Int) ∧ IsPatch w g l := by
  unfold patchErr at h
  split at h
  · cases h
  split at h
  · cases h
  split at h
  · cases h
  split at h
  · cases h
  rename_i a b c d
  refine ⟨W.toNat, H.toNat, by omega, by omega, by omega, by omega, by omega, by omega, ?_, fun x hx => cellB_false.1 (idxI_neg d x hx)⟩
  have e : (l.length : Int) = W * H := Decidable.byContradiction c
  have e1 : W = (W.toNat : Int) := by omega
  have e2 : H = (H.toNat : Int) := by omega
  rw [e1, e2, ← Int.natCast_mul] at e
  omega
theorem patchErr_of {w g : Nat} {l : List Int} (h : IsPatch w g l) : patchErr w g l = none := by
  have := h.w1; have := h.w2; have := h.h1; have := h.h2
  have hi : idxI cellB l = -1 := findIdx_none fun x hx => cellB_false.2 (h.sym x hx)
  unfold patchErr
  rw [if_neg (by omega), if_neg (by omega), if_neg (by rw [h.len, Int.natCast_mul]; omega), if_neg (by rw [hi]; omega)]

/-- the cells that are told one by one -/
def madeL (w h : Nat) (f : Nat → Nat → Int) : List Int := (List.range (w * h)).map fun i => f (i % w) (i / w)
theorem madeL_len (w h : Nat) (f : Nat → Nat → Int) : (madeL w h f).length = w * h := by simp [madeL]
theorem div_lt_of {w h i : Nat} (hw : 0 < w) (hi : i < w * h) : i / w < h := by
  rw [Nat.div_lt_iff_lt_mul hw, Nat.mul_comm]; exact hi
theorem madeL_congr {w h : Nat} {f g : Nat → Nat → Int} (hw : 0 < w) (e : ∀ x y, x < w → y < h → f x y = g x y) : madeL w h f = madeL w h g := by
  unfold madeL
  apply List.map_congr_left
  intro i hi
  rw [List.mem_range] at hi
  exact e _ _ (Nat.mod_lt _ hw) (div_lt_of hw hi)
theorem madeL_getD {w h : Nat} {f : Nat → Nat → Int} {x y : Nat} (hx : x < w) (hy : y < h) : (madeL w h f).getD (y * w + x) 0 = f x y := by
  have hlt : y * w + x < w * h := by
    have : (y + 1) * w ≤ h * w := Nat.mul_le_mul_right _ hy
    rw [Nat.add_mul, Nat.one_mul] at this
    rw [Nat.mul_comm w h]; omega
  have h1 : (y * w + x) % w = x := by rw [Nat.mul_comm, Nat.mul_add_mod]; exact Nat.mod_eq_of_lt hx
  have h2 : (y * w + x) / w = y := by rw [Nat.mul_comm, Nat.mul_add_div (by omega), Nat.div_eq_of_lt hx, Nat.add_zero]
  simp [madeL, List.getD_eq_getElem?_getD, hlt, h1, h2]
theorem madeL_mem {P : Int → Prop} {w h : Nat} {f : Nat → Nat → Int} (hw : 0 < w) (e : ∀ x y, x < w → y < h → P (f x y)) : ∀ x ∈ madeL w h f, P x := by
  intro x hx
  obtain ⟨i, hi, rfl⟩ := List.mem_map.1 hx
  rw [List.mem_range] at hi
  exact e _ _ (Nat.mod_lt _ hw) (div_lt_of hw hi)
/-- the cell at a place -/
def atL (w : Nat) (l : List Int) (x y : Nat) : Int := l.getD (y * w + x) 0
theorem atL_made {w h : Nat} {f : Nat → Nat → Int} {x y : Nat} (hx : x < w) (hy : y < h) : atL w (madeL w h f) x y = f x y := madeL_getD hx hy
theorem made_atL {w h : Nat} {l : List Int} (hw : 0 < w) (hl : l.length = w * h) : madeL w h (atL w l) = l := by
  apply List.ext_getElem
  · rw [madeL_len, hl]
  · intro i h1 h2
    simp only [madeL, List.getElem_map, List.getElem_range, atL]
    rw [show i / w * w + i % w = i by rw [Nat.mul_comm]; exact Nat.div_add_mod i w]
    simp [h2]
theorem place_lt {w h x y : Nat} (hx : x < w) (hy : y < h) : y * w + x < w * h := by
  have : (y + 1) * w ≤ h * w := Nat.mul_le_mul_right _ hy
  rw [Nat.add_mul, Nat.one_mul] at this
  rw [Nat.mul_comm w h]; omega
theorem atL_sym {w h : Nat} {l : List Int} (hp : IsPatch w h l) {x y : Nat} (hx : x < w) (hy : y < h) : atL w l x y = 0 ∨ atL w l x y = 1 := by
  have hlt := place_lt hx hy
  rw [← hp.len] at hlt
  unfold atL
  rw [show l.getD (y * w + x) 0 = l[y * w + x] by simp [hlt]]
  exact hp.sym _ (List.getElem_mem hlt)

/-! ### turns -/
def turnW (w h t : Nat) : Nat := if t % 2 = 1 then h else w
def turnF (w h : Nat) (l : List Int) (t : Nat) (x y : Nat) : Int :=
  if t % 4 = 1 then atL w l y (h - 1 - (if 4 ≤ t then turnW w h t - 1 - x else x))
  else if t % 4 = 2 then atL w l (w - 1 - (if 4 ≤ t then turnW w h t - 1 - x else x)) (h - 1 - y)
  else if t % 4 = 3 then atL w l (w - 1 - y) (if 4 ≤ t then turnW w h t - 1 - x else x)
  else atL w l (if 4 ≤ t then turnW w h t - 1 - x else x) y
def turnL (w h : Nat) (l : List Int) (t : Nat) : List Int := madeL (turnW w h t) (turnW h w t) (turnF w h l t)
theorem turn_patch {w h t : Nat} {l : List Int} (hp : IsPatch w h l) : IsPatch (turnW w h t) (turnW h w t) (turnL w h l t) := by
  have := hp.w1; have := hp.w2; have := hp.h1; have := hp.h2
  refine ⟨by unfold turnW; split <;> omega, by unfold turnW; split <;> omega, by unfold turnW; split <;> omega, by unfold turnW; split <;> omega, madeL_len _ _ _, ?_⟩
  refine madeL_mem (P := fun x => x = 0 ∨ x = 1) (by unfold turnW; split <;> omega) fun x y hx hy => ?_
  unfold turnF
  unfold turnW at hx hy ⊢
  (repeat' split) <;> (refine atL_sym hp ?_ ?_ <;> (repeat' split at hx) <;> (repeat' split at hy) <;> omega)
/-- a piece -/
def cutL (w : Nat) (l : List Int) (x y p q : Nat) : List Int := madeL p q fun i j => atL w l (x + i) (y + j)
theorem cut_patch {w h x y p q : Nat} {l : List Int} (hp : IsPatch w h l) (h1 : 1 ≤ p) (h2 : 1 ≤ q) (h3 : x + p ≤ w) (h4 : y + q ≤ h) : IsPatch p q (cutL w l x y p q) := by
  have := hp.w2; have := hp.h2
  refine ⟨h1, by omega, h2, by omega, madeL_len _ _ _, madeL_mem (P := fun x => x = 0 ∨ x = 1) (by omega) fun i j hi hj => atL_sym hp (by omega) (by omega)⟩
end Go.Proofs.YtoaooblodgejdaaDoor
namespace Go.Proofs.YtoaooblodgejdaaDoor
open Go.RowKit
set_option linter.unusedVariables false
set_option maxRecDepth 100000

abbrev patV (W H : Int) (a : Option Addr) (n c : Nat) : Value := .agg #[.int .i64 W, .int .i64 H, .slice a n c]
theorem cpa {w w' : World} {a : Addr} {v : Value} (hb : Below w.heap.size w w') (h : w.cell? a = some v) : w'.cell? a = some v := (hb.cell (World.block_lt_of_cell? _ _ h)).trans h
theorem al000 {w : World} {a : Addr} {v : Value} {o : Obj} (h : w.cell? a = some v) : (w.alloc o).cell? a = some v := cpa (balloc (bnil w) o) h
theorem side_t (n : Int) (W : World) (h1 : 1 ≤ n) (h2 : n ≤ 64) : Calls Tryd.prog 92 #[.int .i64 n] W fun e w' => e = .returned (.bool true) ∧ W = w' := by
  go_enter Tryd.func92, Tryd.ntmps92
  go_wp2
  go_ret
  exact ⟨rfl, rfl⟩
theorem side_f (n : Int) (W : World) (h : n < 1 ∨ 64 < n) : Calls Tryd.prog 92 #[.int .i64 n] W fun e w' => e = .returned (.bool false) ∧ W = w' := by
  by_cases h1 : n < 1
  · clear h
    go_enter Tryd.func92, Tryd.ntmps92
    go_wp2
    go_ret
    exact ⟨rfl, rfl⟩
  · have h2 : 64 < n := by omega
    have h3 : 1 ≤ n := by omega
    have h4 : ¬ n ≤ 64 := by omega
    have h5 : decide (n ≤ 64) = false := decide_eq_false h4
    clear h h1
    go_enter Tryd.func92, Tryd.ntmps92
    go_wp2
    go_ret
    exact ⟨rfl, rfl⟩

def cellA (x : Int) : Bool := bits .andNot .i64 x 1 != 0
theorem pcheck1 (w : World) : PredOf 93 #[] cellA w := by
  intro W x hb
  have key : ∀ b, cellA x = b → Calls Tryd.prog 93 #[.int .i64 x] W fun e w' => e = .returned (.bool b) ∧ ∃ n, w' = W.drewN n := by
    intro b hbx
    unfold cellA at hbx
    go_enter Tryd.func93, Tryd.ntmps93
    go_wp2
    go_ret
    exact ⟨rfl, 0, rfl⟩
  exact key _ rfl
theorem idxI_bd (p : Int → Bool) (l : List Int) : -1 ≤ idxI p l ∧ idxI p l ≤ (l.length : Int) := by
  unfold idxI
  cases h : l.findIdx? p with
  | none => simp only; omega
  | some i =>
    have := (List.findIdx?_eq_some_iff_getElem.1 h).1
    simp only; omega
theorem findIdx_congr {p q : Int → Bool} : ∀ {l : List Int}, (∀ x ∈ l, p x = q x) → l.findIdx? p = l.findIdx? q
  | [], _ => rfl
  | x :: l, h => by
    rw [List.findIdx?_cons, List.findIdx?_cons, h x (by simp), findIdx_congr fun y hy => h y (by simp [hy])]
theorem idxI_congr {p q : Int → Bool} {l : List Int} (h : ∀ x ∈ l, p x = q x) : idxI p l = idxI q l := by
  unfold idxI
  rw [findIdx_congr h]
def I64 (l : List Int) : Prop := ∀ x ∈ l, -9223372036854775808 ≤ x ∧ x ≤ 9223372036854775807
theorem idx_cell {l : List Int} (h : I64 l) : idxI cellA l = idxI cellB l := idxI_congr fun x hx => andNot1_i64 (h x hx).1 (h x hx).2
/-- a patch's fault -/
def patchD (W H : Int) (l : List Int) : ErrD := (patchErr W H l).map fun x => ([(opPatch, x.1)], x.2)

set_option maxHeartbeats 4000000 in
theorem pcheck_any (w h : Int) (a : Option Addr) (n c : Nat) (l : List Int) (W : World) (R : Nat → Addr) (hS : Sent W R) (hR : RK .i64 W a n l) (hm : n ≤ maxLen) (hx : I64 l) :
    Calls Tryd.prog 48 #[patV w h a n c] W fun e w' => ∃ ev, e = .returned ev ∧ EC R w' ev (patchD w h l) ∧ (ev = .nilIface ∨ ∃ g, ev = .iface 124 (.pointer (some ⟨g, 0, none⟩))) ∧ Below W.heap.size W w' := by
  have hmx : n ≤ 9223372036854775807 := hm
  have HL := Lib.hid hR.len
  have HR := Lib.hid hR; clear hR
  have HSN := Lib.hid hS; clear hS
  have HIX := Lib.hid (idx_cell hx); clear hx
  obtain ⟨i, hi⟩ : ∃ i, idxI cellB l = i := ⟨_, rfl⟩
  have hib := idxI_bd cellB l
  rw [hi, ← HL.out] at hib
  obtain ⟨hi1, hi2⟩ := hib
  obtain ⟨Wb, hWb⟩ : ∃ Wb, W.alloc (.cells #[.int .i64 w, .int .i64 h, .slice a n c] 24) = Wb := ⟨_, rfl⟩
  have HX : Hid (Wb.cell? ⟨W.heap.size, 0, none⟩ = some (.int .i64 w) ∧ Wb.cell? ⟨W.heap.size, 1, none⟩ = some (.int .i64 h) ∧ Wb.cell? ⟨W.heap.size, 2, none⟩ = some (.slice a n c)) := by rw [← hWb]; exact ⟨by simp, by simp, by simp⟩
  have HBX : Hid (Below W.heap.size W Wb) := by rw [← hWb]; exact balloc (bnil W) _
  have HE : Hid (∀ (w0 : World) (hb : Below Wb.heap.size Wb w0) (at_ num : Int), EC R (w0.alloc (faultObj opPatch at_ (.iface 190 (.pointer (some (R (rix num))))))) (.iface 124 (.pointer (some ⟨w0.heap.size, 0, none⟩))) (some ([(opPatch, at_)], num))) := fun w0 hb at_ num => ec_err (((HSN.out.up HBX.out).up hb).up (balloc (bnil w0) _)) (isErr_new (Nat.le_refl _))
  have HG := Lib.hid (HSN.out.up HBX.out).glob
  have HI := Lib.hid hi
  clear hi
  have x0 := HX.out.1
  have x1 := HX.out.2.1
  have x2 := HX.out.2.2
  have HWB := Lib.hid hWb; clear hWb
  by_cases c0 : w < 1 ∨ 64 < w
  · have hd : patchD w h l = some ([(opPatch, 0)], 7) := by unfold patchD patchErr; rw [if_pos c0]; rfl
    have HD := Lib.hid hd; clear hd
    go_enter Tryd.func48, Tryd.ntmps48
    go_wp2_with fail
    rw [HWB.out]
    refine (side_f w _ c0).mono ?_; rintro e w1 ⟨rfl, rfl⟩
    clear c0
    go_wp2_with fail
    refine (patch_wrong _ _ _ R HG.out rfl).mono ?_; rintro e w1 ⟨rfl, rfl⟩
    go_wp2
    go_ret
    rw [HD.out]
    exact ⟨_, rfl, HE.out _ (bnil Wb) _ _, .inr ⟨_, rfl⟩, balloc HBX.out _⟩
  by_cases c1 : h < 1 ∨ 64 < h
  · have hd : patchD w h l = some ([(opPatch, 1)], 7) := by unfold patchD patchErr; rw [if_neg c0, if_pos c1]; rfl
    have HD := Lib.hid hd; clear hd
    have w1 : 1 ≤ w := by omega
    have w2 : w ≤ 64 := by omega
    clear c0
    go_enter Tryd.func48, Tryd.ntmps48
    go_wp2_with fail
    rw [HWB.out]
    refine (side_t w _ w1 w2).mono ?_; rintro e w1 ⟨rfl, rfl⟩
    go_wp2_with fail
    refine (side_f h _ c1).mono ?_; rintro e w1 ⟨rfl, rfl⟩
    clear c1
    go_wp2_with fail
    refine (patch_wrong _ _ _ R HG.out rfl).mono ?_; rintro e w1 ⟨rfl, rfl⟩
    go_wp2
    go_ret
    rw [HD.out]
    exact ⟨_, rfl, HE.out _ (bnil Wb) _ _, .inr ⟨_, rfl⟩, balloc HBX.out _⟩
  have w1 : 1 ≤ w := by omega
  have w2 : w ≤ 64 := by omega
  have h1 : 1 ≤ h := by omega
  have h2 : h ≤ 64 := by omega
  obtain ⟨P, hP⟩ : ∃ P, w * h = P := ⟨_, rfl⟩
  have hP0 : 0 ≤ P := by rw [← hP]; exact Int.mul_nonneg (by omega) (by omega)
  have hP1 : P ≤ 4096 := by
    rw [← hP]
    have := Int.mul_le_mul w2 h2 (by omega) (by omega : (0 : Int) ≤ 64)
    omega
  by_cases c2 : (n : Int) ≠ P
  · have hd : patchD w h l = some ([(opPatch, 2)], 7) := by unfold patchD patchErr; rw [if_neg c0, if_neg c1, if_pos (by rw [hP, ← HL.out]; exact c2)]; rfl
    have HD := Lib.hid hd; clear hd
    have cb : ((n : Int) != P) = true := by simpa using c2
    have cb2 : ((n : Int) == P) = false := by simpa using c2
    clear c0 c1 c2
    go_enter Tryd.func48, Tryd.ntmps48
    go_wp2_with fail
    rw [HWB.out]
    refine (side_t w _ w1 w2).mono ?_; rintro e w9 ⟨rfl, rfl⟩
    go_wp2_with fail
    refine (side_t h _ h1 h2).mono ?_; rintro e w9 ⟨rfl, rfl⟩
    go_wp2_with fail
    refine (patch_wrong _ _ _ R HG.out rfl).mono ?_; rintro e w9 ⟨rfl, rfl⟩
    go_wp2
    go_ret
    rw [HD.out]
    exact ⟨_, rfl, HE.out _ (bnil Wb) _ _, .inr ⟨_, rfl⟩, balloc HBX.out _⟩
  have hd : patchD w h l = if 0 ≤ i then some ([(opPatch, 3 + i)], 7) else none := by
    unfold patchD patchErr
    rw [if_neg c0, if_neg c1, if_neg (by rw [hP, ← HL.out]; exact c2), HI.out]
    split <;> rfl
  have HD := Lib.hid hd
  have cn : (n : Int) = P := Decidable.byContradiction c2
  have HCN := Lib.hid cn
  subst cn
  clear hd c0 c1 c2
  have hcall : Calls Tryd.prog 65 #[.slice a n c, .func (.func 93) #[] #[]] Wb fun e w' => e = .returned (.int .i64 i) ∧ ∃ m, w' = Wb.drewN m := by
    have := indexFunc_any a n c l 93 #[] cellA Wb (HR.out.up HBX.out) hm (enters_of Tryd.func93 (by kernel_rfl) rfl) (pcheck1 Wb)
    rwa [HIX.out, HI.out] at this
  have HCALL := Lib.hid hcall
  clear hcall
  by_cases c3 : 0 ≤ i
  · have hd := HD.out
    rw [if_pos c3] at hd
    have HD2 := Lib.hid hd; clear hd
    go_enter Tryd.func48, Tryd.ntmps48
    go_wp2_with fail
    rw [HWB.out]
    refine (side_t w _ w1 w2).mono ?_; rintro e w9 ⟨rfl, rfl⟩
    go_wp2_with fail
    refine (side_t h _ h1 h2).mono ?_; rintro e w9 ⟨rfl, rfl⟩
    go_wp2_with fail
    refine HCALL.out.mono ?_; rintro e w9 ⟨rfl, m, rfl⟩
    go_wp2_with fail
    refine (patch_wrong _ _ _ R (Glob.drewN HG.out) rfl).mono ?_; rintro e w9 ⟨rfl, rfl⟩
    go_wp2
    go_ret
    rw [HD2.out]
    exact ⟨_, rfl, HE.out _ (bdrewN (bnil Wb) m) _ _, .inr ⟨_, rfl⟩, balloc (bdrewN HBX.out m) _⟩
  · have hd := HD.out
    rw [if_neg c3] at hd
    have HD2 := Lib.hid hd; clear hd
    go_enter Tryd.func48, Tryd.ntmps48
    go_wp2_with fail
    rw [HWB.out]
    refine (side_t w _ w1 w2).mono ?_; rintro e w9 ⟨rfl, rfl⟩
    go_wp2_with fail
    refine (side_t h _ h1 h2).mono ?_; rintro e w9 ⟨rfl, rfl⟩
    go_wp2_with fail
    refine HCALL.out.mono ?_; rintro e w9 ⟨rfl, m, rfl⟩
    go_wp2
    go_ret
    rw [HD2.out]
    exact ⟨_, rfl, rfl, .inl rfl, bdrewN HBX.out m⟩
end Go.Proofs.YtoaooblodgejdaaDoor
namespace Go.Proofs.YtoaooblodgejdaaDoor
open Go.RowKit
set_option linter.unusedVariables false
set_option maxRecDepth 100000

/-- the cells as far as they have been told -/
def madeS (w N : Nat) (f : Nat → Nat → Int) (i : Nat) : List Int := ((List.range i).map fun j => f (j % w) (j / w)) ++ List.replicate (N - i) 0
theorem madeS_len {w N i : Nat} {f : Nat → Nat → Int} (h : i ≤ N) : (madeS w N f i).length = N := by simp [madeS]; omega
theorem madeS_set {w N i : Nat} {f : Nat → Nat → Int} (h : i < N) : ((madeS w N f i).map (Value.int .i64)).set i (.int .i64 (f (i % w) (i / w))) = (madeS w N f (i + 1)).map (Value.int .i64) := by
  rw [← List.map_set]
  congr 1
  unfold madeS
  rw [List.set_append_right _ _ (by simp)]
  simp only [List.length_map, List.length_range, Nat.sub_self]
  rw [show N - i = (N - (i + 1)) + 1 by omega, List.replicate_succ, List.set_cons_zero, List.range_succ, List.map_append, List.append_assoc]
  rfl
theorem madeS_all {w h : Nat} {f : Nat → Nat → Int} : madeS w (w * h) f (w * h) = madeL w h f := by simp [madeS, madeL]
theorem made_i64p (n : Nat) : (madeCells (Value.int .i64 0).cells (n * 1)).toList = (List.replicate n (0 : Int)).map (Value.int .i64) := by
  rw [show (Value.int .i64 0).cells = #[.int .i64 0] from by rfl, toList_madeCells_one]
  simp
theorem cell_set1 {w : World} {b o g j : Nat} {v u : Value} (h : w.cell? ⟨b, o, none⟩ = some v) (hne : b ≠ g) : (w.setCell ⟨g, j, none⟩ u).cell? ⟨b, o, none⟩ = some v := by
  rw [World.cell?_of_block (w := w)]
  · exact h
  · exact Below.heap_setCell _ _ _ _ hne
theorem own_of_heap' {w w' : World} {base sz n : Nat} {e : TypeId} {v : Value} {cs : List Value} (h : w.ownsRow base e sz v n cs) (hh : ∀ b, v.ownBlock = some b → w'.heap[b]? = w.heap[b]?) : w'.ownsRow base e sz v n cs := by
  refine ⟨h.1, ?_⟩
  rcases h.2 with hn | ⟨g, cap, cur, rfl, hbg, hg, rest⟩
  · exact .inl hn
  · exact .inr ⟨g, cap, cur, rfl, hbg, by rw [hh g rfl]; exact hg, rest⟩
theorem set3p {w : World} {g : Nat} {x0 x1 x2 : Value} {t : TypeId} {fr : Nat × Nat} (h : w.heap[g]? = some (.cells #[x0, x1, x2] t fr)) (u0 u1 u2 : Value) :
    ∃ w6, (((w.setCell ⟨g, 0, none⟩ u0).setCell ⟨g, 1, none⟩ u1).setCell ⟨g, 2, none⟩ u2) = w6 ∧ (w6.cell? ⟨g, 0, none⟩ = some u0 ∧ w6.cell? ⟨g, 1, none⟩ = some u1 ∧ w6.cell? ⟨g, 2, none⟩ = some u2) ∧ (∀ k, k ≠ g → w6.heap[k]? = w.heap[k]?) ∧ w6.heap.size = w.heap.size ∧ ∀ (V : World) (B : Nat), B ≤ g → Below B V w → Below B V w6 := by
  refine ⟨_, rfl, ?_, fun k hk => ?_, ?_, fun V B hB hb => ?_⟩
  · simp [World.cell?, World.setCell, Array.getElem?_modify, h]
  · rw [Below.heap_setCell _ _ _ _ hk, Below.heap_setCell _ _ _ _ hk, Below.heap_setCell _ _ _ _ hk]
  · simp [World.setCell]
  · exact ((hb.setCell (p := ⟨g, 0, none⟩) hB u0).setCell (p := ⟨g, 1, none⟩) hB u1).setCell (p := ⟨g, 2, none⟩) hB u2
theorem p_cells {w : World} {g : Nat} {x0 x1 x2 : Value} {t : TypeId} (h : w.heap[g]? = some (.cells #[x0, x1, x2] t)) : (w.cell? ⟨g, 0, none⟩ = some x0 ∧ w.cell? ⟨g, 1, none⟩ = some x1 ∧ w.cell? ⟨g, 2, none⟩ = some x2) ∧ w.frozen? ⟨g, 0, none⟩ = false ∧ w.frozen? ⟨g, 1, none⟩ = false ∧ w.frozen? ⟨g, 2, none⟩ = false := by
  simp [World.cell?, World.frozen?, h]
/-- a function value's contract: the cell at a place -/
def CellOf (F : Nat) (cap : Array Value) (w h : Nat) (f : Nat → Nat → Int) (W : World) : Prop :=
  ∀ (W' : World) (x y : Nat), Below W.heap.size W W' → x < w → y < h → Calls Tryd.prog F (#[.int .i64 x, .int .i64 y] ++ cap) W' fun e w' => e = .returned (.int .i64 (f x y)) ∧ Below W'.heap.size W' w'

set_option maxHeartbeats 8000000 in
theorem made_any (w h F : Nat) (cap : Array Value) (f : Nat → Nat → Int) (W : World) (w1 : 1 ≤ w) (w2 : w ≤ 1000) (h1 : 1 ≤ h) (h2 : h ≤ 1000) (hE : ∀ args w, (callFunc F args).run Tryd.prog w = .ok (.enter F args) w) (hF : CellOf F cap w h f W) :
    Calls Tryd.prog 72 #[.int .i64 w, .int .i64 h, .func (.func F) #[] cap] W fun e w' => ∃ g c', e = .returned (patV w h (some ⟨g, 0, none⟩) (w * h) c') ∧ OwI w' W.heap.size (some ⟨g, 0, none⟩) (w * h) c' (madeL w h f) ∧ Below W.heap.size W w' := by
  have HF := Lib.hid hF; clear hF
  obtain ⟨N, hN⟩ : ∃ N, w * h = N := ⟨_, rfl⟩
  have hN4 : N ≤ 1000000 := by rw [← hN]; exact Nat.mul_le_mul w2 h2
  have hNI : (w : Int) * (h : Int) = (N : Int) := by rw [← hN, Int.natCast_mul]
  have hNw : IntKind.i64.wrap (N : Int) = (N : Int) := IntWalk.i64_in _ (by omega)
  have hall : madeS w N f N = madeL w h f := by rw [← hN]; exact madeS_all
  have HALL := Lib.hid hall
  have HNN := Lib.hid hN
  rw [hN]
  clear hall hN
  obtain ⟨Wb, hWb⟩ : ∃ Wb, W.alloc (.cells #[.int .i64 0, .int .i64 0, .slice none 0 0] 24) = Wb := ⟨_, rfl⟩
  have HZ : Hid (Wb.heap[W.heap.size]? = some (.cells #[.int .i64 0, .int .i64 0, .slice none 0 0] 24)) := by show _ = _; rw [← hWb]; exact heap_alloc_new W _
  have HBX : Hid (Below W.heap.size W Wb) := by rw [← hWb]; exact balloc (bnil W) _
  have HSZ : Hid (Wb.heap.size = W.heap.size + 1) := by show _ = _; rw [← hWb]; simp
  have HWB := Lib.hid hWb; clear hWb
  obtain ⟨g, hg⟩ : ∃ g, Wb.heap.size = g := ⟨_, rfl⟩
  have HGS := Lib.hid hg
  go_enter Tryd.func72, Tryd.ntmps72
  go_wp2_with (first
    | (at_make; rw [HWB.out]; refine mk_full rfl _ _ _ rfl W.heap.size et_int .i64 .i64 _ _ N rfl rfl rfl rfl (by omega) (by unfold maxLen; omega) HBX.out.size ?_; intro w1' hown1 hb1 hsz1; rw [made_i64p] at hown1))
  rw [hg] at hown1
  have HST : Hid (w1'.ownsRow W.heap.size 3 1 (.slice (some ⟨g, 0, none⟩) N N) N ((madeS w N f 0).map (Value.int .i64))) := by
    show World.ownsRow _ _ _ _ _ _ _
    simpa [madeS] using hown1
  obtain ⟨Wc, hWc⟩ : ∃ Wc, w1'.alloc (.cells #[.int .i64 w, .int .i64 h, .slice (some ⟨g, 0, none⟩) N N] 24) = Wc := ⟨_, rfl⟩
  have hbc : Below w1'.heap.size w1' Wc := by rw [← hWc]; exact balloc (bnil w1') _
  have HC2 : Hid (Wc.cell? ⟨w1'.heap.size, 0, none⟩ = some (.int .i64 w) ∧ Wc.cell? ⟨w1'.heap.size, 1, none⟩ = some (.int .i64 h) ∧ Wc.cell? ⟨w1'.heap.size, 2, none⟩ = some (.slice (some ⟨g, 0, none⟩) N N)) := by rw [← hWc]; exact ⟨by simp, by simp, by simp⟩
  have HO0 := Lib.hid (owns_up HST.out hbc)
  have HB0 := Lib.hid (hb1.trans (hbc.mono hb1.size))
  have hgv : g ≠ w1'.heap.size := by rw [hg] at hsz1; omega
  rw [hWc]
  obtain ⟨v, hv⟩ : ∃ v, w1'.heap.size = v := ⟨_, rfl⟩
  rw [hv] at HC2 hgv ⊢
  have HVL : Hid (Wb.heap.size < v) := by show _ < _; rw [← hv]; exact hsz1
  clear HST hWc hbc hb1 hsz1 hv hown1 hg
  go_loopw [8, 19] (fun _ ix wr => ∃ i : Nat, i ≤ N ∧ ix = .int .i64 i ∧ wr.ownsRow W.heap.size 3 1 (.slice (some ⟨g, 0, none⟩) N N) N ((madeS w N f i).map (Value.int .i64)) ∧ (wr.cell? ⟨v, 0, none⟩ = some (.int .i64 w) ∧ wr.cell? ⟨v, 1, none⟩ = some (.int .i64 h) ∧ wr.cell? ⟨v, 2, none⟩ = some (.slice (some ⟨g, 0, none⟩) N N)) ∧ Below Wb.heap.size Wb wr) (fun _ ix _ => N - (intOf ix).toNat)
  case atStart => exact ⟨0, by omega, rfl, HO0.out, HC2.out, HB0.out⟩
  case round =>
    clear HO0 HC2 HB0
    obtain ⟨i, hi, rfl, ho, hc, hb⟩ := hrel
    have HO := Lib.hid ho
    have HC := Lib.hid hc
    have HB := Lib.hid hb
    clear ho hc hb
    by_cases hin : i < N
    · obtain ⟨X, hX⟩ : ∃ X, i % w = X := ⟨_, rfl⟩
      obtain ⟨Y, hY⟩ : ∃ Y, i / w = Y := ⟨_, rfl⟩
      have hXw : X < w := by rw [← hX]; exact Nat.mod_lt _ (by omega)
      have hYh : Y < h := by rw [← hY]; exact div_lt_of (by omega) (by rw [HNN.out]; exact hin)
      have hcell := HO.out.cellAt i (by omega)
      obtain ⟨u, hu⟩ : ∃ u, wr.cell? ⟨g, i, none⟩ = some u := by
        rw [hcell]
        have : i < ((madeS w N f i).map (Value.int .i64)).length := by rw [List.length_map, madeS_len hi]; exact hin
        exact ⟨_, List.getElem?_eq_getElem this⟩
      have f0 := HO.out.frozenAt i
      have hgl : g < wr.heap.size := own_lt HO.out g rfl
      have HU := Lib.hid hu
      have HF0 := Lib.hid f0
      have HGL := Lib.hid hgl
      have hbw := HBX.out.trans (HB.out.mono HBX.out.size)
      have HBW := Lib.hid (Below.drew hbw)
      have i0 : (0 : Int) ≤ (i : Int) := by omega
      have i1 : (i : Int) < (N : Int) := by omega
      have tm : (i : Int).tmod (w : Int) = (X : Int) := by rw [Int.tmod_eq_emod_of_nonneg i0, ← Int.natCast_emod, hX]
      have qd : (i : Int).tdiv (w : Int) = (Y : Int) := by rw [Int.tdiv_eq_ediv_of_nonneg i0, ← Int.natCast_ediv, hY]
      have qw : IntKind.i64.wrap ((i : Int).tdiv (w : Int)) = (Y : Int) := by rw [qd]; exact IntWalk.i64_in _ (by omega)
      have te : (i : Int) % (w : Int) = (X : Int) := by rw [← Int.natCast_emod, hX]
      have qe : (i : Int) / (w : Int) = (Y : Int) := by rw [← Int.natCast_ediv, hY]
      have yw : IntKind.i64.wrap (Y : Int) = (Y : Int) := IntWalk.i64_in _ (by omega)
      have xw : IntKind.i64.wrap (X : Int) = (X : Int) := IntWalk.i64_in _ (by omega)
      have wz : ((w : Int) == 0) = false := by rw [beq_eq_false_iff_ne]; omega
      have wn : ¬ w = 0 := by omega
      have v2 : wr.drew.cell? ⟨v, 2, none⟩ = some (.slice (some ⟨g, 0, none⟩) N N) := HC.out.2.2
      have HXY : Hid (f (i % w) (i / w) = f X Y) := by show _ = _; rw [hX, hY]
      have hvg : v ≠ g := fun e => hgv e.symm
      clear hcell hu f0 hgl hX hY hbw
      go_wp2_with fail
      go_region_held3 (fun w' => w'.cell? ⟨v, 2, none⟩ = some (.slice (some ⟨g, 0, none⟩) N N))
        (first | with_reducible exact v2 | with_reducible exact z2 | with_reducible exact cell_set1 z2 hvg | go_keep)
        (first
          | (refine (HF.out _ X Y HBW.out hXw hYh).mono ?_; rintro e w5 ⟨rfl, hb5⟩; have z2 := cpa hb5 v2; have u5 := cpa hb5 (show wr.drew.cell? ⟨g, i, none⟩ = some u from HU.out); have f5 := (hb5.frozen (p := ⟨g, i, none⟩) (show g < wr.drew.heap.size from HGL.out)).trans (show wr.drew.frozen? ⟨g, i, none⟩ = false from HF0.out); have HE5 := Lib.hid hb5; clear hb5))
      clear tm qd qw te qe yw xw wz
      have hb5 := (Below.drew (bnil wr)).trans HE5.out
      have ho6 := own_set (owns_up HO.out hb5) i (.int .i64 (f X Y))
      rw [← HXY.out, madeS_set hin, HXY.out] at ho6
      have HO6 := Lib.hid ho6
      have HC6 : Hid (((w5.setCell ⟨g, i, none⟩ (.int .i64 (f X Y))).cell? ⟨v, 0, none⟩ = some (.int .i64 w) ∧ (w5.setCell ⟨g, i, none⟩ (.int .i64 (f X Y))).cell? ⟨v, 1, none⟩ = some (.int .i64 h) ∧ (w5.setCell ⟨g, i, none⟩ (.int .i64 (f X Y))).cell? ⟨v, 2, none⟩ = some (.slice (some ⟨g, 0, none⟩) N N))) := ⟨cell_set1 (cpa hb5 HC.out.1) hvg, cell_set1 (cpa hb5 HC.out.2.1) hvg, cell_set1 (cpa hb5 HC.out.2.2) hvg⟩
      have HB6 := Lib.hid ((HB.out.trans (hb5.mono HB.out.size)).setCell (p := ⟨g, i, none⟩) (by rw [HGS.out]; exact Nat.le_refl _) (.int .i64 (f X Y)))
      clear hb5 ho6 v2 z2 u5 f5
      go_wp2
      go_roundw
      case rel => exact ⟨i + 1, by omega, by go_num, HO6.out, HC6.out, HB6.out⟩
      case measure => simp [intOf]; omega
    · obtain rfl : i = N := by omega
      have ho := HO.out
      rw [HALL.out] at ho
      have HO2 := Lib.hid ho
      clear ho HO
      obtain ⟨v0, v1, v2⟩ := HC.out
      have hz := (HB.out.block W.heap.size (by have := HSZ.out; omega)).trans HZ.out
      have HZW := Lib.hid hz
      have hgW : g ≠ W.heap.size := by have := HSZ.out; have := HGS.out; omega
      obtain ⟨⟨d0, d1', d2'⟩, q0, q1, q2⟩ := p_cells hz
      clear hz
      go_wp2
      obtain ⟨w9, e9, ⟨r0, r1, r2⟩, hk9, hs9, hbl9⟩ := set3p HZW.out (.int .i64 w) (.int .i64 h) (.slice (some ⟨g, 0, none⟩) i i)
      rw [e9]
      refine bodyPost_ret (v := patV w h (some ⟨g, 0, none⟩) i i) (by simp [results, Tryd.results72, go_sem, r0, r1, r2]) rfl ?_
      refine ⟨g, i, rfl, ⟨own_of_heap' HO2.out fun b hb => hk9 b ?_⟩, hbl9 _ _ (Nat.le_refl _) (HBX.out.trans (HB.out.mono HBX.out.size))⟩
      rw [show b = g from (Option.some.inj hb).symm]
      exact hgW
end Go.Proofs.YtoaooblodgejdaaDoor
namespace Go.Proofs.YtoaooblodgejdaaDoor
open Go.RowKit
set_option linter.unusedVariables false
set_option maxRecDepth 100000

theorem cnw {w : World} {cs : Array Value} {t : TypeId} {g j : Nat} {v : Value} (hg : g = w.heap.size) (h : cs[j]? = some v) : (w.alloc (.cells cs t)).cell? ⟨g, j, none⟩ = some v := by
  subst hg
  have hh : (w.alloc (.cells cs t)).heap[w.heap.size]? = some (.cells cs t) := heap_alloc_new w _
  simp only [World.cell?, hh]
  simpa using h
theorem Chain.othP {w w6 : World} {g : Nat} (hk : ∀ k, k ≠ g → w6.heap[k]? = w.heap[k]?) (hz : ∀ o i x, w.heap[g]? ≠ some (faultObj o i x)) : ∀ {l : List (ByteArray × Int)} {v : Value} {a : Addr}, a.block ≠ g → Chain w v l a → Chain w6 v l a
  | [], v, a, ha, h => by
    obtain ⟨h1, c, t, h2⟩ := h
    exact ⟨h1, c, t, by rw [hk _ ha]; exact h2⟩
  | y :: r, v, a, ha, h => by
    obtain ⟨b, x, h1, h2, h3⟩ := h
    have hb : b ≠ g := fun e => hz _ _ _ (e ▸ h2)
    exact ⟨b, x, h1, by rw [hk b hb]; exact h2, Chain.othP hk hz ha h3⟩
/-- an error stays where a patch is stored -/
theorem EC.othP {R : Nat → Addr} {W w w6 : World} {g : Nat} {v : Value} {f : ErrD} {i : Int} {y z : Value} {t : TypeId} (h : EC R w v f) (hS : Sent W R) (hk : ∀ k, k ≠ g → w6.heap[k]? = w.heap[k]?) (hz : w.heap[g]? = some (.cells #[.int .i64 i, y, z] t)) (hg : W.heap.size ≤ g) : EC R w6 v f := by
  cases f with
  | none => exact h
  | some x =>
    refine Chain.othP hk (fun o i x e => ?_) ?_ h
    · rw [hz] at e
      simp [faultObj] at e
    · obtain ⟨c, t, e⟩ := hS.row (rix x.2) (rix_lt _)
      have := (Array.getElem?_eq_some_iff.1 e).1
      omega
theorem pcheck_ok (w h : Nat) (a : Option Addr) (n c : Nat) (l : List Int) (W : World) (R : Nat → Addr) (hS : Sent W R) (hR : RK .i64 W a n l) (hm : n ≤ maxLen) (hx : I64 l) (hp : IsPatch w h l) :
    Calls Tryd.prog 48 #[patV w h a n c] W fun e w' => e = .returned .nilIface ∧ Below W.heap.size W w' := by
  refine (pcheck_any w h a n c l W R hS hR hm hx).mono ?_
  rintro e w' ⟨ev, rfl, he, _, hb⟩
  unfold patchD at he
  rw [patchErr_of hp] at he
  exact ⟨by rw [show ev = .nilIface from he], hb⟩
theorem pcheck_er (w h : Int) (a : Option Addr) (n c : Nat) (l : List Int) (W : World) (R : Nat → Addr) (hS : Sent W R) (hR : RK .i64 W a n l) (hm : n ≤ maxLen) (hx : I64 l) (x : Int × Int) (hp : patchErr w h l = some x) :
    Calls Tryd.prog 48 #[patV w h a n c] W fun e w' => ∃ g, e = .returned (.iface 124 (.pointer (some ⟨g, 0, none⟩))) ∧ EC R w' (.iface 124 (.pointer (some ⟨g, 0, none⟩))) (some ([(opPatch, x.1)], x.2)) ∧ Below W.heap.size W w' := by
  refine (pcheck_any w h a n c l W R hS hR hm hx).mono ?_
  rintro e w' ⟨ev, rfl, he, hi, hb⟩
  unfold patchD at he
  rw [hp] at he
  rcases hi with rfl | ⟨g, rfl⟩
  · obtain ⟨t, p, e⟩ := Chain.iface he
    cases e
  · exact ⟨g, rfl, he, hb⟩

def withinB (x n m : Int) : Bool := decide (0 ≤ x ∧ 1 ≤ n ∧ n ≤ m ∧ x ≤ m - n)
theorem within_t (x n m : Int) (W : World) (h1 : 0 ≤ x) (h2 : 1 ≤ n) (h3 : n ≤ m) (h4 : x ≤ m - n) (h5 : m ≤ 1000) : Calls Tryd.prog 89 #[.int .i64 x, .int .i64 n, .int .i64 m] W fun e w' => e = .returned (.bool true) ∧ W = w' := by
  go_enter Tryd.func89, Tryd.ntmps89
  go_wp2
  go_ret
  exact ⟨rfl, rfl⟩
theorem within_f (x n m : Int) (W : World) (h5 : m ≤ 1000) (h : withinB x n m = false) : Calls Tryd.prog 89 #[.int .i64 x, .int .i64 n, .int .i64 m] W fun e w' => e = .returned (.bool false) ∧ W = w' := by
  have h := of_decide_eq_false h
  by_cases h1 : x < 0
  · have d1 : decide (0 ≤ x) = false := decide_eq_false (by omega)
    clear h
    go_enter Tryd.func89, Tryd.ntmps89
    go_wp2
    go_ret
    exact ⟨rfl, rfl⟩
  have h1' : 0 ≤ x := by omega
  by_cases h2 : n < 1
  · have d1 : decide (1 ≤ n) = false := decide_eq_false (by omega)
    clear h
    go_enter Tryd.func89, Tryd.ntmps89
    go_wp2
    go_ret
    exact ⟨rfl, rfl⟩
  have h2' : 1 ≤ n := by omega
  by_cases h3 : m < n
  · have d1 : decide (n ≤ m) = false := decide_eq_false (by omega)
    clear h
    go_enter Tryd.func89, Tryd.ntmps89
    go_wp2
    go_ret
    exact ⟨rfl, rfl⟩
  have h3' : n ≤ m := by omega
  have h4 : m - n < x := by omega
  have d1 : decide (x ≤ m - n) = false := decide_eq_false (by omega)
  clear h h1 h2 h3
  go_enter Tryd.func89, Tryd.ntmps89
  go_wp2
  go_ret
  exact ⟨rfl, rfl⟩

set_option maxHeartbeats 4000000 in
theorem cut1 (w h x y p q : Nat) (bp bx b_y : Nat) (a : Option Addr) (n c : Nat) (l : List Int) (W : World) (hp : IsPatch w h l) (hR : RK .i64 W a n l) (h3 : x + p ≤ w) (h4 : y + q ≤ h)
    (c0 : W.cell? ⟨bp, 0, none⟩ = some (.int .i64 w)) (c2 : W.cell? ⟨bp, 2, none⟩ = some (.slice a n c)) (cx : W.cell? ⟨bx, 0, none⟩ = some (.int .i64 x)) (cy : W.cell? ⟨b_y, 0, none⟩ = some (.int .i64 y)) :
    CellOf 91 #[.pointer (some ⟨bp, 0, none⟩), .pointer (some ⟨b_y, 0, none⟩), .pointer (some ⟨bx, 0, none⟩)] p q (fun i j => atL w l (x + i) (y + j)) W := by
  intro W' i j hb hi hj
  have hw2 := hp.w2
  have hh2 := hp.h2
  have hlen := hp.len
  have hnl := hR.len
  have hpl := place_lt (w := w) (h := h) (x := x + i) (y := y + j) (by omega) (by omega)
  obtain ⟨b, o, rfl, hbo, hcell⟩ := (hR.up hb).addr (by omega)
  obtain ⟨P, hP⟩ : ∃ P, (y + j) * w = P := ⟨_, rfl⟩
  rw [hP] at hpl
  have z0 := hcell (P + x + i) (by omega)
  have hat : l.getD (P + x + i) 0 = atL w l (x + i) (y + j) := by unfold atL; rw [hP, Nat.add_assoc]
  obtain ⟨u, hu⟩ : ∃ u, atL w l (x + i) (y + j) = u := ⟨_, rfl⟩
  rw [hat, hu] at z0
  show Calls _ _ _ _ fun e w' => e = .returned (.int .i64 (atL w l (x + i) (y + j))) ∧ _
  rw [hu]
  have y0 := cpa hb c0
  have y2 := cpa hb c2
  have yx := cpa hb cx
  have yy := cpa hb cy
  have hPI : ((y : Int) + (j : Int)) * (w : Int) = (P : Int) := by rw [← hP, Int.natCast_mul, Int.natCast_add]
  have hP4 : P ≤ 5000 := by have := Nat.mul_le_mul hw2 hh2; omega
  have hPw : IntKind.i64.wrap (P : Int) = (P : Int) := IntWalk.i64_in _ (by omega)
  have i1 : (P : Int) + (x : Int) + (i : Int) < (n : Int) := by omega
  have i0 : (0 : Int) ≤ (P : Int) + (x : Int) + (i : Int) := by omega
  have i2 : ((P : Int) + (x : Int) + (i : Int)).toNat = P + x + i := by omega
  have hx64 : x ≤ 64 := by omega
  have hi64 : i ≤ 64 := by omega
  have hy64 : y ≤ 64 := by omega
  have hj64 : j ≤ 64 := by omega
  clear hcell hat hu hP hnl hlen hR hp hpl c0 c2 cx cy
  show Calls _ _ #[.int .i64 i, .int .i64 j, .pointer (some ⟨bp, 0, none⟩), .pointer (some ⟨b_y, 0, none⟩), .pointer (some ⟨bx, 0, none⟩)] _ _
  go_enter Tryd.func91, Tryd.ntmps91
  go_wp2
  go_ret
  exact ⟨rfl, bnil W'⟩

/-- the fault of patch.Cut -/
def cutD (w h : Int) (l : List Int) (x y p q : Int) : ErrD :=
  match patchErr w h l with
  | some e => some ([(opPatch, e.1)], e.2)
  | none => if withinB x p w = false then some ([(opPatch, 1)], 3) else if withinB y q h = false then some ([(opPatch, 2)], 3) else none
/-- no patch, and an error -/
def PatErr (R : Nat → Addr) (x : ErrD) (W : World) (e : Ending) (w' : World) : Prop := ∃ g, e = .returned (.tuple #[patV 0 0 none 0 0, .iface 124 (.pointer (some ⟨g, 0, none⟩))]) ∧ EC R w' (.iface 124 (.pointer (some ⟨g, 0, none⟩))) x ∧ Below W.heap.size W w'

set_option maxHeartbeats 8000000 in
theorem cut_errP (w h x y p q : Int) (a : Option Addr) (n c : Nat) (l : List Int) (W : World) (R : Nat → Addr) (hS : Sent W R) (hR : RK .i64 W a n l) (hm : n ≤ maxLen) (hx : I64 l) (hd : cutD w h l x y p q ≠ none) :
    Calls Tryd.prog 46 #[patV w h a n c, .int .i64 x, .int .i64 y, .int .i64 p, .int .i64 q] W (PatErr R (cutD w h l x y p q) W) := by
  obtain ⟨Wb, hWb⟩ : ∃ Wb, (((W.alloc (.cells #[.int .i64 w, .int .i64 h, .slice a n c] 24)).alloc (.cells #[.int .i64 x] 3)).alloc (.cells #[.int .i64 y] 3)).alloc (.cells #[.int .i64 0, .int .i64 0, .slice none 0 0] 24) = Wb := ⟨_, rfl⟩
  have HX : Hid (Wb.cell? ⟨W.heap.size, 0, none⟩ = some (.int .i64 w) ∧ Wb.cell? ⟨W.heap.size, 1, none⟩ = some (.int .i64 h) ∧ Wb.cell? ⟨W.heap.size, 2, none⟩ = some (.slice a n c) ∧ Wb.cell? ⟨W.heap.size + 1, 0, none⟩ = some (.int .i64 x) ∧ Wb.cell? ⟨W.heap.size + 1 + 1, 0, none⟩ = some (.int .i64 y)) := by rw [← hWb]; exact ⟨al000 (al000 (al000 (cnw rfl rfl))), al000 (al000 (al000 (cnw rfl rfl))), al000 (al000 (al000 (cnw rfl rfl))), al000 (al000 (cnw (by simp) rfl)), al000 (cnw (by simp) rfl)⟩
  have HZ : Hid (Wb.heap[W.heap.size + 1 + 1 + 1]? = some (.cells #[.int .i64 0, .int .i64 0, .slice none 0 0] 24)) := by
    show _ = _
    rw [← hWb]
    have := heap_alloc_new (((W.alloc (.cells #[.int .i64 w, .int .i64 h, .slice a n c] 24)).alloc (.cells #[.int .i64 x] 3)).alloc (.cells #[.int .i64 y] 3)) (.cells #[.int .i64 0, .int .i64 0, .slice none 0 0] 24)
    simpa using this
  have HSZ : Hid (Wb.heap.size = W.heap.size + 4) := by show _ = _; rw [← hWb]; simp
  have HBX : Hid (Below W.heap.size W Wb) := by rw [← hWb]; exact balloc (balloc (balloc (balloc (bnil W) _) _) _) _
  have HSN := Lib.hid (hS.up HBX.out)
  have HS0 := Lib.hid hS
  have HR := Lib.hid (hR.up HBX.out)
  have HI6 := Lib.hid hx
  clear hS hR hx
  have HWB := Lib.hid hWb; clear hWb
  cases he : patchErr w h l with
  | some y0 =>
    have hd2 : cutD w h l x y p q = some ([(opPatch, y0.1)], y0.2) := by unfold cutD; rw [he]
    have HD := Lib.hid hd2
    have HE := Lib.hid he
    clear hd hd2 he
    go_enter Tryd.func46, Tryd.ntmps46
    go_wp2_with fail
    rw [HWB.out]
    refine (pcheck_er w h a n c l _ R HSN.out HR.out hm HI6.out y0 HE.out).mono ?_; rintro e w1 ⟨g, rfl, he1, hb1⟩
    have HC1 := Lib.hid hb1
    have HEC := Lib.hid he1
    clear hb1 he1
    have hz := (HC1.out.block (W.heap.size + 1 + 1 + 1) (by have := HSZ.out; omega)).trans HZ.out
    have HZ8 := Lib.hid hz
    obtain ⟨⟨d0, d1', d2'⟩, q0, q1, q2⟩ := p_cells hz
    clear hz
    go_wp2
    obtain ⟨w9, e9, ⟨r0, r1, r2⟩, hk9, hs9, hbl9⟩ := set3p HZ8.out (.int .i64 0) (.int .i64 0) (.slice none 0 0)
    rw [e9]
    refine bodyPost_ret (v := .tuple #[patV 0 0 none 0 0, .iface 124 (.pointer (some ⟨g, 0, none⟩))]) (by simp [results, Tryd.results46, go_sem, r0, r1, r2]) rfl ?_
    rw [HD.out]
    exact ⟨_, rfl, HEC.out.othP HS0.out hk9 HZ8.out (by omega), hbl9 _ _ (by omega) (HBX.out.trans (HC1.out.mono HBX.out.size))⟩
  | none =>
    obtain ⟨w, h, rfl, rfl, hp⟩ := patchErr_none he
    have hw2 := hp.w2
    have hh2 := hp.h2
    have HPP := Lib.hid hp
    have hdd : cutD (w : Int) (h : Int) l x y p q = if withinB x p (w : Int) = false then some ([(opPatch, 1)], 3) else if withinB y q (h : Int) = false then some ([(opPatch, 2)], 3) else none := by unfold cutD; rw [he]
    have hno := hd
    rw [hdd] at hno
    clear hd he hp
    by_cases h1 : withinB x p (w : Int) = false
    · rw [if_pos h1] at hdd
      have HD := Lib.hid hdd
      have H1 := Lib.hid h1
      clear hdd hno h1
      go_enter Tryd.func46, Tryd.ntmps46
      go_wp2_with fail
      rw [HWB.out]
      refine (pcheck_ok w h a n c l _ R HSN.out HR.out hm HI6.out HPP.out).mono ?_; rintro e w1 ⟨rfl, hb1⟩
      have HC1 := Lib.hid hb1
      have x0 := cpa hb1 HX.out.1
      have xx := cpa hb1 HX.out.2.2.2.1
      have HG1 := Lib.hid (HSN.out.up hb1)
      clear hb1
      go_wp2_with fail
      refine (within_f x p w _ (by omega) H1.out).mono ?_; rintro e w2 ⟨rfl, rfl⟩
      clear x0 xx
      go_wp2_with fail
      refine (patch_wrong _ _ _ R HG1.out.glob rfl).mono ?_; rintro e w2 ⟨rfl, rfl⟩
      have HEC := Lib.hid (ec_err (HG1.out.up (balloc (bnil w1) (faultObj opPatch 1 (.iface 190 (.pointer (some (R (rix 3)))))))) (isErr_new (Nat.le_refl _)))
      have HC2 := Lib.hid (HC1.out.alloc HC1.out.size (faultObj opPatch 1 (.iface 190 (.pointer (some (R (rix 3)))))))
      obtain ⟨wz, hwz⟩ : ∃ wz, w1.alloc (faultObj opPatch 1 (.iface 190 (.pointer (some (R (rix 3)))))) = wz := ⟨_, rfl⟩
      rw [hwz] at HEC HC2 ⊢
      clear hwz
      have hz := (HC2.out.block (W.heap.size + 1 + 1 + 1) (by have := HSZ.out; omega)).trans HZ.out
      have HZ8 := Lib.hid hz
      obtain ⟨⟨d0, d1', d2'⟩, q0, q1, q2⟩ := p_cells hz
      clear hz
      go_wp2
      obtain ⟨w9, e9, ⟨r0, r1, r2⟩, hk9, hs9, hbl9⟩ := set3p HZ8.out (.int .i64 0) (.int .i64 0) (.slice none 0 0)
      rw [e9]
      refine bodyPost_ret (v := .tuple #[patV 0 0 none 0 0, .iface 124 (.pointer (some ⟨w1.heap.size, 0, none⟩))]) (by simp [results, Tryd.results46, go_sem, r0, r1, r2]) rfl ?_
      rw [HD.out]
      exact ⟨_, rfl, HEC.out.othP HS0.out hk9 HZ8.out (by omega), hbl9 _ _ (by omega) (HBX.out.trans (HC2.out.mono HBX.out.size))⟩
    · have h2 : withinB y q (h : Int) = false := by
        rw [if_neg h1] at hno
        cases hq : withinB y q (h : Int) with
        | false => rfl
        | true => rw [hq] at hno; exact absurd (if_neg (by simp)) hno
      rw [if_neg h1, if_pos h2] at hdd
      have HD := Lib.hid hdd
      have h1' := of_decide_eq_true (show withinB x p (w : Int) = true by simpa using h1)
      obtain ⟨k1, k2, k3, k4⟩ := h1'
      have H2 := Lib.hid h2
      clear hdd hno h1 h2
      go_enter Tryd.func46, Tryd.ntmps46
      go_wp2_with fail
      rw [HWB.out]
      refine (pcheck_ok w h a n c l _ R HSN.out HR.out hm HI6.out HPP.out).mono ?_; rintro e w1 ⟨rfl, hb1⟩
      have HC1 := Lib.hid hb1
      have x0 := cpa hb1 HX.out.1
      have x1 := cpa hb1 HX.out.2.1
      have xx := cpa hb1 HX.out.2.2.2.1
      have xy := cpa hb1 HX.out.2.2.2.2
      have HG1 := Lib.hid (HSN.out.up hb1)
      clear hb1
      go_wp2_with fail
      refine (within_t x p w _ k1 k2 k3 k4 (by omega)).mono ?_; rintro e w2 ⟨rfl, rfl⟩
      go_wp2_with fail
      refine (within_f y q h _ (by omega) H2.out).mono ?_; rintro e w2 ⟨rfl, rfl⟩
      clear x0 xx x1 xy
      go_wp2_with fail
      refine (patch_wrong _ _ _ R HG1.out.glob rfl).mono ?_; rintro e w2 ⟨rfl, rfl⟩
      have HEC := Lib.hid (ec_err (HG1.out.up (balloc (bnil w1) (faultObj opPatch 2 (.iface 190 (.pointer (some (R (rix 3)))))))) (isErr_new (Nat.le_refl _)))
      have HC2 := Lib.hid (HC1.out.alloc HC1.out.size (faultObj opPatch 2 (.iface 190 (.pointer (some (R (rix 3)))))))
      obtain ⟨wz, hwz⟩ : ∃ wz, w1.alloc (faultObj opPatch 2 (.iface 190 (.pointer (some (R (rix 3)))))) = wz := ⟨_, rfl⟩
      rw [hwz] at HEC HC2 ⊢
      clear hwz
      have hz := (HC2.out.block (W.heap.size + 1 + 1 + 1) (by have := HSZ.out; omega)).trans HZ.out
      have HZ8 := Lib.hid hz
      obtain ⟨⟨d0, d1', d2'⟩, q0, q1, q2⟩ := p_cells hz
      clear hz
      go_wp2
      obtain ⟨w9, e9, ⟨r0, r1, r2⟩, hk9, hs9, hbl9⟩ := set3p HZ8.out (.int .i64 0) (.int .i64 0) (.slice none 0 0)
      rw [e9]
      refine bodyPost_ret (v := .tuple #[patV 0 0 none 0 0, .iface 124 (.pointer (some ⟨w1.heap.size, 0, none⟩))]) (by simp [results, Tryd.results46, go_sem, r0, r1, r2]) rfl ?_
      rw [HD.out]
      exact ⟨_, rfl, HEC.out.othP HS0.out hk9 HZ8.out (by omega), hbl9 _ _ (by omega) (HBX.out.trans (HC2.out.mono HBX.out.size))⟩

set_option maxHeartbeats 8000000 in
theorem cut_okP (w h x y p q : Nat) (a : Option Addr) (n c : Nat) (l : List Int) (W : World) (R : Nat → Addr) (hS : Sent W R) (hR : RK .i64 W a n l) (hm : n ≤ maxLen) (hx : I64 l) (hp : IsPatch w h l) (p1 : 1 ≤ p) (q1 : 1 ≤ q) (h3 : x + p ≤ w) (h4 : y + q ≤ h) :
    Calls Tryd.prog 46 #[patV w h a n c, .int .i64 x, .int .i64 y, .int .i64 p, .int .i64 q] W fun e w' => ∃ g c', e = .returned (.tuple #[patV p q (some ⟨g, 0, none⟩) (p * q) c', .nilIface]) ∧ OwI w' W.heap.size (some ⟨g, 0, none⟩) (p * q) c' (cutL w l x y p q) ∧ Below W.heap.size W w' := by
  have hw2 := hp.w2
  have hh2 := hp.h2
  obtain ⟨Wb, hWb⟩ : ∃ Wb, (((W.alloc (.cells #[.int .i64 w, .int .i64 h, .slice a n c] 24)).alloc (.cells #[.int .i64 x] 3)).alloc (.cells #[.int .i64 y] 3)).alloc (.cells #[.int .i64 0, .int .i64 0, .slice none 0 0] 24) = Wb := ⟨_, rfl⟩
  have HX : Hid (Wb.cell? ⟨W.heap.size, 0, none⟩ = some (.int .i64 w) ∧ Wb.cell? ⟨W.heap.size, 1, none⟩ = some (.int .i64 h) ∧ Wb.cell? ⟨W.heap.size, 2, none⟩ = some (.slice a n c) ∧ Wb.cell? ⟨W.heap.size + 1, 0, none⟩ = some (.int .i64 x) ∧ Wb.cell? ⟨W.heap.size + 1 + 1, 0, none⟩ = some (.int .i64 y)) := by rw [← hWb]; exact ⟨al000 (al000 (al000 (cnw rfl rfl))), al000 (al000 (al000 (cnw rfl rfl))), al000 (al000 (al000 (cnw rfl rfl))), al000 (al000 (cnw (by simp) rfl)), al000 (cnw (by simp) rfl)⟩
  have HZ : Hid (Wb.heap[W.heap.size + 1 + 1 + 1]? = some (.cells #[.int .i64 0, .int .i64 0, .slice none 0 0] 24)) := by
    show _ = _
    rw [← hWb]
    have := heap_alloc_new (((W.alloc (.cells #[.int .i64 w, .int .i64 h, .slice a n c] 24)).alloc (.cells #[.int .i64 x] 3)).alloc (.cells #[.int .i64 y] 3)) (.cells #[.int .i64 0, .int .i64 0, .slice none 0 0] 24)
    simpa using this
  have HSZ : Hid (Wb.heap.size = W.heap.size + 4) := by show _ = _; rw [← hWb]; simp
  have HBX : Hid (Below W.heap.size W Wb) := by rw [← hWb]; exact balloc (balloc (balloc (balloc (bnil W) _) _) _) _
  have HSN := Lib.hid (hS.up HBX.out)
  have HS0 := Lib.hid hS
  have HR := Lib.hid (hR.up HBX.out)
  have HI6 := Lib.hid hx
  clear hS hR hx
  have HWB := Lib.hid hWb; clear hWb
  have HPP := Lib.hid hp
  clear hp
  have hmf : ∀ (fn : Fn) (first cap : Array Value) (w : World), (Instr.makeFunc fn first cap).run Tryd.prog w = .ok (.func fn first cap) w := fun _ _ _ _ => rfl
  go_enter Tryd.func46, Tryd.ntmps46
  go_wp2_with fail
  rw [HWB.out]
  refine (pcheck_ok w h a n c l _ R HSN.out HR.out hm HI6.out HPP.out).mono ?_; rintro e w1 ⟨rfl, hb1⟩
  have HC1 := Lib.hid hb1
  have x0 := cpa hb1 HX.out.1
  have x1 := cpa hb1 HX.out.2.1
  have x2 := cpa hb1 HX.out.2.2.1
  have xx := cpa hb1 HX.out.2.2.2.1
  have xy := cpa hb1 HX.out.2.2.2.2
  have HR1 := Lib.hid (HR.out.up hb1)
  clear hb1
  have k1 : (0 : Int) ≤ (x : Int) := by omega
  have k2 : (1 : Int) ≤ (p : Int) := by omega
  have k3 : (p : Int) ≤ (w : Int) := by omega
  have k4 : (x : Int) ≤ (w : Int) - (p : Int) := by omega
  have k5 : (0 : Int) ≤ (y : Int) := by omega
  have k6 : (1 : Int) ≤ (q : Int) := by omega
  have k7 : (q : Int) ≤ (h : Int) := by omega
  have k8 : (y : Int) ≤ (h : Int) - (q : Int) := by omega
  go_wp2_with fail
  refine (within_t x p w _ k1 k2 k3 k4 (by omega)).mono ?_; rintro e w2 ⟨rfl, rfl⟩
  go_wp2_with fail
  refine (within_t y q h _ k5 k6 k7 k8 (by omega)).mono ?_; rintro e w2 ⟨rfl, rfl⟩
  have HCO := Lib.hid (cut1 w h x y p q W.heap.size (W.heap.size + 1) (W.heap.size + 1 + 1) a n c l w1 HPP.out HR1.out h3 h4 x0 x2 xx xy)
  clear k1 k2 k3 k4 k5 k6 k7 k8 x0 x1 x2 xx xy
  go_wp2_with fail
  refine (made_any p q 91 _ _ _ p1 (by omega) q1 (by omega) (enters_of Tryd.func91 (by kernel_rfl) rfl) HCO.out).mono ?_; rintro e w2 ⟨g, c2, rfl, ho2, hb2⟩
  have HC2 := Lib.hid (bstep HC1.out hb2)
  have hl1 := HC1.out.size
  have HL1 := Lib.hid hl1
  have HO2 := Lib.hid ho2
  clear ho2 hb2 hl1
  have hz := (HC2.out.block (W.heap.size + 1 + 1 + 1) (by have := HSZ.out; omega)).trans HZ.out
  have HZ8 := Lib.hid hz
  obtain ⟨⟨d0, d1', d2'⟩, q0, q1', q2⟩ := p_cells hz
  clear hz
  go_wp2
  obtain ⟨w9, e9, ⟨r0, r1, r2⟩, hk9, hs9, hbl9⟩ := set3p HZ8.out (.int .i64 p) (.int .i64 q) (.slice (some ⟨g, 0, none⟩) (p * q) c2)
  rw [e9]
  refine bodyPost_ret (v := .tuple #[patV p q (some ⟨g, 0, none⟩) (p * q) c2, .nilIface]) (by simp [results, Tryd.results46, go_sem, r0, r1, r2]) rfl ?_
  have hl1 := HL1.out
  have hsz := HSZ.out
  refine ⟨g, c2, rfl, ?_, hbl9 _ _ (by omega) (HBX.out.trans (HC2.out.mono HBX.out.size))⟩
  exact OwI.base (b' := W.heap.size) ⟨own_of_heap' HO2.out.own fun b hb => hk9 b (by have := (HO2.out.own.lt b hb).1; omega)⟩ (by omega)
theorem set3_cellP {w : World} {a : Addr} {v u0 u1 u2 : Value} {g : Nat} (h : w.cell? a = some v) (hne : a.block ≠ g) : (((w.setCell ⟨g, 0, none⟩ u0).setCell ⟨g, 1, none⟩ u1).setCell ⟨g, 2, none⟩ u2).cell? a = some v := by
  rw [World.cell?_of_block (w := w)]
  · exact h
  · rw [Below.heap_setCell _ _ _ _ hne, Below.heap_setCell _ _ _ _ hne, Below.heap_setCell _ _ _ _ hne]
end Go.Proofs.YtoaooblodgejdaaDoor
namespace Go.Proofs.YtoaooblodgejdaaDoor
set_option linter.unusedVariables false

def cellN (w : Nat) (l : List Int) (x y : Nat) : Nat := (atL w l x y).toNat
/-- a column's number: its first k lines -/
def colV (w : Nat) (l : List Int) (x : Nat) : Nat → Nat
  | 0 => 0
  | y + 1 => colV w l x y + cellN w l x y * 2 ^ y
theorem cellN_le {w h : Nat} {l : List Int} (hp : IsPatch w h l) {x y : Nat} (hx : x < w) (hy : y < h) : cellN w l x y ≤ 1 ∧ (cellN w l x y : Int) = atL w l x y := by
  have := atL_sym hp hx hy
  unfold cellN
  omega
theorem colV_lt {w h : Nat} {l : List Int} (hp : IsPatch w h l) {x : Nat} (hx : x < w) : ∀ k, k ≤ h → colV w l x k < 2 ^ k
  | 0, _ => Nat.one_pos
  | k + 1, hk => by
    have h1 := colV_lt hp hx k (by omega)
    have h2 := (cellN_le hp hx (show k < h by omega)).1
    have h3 : cellN w l x k * 2 ^ k ≤ 1 * 2 ^ k := Nat.mul_le_mul_right _ h2
    rw [colV, Nat.pow_succ]
    omega
def colL (w h : Nat) (l : List Int) : List Int := (List.range w).map fun x => (colV w l x h : Int)
theorem colL_len (w h : Nat) (l : List Int) : (colL w h l).length = w := by simp [colL]
/-- the columns as far as i cells have been told -/
def parL (w : Nat) (l : List Int) (i : Nat) : List Int := (List.range w).map fun x => (colV w l x (i / w + if x < i % w then 1 else 0) : Int)
theorem parL_len (w : Nat) (l : List Int) (i : Nat) : (parL w l i).length = w := by simp [parL]
theorem parL_zero (w : Nat) (l : List Int) : parL w l 0 = List.replicate w 0 := by
  apply List.ext_getElem
  · simp [parL]
  · intro x h1 h2
    simp [parL, colV]
theorem parL_all {w h : Nat} {l : List Int} (hw : 0 < w) : parL w l (w * h) = colL w h l := by
  unfold parL colL
  apply List.map_congr_left
  intro x _
  rw [Nat.mul_div_cancel_left _ hw, Nat.mul_mod_right]
  simp
theorem parL_getD {w : Nat} {l : List Int} {i : Nat} (hw : 0 < w) : (parL w l i)[i % w]? = some (colV w l (i % w) (i / w) : Int) := by
  have := Nat.mod_lt i hw
  simp [parL, this]
theorem succ_div {w i : Nat} (hw : 0 < w) : (i % w + 1 < w ∧ (i + 1) / w = i / w ∧ (i + 1) % w = i % w + 1) ∨ (i % w + 1 = w ∧ (i + 1) / w = i / w + 1 ∧ (i + 1) % w = 0) := by
  have hx := Nat.mod_lt i hw
  have e := Nat.div_add_mod i w
  by_cases h : i % w + 1 < w
  · refine .inl ⟨h, ?_, ?_⟩
    · rw [show i + 1 = w * (i / w) + (i % w + 1) by omega, Nat.mul_add_div hw, Nat.div_eq_of_lt h, Nat.add_zero]
    · rw [show i + 1 = w * (i / w) + (i % w + 1) by omega, Nat.mul_add_mod, Nat.mod_eq_of_lt h]
  · have e2 : i + 1 = w * (i / w + 1) := by rw [Nat.mul_add, Nat.mul_one]; omega
    refine .inr ⟨by omega, ?_, ?_⟩
    · rw [e2, Nat.mul_div_cancel_left _ hw]
    · rw [e2, Nat.mul_mod_right]
theorem parL_set {w : Nat} {l : List Int} {i : Nat} (hw : 0 < w) : (parL w l i).set (i % w) ((colV w l (i % w) (i / w) + cellN w l (i % w) (i / w) * 2 ^ (i / w) : Nat) : Int) = parL w l (i + 1) := by
  have hX := Nat.mod_lt i hw
  apply List.ext_getElem
  · simp [parL]
  · intro x h1 h2
    rw [parL_len] at h2
    rw [List.getElem_set]
    simp only [parL, List.getElem_map, List.getElem_range]
    rcases succ_div (i := i) hw with ⟨c, e1, e2⟩ | ⟨c, e1, e2⟩
    · rw [e1, e2]
      split
      · rename_i e
        subst e
        rw [if_pos (by omega)]
        rfl
      · by_cases hxx : x < i % w
        · rw [if_pos hxx, if_pos (show x < i % w + 1 by omega)]
        · rw [if_neg hxx, if_neg (show ¬ x < i % w + 1 by omega)]
    · rw [e1, e2]
      split
      · rename_i e
        subst e
        rfl
      · rw [if_pos (by omega), if_neg (by omega), Nat.add_zero]
end Go.Proofs.YtoaooblodgejdaaDoor
namespace Go.Proofs.YtoaooblodgejdaaDoor
set_option linter.unusedVariables false

/-- one turn behind another -/
def bothT (S T : Nat) : Nat := (if 4 ≤ S then (S + 8 - T) % 4 else (S + T) % 4) + (if decide (4 ≤ S) = decide (4 ≤ T) then 0 else 4)
theorem lt8 {S : Nat} (h : S < 8) : S = 0 ∨ S = 1 ∨ S = 2 ∨ S = 3 ∨ S = 4 ∨ S = 5 ∨ S = 6 ∨ S = 7 := by omega
theorem atL_congr {w : Nat} {l : List Int} {x y x' y' : Nat} (h1 : x = x') (h2 : y = y') : atL w l x y = atL w l x' y' := by rw [h1, h2]
set_option maxHeartbeats 4000000 in
theorem turn_turn {w h S T : Nat} {l : List Int} (hw : 1 ≤ w) (hh : 1 ≤ h) (hS : S < 8) (hT : T < 8) :
    turnW (turnW w h S) (turnW h w S) T = turnW w h (bothT S T) ∧ turnW (turnW h w S) (turnW w h S) T = turnW h w (bothT S T) ∧ turnL (turnW w h S) (turnW h w S) (turnL w h l S) T = turnL w h l (bothT S T) := by
  have hc : turnW (turnW w h S) (turnW h w S) T = turnW w h (bothT S T) ∧ turnW (turnW h w S) (turnW w h S) T = turnW h w (bothT S T) := by
    rcases lt8 hS with rfl | rfl | rfl | rfl | rfl | rfl | rfl | rfl <;> rcases lt8 hT with rfl | rfl | rfl | rfl | rfl | rfl | rfl | rfl <;> exact ⟨rfl, rfl⟩
  refine ⟨hc.1, hc.2, ?_⟩
  unfold turnL
  rw [hc.1, hc.2]
  refine madeL_congr (by unfold turnW; split <;> omega) fun x y hx hy => ?_
  clear hc
  rcases lt8 hS with rfl | rfl | rfl | rfl | rfl | rfl | rfl | rfl <;> rcases lt8 hT with rfl | rfl | rfl | rfl | rfl | rfl | rfl | rfl <;>
    (simp [turnF, turnW, bothT] at hx hy ⊢; rw [atL_made (by omega) (by omega)]; try simp [turnF, turnW]; try exact atL_congr (by omega) (by omega))

/-! ### sums -/
def sumR (n : Nat) (f : Nat → Int) : Int := ((List.range n).map f).sum
theorem sumR_zero (f : Nat → Int) : sumR 0 f = 0 := rfl
theorem sumR_succ (n : Nat) (f : Nat → Int) : sumR (n + 1) f = sumR n f + f n := by simp [sumR, List.range_succ]
theorem sumR_congr {n : Nat} {f g : Nat → Int} (h : ∀ i, i < n → f i = g i) : sumR n f = sumR n g := by
  unfold sumR
  rw [List.map_congr_left fun i hi => h i (List.mem_range.1 hi)]
theorem sumR_add (n : Nat) (f g : Nat → Int) : sumR n (fun i => f i + g i) = sumR n f + sumR n g := by
  induction n with
  | zero => rfl
  | succ n ih => rw [sumR_succ, sumR_succ, sumR_succ, ih]; omega
theorem sumR_const0 (n : Nat) : sumR n (fun _ => 0) = 0 := by
  induction n with
  | zero => rfl
  | succ n ih => rw [sumR_succ, ih]; rfl
theorem sumR_swap (n m : Nat) (f : Nat → Nat → Int) : sumR n (fun i => sumR m (fun j => f i j)) = sumR m (fun j => sumR n (fun i => f i j)) := by
  induction n with
  | zero => exact (sumR_const0 m).symm
  | succ n ih =>
    rw [sumR_succ, ih, ← sumR_add]
    exact sumR_congr fun j _ => (sumR_succ n _).symm
theorem sumR_front (n : Nat) (f : Nat → Int) : sumR (n + 1) f = f 0 + sumR n (fun i => f (i + 1)) := by
  induction n with
  | zero => simp [sumR]
  | succ n ih => rw [sumR_succ, ih, sumR_succ]; omega
theorem sumR_flip (n : Nat) (f : Nat → Int) : sumR n (fun i => f (n - 1 - i)) = sumR n f := by
  induction n generalizing f with
  | zero => rfl
  | succ n ih =>
    rw [sumR_front n f, sumR_succ]
    have h1 : sumR n (fun i => f (n + 1 - 1 - i)) = sumR n (fun i => f (i + 1)) := by
      rw [← ih fun i => f (i + 1)]
      exact sumR_congr fun i hi => by rw [show n + 1 - 1 - i = n - 1 - i + 1 by omega]
    rw [h1, show n + 1 - 1 - n = 0 by omega]
    omega
theorem sumR_rows (w h : Nat) (hw : 0 < w) (f : Nat → Nat → Int) : sumR (w * h) (fun i => f (i % w) (i / w)) = sumR h (fun y => sumR w (fun x => f x y)) := by
  induction h with
  | zero => rfl
  | succ h ih =>
    rw [sumR_succ, ← ih, Nat.mul_succ]
    have key : ∀ k, k ≤ w → sumR (w * h + k) (fun i => f (i % w) (i / w)) = sumR (w * h) (fun i => f (i % w) (i / w)) + sumR k (fun x => f x h) := by
      intro k
      induction k with
      | zero => intro _; simp [sumR_zero]
      | succ k ihk =>
        intro hk
        rw [← Nat.add_assoc, sumR_succ, ihk (by omega), sumR_succ]
        have e1 : (w * h + k) % w = k := by rw [Nat.mul_add_mod, Nat.mod_eq_of_lt (by omega)]
        have e2 : (w * h + k) / w = h := by rw [Nat.mul_add_div hw, Nat.div_eq_of_lt (by omega)]; omega
        rw [e1, e2]
        omega
    exact key w (Nat.le_refl _)
theorem madeL_sum {w h : Nat} (hw : 0 < w) (f : Nat → Nat → Int) : (madeL w h f).sum = sumR h (fun y => sumR w (fun x => f x y)) := (sumR_rows w h hw f)
theorem turn_sum {w h S : Nat} {l : List Int} (hp : IsPatch w h l) (hS : S < 8) : (turnL w h l S).sum = l.sum := by
  have hw := hp.w1
  have hh := hp.h1
  have e0 : l.sum = sumR h (fun y => sumR w (fun x => atL w l x y)) := by rw [← madeL_sum (by omega), made_atL (by omega) hp.len]
  unfold turnL
  rw [madeL_sum (by unfold turnW; split <;> omega), e0]
  rcases lt8 hS with rfl | rfl | rfl | rfl | rfl | rfl | rfl | rfl
  · rfl
  · show sumR w (fun y => sumR h (fun x => atL w l y (h - 1 - x))) = _
    rw [sumR_swap w h, sumR_flip h fun x => sumR w fun i => atL w l i x]
  · show sumR h (fun y => sumR w (fun x => atL w l (w - 1 - x) (h - 1 - y))) = _
    rw [sumR_flip h fun y => sumR w (fun x => atL w l (w - 1 - x) y)]
    exact sumR_congr fun y _ => sumR_flip w fun x => atL w l x y
  · show sumR w (fun y => sumR h (fun x => atL w l (w - 1 - y) x)) = _
    rw [sumR_swap w h]
    exact sumR_congr fun y _ => sumR_flip w fun x => atL w l x y
  · show sumR h (fun y => sumR w (fun x => atL w l (w - 1 - x) y)) = _
    exact sumR_congr fun y _ => sumR_flip w fun x => atL w l x y
  · show sumR w (fun y => sumR h (fun x => atL w l y (h - 1 - (h - 1 - x)))) = _
    rw [sumR_swap w h]
    refine sumR_congr fun y hy => sumR_congr fun x _ => ?_
    rw [show h - 1 - (h - 1 - y) = y by omega]
  · show sumR h (fun y => sumR w (fun x => atL w l (w - 1 - (w - 1 - x)) (h - 1 - y))) = _
    rw [sumR_flip h fun y => sumR w (fun x => atL w l (w - 1 - (w - 1 - x)) y)]
    refine sumR_congr fun y _ => sumR_congr fun x hx => ?_
    rw [show w - 1 - (w - 1 - x) = x by omega]
  · show sumR w (fun y => sumR h (fun x => atL w l (w - 1 - y) (h - 1 - x))) = _
    rw [sumR_swap w h, sumR_flip h fun x => sumR w fun i => atL w l (w - 1 - i) x]
    exact sumR_congr fun y _ => sumR_flip w fun x => atL w l x y
end Go.Proofs.YtoaooblodgejdaaDoor
namespace Go.Proofs.YtoaooblodgejdaaDoor
open Go.RowKit
set_option linter.unusedVariables false
instance monoSent {R : Nat → Addr} : Mono (fun w => Sent w R) := ⟨⟨fun hb h => h.up hb⟩⟩
instance monoEnv {R : Nat → Addr} : Mono (fun w => Env w R) := ⟨⟨fun hb h => h.up hb⟩⟩
instance monoRK {k : IntKind} {a : Option Addr} {n : Nat} {l : List Int} : Mono (fun w => RK k w a n l) := ⟨⟨fun hb h => h.up hb⟩⟩
instance monoOwI {B : Nat} {a : Option Addr} {n c : Nat} {l : List Int} : Mono (fun w => OwI w B a n c l) := ⟨⟨fun hb h => h.up hb⟩⟩
instance monoSlI {a : Option Addr} {n c : Nat} {l : List Int} : Mono (fun w => SlI w a n c l) := ⟨⟨fun hb h => h.up hb⟩⟩
instance monoEC {R : Nat → Addr} {v : Value} {f : ErrD} : Mono (fun w => EC R w v f) := ⟨⟨fun hb h => h.up hb⟩⟩
instance monoWC {v : Value} {f : ErrD} : Mono (fun w => WC w v f) := ⟨⟨fun hb h => h.up hb⟩⟩
end Go.Proofs.YtoaooblodgejdaaDoor
namespace Go.Proofs.YtoaooblodgejdaaDoor
open Go.RowKit
instance monoLentM {g n : Nat} {l : List Int} : Mono (fun w => LentM w g n l) := ⟨⟨fun hb h => h.up hb⟩⟩
end Go.Proofs.YtoaooblodgejdaaDoor
namespace Go.Proofs.YtoaooblodgejdaaDoor
open Go.RowKit
set_option linter.unusedVariables false
set_option maxRecDepth 100000

def colD (w h : Int) (l : List Int) : ErrD :=
  match patchErr w h l with
  | some e => some ([(opPatch, e.1)], e.2)
  | none => if 16 < h then some ([(opPatch, 2)], 4) else none
def colO (w h : Int) (l : List Int) : List Int := if colD w h l = none then colL w.toNat h.toNat l else []
/-- a list and an error -/
def IntsErr (R : Nat → Addr) (W : World) (o : List Int) (x : ErrD) (e : Ending) (w' : World) : Prop := ∃ a n c ev, e = .returned (.tuple #[.slice a n c, ev]) ∧ OwI w' W.heap.size a n c o ∧ EC R w' ev x ∧ Below W.heap.size W w'
theorem map_set_i {l : List Int} {j : Nat} {v : Int} : (l.map (Value.int .i64)).set j (.int .i64 v) = (l.set j v).map (Value.int .i64) := (List.map_set).symm

set_option maxHeartbeats 8000000 in
theorem columns_any (w h : Int) (a : Option Addr) (n c : Nat) (l : List Int) (W : World) (R : Nat → Addr) (hS : Sent W R) (hR : RK .i64 W a n l) (hm : n ≤ maxLen) (hx : I64 l) :
    Calls Tryd.prog 57 #[patV w h a n c] W (IntsErr R W (colO w h l) (colD w h l)) := by
  have T0 := Tk.nil W
  have T1 := T0.add (fun wv => Below W.heap.size W wv) (bnil W)
  clear T0
  have T2 := T1.add (fun wv => Sent wv R) (hS)
  clear T1
  have T3 := T2.add (fun wv => RK .i64 wv a n l) (hR)
  clear T2
  have HI6 := Lib.hid hx
  have hmx : n ≤ 9223372036854775807 := hm
  clear hS hR hx
  obtain ⟨Wb, hWb⟩ : ∃ Wb, W.alloc (.cells #[.int .i64 w, .int .i64 h, .slice a n c] 24) = Wb := ⟨_, rfl⟩
  have hbWb : Below W.heap.size W Wb := by rw [← hWb]; exact balloc (bnil W) _
  have T4 := T3.up hbWb
  clear T3
  have T5 := T4.add (fun wv => wv.cell? ⟨W.heap.size, 0, none⟩ = some (.int .i64 w) ∧ wv.cell? ⟨W.heap.size, 1, none⟩ = some (.int .i64 h) ∧ wv.cell? ⟨W.heap.size, 2, none⟩ = some (.slice a n c)) (by rw [← hWb]; exact ⟨cnw (by simp) rfl, cnw (by simp) rfl, cnw (by simp) rfl⟩)
  clear T4
  have HWb := Lib.hid hWb
  clear hWb hbWb
  cases he : patchErr w h l with
  | some y0 =>
    have hd : colD w h l = some ([(opPatch, y0.1)], y0.2) := by unfold colD; rw [he]
    have ho : colO w h l = [] := by unfold colO; rw [hd]; rfl
    rw [hd, ho]
    have HE := Lib.hid he
    clear he hd ho
    go_enter Tryd.func57, Tryd.ntmps57
    have v_p0 : (W.alloc (.cells #[.int .i64 w, .int .i64 h, .slice a n c] 24)).cell? ⟨W.heap.size, 0, none⟩ = some (.int .i64 w) := by rw [HWb.out]; exact T5.out.2.1
    have v_p1 : (W.alloc (.cells #[.int .i64 w, .int .i64 h, .slice a n c] 24)).cell? ⟨W.heap.size, 1, none⟩ = some (.int .i64 h) := by rw [HWb.out]; exact T5.out.2.2.1
    have v_p2 : (W.alloc (.cells #[.int .i64 w, .int .i64 h, .slice a n c] 24)).cell? ⟨W.heap.size, 2, none⟩ = some (.slice a n c) := by rw [HWb.out]; exact T5.out.2.2.2
    go_wp2_with fail
    rw [HWb.out]
    refine (pcheck_er w h a n c l Wb R T5.out.1.1.2 T5.out.1.2 hm HI6.out y0 HE.out).mono ?_; rintro e w1 ⟨g, rfl, he1, hbw1⟩
    clear v_p0 v_p1 v_p2
    have T6 := T5.up hbw1
    clear T5
    have HEC := Lib.hid he1
    clear he1
    go_wp2
    go_ret2
    exact ⟨none, 0, 0, _, rfl, OwI.nil _ _, HEC.out, T6.out.1.1.1.2⟩
  | none =>
    obtain ⟨w, h, rfl, rfl, hp⟩ := patchErr_none he
    have hw1 := hp.w1
    have hw2 := hp.w2
    have hh1 := hp.h1
    have hh2 := hp.h2
    have HPP := Lib.hid hp
    by_cases h16 : 16 < h
    · skip
      have hd : colD (w : Int) (h : Int) l = some ([(opPatch, 2)], 4) := by unfold colD; rw [he]; exact if_pos (by omega)
      have ho : colO (w : Int) (h : Int) l = [] := by unfold colO; rw [hd]; rfl
      rw [hd, ho]
      have hI : (16 : Int) < (h : Int) := by omega
      clear he hd ho hp
      go_enter Tryd.func57, Tryd.ntmps57
      have v_p0 : (W.alloc (.cells #[.int .i64 w, .int .i64 h, .slice a n c] 24)).cell? ⟨W.heap.size, 0, none⟩ = some (.int .i64 w) := by rw [HWb.out]; exact T5.out.2.1
      have v_p1 : (W.alloc (.cells #[.int .i64 w, .int .i64 h, .slice a n c] 24)).cell? ⟨W.heap.size, 1, none⟩ = some (.int .i64 h) := by rw [HWb.out]; exact T5.out.2.2.1
      have v_p2 : (W.alloc (.cells #[.int .i64 w, .int .i64 h, .slice a n c] 24)).cell? ⟨W.heap.size, 2, none⟩ = some (.slice a n c) := by rw [HWb.out]; exact T5.out.2.2.2
      go_wp2_with fail
      rw [HWb.out]
      refine (pcheck_ok w h a n c l Wb R T5.out.1.1.2 T5.out.1.2 hm HI6.out HPP.out).mono ?_; rintro e w1 ⟨rfl, hbw1⟩
      clear v_p0 v_p1 v_p2
      have T6 := T5.up hbw1
      clear T5
      have v_p1 : w1.cell? ⟨W.heap.size, 1, none⟩ = some (.int .i64 h) := T6.out.2.2.1
      go_wp2_with fail
      refine (patch_wrong _ _ _ R (T6.out.1.1.2).glob rfl).mono ?_; rintro e w2 ⟨rfl, rfl⟩
      clear v_p1
      have HEC := Lib.hid (ec_err ((T6.out.1.1.2).up (balloc (bnil w1) (faultObj opPatch 2 (.iface 190 (.pointer (some (R (rix 4)))))))) (isErr_new (Nat.le_refl _)))
      go_wp2
      go_ret2
      exact ⟨none, 0, 0, _, rfl, OwI.nil _ _, HEC.out, balloc (T6.out.1.1.1.2) _⟩
    · skip
      have hd : colD (w : Int) (h : Int) l = none := by unfold colD; rw [he]; exact if_neg (by omega)
      have ho : colO (w : Int) (h : Int) l = colL w h l := by unfold colO; rw [hd]; rfl
      rw [hd, ho]
      have hI : (h : Int) ≤ 16 := by omega
      have hnl := (T5.out.1.2).len
      rw [hp.len] at hnl
      have HNL := Lib.hid hnl
      have hn4 : n ≤ 4096 := by rw [hnl]; exact Nat.mul_le_mul hw2 hh2
      have hall : parL w l n = colL w h l := by rw [hnl]; exact parL_all (by omega)
      have HALL := Lib.hid hall
      clear he hd ho hp hnl hall
      go_enter Tryd.func57, Tryd.ntmps57
      have v_p0 : (W.alloc (.cells #[.int .i64 w, .int .i64 h, .slice a n c] 24)).cell? ⟨W.heap.size, 0, none⟩ = some (.int .i64 w) := by rw [HWb.out]; exact T5.out.2.1
      have v_p1 : (W.alloc (.cells #[.int .i64 w, .int .i64 h, .slice a n c] 24)).cell? ⟨W.heap.size, 1, none⟩ = some (.int .i64 h) := by rw [HWb.out]; exact T5.out.2.2.1
      have v_p2 : (W.alloc (.cells #[.int .i64 w, .int .i64 h, .slice a n c] 24)).cell? ⟨W.heap.size, 2, none⟩ = some (.slice a n c) := by rw [HWb.out]; exact T5.out.2.2.2
      go_wp2_with fail
      rw [HWb.out]
      refine (pcheck_ok w h a n c l Wb R T5.out.1.1.2 T5.out.1.2 hm HI6.out HPP.out).mono ?_; rintro e w1 ⟨rfl, hbw1⟩
      clear v_p0 v_p1 v_p2
      have T6 := T5.up hbw1
      clear T5
      have HLE : Hid (W.heap.size ≤ w1.heap.size) := (T6.out.1.1.1.2).size
      have v_p0 : w1.cell? ⟨W.heap.size, 0, none⟩ = some (.int .i64 w) := T6.out.2.1
      have v_p1 : w1.cell? ⟨W.heap.size, 1, none⟩ = some (.int .i64 h) := T6.out.2.2.1
      have v_p2 : w1.cell? ⟨W.heap.size, 2, none⟩ = some (.slice a n c) := T6.out.2.2.2
      go_wp2_with (first
        | (at_make; refine mk_full rfl _ _ _ rfl w1.heap.size et_int .i64 .i64 _ _ w rfl rfl rfl rfl (by omega) (by unfold maxLen; omega) (Nat.le_refl _) ?_; intro w2 hown hb2 hsz2; rw [made_i64p] at hown; have q2 := cpa hb2 v_p2))
      obtain ⟨g, hg⟩ : ∃ g, w1.heap.size = g := ⟨_, rfl⟩
      rw [hg] at hown
      rw [hg]
      rw [← parL_zero w l] at hown
      have HO2 := Lib.hid hown
      have HG := Lib.hid hg
      have HB2 := Lib.hid hb2
      clear hown hg hb2 q2
      clear v_p0 v_p1 v_p2
      go_loopw [23] (fun ix wr => ∃ i : Nat, i ≤ n ∧ ix = .int .i64 i ∧ wr.ownsRow g 3 1 (.slice (some ⟨g, 0, none⟩) w w) w ((parL w l i).map (Value.int .i64)) ∧ Below w1.heap.size w1 wr) (fun ix _ => n - (intOf ix).toNat)
      case atStart => exact ⟨0, by omega, rfl, HO2.out, HB2.out⟩
      case round =>
        obtain ⟨i, hi, rfl, ho, hbr⟩ := hrel
        have HO := Lib.hid ho
        have HBR := Lib.hid hbr
        clear ho
        have T7 := T6.up hbr
        clear T6
        clear hbr
        by_cases hin : i < n
        · skip
          obtain ⟨ab, ao, hab0, hab, hcell⟩ := (T7.out.1.2).addr (by omega)
          subst hab0
          obtain ⟨X, hX⟩ : ∃ X, i % w = X := ⟨_, rfl⟩
          obtain ⟨Y, hY⟩ : ∃ Y, i / w = Y := ⟨_, rfl⟩
          have hXw : X < w := by rw [← hX]; exact Nat.mod_lt _ (by omega)
          have hYh : Y < h := by rw [← hY]; exact div_lt_of (by omega) (by rw [← HNL.out]; exact hin)
          have z0 := hcell i hin
          have hat : l.getD i 0 = (cellN w l X Y : Int) := by rw [(cellN_le HPP.out hXw hYh).2, atL, ← hX, ← hY, Nat.mul_comm, Nat.div_add_mod]
          rw [hat] at z0
          have hu1 := (cellN_le HPP.out hXw hYh).1
          have hcv := colV_lt HPP.out hXw Y (by omega)
          have hset := parL_set (w := w) (l := l) (i := i) (by omega)
          have hget := parL_getD (w := w) (l := l) (i := i) (by omega)
          rw [hX, hY] at hset hget
          have hget1 : wr.cell? ⟨g, X, none⟩ = some (.int .i64 (colV w l X Y : Int)) := by
            rw [HO.out.cellAt X (by omega), List.getElem?_map, hget]
            rfl
          have f0 := HO.out.frozenAt X
          generalize hU : cellN w l X Y = U at z0 hu1 hset hat
          generalize hV : colV w l X Y = V at hcv hset hget1
          have hpow : 2 ^ Y ≤ 65536 := by
            have := Nat.pow_le_pow_right (n := 2) (by omega) (show Y ≤ 16 by omega)
            omega
          obtain ⟨Sh, hSh⟩ : ∃ Sh, U * 2 ^ Y = Sh := ⟨_, rfl⟩
          have hSh2 : Sh ≤ 65536 := by
            rw [← hSh]
            have := Nat.mul_le_mul_right (2 ^ Y) hu1
            omega
          have hor : bits .or .i64 (V : Int) (Sh : Int) = ((V + Sh : Nat) : Int) := by
            rw [or_i64 (by omega) (by omega), ← hSh, or_at hcv]
          have hShI : (U : Int) * 2 ^ Y = (Sh : Int) := by rw [← hSh, Int.natCast_mul, Int.natCast_pow]; rfl
          have hShw : IntKind.i64.wrap (Sh : Int) = (Sh : Int) := IntWalk.i64_in _ (by omega)
          rw [hSh] at hset
          generalize V + Sh = Z at hset hor
          have HST := Lib.hid hset
          have i0 : (0 : Int) ≤ (i : Int) := by omega
          have i1 : (i : Int) < (n : Int) := by omega
          have tm : (i : Int).tmod (w : Int) = (X : Int) := by rw [Int.tmod_eq_emod_of_nonneg i0, ← Int.natCast_emod, hX]
          have te : (i : Int) % (w : Int) = (X : Int) := by rw [← Int.natCast_emod, hX]
          have qd : (i : Int).tdiv (w : Int) = (Y : Int) := by rw [Int.tdiv_eq_ediv_of_nonneg i0, ← Int.natCast_ediv, hY]
          have qw : IntKind.i64.wrap ((i : Int).tdiv (w : Int)) = (Y : Int) := by rw [qd]; exact IntWalk.i64_in _ (by omega)
          have qe : (i : Int) / (w : Int) = (Y : Int) := by rw [← Int.natCast_ediv, hY]
          have yw : IntKind.i64.wrap (Y : Int) = (Y : Int) := IntWalk.i64_in _ (by omega)
          have xw : IntKind.i64.wrap (X : Int) = (X : Int) := IntWalk.i64_in _ (by omega)
          have y0 : (0 : Int) ≤ (Y : Int) := by omega
          have y64 : (Y : Int) ≤ 64 := by omega
          have x1 : (X : Int) < (w : Int) := by omega
          have x0 : (0 : Int) ≤ (X : Int) := by omega
          have wz : ((w : Int) == 0) = false := by rw [beq_eq_false_iff_ne]; omega
          have wn : ¬ w = 0 := by omega
          clear hcell hat hset hget hX hY hU hV hSh hcv
          have v_p0 : wr.cell? ⟨W.heap.size, 0, none⟩ = some (.int .i64 w) := T7.out.2.1
          have v_p2 : wr.cell? ⟨W.heap.size, 2, none⟩ = some (.slice (some ⟨ab, ao, none⟩) n c) := T7.out.2.2.2
          have ho6 := own_set HO.out X (.int .i64 (Z : Int))
          rw [map_set_i, HST.out] at ho6
          have hb6 := HBR.out.setCell (p := ⟨g, X, none⟩) (by rw [HG.out]; exact Nat.le_refl _) (.int .i64 (Z : Int))
          have HO6 := Lib.hid (owns_up ho6 (Below.drew (bnil _)))
          have HB6 := Lib.hid (Below.drew hb6)
          clear ho6 hb6
          go_wp2_with fail
          go_region
          clear v_p0 v_p2
          go_wp2
          go_roundw
          case rel => exact ⟨i + 1, by omega, by go_num, HO6.out, HB6.out⟩
          case measure => simp [intOf]; omega
        · skip
          obtain rfl : n = i := by omega
          have ho := HO.out
          rw [HALL.out] at ho
          have HO3 := Lib.hid ho
          clear ho HO
          have v_p2 : wr.cell? ⟨W.heap.size, 2, none⟩ = some (.slice a n c) := T7.out.2.2.2
          go_wp2
          go_ret2
          exact ⟨_, _, _, _, rfl, OwI.base ⟨HO3.out⟩ (by have := HLE.out; have := HG.out; omega), rfl, T7.out.1.1.1.2⟩
end Go.Proofs.YtoaooblodgejdaaDoor
namespace Go.Proofs.YtoaooblodgejdaaDoor
open Go.RowKit
set_option linter.unusedVariables false
set_option maxRecDepth 100000

def joinB (h : Int) (x : Int) : Bool := decide (x < 0 ∨ 2 ^ h.toNat ≤ x)
def joinD (h : Int) (cs : List Int) : ErrD :=
  if h < 1 ∨ 16 < h then some ([(opPatch, 0)], 3) else if 64 < cs.length then some ([(opPatch, 1)], 4) else if cs.length = 0 then some ([(opPatch, 1)], 3)
  else if 0 ≤ idxI (joinB h) cs then some ([(opPatch, 2 + idxI (joinB h) cs)], 3) else none
def joinF (cs : List Int) (x y : Nat) : Int := cs.getD x 0 / 2 ^ y % 2
def joinL (h : Nat) (cs : List Int) : List Int := madeL cs.length h (joinF cs)
def joinO (h : Int) (cs : List Int) : Int × Int × List Int := if joinD h cs = none then ((cs.length : Int), h, joinL h.toNat cs) else (0, 0, [])
/-- a patch and an error -/
def PatRet (R : Nat → Addr) (W : World) (o : Int × Int × List Int) (x : ErrD) (e : Ending) (w' : World) : Prop := ∃ a n c ev, e = .returned (.tuple #[patV o.1 o.2.1 a n c, ev]) ∧ OwI w' W.heap.size a n c o.2.2 ∧ EC R w' ev x ∧ Below W.heap.size W w'
theorem PatErr.ret {R : Nat → Addr} {W w' : World} {x : ErrD} {e : Ending} (h : PatErr R x W e w') : PatRet R W (0, 0, []) x e w' := by
  obtain ⟨g, rfl, he, hb⟩ := h
  exact ⟨none, 0, 0, _, rfl, OwI.nil _ _, he, hb⟩
structure JoinOk (h : Nat) (cs : List Int) : Prop where
  h1 : 1 ≤ h
  h16 : h ≤ 16
  n1 : 1 ≤ cs.length
  n64 : cs.length ≤ 64
  sym : ∀ x ∈ cs, 0 ≤ x ∧ x < 2 ^ h
theorem joinD_none {h : Int} {cs : List Int} (hd : joinD h cs = none) : ∃ h' : Nat, h = h' ∧ JoinOk h' cs := by
  unfold joinD at hd
  split at hd
  · cases hd
  split at hd
  · cases hd
  split at hd
  · cases hd
  split at hd
  · cases hd
  rename_i a b c d
  refine ⟨h.toNat, by omega, by omega, by omega, by omega, by omega, fun x hx => ?_⟩
  have := idxI_neg d x hx
  unfold joinB at this
  rw [decide_eq_false_iff_not] at this
  omega
theorem joinD_of {h : Nat} {cs : List Int} (hj : JoinOk h cs) : joinD h cs = none := by
  have := hj.h1; have := hj.h16; have := hj.n1; have := hj.n64
  have hi : idxI (joinB h) cs = -1 := findIdx_none fun x hx => by
    have := hj.sym x hx
    unfold joinB
    rw [decide_eq_false_iff_not, Int.toNat_natCast]
    omega
  unfold joinD
  rw [if_neg (by omega), if_neg (by omega), if_neg (by omega), if_neg (by rw [hi]; omega)]
theorem joinF_nat {h : Nat} {cs : List Int} (hj : JoinOk h cs) {x : Nat} (hx : x < cs.length) (y : Nat) : ∃ u v : Nat, cs.getD x 0 = (u : Int) ∧ u < 65536 ∧ v = u / 2 ^ y ∧ (u : Int) / 2 ^ y = (v : Int) ∧ joinF cs x y = ((v % 2 : Nat) : Int) := by
  have hs := hj.sym (cs[x]) (List.getElem_mem hx)
  have hg : cs.getD x 0 = cs[x] := by simp [hx]
  have hp : (2 : Int) ^ h ≤ 65536 := by
    have h3 := Nat.pow_le_pow_right (n := 2) (by omega) hj.h16
    have e : ((2 ^ h : Nat) : Int) = (2 : Int) ^ h := by rw [Int.natCast_pow]; rfl
    omega
  have e2 : ∀ u : Nat, (u : Int) / 2 ^ y = ((u / 2 ^ y : Nat) : Int) := fun u => by rw [Int.natCast_ediv, Int.natCast_pow]; rfl
  refine ⟨cs[x].toNat, _, by rw [hg]; omega, by omega, rfl, e2 _, ?_⟩
  unfold joinF
  rw [hg, show cs[x] = ((cs[x].toNat : Nat) : Int) by omega, e2, Int.natCast_emod]
  rfl
theorem joinF_sym {h : Nat} {cs : List Int} (hj : JoinOk h cs) {x : Nat} (hx : x < cs.length) (y : Nat) : joinF cs x y = 0 ∨ joinF cs x y = 1 := by
  obtain ⟨u, v, _, _, _, _, e⟩ := joinF_nat hj hx y
  rw [e]; omega
theorem join_patch {h : Nat} {cs : List Int} (hj : JoinOk h cs) : IsPatch cs.length h (joinL h cs) :=
  ⟨hj.n1, hj.n64, hj.h1, by have := hj.h16; omega, madeL_len _ _ _, madeL_mem (P := fun x => x = 0 ∨ x = 1) (by have := hj.n1; omega) fun x y hx _ => joinF_sym hj hx y⟩

set_option maxHeartbeats 4000000 in
theorem join1 (h bh : Nat) (W : World) (h16 : h ≤ 16) (ch : W.cell? ⟨bh, 0, none⟩ = some (.int .i64 h)) : PredOf 118 #[.pointer (some ⟨bh, 0, none⟩)] (joinB h) W := by
  intro W' x hb
  have y0 := cpa hb ch
  clear ch hb
  show Calls _ _ #[.int .i64 x, .pointer (some ⟨bh, 0, none⟩)] _ _
  have key : ∀ b, joinB h x = b → Calls Tryd.prog 118 #[.int .i64 x, .pointer (some ⟨bh, 0, none⟩)] W' fun e w' => e = .returned (.bool b) ∧ ∃ n, w' = W'.drewN n := by
    intro b hbx
    have h0 : (0 : Int) ≤ (h : Int) := by omega
    have h64 : (h : Int) ≤ 64 := by omega
    by_cases hx : x < 0
    · obtain rfl : true = b := by rw [← hbx]; exact (decide_eq_true (.inl hx)).symm
      clear hbx
      go_enter Tryd.func118, Tryd.ntmps118
      go_wp2
      go_ret
      exact ⟨rfl, 0, rfl⟩
    · have hd : decide (0 < x / 2 ^ h) = b := by
        rw [← hbx]
        unfold joinB
        rw [Int.toNat_natCast]
        have hp : (0 : Int) < 2 ^ h := Int.pow_pos (by decide)
        have e : (0 < x / 2 ^ h) ↔ (x < 0 ∨ 2 ^ h ≤ x) := by
          constructor
          · intro hq
            refine .inr (Int.not_lt.1 fun hl => ?_)
            rw [Int.ediv_eq_zero_of_lt (by omega) hl] at hq
            omega
          · intro hq
            have h2 : 2 ^ h ≤ x := by omega
            have h3 : 2 ^ h / 2 ^ h ≤ x / 2 ^ h := Int.ediv_le_ediv hp h2
            rw [Int.ediv_self (by omega)] at h3
            omega
        exact decide_eq_decide.2 e
      clear hbx
      subst hd
      go_enter Tryd.func118, Tryd.ntmps118
      go_wp2
      go_ret
      exact ⟨rfl, 0, rfl⟩
  exact key _ rfl
set_option maxHeartbeats 4000000 in
theorem join2 (h bc : Nat) (a : Option Addr) (n c : Nat) (cs : List Int) (W : World) (hj : JoinOk h cs) (hR : RK .i64 W a n cs) (cc : W.cell? ⟨bc, 0, none⟩ = some (.slice a n c)) : CellOf 119 #[.pointer (some ⟨bc, 0, none⟩)] n h (joinF cs) W := by
  intro W' x y hb hx hy
  have hn := hR.len
  obtain ⟨b, o, rfl, hbo, hcell⟩ := (hR.up hb).addr (by omega)
  have z0 := hcell x hx
  obtain ⟨u, v, hu, hu2, hv0, hv, hf⟩ := joinF_nat hj (show x < cs.length by omega) y
  rw [hu] at z0
  rw [hf]
  have hvu : v ≤ u := by rw [hv0]; exact Nat.div_le_self _ _
  have ha := and1_i64 (a := v) (by omega)
  have y0 := cpa hb cc
  have h16 := hj.h16
  have y1 : (0 : Int) ≤ (y : Int) := by omega
  have y2 : (y : Int) ≤ 64 := by omega
  have i0 : (0 : Int) ≤ (x : Int) := by omega
  have i1 : (x : Int) < (n : Int) := by omega
  clear hcell hu hv0 hf hn hR hb hj cc
  show Calls _ _ #[.int .i64 x, .int .i64 y, .pointer (some ⟨bc, 0, none⟩)] _ _
  go_enter Tryd.func119, Tryd.ntmps119
  go_wp2
  go_ret
  exact ⟨rfl, bnil W'⟩

/-- a fault's end: the result's variable keeps the empty patch -/
theorem pe_at {W w1 : World} {R : Nat → Addr} {B : Nat} (hS : Sent W R) (hb1 : Below W.heap.size W w1) (hB : W.heap.size ≤ B) (hz : w1.heap[B]? = some (.cells #[.int .i64 0, .int .i64 0, .slice none 0 0] 24)) (at_ num : Int) :
    ((w1.alloc (faultObj opPatch at_ (.iface 190 (.pointer (some (R (rix num))))))).heap[B]? = some (.cells #[.int .i64 0, .int .i64 0, .slice none 0 0] 24)) ∧
    ∃ w9, ((((w1.alloc (faultObj opPatch at_ (.iface 190 (.pointer (some (R (rix num))))))).setCell ⟨B, 0, none⟩ (.int .i64 0)).setCell ⟨B, 1, none⟩ (.int .i64 0)).setCell ⟨B, 2, none⟩ (.slice none 0 0)) = w9 ∧
      (w9.cell? ⟨B, 0, none⟩ = some (.int .i64 0) ∧ w9.cell? ⟨B, 1, none⟩ = some (.int .i64 0) ∧ w9.cell? ⟨B, 2, none⟩ = some (.slice none 0 0)) ∧
      PatErr R (some ([(opPatch, at_)], num)) W (.returned (.tuple #[patV 0 0 none 0 0, .iface 124 (.pointer (some ⟨w1.heap.size, 0, none⟩))])) w9 := by
  have hlt : B < w1.heap.size := (Array.getElem?_eq_some_iff.1 hz).1
  have hz2 : (w1.alloc (faultObj opPatch at_ (.iface 190 (.pointer (some (R (rix num))))))).heap[B]? = some (.cells #[.int .i64 0, .int .i64 0, .slice none 0 0] 24) := ((balloc (bnil w1) _).block _ hlt).trans hz
  obtain ⟨w9, e9, hc, hk9, hs9, hbl9⟩ := set3p hz2 (.int .i64 0) (.int .i64 0) (.slice none 0 0)
  have hE : EC R (w1.alloc (faultObj opPatch at_ (.iface 190 (.pointer (some (R (rix num))))))) (.iface 124 (.pointer (some ⟨w1.heap.size, 0, none⟩))) (some ([(opPatch, at_)], num)) := ec_err ((hS.up hb1).up (balloc (bnil w1) _)) (isErr_new (Nat.le_refl _))
  exact ⟨hz2, w9, e9, hc, _, rfl, hE.othP hS hk9 hz2 hB, hbl9 _ _ hB (balloc hb1 _)⟩

set_option maxHeartbeats 8000000 in
theorem join_any (h : Int) (a : Option Addr) (n c : Nat) (cs : List Int) (W : World) (R : Nat → Addr) (hS : Sent W R) (hR : RK .i64 W a n cs) (hm : n ≤ maxLen) :
    Calls Tryd.prog 113 #[.int .i64 h, .slice a n c] W (PatRet R W (joinO h cs) (joinD h cs)) := by
  have hnl := hR.len
  have HS0 := Lib.hid hS
  have hmx : n ≤ 9223372036854775807 := hm
  have T0 := Tk.nil W
  have T1 := T0.add (fun wv => Below W.heap.size W wv) (bnil W)
  clear T0
  have T2 := T1.add (fun wv => Sent wv R) (hS)
  clear T1
  have T3 := T2.add (fun wv => RK .i64 wv a n cs) (hR)
  clear T2
  clear hS hR
  obtain ⟨Wb, hWb⟩ : ∃ Wb, ((W.alloc (.cells #[.int .i64 h] 3)).alloc (.cells #[.slice a n c] 22)).alloc (.cells #[.int .i64 0, .int .i64 0, .slice none 0 0] 24) = Wb := ⟨_, rfl⟩
  have hbWb : Below W.heap.size W Wb := by rw [← hWb]; exact balloc (balloc (balloc (bnil W) _) _) _
  have T4 := T3.up hbWb
  clear T3
  have T5 := T4.add (fun wv => wv.cell? ⟨W.heap.size, 0, none⟩ = some (.int .i64 h)) (by rw [← hWb]; exact al000 (al000 (cnw (by simp) rfl)))
  clear T4
  have T6 := T5.add (fun wv => wv.cell? ⟨W.heap.size + 1, 0, none⟩ = some (.slice a n c)) (by rw [← hWb]; exact al000 (cnw (by simp) rfl))
  clear T5
  have HWb := Lib.hid hWb
  clear hWb hbWb
  have hz : Wb.heap[W.heap.size + 1 + 1]? = some (.cells #[.int .i64 0, .int .i64 0, .slice none 0 0] 24) := by
    rw [← HWb.out]
    have := heap_alloc_new ((W.alloc (.cells #[.int .i64 h] 3)).alloc (.cells #[.slice a n c] 22)) (.cells #[.int .i64 0, .int .i64 0, .slice none 0 0] 24)
    simpa using this
  have HZ := Lib.hid hz
  clear hz
  have T7 := T6.add (fun wv => wv.heap[W.heap.size + 1 + 1]? = some (.cells #[.int .i64 0, .int .i64 0, .slice none 0 0] 24)) (HZ.out)
  clear T6
  by_cases c0 : h < 1 ∨ 16 < h
  · skip
    by_cases c00 : h < 1
    · skip
      have hd : joinD h cs = some ([(opPatch, 0)], 3) := by unfold joinD; exact if_pos c0
      have ho : joinO h cs = (0, 0, []) := by unfold joinO; rw [hd]; rfl
      have HOD := Lib.hid (And.intro ho hd)
      clear hd ho hnl
      clear c0
      go_enter Tryd.func113, Tryd.ntmps113
      have v_h0 : (((W.alloc (.cells #[.int .i64 h] 3)).alloc (.cells #[.slice a n c] 22)).alloc (.cells #[.int .i64 0, .int .i64 0, .slice none 0 0] 24)).cell? ⟨W.heap.size, 0, none⟩ = some (.int .i64 h) := by rw [HWb.out]; exact T7.out.1.1.2
      go_wp2_with fail
      rw [HWb.out]
      refine (patch_wrong _ _ _ R (T7.out.1.1.1.1.2).glob rfl).mono ?_; rintro e w1 ⟨rfl, rfl⟩
      clear v_h0
      have hz1 := (T7.out.2)
      have HPE := Lib.hid (pe_at HS0.out (T7.out.1.1.1.1.1.2) (show W.heap.size ≤ W.heap.size + 1 + 1 by omega) hz1 0 3)
      obtain ⟨⟨d0, d1, d2⟩, f0, f1, f2⟩ := p_cells HPE.out.1
      clear hz1
      go_wp2
      obtain ⟨w9, e9, ⟨r0, r1, r2⟩, hpe⟩ := HPE.out.2
      rw [e9]
      refine bodyPost_ret (v := .tuple #[patV 0 0 none 0 0, .iface 124 (.pointer (some ⟨Wb.heap.size, 0, none⟩))]) (by simp [results, Tryd.results113, go_sem, r0, r1, r2]) rfl ?_
      rw [HOD.out.1, HOD.out.2]
      exact hpe.ret
    · skip
      have c01 : 16 < h := by omega
      have c02 : 1 ≤ h := by omega
      have hd : joinD h cs = some ([(opPatch, 0)], 3) := by unfold joinD; exact if_pos c0
      have ho : joinO h cs = (0, 0, []) := by unfold joinO; rw [hd]; rfl
      have HOD := Lib.hid (And.intro ho hd)
      clear hd ho hnl
      clear c0 c00
      go_enter Tryd.func113, Tryd.ntmps113
      have v_h0 : (((W.alloc (.cells #[.int .i64 h] 3)).alloc (.cells #[.slice a n c] 22)).alloc (.cells #[.int .i64 0, .int .i64 0, .slice none 0 0] 24)).cell? ⟨W.heap.size, 0, none⟩ = some (.int .i64 h) := by rw [HWb.out]; exact T7.out.1.1.2
      go_wp2_with fail
      rw [HWb.out]
      refine (patch_wrong _ _ _ R (T7.out.1.1.1.1.2).glob rfl).mono ?_; rintro e w1 ⟨rfl, rfl⟩
      clear v_h0
      have hz1 := (T7.out.2)
      have HPE := Lib.hid (pe_at HS0.out (T7.out.1.1.1.1.1.2) (show W.heap.size ≤ W.heap.size + 1 + 1 by omega) hz1 0 3)
      obtain ⟨⟨d0, d1, d2⟩, f0, f1, f2⟩ := p_cells HPE.out.1
      clear hz1
      go_wp2
      obtain ⟨w9, e9, ⟨r0, r1, r2⟩, hpe⟩ := HPE.out.2
      rw [e9]
      refine bodyPost_ret (v := .tuple #[patV 0 0 none 0 0, .iface 124 (.pointer (some ⟨Wb.heap.size, 0, none⟩))]) (by simp [results, Tryd.results113, go_sem, r0, r1, r2]) rfl ?_
      rw [HOD.out.1, HOD.out.2]
      exact hpe.ret
  obtain ⟨h, rfl⟩ : ∃ h' : Nat, h = (h' : Int) := ⟨h.toNat, by omega⟩
  have hh1 : 1 ≤ h := by omega
  have hh16 : h ≤ 16 := by omega
  by_cases c1 : 64 < n
  · skip
    have hd : joinD h cs = some ([(opPatch, 1)], 4) := by unfold joinD; rw [if_neg c0, if_pos (by omega)]
    have ho : joinO h cs = (0, 0, []) := by unfold joinO; rw [hd]; rfl
    have HOD := Lib.hid (And.intro ho hd)
    clear hd ho hnl
    clear c0
    go_enter Tryd.func113, Tryd.ntmps113
    have v_h0 : (((W.alloc (.cells #[.int .i64 h] 3)).alloc (.cells #[.slice a n c] 22)).alloc (.cells #[.int .i64 0, .int .i64 0, .slice none 0 0] 24)).cell? ⟨W.heap.size, 0, none⟩ = some (.int .i64 h) := by rw [HWb.out]; exact T7.out.1.1.2
    have v_c0 : (((W.alloc (.cells #[.int .i64 h] 3)).alloc (.cells #[.slice a n c] 22)).alloc (.cells #[.int .i64 0, .int .i64 0, .slice none 0 0] 24)).cell? ⟨W.heap.size + 1, 0, none⟩ = some (.slice a n c) := by rw [HWb.out]; exact T7.out.1.2
    go_wp2_with fail
    rw [HWb.out]
    refine (patch_wrong _ _ _ R (T7.out.1.1.1.1.2).glob rfl).mono ?_; rintro e w1 ⟨rfl, rfl⟩
    clear v_h0 v_c0
    have hz1 := (T7.out.2)
    have HPE := Lib.hid (pe_at HS0.out (T7.out.1.1.1.1.1.2) (show W.heap.size ≤ W.heap.size + 1 + 1 by omega) hz1 1 4)
    obtain ⟨⟨d0, d1, d2⟩, f0, f1, f2⟩ := p_cells HPE.out.1
    clear hz1
    go_wp2
    obtain ⟨w9, e9, ⟨r0, r1, r2⟩, hpe⟩ := HPE.out.2
    rw [e9]
    refine bodyPost_ret (v := .tuple #[patV 0 0 none 0 0, .iface 124 (.pointer (some ⟨Wb.heap.size, 0, none⟩))]) (by simp [results, Tryd.results113, go_sem, r0, r1, r2]) rfl ?_
    rw [HOD.out.1, HOD.out.2]
    exact hpe.ret
  by_cases c2 : n = 0
  · skip
    have hd : joinD h cs = some ([(opPatch, 1)], 3) := by unfold joinD; rw [if_neg c0, if_neg (by omega), if_pos (by omega)]
    have ho : joinO h cs = (0, 0, []) := by unfold joinO; rw [hd]; rfl
    have HOD := Lib.hid (And.intro ho hd)
    clear hd ho hnl
    clear c0
    have hcn : ((n : Int) == 0) = true := by rw [beq_iff_eq]; omega
    clear c2
    go_enter Tryd.func113, Tryd.ntmps113
    have v_h0 : (((W.alloc (.cells #[.int .i64 h] 3)).alloc (.cells #[.slice a n c] 22)).alloc (.cells #[.int .i64 0, .int .i64 0, .slice none 0 0] 24)).cell? ⟨W.heap.size, 0, none⟩ = some (.int .i64 h) := by rw [HWb.out]; exact T7.out.1.1.2
    have v_c0 : (((W.alloc (.cells #[.int .i64 h] 3)).alloc (.cells #[.slice a n c] 22)).alloc (.cells #[.int .i64 0, .int .i64 0, .slice none 0 0] 24)).cell? ⟨W.heap.size + 1, 0, none⟩ = some (.slice a n c) := by rw [HWb.out]; exact T7.out.1.2
    go_wp2_with fail
    rw [HWb.out]
    refine (patch_wrong _ _ _ R (T7.out.1.1.1.1.2).glob rfl).mono ?_; rintro e w1 ⟨rfl, rfl⟩
    clear v_h0 v_c0
    have hz1 := (T7.out.2)
    have HPE := Lib.hid (pe_at HS0.out (T7.out.1.1.1.1.1.2) (show W.heap.size ≤ W.heap.size + 1 + 1 by omega) hz1 1 3)
    obtain ⟨⟨d0, d1, d2⟩, f0, f1, f2⟩ := p_cells HPE.out.1
    clear hz1
    go_wp2
    obtain ⟨w9, e9, ⟨r0, r1, r2⟩, hpe⟩ := HPE.out.2
    rw [e9]
    refine bodyPost_ret (v := .tuple #[patV 0 0 none 0 0, .iface 124 (.pointer (some ⟨Wb.heap.size, 0, none⟩))]) (by simp [results, Tryd.results113, go_sem, r0, r1, r2]) rfl ?_
    rw [HOD.out.1, HOD.out.2]
    exact hpe.ret
  obtain ⟨i, hi⟩ : ∃ i, idxI (joinB h) cs = i := ⟨_, rfl⟩
  have hib := idxI_bd (joinB h) cs
  rw [hi, ← hnl] at hib
  obtain ⟨hi1, hi2⟩ := hib
  have HI := Lib.hid hi
  have hcall : Calls Tryd.prog 65 #[.slice a n c, .func (.func 118) #[] #[.pointer (some ⟨W.heap.size, 0, none⟩)]] Wb fun e w' => e = .returned (.int .i64 i) ∧ ∃ m, w' = Wb.drewN m := by
    have := indexFunc_any a n c cs 118 #[.pointer (some ⟨W.heap.size, 0, none⟩)] (joinB h) Wb (T7.out.1.1.1.2) hm (enters_of Tryd.func118 (by kernel_rfl) rfl) (join1 h W.heap.size Wb hh16 (T7.out.1.1.2))
    rwa [HI.out] at this
  have HCALL := Lib.hid hcall
  have hmf : ∀ (fn : Fn) (first cap : Array Value) (w : World), (Instr.makeFunc fn first cap).run Tryd.prog w = .ok (.func fn first cap) w := fun _ _ _ _ => rfl
  clear hcall hi
  by_cases c3 : 0 ≤ i
  · skip
    have hd : joinD h cs = some ([(opPatch, 2 + i)], 3) := by unfold joinD; rw [if_neg c0, if_neg (by omega), if_neg (by omega), HI.out, if_pos c3]
    have ho : joinO h cs = (0, 0, []) := by unfold joinO; rw [hd]; rfl
    have HOD := Lib.hid (And.intro ho hd)
    have hcn : ((n : Int) == 0) = false := by rw [beq_eq_false_iff_ne]; omega
    clear hd ho c0 hnl
    go_enter Tryd.func113, Tryd.ntmps113
    have v_h0 : (((W.alloc (.cells #[.int .i64 h] 3)).alloc (.cells #[.slice a n c] 22)).alloc (.cells #[.int .i64 0, .int .i64 0, .slice none 0 0] 24)).cell? ⟨W.heap.size, 0, none⟩ = some (.int .i64 h) := by rw [HWb.out]; exact T7.out.1.1.2
    have v_c0 : (((W.alloc (.cells #[.int .i64 h] 3)).alloc (.cells #[.slice a n c] 22)).alloc (.cells #[.int .i64 0, .int .i64 0, .slice none 0 0] 24)).cell? ⟨W.heap.size + 1, 0, none⟩ = some (.slice a n c) := by rw [HWb.out]; exact T7.out.1.2
    go_wp2_with fail
    rw [HWb.out]
    refine HCALL.out.mono ?_; rintro e w9 ⟨rfl, m, rfl⟩
    clear v_h0 v_c0
    have hzm : (Wb.drewN m).heap[W.heap.size + 1 + 1]? = some (.cells #[.int .i64 0, .int .i64 0, .slice none 0 0] 24) := by simpa using HZ.out
    obtain ⟨w2, hw2⟩ : ∃ w2, Wb.drewN m = w2 := ⟨_, rfl⟩
    rw [hw2] at hzm ⊢
    have hbw2 : Below Wb.heap.size Wb w2 := by rw [← hw2]; exact bdrewN (bnil Wb) m
    have HZ2 := Lib.hid hzm
    clear hzm hw2
    have T8 := T7.up hbw2
    clear T7
    have T9 := T8.add (fun wv => wv.heap[W.heap.size + 1 + 1]? = some (.cells #[.int .i64 0, .int .i64 0, .slice none 0 0] 24)) (HZ2.out)
    clear T8
    go_wp2_with fail
    refine (patch_wrong _ _ _ R (T9.out.1.1.1.1.1.2).glob rfl).mono ?_; rintro e w1 ⟨rfl, rfl⟩
    have hz1 := (T9.out.2)
    have HPE := Lib.hid (pe_at HS0.out (T9.out.1.1.1.1.1.1.2) (show W.heap.size ≤ W.heap.size + 1 + 1 by omega) hz1 (2 + i) 3)
    obtain ⟨⟨d0, d1, d2⟩, f0, f1, f2⟩ := p_cells HPE.out.1
    clear hz1
    go_wp2
    obtain ⟨w9, e9, ⟨r0, r1, r2⟩, hpe⟩ := HPE.out.2
    rw [e9]
    refine bodyPost_ret (v := .tuple #[patV 0 0 none 0 0, .iface 124 (.pointer (some ⟨w2.heap.size, 0, none⟩))]) (by simp [results, Tryd.results113, go_sem, r0, r1, r2]) rfl ?_
    rw [HOD.out.1, HOD.out.2]
    exact hpe.ret
  · skip
    have hd : joinD h cs = none := by unfold joinD; rw [if_neg c0, if_neg (by omega), if_neg (by omega), HI.out, if_neg c3]
    have ho : joinO h cs = ((n : Int), (h : Int), joinL h cs) := by unfold joinO; rw [if_pos hd, hnl]; rfl
    obtain ⟨h', he, hj⟩ := joinD_none hd
    obtain rfl : h = h' := by omega
    have HJ := Lib.hid hj
    have HOD := Lib.hid (And.intro ho hd)
    have HNL := Lib.hid hnl
    have hcn : ((n : Int) == 0) = false := by rw [beq_eq_false_iff_ne]; omega
    clear hd ho c0 hj he hnl
    go_enter Tryd.func113, Tryd.ntmps113
    have v_h0 : (((W.alloc (.cells #[.int .i64 h] 3)).alloc (.cells #[.slice a n c] 22)).alloc (.cells #[.int .i64 0, .int .i64 0, .slice none 0 0] 24)).cell? ⟨W.heap.size, 0, none⟩ = some (.int .i64 h) := by rw [HWb.out]; exact T7.out.1.1.2
    have v_c0 : (((W.alloc (.cells #[.int .i64 h] 3)).alloc (.cells #[.slice a n c] 22)).alloc (.cells #[.int .i64 0, .int .i64 0, .slice none 0 0] 24)).cell? ⟨W.heap.size + 1, 0, none⟩ = some (.slice a n c) := by rw [HWb.out]; exact T7.out.1.2
    go_wp2_with fail
    rw [HWb.out]
    refine HCALL.out.mono ?_; rintro e w9 ⟨rfl, m, rfl⟩
    clear v_h0 v_c0
    have hzm : (Wb.drewN m).heap[W.heap.size + 1 + 1]? = some (.cells #[.int .i64 0, .int .i64 0, .slice none 0 0] 24) := by simpa using HZ.out
    obtain ⟨w2, hw2⟩ : ∃ w2, Wb.drewN m = w2 := ⟨_, rfl⟩
    rw [hw2] at hzm ⊢
    have hbw2 : Below Wb.heap.size Wb w2 := by rw [← hw2]; exact bdrewN (bnil Wb) m
    have HZ2 := Lib.hid hzm
    have HL2 : Hid (W.heap.size + 1 + 1 < w2.heap.size) := heap_ltT HZ2.out
    clear hzm hw2
    have T8 := T7.up hbw2
    clear T7
    have HCO := Lib.hid (join2 h (W.heap.size + 1) a n c cs w2 HJ.out (T8.out.1.1.1.2) (T8.out.1.2))
    have v_h0 : w2.cell? ⟨W.heap.size, 0, none⟩ = some (.int .i64 h) := T8.out.1.1.2
    have v_c0 : w2.cell? ⟨W.heap.size + 1, 0, none⟩ = some (.slice a n c) := T8.out.1.2
    go_wp2_with fail
    refine (made_any n h 119 _ _ _ (by omega) (by omega) hh1 (by omega) (enters_of Tryd.func119 (by kernel_rfl) rfl) HCO.out).mono ?_; rintro e w3 ⟨g, c2, rfl, ho2, hbw3⟩
    clear v_h0 v_c0
    have T9 := T8.up hbw3
    clear T8
    have HO2 := Lib.hid ho2
    have hz := (hbw3.block _ (heap_ltT HZ2.out)).trans HZ2.out
    have HZ8 := Lib.hid hz
    obtain ⟨⟨d0, d1, d2⟩, f0, f1, f2⟩ := p_cells hz
    clear ho2 hz
    go_wp2
    obtain ⟨w9, e9, ⟨r0, r1, r2⟩, hk9, hs9, hbl9⟩ := set3p HZ8.out (.int .i64 n) (.int .i64 h) (.slice (some ⟨g, 0, none⟩) (n * h) c2)
    rw [e9]
    refine bodyPost_ret (v := .tuple #[patV n h (some ⟨g, 0, none⟩) (n * h) c2, .nilIface]) (by simp [results, Tryd.results113, go_sem, r0, r1, r2]) rfl ?_
    rw [HOD.out.1, HOD.out.2]
    have hL2 := HL2.out
    refine ⟨_, _, _, _, rfl, ?_, rfl, hbl9 _ _ (by omega) (T9.out.1.1.1.1.1.2)⟩
    show OwI w9 W.heap.size (some ⟨g, 0, none⟩) (n * h) c2 (madeL cs.length h (joinF cs))
    rw [← HNL.out]
    exact OwI.base (b' := W.heap.size) ⟨own_of_heap' HO2.out.own fun b hb => hk9 b (by have := (HO2.out.own.lt b hb).1; omega)⟩ (by omega)
end Go.Proofs.YtoaooblodgejdaaDoor
namespace Go.Proofs.YtoaooblodgejdaaDoor
open Go.RowKit
set_option linter.unusedVariables false
set_option maxRecDepth 100000

theorem colV_bit {w h : Nat} {l : List Int} (hp : IsPatch w h l) {x y : Nat} (hx : x < w) : ∀ k, k ≤ h → y < k → colV w l x k / 2 ^ y % 2 = cellN w l x y
  | 0, _, hy => by omega
  | k + 1, hk, hy => by
    have hc := (cellN_le hp hx (show k < h by omega)).1
    rw [colV]
    by_cases e : y = k
    · subst e
      have hlt := colV_lt hp hx y (by omega)
      rw [Nat.add_mul_div_right _ _ (Nat.two_pow_pos y), Nat.div_eq_of_lt hlt]
      omega
    · have hy2 : y < k := by omega
      have e2 : cellN w l x k * 2 ^ k = (cellN w l x k * 2 ^ (k - y)) * 2 ^ y := by
        rw [Nat.mul_assoc, ← Nat.pow_add, Nat.sub_add_cancel (by omega)]
      rw [e2, Nat.add_mul_div_right _ _ (Nat.two_pow_pos y)]
      have e3 : cellN w l x k * 2 ^ (k - y) = 2 * (cellN w l x k * 2 ^ (k - y - 1)) := by
        rw [show k - y = (k - y - 1) + 1 by omega, Nat.pow_succ, show k - y - 1 + 1 - 1 = k - y - 1 by omega]
        rw [← Nat.mul_assoc, Nat.mul_comm 2]
      rw [e3, Nat.add_mul_mod_self_left]
      exact colV_bit hp hx k (by omega) hy2
theorem colL_getD {w h : Nat} {l : List Int} {x : Nat} (hx : x < w) : (colL w h l).getD x 0 = (colV w l x h : Int) := by simp [colL, hx]
theorem colL_ok {w h : Nat} {l : List Int} (hp : IsPatch w h l) (h16 : h ≤ 16) : JoinOk h (colL w h l) := by
  refine ⟨hp.h1, h16, by rw [colL_len]; exact hp.w1, by rw [colL_len]; exact hp.w2, fun u hu => ?_⟩
  obtain ⟨x, hx, rfl⟩ := List.mem_map.1 hu
  have h1 := colV_lt hp (List.mem_range.1 hx) h (Nat.le_refl _)
  have e : ((2 ^ h : Nat) : Int) = (2 : Int) ^ h := by rw [Int.natCast_pow]; rfl
  omega
/-- the columns of a patch, joined, are the patch -/
theorem join_col {w h : Nat} {l : List Int} (hp : IsPatch w h l) (h16 : h ≤ 16) : joinL h (colL w h l) = l := by
  unfold joinL
  rw [colL_len]
  refine (madeL_congr (g := atL w l) hp.w1 fun x y hx hy => ?_).trans (made_atL hp.w1 hp.len)
  have hb := colV_bit hp hx h (Nat.le_refl _) hy
  unfold joinF
  rw [colL_getD hx, ← (cellN_le hp hx hy).2, ← hb, Int.natCast_emod, Int.natCast_ediv, Int.natCast_pow]
  rfl
theorem pow_bits (u : Nat) : ∀ h, ∀ f : Nat → Nat, f 0 = 0 → (∀ k, k < h → f (k + 1) = f k + u / 2 ^ k % 2 * 2 ^ k) → f h = u % 2 ^ h
  | 0, f, h0, _ => by rw [h0, Nat.pow_zero, Nat.mod_one]
  | h + 1, f, h0, hs => by
    have ih := pow_bits u h f h0 fun k hk => hs k (by omega)
    rw [hs h (by omega), ih, Nat.pow_succ, Nat.mod_mul, Nat.mul_comm (u / 2 ^ h % 2)]
/-- joined numbers are told again -/
theorem col_join {h : Nat} {cs : List Int} (hj : JoinOk h cs) : colL cs.length h (joinL h cs) = cs := by
  have hp := join_patch hj
  apply List.ext_getElem
  · rw [colL_len]
  · intro x h1 h2
    simp only [colL, List.getElem_map, List.getElem_range]
    obtain ⟨hs0, hs1⟩ := hj.sym _ (List.getElem_mem h2)
    have hc : ∀ y, y < h → cellN cs.length (joinL h cs) x y = cs[x].toNat / 2 ^ y % 2 := by
      intro y hy
      unfold cellN
      rw [show atL cs.length (joinL h cs) x y = joinF cs x y from atL_made h2 hy]
      unfold joinF
      rw [show cs.getD x 0 = cs[x] by simp [h2]]
      have e2 : cs[x] / 2 ^ y % 2 = ((cs[x].toNat / 2 ^ y % 2 : Nat) : Int) := by
        rw [Int.natCast_emod, Int.natCast_ediv, Int.natCast_pow, Int.toNat_of_nonneg hs0]
        rfl
      rw [e2, Int.toNat_natCast]
    have := pow_bits cs[x].toNat h (colV cs.length (joinL h cs) x) rfl fun k hk => by rw [colV, hc k hk]
    have e : ((2 ^ h : Nat) : Int) = (2 : Int) ^ h := by rw [Int.natCast_pow]; rfl
    rw [this, Nat.mod_eq_of_lt (by omega), Int.toNat_of_nonneg hs0]
end Go.Proofs.YtoaooblodgejdaaDoor
namespace Go.Proofs.YtoaooblodgejdaaDoor
open Go.RowKit Go.ChangeShapes Go.WideShapes Go.Deep
set_option linter.unusedVariables false
set_option maxRecDepth 100000

set_option maxHeartbeats 2000000 in
theorem patches_eq (w h : Int) (a1 a2 : Option Addr) (n1 n2 c1 c2 : Nat) (l : List Int) (W : World) (hR1 : RK .i64 W a1 n1 l) (hR2 : RK .i64 W a2 n2 l) (hm : l.length ≤ maxLen) :
    Calls Tryd.prog 18 #[patV w h a1 n1 c1, patV w h a2 n2 c2] W fun e w' => e = .returned (.bool true) ∧ Below W.heap.size W w' := by
  obtain ⟨Wb, hWb⟩ : ∃ Wb, (W.alloc (.cells #[.int .i64 w, .int .i64 h, .slice a1 n1 c1] 24)).alloc (.cells #[.int .i64 w, .int .i64 h, .slice a2 n2 c2] 24) = Wb := ⟨_, rfl⟩
  have HX : Hid (Wb.cell? ⟨W.heap.size, 0, none⟩ = some (.int .i64 w) ∧ Wb.cell? ⟨W.heap.size, 1, none⟩ = some (.int .i64 h) ∧ Wb.cell? ⟨W.heap.size, 2, none⟩ = some (.slice a1 n1 c1) ∧ Wb.cell? ⟨W.heap.size + 1, 0, none⟩ = some (.int .i64 w) ∧ Wb.cell? ⟨W.heap.size + 1, 1, none⟩ = some (.int .i64 h) ∧ Wb.cell? ⟨W.heap.size + 1, 2, none⟩ = some (.slice a2 n2 c2)) := by
    rw [← hWb]; exact ⟨al000 (cnw rfl rfl), al000 (cnw rfl rfl), al000 (cnw rfl rfl), cnw (by simp) rfl, cnw (by simp) rfl, cnw (by simp) rfl⟩
  have HBX : Hid (Below W.heap.size W Wb) := by rw [← hWb]; exact balloc (balloc (bnil W) _) _
  have HR1 := Lib.hid (hR1.up HBX.out)
  have HR2 := Lib.hid (hR2.up HBX.out)
  clear hR1 hR2
  obtain ⟨x0, x1, x2, z0, z1, z2⟩ := HX.out
  have HWB := Lib.hid hWb; clear hWb
  go_enter Tryd.func18, Tryd.ntmps18
  go_wp2_with fail
  rw [HWB.out]
  go_wp2_with (first
    | (go_at_call 63; refine (ints_eqB a1 a2 n1 n2 c1 c2 _ _ HR1.out HR2.out hm).mono ?_; rintro e w' ⟨rfl, hb⟩))
  go_ret
  exact ⟨rfl, HBX.out.trans (hb.mono HBX.out.size)⟩

theorem patch_under : Tryd.prog.underlying 24 = some (.struct #[⟨ "W", 3, 0, false, "", "", 0⟩, ⟨ "H", 3, 1, false, "", "", 8⟩, ⟨ "Cells", 22, 2, false, "", "", 16⟩]) := by kernel_rfl
theorem open_patch {H : Type} {enc : TypeId × Value → H} {w : World} {base : Nat} {spare : Nat → Bool} {held : Bool} {r : Reach} {b0 : Nat} {v : Value} {d : DataW H} {p : List MemPlace}
    (hv : Value.okWide Tryd.prog w r b0 24 v) (h : DataW.Trod enc Tryd.prog w base spare held 24 v d p) :
    ∃ (k r : Int) (a : Option Addr) (n c : Nat) (l : List Int), v = patV k r a n c ∧ RK .i64 w a n l ∧ n ≤ c ∧ c ≤ maxLen ∧ I64 l := by
  obtain ⟨v0, v1, v2, y0, y1, y2, m, rfl, _, _, g0, g1, g2⟩ := Joins.open_agg3 patch_under (by kernel_rfl) (by kernel_rfl) hv h
  obtain ⟨n0, r0, _, _⟩ := DataW.trod_int Tryd.underlying3 (show DataW.trod enc Tryd.prog w base spare held m 3 [v0] = some y0 from g0)
  obtain ⟨n1, r1, _, _⟩ := DataW.trod_int Tryd.underlying3 (show DataW.trod enc Tryd.prog w base spare held m 3 [v1] = some y1 from g1)
  cases r0; cases r1
  have g3 : DataW.trod enc Tryd.prog w base spare held m 22 [v2] = some y2 := g2
  have key : ∃ a n c, v2 = .slice a n c := by
    rcases open_slice Tryd.underlying22 g3 with ⟨h0, _⟩ | ⟨ad, len, cap, _, _, _, _, h0, _⟩
    · cases h0; exact ⟨_, _, _, rfl⟩
    · cases h0; exact ⟨_, _, _, rfl⟩
  obtain ⟨a, n, c, rfl⟩ := key
  obtain ⟨l, e1, e2, e3, e4, e5⟩ := open_intsl g3
  exact ⟨n0, n1, a, n, c, l, rfl, ⟨e1.symm, e4⟩, e3, e2, e5⟩
end Go.Proofs.YtoaooblodgejdaaDoor
namespace Go.Proofs.YtoaooblodgejdaaDoor
open Go.RowKit
set_option linter.unusedVariables false
set_option maxRecDepth 100000

/-- an error's end: the result's variable is set -/
theorem er_at {W w8 : World} {B b1 b2 : Nat} {op : ByteArray} {at_ N : Int} {x0 x1 x2 : Value} (hB : W.heap.size ≤ B) (hz : w8.heap[B]? = some (.cells #[x0, x1, x2] 60)) (hb : Below W.heap.size W w8) (l1 : B < b1) (l2 : B < b2)
    (hw : WantIs w8 (.agg #[.int .i64 N, .slice (some ⟨b1, 0, none⟩) 1 1, .slice (some ⟨b2, 0, none⟩) 1 1]) (some (op, at_, N))) :
    ∃ w9, (((w8.setCell ⟨B, 0, none⟩ (.int .i64 N)).setCell ⟨B, 1, none⟩ (.slice (some ⟨b1, 0, none⟩) 1 1)).setCell ⟨B, 2, none⟩ (.slice (some ⟨b2, 0, none⟩) 1 1)) = w9 ∧
      (w9.cell? ⟨B, 0, none⟩ = some (.int .i64 N) ∧ w9.cell? ⟨B, 1, none⟩ = some (.slice (some ⟨b1, 0, none⟩) 1 1) ∧ w9.cell? ⟨B, 2, none⟩ = some (.slice (some ⟨b2, 0, none⟩) 1 1)) ∧
      RefRet W (some ([(op, at_)], N)) (.returned (.agg #[.int .i64 N, .slice (some ⟨b1, 0, none⟩) 1 1, .slice (some ⟨b2, 0, none⟩) 1 1])) w9 := by
  obtain ⟨w9, e9, hc, hk, hs, hbl⟩ := set3p hz (.int .i64 N) (.slice (some ⟨b1, 0, none⟩) 1 1) (.slice (some ⟨b2, 0, none⟩) 1 1)
  have hn : (N != 0) = true := by have := hw.2; simpa using this
  refine ⟨w9, e9, hc, N, _, 1, 1, _, 1, 1, rfl, (wc_want hw).other hk hs (fr_some (show B + 1 ≤ b1 by omega)) (fr_some (show B + 1 ≤ b2 by omega)), fr_some (by omega), fr_some (by omega), hn, (fun h => by cases h), hbl W W.heap.size hB hb⟩
/-- no error: the result's variable stays -/
theorem er_none {W w8 : World} {B : Nat} {x0 x1 x2 : Value} (hB : W.heap.size ≤ B) (hz : w8.heap[B]? = some (.cells #[x0, x1, x2] 60)) (hb : Below W.heap.size W w8) :
    ∃ w9, (((w8.setCell ⟨B, 0, none⟩ (.int .i64 0)).setCell ⟨B, 1, none⟩ (.slice none 0 0)).setCell ⟨B, 2, none⟩ (.slice none 0 0)) = w9 ∧
      (w9.cell? ⟨B, 0, none⟩ = some (.int .i64 0) ∧ w9.cell? ⟨B, 1, none⟩ = some (.slice none 0 0) ∧ w9.cell? ⟨B, 2, none⟩ = some (.slice none 0 0)) ∧
      RefRet W none (.returned (.agg #[.int .i64 0, .slice none 0 0, .slice none 0 0])) w9 := by
  obtain ⟨w9, e9, hc, hk, hs, hbl⟩ := set3p hz (.int .i64 0) (.slice none 0 0) (.slice none 0 0)
  exact ⟨w9, e9, hc, 0, none, 0, 0, none, 0, 0, rfl, wc_none w9, fr_none, fr_none, rfl, fun _ => ⟨rfl, rfl, rfl, rfl, rfl, rfl, rfl⟩, hbl W W.heap.size hB hb⟩

set_option maxHeartbeats 8000000 in
theorem refpcheck_any (w h : Int) (a : Option Addr) (n c : Nat) (l : List Int) (W : World) (hR : RK .i64 W a n l) (hm : n ≤ maxLen) :
    Calls Tryd.prog 54 #[patV w h a n c] W (RefRet W (patchD w h l)) := by
  have hnl := hR.len
  have hmx : n ≤ 9223372036854775807 := hm
  have T0 := Tk.nil W
  have T1 := T0.add (fun wv => Below W.heap.size W wv) (bnil W)
  clear T0
  have T2 := T1.add (fun wv => RK .i64 wv a n l) (hR)
  clear T1
  clear hR
  obtain ⟨Wb, hWb⟩ : ∃ Wb, (W.alloc (.cells #[.int .i64 w, .int .i64 h, .slice a n c] 24)).alloc (.cells #[.int .i64 0, .slice none 0 0, .slice none 0 0] 60) = Wb := ⟨_, rfl⟩
  have hbWb : Below W.heap.size W Wb := by rw [← hWb]; exact balloc (balloc (bnil W) _) _
  have T3 := T2.up hbWb
  clear T2
  have T4 := T3.add (fun wv => wv.cell? ⟨W.heap.size, 0, none⟩ = some (.int .i64 w) ∧ wv.cell? ⟨W.heap.size, 1, none⟩ = some (.int .i64 h) ∧ wv.cell? ⟨W.heap.size, 2, none⟩ = some (.slice a n c)) (by rw [← hWb]; exact ⟨al000 (cnw (by simp) rfl), al000 (cnw (by simp) rfl), al000 (cnw (by simp) rfl)⟩)
  clear T3
  have HWb := Lib.hid hWb
  clear hWb hbWb
  have hz : Wb.heap[W.heap.size + 1]? = some (.cells #[.int .i64 0, .slice none 0 0, .slice none 0 0] 60) := by
    rw [← HWb.out]
    have := heap_alloc_new (W.alloc (.cells #[.int .i64 w, .int .i64 h, .slice a n c] 24)) (.cells #[.int .i64 0, .slice none 0 0, .slice none 0 0] 60)
    simpa using this
  have T5 := T4.add (fun wv => wv.heap[W.heap.size + 1]? = some (.cells #[.int .i64 0, .slice none 0 0, .slice none 0 0] 60)) (hz)
  clear T4
  clear hz
  by_cases c0 : w < 1 ∨ 64 < w
  · skip
    by_cases c00 : w < 1
    · skip
      have hd : patchD w h l = some ([(opPatch, 0)], 7) := by unfold patchD patchErr; rw [if_pos c0]; rfl
      have HD := Lib.hid hd
      clear hd hnl
      go_enter Tryd.func54, Tryd.ntmps54
      have sb0 : W.heap.size + 1 < Wb.heap.size := heap_ltT (T5.out.2)
      have v_p0 : ((W.alloc (.cells #[.int .i64 w, .int .i64 h, .slice a n c] 24)).alloc (.cells #[.int .i64 0, .slice none 0 0, .slice none 0 0] 60)).cell? ⟨W.heap.size, 0, none⟩ = some (.int .i64 w) := by rw [HWb.out]; exact T5.out.1.2.1
      have v_p1 : ((W.alloc (.cells #[.int .i64 w, .int .i64 h, .slice a n c] 24)).alloc (.cells #[.int .i64 0, .slice none 0 0, .slice none 0 0] 60)).cell? ⟨W.heap.size, 1, none⟩ = some (.int .i64 h) := by rw [HWb.out]; exact T5.out.1.2.2.1
      have v_p2 : ((W.alloc (.cells #[.int .i64 w, .int .i64 h, .slice a n c] 24)).alloc (.cells #[.int .i64 0, .slice none 0 0, .slice none 0 0] 60)).cell? ⟨W.heap.size, 2, none⟩ = some (.slice a n c) := by rw [HWb.out]; exact T5.out.1.2.2.2
      go_wp2_with fail
      rw [HWb.out]
      refine (rawNew_fresh _ _ _ _ rfl).mono ?_; rintro e w8 ⟨b1, b2, rfl, lb1, lb2, hw8, hbw8⟩
      clear v_p0 v_p1 v_p2
      have T6 := T5.up hbw8
      clear T5
      obtain ⟨w9, e9, ⟨r0, r1, r2⟩, hret⟩ := er_at (show W.heap.size ≤ W.heap.size + 1 by omega) (T6.out.2) (T6.out.1.1.1.2) (by omega) (by omega) hw8
      obtain ⟨⟨q0, q1, q2⟩, f0, f1, f2⟩ := p_cells (T6.out.2)
      have HRET := Lib.hid hret
      have HE9 := Lib.hid e9
      have HR9 := Lib.hid (And.intro r0 (And.intro r1 r2))
      clear hw8 hret lb1 lb2 sb0 e9 r0 r1 r2
      go_wp2
      rw [HE9.out]
      have r0 := HR9.out.1
      have r1 := HR9.out.2.1
      have r2 := HR9.out.2.2
      refine bodyPost_ret (v := .agg #[.int .i64 7, .slice (some ⟨b1, 0, none⟩) 1 1, .slice (some ⟨b2, 0, none⟩) 1 1]) (by simp [results, Tryd.results54, go_sem, r0, r1, r2]) rfl ?_
      rw [HD.out]
      exact HRET.out
    · skip
      have c01 : 64 < w := by omega
      have c02 : 1 ≤ w := by omega
      have hd : patchD w h l = some ([(opPatch, 0)], 7) := by unfold patchD patchErr; rw [if_pos c0]; rfl
      have HD := Lib.hid hd
      clear hd hnl
      go_enter Tryd.func54, Tryd.ntmps54
      have sb0 : W.heap.size + 1 < Wb.heap.size := heap_ltT (T5.out.2)
      have v_p0 : ((W.alloc (.cells #[.int .i64 w, .int .i64 h, .slice a n c] 24)).alloc (.cells #[.int .i64 0, .slice none 0 0, .slice none 0 0] 60)).cell? ⟨W.heap.size, 0, none⟩ = some (.int .i64 w) := by rw [HWb.out]; exact T5.out.1.2.1
      have v_p1 : ((W.alloc (.cells #[.int .i64 w, .int .i64 h, .slice a n c] 24)).alloc (.cells #[.int .i64 0, .slice none 0 0, .slice none 0 0] 60)).cell? ⟨W.heap.size, 1, none⟩ = some (.int .i64 h) := by rw [HWb.out]; exact T5.out.1.2.2.1
      have v_p2 : ((W.alloc (.cells #[.int .i64 w, .int .i64 h, .slice a n c] 24)).alloc (.cells #[.int .i64 0, .slice none 0 0, .slice none 0 0] 60)).cell? ⟨W.heap.size, 2, none⟩ = some (.slice a n c) := by rw [HWb.out]; exact T5.out.1.2.2.2
      go_wp2_with fail
      rw [HWb.out]
      refine (rawNew_fresh _ _ _ _ rfl).mono ?_; rintro e w8 ⟨b1, b2, rfl, lb1, lb2, hw8, hbw8⟩
      clear v_p0 v_p1 v_p2
      have T6 := T5.up hbw8
      clear T5
      obtain ⟨w9, e9, ⟨r0, r1, r2⟩, hret⟩ := er_at (show W.heap.size ≤ W.heap.size + 1 by omega) (T6.out.2) (T6.out.1.1.1.2) (by omega) (by omega) hw8
      obtain ⟨⟨q0, q1, q2⟩, f0, f1, f2⟩ := p_cells (T6.out.2)
      have HRET := Lib.hid hret
      have HE9 := Lib.hid e9
      have HR9 := Lib.hid (And.intro r0 (And.intro r1 r2))
      clear hw8 hret lb1 lb2 sb0 e9 r0 r1 r2
      go_wp2
      rw [HE9.out]
      have r0 := HR9.out.1
      have r1 := HR9.out.2.1
      have r2 := HR9.out.2.2
      refine bodyPost_ret (v := .agg #[.int .i64 7, .slice (some ⟨b1, 0, none⟩) 1 1, .slice (some ⟨b2, 0, none⟩) 1 1]) (by simp [results, Tryd.results54, go_sem, r0, r1, r2]) rfl ?_
      rw [HD.out]
      exact HRET.out
  have hw1 : 1 ≤ w := by omega
  have hw2 : w ≤ 64 := by omega
  have hw3 : decide (64 < w) = false := decide_eq_false (by omega)
  by_cases c1 : h < 1 ∨ 64 < h
  · skip
    by_cases c10 : h < 1
    · skip
      have hd : patchD w h l = some ([(opPatch, 1)], 7) := by unfold patchD patchErr; rw [if_neg c0, if_pos c1]; rfl
      have HD := Lib.hid hd
      clear hd hnl
      go_enter Tryd.func54, Tryd.ntmps54
      have sb0 : W.heap.size + 1 < Wb.heap.size := heap_ltT (T5.out.2)
      have v_p0 : ((W.alloc (.cells #[.int .i64 w, .int .i64 h, .slice a n c] 24)).alloc (.cells #[.int .i64 0, .slice none 0 0, .slice none 0 0] 60)).cell? ⟨W.heap.size, 0, none⟩ = some (.int .i64 w) := by rw [HWb.out]; exact T5.out.1.2.1
      have v_p1 : ((W.alloc (.cells #[.int .i64 w, .int .i64 h, .slice a n c] 24)).alloc (.cells #[.int .i64 0, .slice none 0 0, .slice none 0 0] 60)).cell? ⟨W.heap.size, 1, none⟩ = some (.int .i64 h) := by rw [HWb.out]; exact T5.out.1.2.2.1
      have v_p2 : ((W.alloc (.cells #[.int .i64 w, .int .i64 h, .slice a n c] 24)).alloc (.cells #[.int .i64 0, .slice none 0 0, .slice none 0 0] 60)).cell? ⟨W.heap.size, 2, none⟩ = some (.slice a n c) := by rw [HWb.out]; exact T5.out.1.2.2.2
      go_wp2_with fail
      rw [HWb.out]
      refine (rawNew_fresh _ _ _ _ rfl).mono ?_; rintro e w8 ⟨b1, b2, rfl, lb1, lb2, hw8, hbw8⟩
      clear v_p0 v_p1 v_p2
      have T6 := T5.up hbw8
      clear T5
      obtain ⟨w9, e9, ⟨r0, r1, r2⟩, hret⟩ := er_at (show W.heap.size ≤ W.heap.size + 1 by omega) (T6.out.2) (T6.out.1.1.1.2) (by omega) (by omega) hw8
      obtain ⟨⟨q0, q1, q2⟩, f0, f1, f2⟩ := p_cells (T6.out.2)
      have HRET := Lib.hid hret
      have HE9 := Lib.hid e9
      have HR9 := Lib.hid (And.intro r0 (And.intro r1 r2))
      clear hw8 hret lb1 lb2 sb0 e9 r0 r1 r2
      go_wp2
      rw [HE9.out]
      have r0 := HR9.out.1
      have r1 := HR9.out.2.1
      have r2 := HR9.out.2.2
      refine bodyPost_ret (v := .agg #[.int .i64 7, .slice (some ⟨b1, 0, none⟩) 1 1, .slice (some ⟨b2, 0, none⟩) 1 1]) (by simp [results, Tryd.results54, go_sem, r0, r1, r2]) rfl ?_
      rw [HD.out]
      exact HRET.out
    · skip
      have c11 : 64 < h := by omega
      have c12 : 1 ≤ h := by omega
      have hd : patchD w h l = some ([(opPatch, 1)], 7) := by unfold patchD patchErr; rw [if_neg c0, if_pos c1]; rfl
      have HD := Lib.hid hd
      clear hd hnl
      go_enter Tryd.func54, Tryd.ntmps54
      have sb0 : W.heap.size + 1 < Wb.heap.size := heap_ltT (T5.out.2)
      have v_p0 : ((W.alloc (.cells #[.int .i64 w, .int .i64 h, .slice a n c] 24)).alloc (.cells #[.int .i64 0, .slice none 0 0, .slice none 0 0] 60)).cell? ⟨W.heap.size, 0, none⟩ = some (.int .i64 w) := by rw [HWb.out]; exact T5.out.1.2.1
      have v_p1 : ((W.alloc (.cells #[.int .i64 w, .int .i64 h, .slice a n c] 24)).alloc (.cells #[.int .i64 0, .slice none 0 0, .slice none 0 0] 60)).cell? ⟨W.heap.size, 1, none⟩ = some (.int .i64 h) := by rw [HWb.out]; exact T5.out.1.2.2.1
      have v_p2 : ((W.alloc (.cells #[.int .i64 w, .int .i64 h, .slice a n c] 24)).alloc (.cells #[.int .i64 0, .slice none 0 0, .slice none 0 0] 60)).cell? ⟨W.heap.size, 2, none⟩ = some (.slice a n c) := by rw [HWb.out]; exact T5.out.1.2.2.2
      go_wp2_with fail
      rw [HWb.out]
      refine (rawNew_fresh _ _ _ _ rfl).mono ?_; rintro e w8 ⟨b1, b2, rfl, lb1, lb2, hw8, hbw8⟩
      clear v_p0 v_p1 v_p2
      have T6 := T5.up hbw8
      clear T5
      obtain ⟨w9, e9, ⟨r0, r1, r2⟩, hret⟩ := er_at (show W.heap.size ≤ W.heap.size + 1 by omega) (T6.out.2) (T6.out.1.1.1.2) (by omega) (by omega) hw8
      obtain ⟨⟨q0, q1, q2⟩, f0, f1, f2⟩ := p_cells (T6.out.2)
      have HRET := Lib.hid hret
      have HE9 := Lib.hid e9
      have HR9 := Lib.hid (And.intro r0 (And.intro r1 r2))
      clear hw8 hret lb1 lb2 sb0 e9 r0 r1 r2
      go_wp2
      rw [HE9.out]
      have r0 := HR9.out.1
      have r1 := HR9.out.2.1
      have r2 := HR9.out.2.2
      refine bodyPost_ret (v := .agg #[.int .i64 7, .slice (some ⟨b1, 0, none⟩) 1 1, .slice (some ⟨b2, 0, none⟩) 1 1]) (by simp [results, Tryd.results54, go_sem, r0, r1, r2]) rfl ?_
      rw [HD.out]
      exact HRET.out
  have hh1 : 1 ≤ h := by omega
  have hh2 : h ≤ 64 := by omega
  have hh3 : decide (64 < h) = false := decide_eq_false (by omega)
  obtain ⟨Q, hQ⟩ : ∃ Q, w * h = Q := ⟨_, rfl⟩
  have hQ0 : 0 ≤ Q := by rw [← hQ]; exact Int.mul_nonneg (by omega) (by omega)
  have hQ1 : Q ≤ 4096 := by
    rw [← hQ]
    have := Int.mul_le_mul hw2 hh2 (by omega) (by omega : (0 : Int) ≤ 64)
    omega
  by_cases c2 : (n : Int) ≠ Q
  · skip
    have cb : ((n : Int) != Q) = true := by simpa using c2
    have hd : patchD w h l = some ([(opPatch, 2)], 7) := by unfold patchD patchErr; rw [if_neg c0, if_neg c1, if_pos (by rw [hQ, ← hnl]; exact c2)]; rfl
    have HD := Lib.hid hd
    clear hd hnl
    go_enter Tryd.func54, Tryd.ntmps54
    have sb0 : W.heap.size + 1 < Wb.heap.size := heap_ltT (T5.out.2)
    have v_p0 : ((W.alloc (.cells #[.int .i64 w, .int .i64 h, .slice a n c] 24)).alloc (.cells #[.int .i64 0, .slice none 0 0, .slice none 0 0] 60)).cell? ⟨W.heap.size, 0, none⟩ = some (.int .i64 w) := by rw [HWb.out]; exact T5.out.1.2.1
    have v_p1 : ((W.alloc (.cells #[.int .i64 w, .int .i64 h, .slice a n c] 24)).alloc (.cells #[.int .i64 0, .slice none 0 0, .slice none 0 0] 60)).cell? ⟨W.heap.size, 1, none⟩ = some (.int .i64 h) := by rw [HWb.out]; exact T5.out.1.2.2.1
    have v_p2 : ((W.alloc (.cells #[.int .i64 w, .int .i64 h, .slice a n c] 24)).alloc (.cells #[.int .i64 0, .slice none 0 0, .slice none 0 0] 60)).cell? ⟨W.heap.size, 2, none⟩ = some (.slice a n c) := by rw [HWb.out]; exact T5.out.1.2.2.2
    go_wp2_with fail
    rw [HWb.out]
    refine (rawNew_fresh _ _ _ _ rfl).mono ?_; rintro e w8 ⟨b1, b2, rfl, lb1, lb2, hw8, hbw8⟩
    clear v_p0 v_p1 v_p2
    have T6 := T5.up hbw8
    clear T5
    obtain ⟨w9, e9, ⟨r0, r1, r2⟩, hret⟩ := er_at (show W.heap.size ≤ W.heap.size + 1 by omega) (T6.out.2) (T6.out.1.1.1.2) (by omega) (by omega) hw8
    obtain ⟨⟨q0, q1, q2⟩, f0, f1, f2⟩ := p_cells (T6.out.2)
    have HRET := Lib.hid hret
    have HE9 := Lib.hid e9
    have HR9 := Lib.hid (And.intro r0 (And.intro r1 r2))
    clear hw8 hret lb1 lb2 sb0 e9 r0 r1 r2
    go_wp2
    rw [HE9.out]
    have r0 := HR9.out.1
    have r1 := HR9.out.2.1
    have r2 := HR9.out.2.2
    refine bodyPost_ret (v := .agg #[.int .i64 7, .slice (some ⟨b1, 0, none⟩) 1 1, .slice (some ⟨b2, 0, none⟩) 1 1]) (by simp [results, Tryd.results54, go_sem, r0, r1, r2]) rfl ?_
    rw [HD.out]
    exact HRET.out
  have cn : (n : Int) = Q := Decidable.byContradiction c2
  have cb : ((n : Int) != Q) = false := by simpa using cn
  have hD : Hid (patchD w h l = if 0 ≤ idxI cellB l then some ([(opPatch, 3 + idxI cellB l)], 7) else none) := by
    show _ = _
    unfold patchD patchErr
    rw [if_neg c0, if_neg c1, if_neg (by rw [hQ, ← hnl]; exact c2)]
    split <;> rfl
  have HNL := Lib.hid hnl
  have hn4 : n ≤ 4096 := by omega
  have HQ := Lib.hid hQ
  have HCN := Lib.hid cn
  clear c0 c1 c2 cn hnl
  go_enter Tryd.func54, Tryd.ntmps54
  have v_p0 : ((W.alloc (.cells #[.int .i64 w, .int .i64 h, .slice a n c] 24)).alloc (.cells #[.int .i64 0, .slice none 0 0, .slice none 0 0] 60)).cell? ⟨W.heap.size, 0, none⟩ = some (.int .i64 w) := by rw [HWb.out]; exact T5.out.1.2.1
  have v_p1 : ((W.alloc (.cells #[.int .i64 w, .int .i64 h, .slice a n c] 24)).alloc (.cells #[.int .i64 0, .slice none 0 0, .slice none 0 0] 60)).cell? ⟨W.heap.size, 1, none⟩ = some (.int .i64 h) := by rw [HWb.out]; exact T5.out.1.2.2.1
  have v_p2 : ((W.alloc (.cells #[.int .i64 w, .int .i64 h, .slice a n c] 24)).alloc (.cells #[.int .i64 0, .slice none 0 0, .slice none 0 0] 60)).cell? ⟨W.heap.size, 2, none⟩ = some (.slice a n c) := by rw [HWb.out]; exact T5.out.1.2.2.2
  go_wp2_with fail
  rw [HWb.out]
  clear v_p0 v_p1 v_p2
  clear hw3 hh3 cb hQ
  go_loop [3] (fun ix => ∃ i : Nat, i ≤ n ∧ ix = .int .i64 i ∧ ∀ x ∈ l.take i, cellB x = false) (fun ix => n - (intOf ix).toNat)
  case atStart => exact ⟨0, by omega, rfl, fun x hx => by simp at hx⟩
  case round =>
    obtain ⟨i, hi, rfl, hall⟩ := hrel
    have HA := Lib.hid hall
    clear hall
    by_cases hin : i < n
    · skip
      obtain ⟨ab, ao, hab0, hab, hcell⟩ := (T5.out.1.1.2).addr (by omega)
      subst hab0
      have z0 := hcell i hin
      have hnext : Hid (cellB (l.getD i 0) = false → ∀ x ∈ l.take (i + 1), cellB x = false) := by
        intro hc x hx
        rw [List.take_succ_eq_append_getElem (by have := HNL.out; omega), List.mem_append] at hx
        rcases hx with hx | hx
        · exact HA.out x hx
        · rw [List.mem_singleton] at hx
          rw [hx]
          have hil : i < l.length := by have := HNL.out; omega
          simpa [hil] using hc
      have hhit : Hid (cellB (l.getD i 0) = true → idxI cellB l = (i : Int)) := fun hc => findIdx_at (by have := HNL.out; omega) HA.out hc
      generalize l.getD i 0 = u at z0 hnext hhit
      have i0 : (0 : Int) ≤ (i : Int) := by omega
      have i1 : (i : Int) < (n : Int) := by omega
      clear hcell
      by_cases hu : u = 0 ∨ u = 1
      · skip
        have HN := Lib.hid (hnext.out (cellB_false.2 hu))
        clear hnext hhit
        rcases hu with rfl | rfl
        · skip
          have v_p2 : Wb.cell? ⟨W.heap.size, 2, none⟩ = some (.slice (some ⟨ab, ao, none⟩) n c) := T5.out.1.2.2.2
          go_wp2
          go_round
          case rel => exact ⟨i + 1, by omega, by go_num, HN.out⟩
          case measure => simp [intOf]; omega
        · skip
          have v_p2 : Wb.cell? ⟨W.heap.size, 2, none⟩ = some (.slice (some ⟨ab, ao, none⟩) n c) := T5.out.1.2.2.2
          go_wp2
          go_round
          case rel => exact ⟨i + 1, by omega, by go_num, HN.out⟩
          case measure => simp [intOf]; omega
      · skip
        have hi2 := hhit.out (cellB_true.2 (by omega))
        have hd := hD.out
        rw [if_pos (by omega), hi2] at hd
        have HD := Lib.hid hd
        have u0 : ¬ u = 0 := by omega
        have u1 : ¬ u = 1 := by omega
        have hu0 : (u != 0) = true := by simpa using u0
        have hu1 : (u != 1) = true := by simpa using u1
        clear hd hi2 hu hhit hnext u0 u1
        have sb0 : W.heap.size + 1 < Wb.heap.size := heap_ltT (T5.out.2)
        have v_p2 : Wb.cell? ⟨W.heap.size, 2, none⟩ = some (.slice (some ⟨ab, ao, none⟩) n c) := T5.out.1.2.2.2
        go_wp2_with fail
        refine (rawNew_fresh _ _ _ _ rfl).mono ?_; rintro e w8 ⟨b1, b2, rfl, lb1, lb2, hw8, hbw8⟩
        clear v_p2
        have T6 := T5.up hbw8
        clear T5
        obtain ⟨w9, e9, ⟨r0, r1, r2⟩, hret⟩ := er_at (show W.heap.size ≤ W.heap.size + 1 by omega) (T6.out.2) (T6.out.1.1.1.2) (by omega) (by omega) hw8
        obtain ⟨⟨q0, q1, q2⟩, f0, f1, f2⟩ := p_cells (T6.out.2)
        have HRET := Lib.hid hret
        have HE9 := Lib.hid e9
        have HR9 := Lib.hid (And.intro r0 (And.intro r1 r2))
        clear hw8 hret lb1 lb2 sb0 e9 r0 r1 r2
        go_wp2
        rw [HE9.out]
        have r0 := HR9.out.1
        have r1 := HR9.out.2.1
        have r2 := HR9.out.2.2
        refine bodyPost_ret (v := .agg #[.int .i64 7, .slice (some ⟨b1, 0, none⟩) 1 1, .slice (some ⟨b2, 0, none⟩) 1 1]) (by simp [results, Tryd.results54, go_sem, r0, r1, r2]) rfl ?_
        rw [HD.out]
        exact HRET.out
    · skip
      obtain rfl : n = i := by omega
      have hno : idxI cellB l = -1 := findIdx_none fun x hx => HA.out x (by rw [List.take_of_length_le (by have := HNL.out; omega)]; exact hx)
      have hd := hD.out
      rw [if_neg (by omega)] at hd
      have HD := Lib.hid hd
      clear hd hno
      obtain ⟨⟨q0, q1, q2⟩, f0, f1, f2⟩ := p_cells (T5.out.2)
      obtain ⟨w9, e9, ⟨r0, r1, r2⟩, hret⟩ := er_none (show W.heap.size ≤ W.heap.size + 1 by omega) (T5.out.2) (T5.out.1.1.1.2)
      have HRET := Lib.hid hret
      have HE9 := Lib.hid e9
      have HR9 := Lib.hid (And.intro r0 (And.intro r1 r2))
      clear hret e9 r0 r1 r2
      have v_p2 : Wb.cell? ⟨W.heap.size, 2, none⟩ = some (.slice a n c) := T5.out.1.2.2.2
      go_wp2
      rw [HE9.out]
      have r0 := HR9.out.1
      have r1 := HR9.out.2.1
      have r2 := HR9.out.2.2
      refine bodyPost_ret (v := .agg #[.int .i64 0, .slice none 0 0, .slice none 0 0]) (by simp [results, Tryd.results54, go_sem, r0, r1, r2]) rfl ?_
      rw [HD.out]
      exact HRET.out
end Go.Proofs.YtoaooblodgejdaaDoor
namespace Go.Proofs.YtoaooblodgejdaaDoor
open Go.RowKit
set_option linter.unusedVariables false
set_option maxRecDepth 100000

theorem setCell_comm {w : World} {g1 g2 i j : Nat} {u v : Value} (h : g1 ≠ g2) : (w.setCell ⟨g1, i, none⟩ u).setCell ⟨g2, j, none⟩ v = (w.setCell ⟨g2, j, none⟩ v).setCell ⟨g1, i, none⟩ u := by
  simp only [World.setCell]
  congr 1
  apply Array.ext_getElem?
  intro k
  simp only [Array.getElem?_modify]
  by_cases h1 : g1 = k <;> by_cases h2 : g2 = k <;> simp [h1, h2]
  exact absurd (h1.trans h2.symm) h
/-- a patch's variable and an error's are set -/
theorem set6p {w : World} {g1 g2 : Nat} {x0 x1 x2 y0 y1 y2 : Value} {t1 t2 : TypeId} {f1 f2 : Nat × Nat} (hne : g1 ≠ g2) (h1 : w.heap[g1]? = some (.cells #[x0, x1, x2] t1 f1)) (h2 : w.heap[g2]? = some (.cells #[y0, y1, y2] t2 f2)) (u0 u1 u2 v0 v1 v2 : Value) :
    ∃ w9, ((((((w.setCell ⟨g1, 0, none⟩ u0).setCell ⟨g1, 1, none⟩ u1).setCell ⟨g1, 2, none⟩ u2).setCell ⟨g2, 0, none⟩ v0).setCell ⟨g2, 1, none⟩ v1).setCell ⟨g2, 2, none⟩ v2) = w9 ∧
      ((((((w.setCell ⟨g2, 0, none⟩ v0).setCell ⟨g2, 1, none⟩ v1).setCell ⟨g2, 2, none⟩ v2).setCell ⟨g1, 0, none⟩ u0).setCell ⟨g1, 1, none⟩ u1).setCell ⟨g1, 2, none⟩ u2) = w9 ∧
      ((w9.cell? ⟨g1, 0, none⟩ = some u0 ∧ w9.cell? ⟨g1, 1, none⟩ = some u1 ∧ w9.cell? ⟨g1, 2, none⟩ = some u2) ∧ (w9.cell? ⟨g2, 0, none⟩ = some v0 ∧ w9.cell? ⟨g2, 1, none⟩ = some v1 ∧ w9.cell? ⟨g2, 2, none⟩ = some v2)) ∧
      (∀ k, k ≠ g1 → k ≠ g2 → w9.heap[k]? = w.heap[k]?) ∧ w9.heap.size = w.heap.size ∧ ∀ (V : World) (B : Nat), B ≤ g1 → B ≤ g2 → Below B V w → Below B V w9 := by
  obtain ⟨wa, ea, ca, ka, sa, ba⟩ := set3p h1 u0 u1 u2
  have h2a : wa.heap[g2]? = some (.cells #[y0, y1, y2] t2 f2) := (ka g2 (fun e => hne e.symm)).trans h2
  obtain ⟨wb, eb, cb, kb, sb, bb⟩ := set3p h2a v0 v1 v2
  refine ⟨wb, by rw [ea, eb], ?_, ⟨⟨?_, ?_, ?_⟩, cb⟩, fun k h1 h2 => (kb k h2).trans (ka k h1), sb.trans sa, fun V B l1 l2 hb => bb V B l2 (ba V B l1 hb)⟩
  · rw [← eb, ← ea]
    have hne2 : g2 ≠ g1 := fun e => hne e.symm
    simp only [setCell_comm (g1 := g2) (g2 := g1) hne2]
  · rw [World.cell?_of_block (w := wa) (kb g1 hne)]; exact ca.1
  · rw [World.cell?_of_block (w := wa) (kb g1 hne)]; exact ca.2.1
  · rw [World.cell?_of_block (w := wa) (kb g1 hne)]; exact ca.2.2
theorem WC.oth2 {w w6 : World} {g1 g2 : Nat} {N : Int} {a1 a2 : Option Addr} {n1 c1 n2 c2 : Nat} {f : ErrD} (h : WC w (.agg #[.int .i64 N, .slice a1 n1 c1, .slice a2 n2 c2]) f) (hk : ∀ k, k ≠ g1 → k ≠ g2 → w6.heap[k]? = w.heap[k]?) (hs : w6.heap.size = w.heap.size) {B : Nat} (l1 : g1 < B) (l2 : g2 < B) (h1 : Fr B a1) (h2 : Fr B a2) :
    WC w6 (.agg #[.int .i64 N, .slice a1 n1 c1, .slice a2 n2 c2]) f := by
  have rd : ∀ {a : Option Addr} {n sz : Nat} {cs : List Value}, Fr B a → Rd w a n sz cs → Rd w6 a n sz cs := by
    intro a n sz cs hf hr
    refine ⟨hr.1, ?_⟩
    rcases hr.2 with h0 | ⟨b, o, rfl, hlt, hc⟩
    · exact .inl h0
    · have := hf b o rfl
      refine .inr ⟨b, o, rfl, by omega, fun j u hu => ?_⟩
      rw [World.cell?_of_block (hk b (by omega) (by omega))]
      exact hc j u hu
  have key : ∀ {n : Int} {es : List (ByteArray × Int)}, ErrVal w (.agg #[.int .i64 N, .slice a1 n1 c1, .slice a2 n2 c2]) n es → ErrVal w6 (.agg #[.int .i64 N, .slice a1 n1 c1, .slice a2 n2 c2]) n es := by
    rintro n es ⟨ao, aa, co, ca, e, hw⟩
    simp only [Value.agg.injEq, Array.mk.injEq, List.cons.injEq, Value.int.injEq, Value.slice.injEq] at e
    obtain ⟨⟨_, rfl⟩, ⟨rfl, rfl, rfl⟩, ⟨rfl, _, rfl⟩, _⟩ := e
    exact ⟨a1, a2, c1, c2, by simp_all, hw.n1, hw.n2, rd h1 hw.ops, rd h2 hw.ats, hw.len⟩
  cases f with
  | none => exact key h
  | some y => exact ⟨key h.1, h.2⟩
/-- a patch and an error as the document has them -/
def PatRef (W : World) (o : Int × Int × List Int) (x : ErrD) (e : Ending) (w' : World) : Prop := ∃ a n c N b1 m1 d1 b2 m2 d2, e = .returned (.tuple #[patV o.1 o.2.1 a n c, .agg #[.int .i64 N, .slice b1 m1 d1, .slice b2 m2 d2]]) ∧ RK .i64 w' a n o.2.2 ∧ WC w' (.agg #[.int .i64 N, .slice b1 m1 d1, .slice b2 m2 d2]) x ∧ (N != 0) = x.isSome ∧ Below W.heap.size W w'
/-- a list and an error as the document has them -/
def IntsRef (W : World) (o : List Int) (x : ErrD) (e : Ending) (w' : World) : Prop := ∃ a n c N b1 m1 d1 b2 m2 d2, e = .returned (.tuple #[.slice a n c, .agg #[.int .i64 N, .slice b1 m1 d1, .slice b2 m2 d2]]) ∧ RK .i64 w' a n o ∧ WC w' (.agg #[.int .i64 N, .slice b1 m1 d1, .slice b2 m2 d2]) x ∧ (N != 0) = x.isSome ∧ Below W.heap.size W w'
theorem PatRef.drew {W w : World} {o : Int × Int × List Int} {x : ErrD} {e : Ending} (h : PatRef W o x e w) : PatRef W o x e w.drew := by
  obtain ⟨a, n, c, N, b1, m1, d1, b2, m2, d2, rfl, h1, h2, h3, hb⟩ := h
  exact ⟨a, n, c, N, b1, m1, d1, b2, m2, d2, rfl, h1.up (Below.drew (bnil w)), h2.up (Below.drew (bnil w)), h3, Below.drew hb⟩
theorem IntsRef.drew {W w : World} {o : List Int} {x : ErrD} {e : Ending} (h : IntsRef W o x e w) : IntsRef W o x e w.drew := by
  obtain ⟨a, n, c, N, b1, m1, d1, b2, m2, d2, rfl, h1, h2, h3, hb⟩ := h
  exact ⟨a, n, c, N, b1, m1, d1, b2, m2, d2, rfl, h1.up (Below.drew (bnil w)), h2.up (Below.drew (bnil w)), h3, Below.drew hb⟩
/-- a refusal's end, the error told by a call -/
theorem pr_err {W w8 : World} {g1 g2 : Nat} {N : Int} {a1 a2 : Option Addr} {n1 c1 n2 c2 : Nat} {x : ErrD} {x0 x1 x2 y0 y1 y2 : Value} (hne : g1 ≠ g2) (h1 : w8.heap[g1]? = some (.cells #[x0, x1, x2] 24)) (h2 : w8.heap[g2]? = some (.cells #[y0, y1, y2] 60)) (l1 : W.heap.size ≤ g1) (l2 : W.heap.size ≤ g2) (hb : Below W.heap.size W w8)
    {B : Nat} (k1 : g1 < B) (k2 : g2 < B) (f1 : Fr B a1) (f2 : Fr B a2) (hw : WC w8 (.agg #[.int .i64 N, .slice a1 n1 c1, .slice a2 n2 c2]) x) (hn : (N != 0) = x.isSome) :
    ∃ w9, ((((((w8.setCell ⟨g1, 0, none⟩ (.int .i64 0)).setCell ⟨g1, 1, none⟩ (.int .i64 0)).setCell ⟨g1, 2, none⟩ (.slice none 0 0)).setCell ⟨g2, 0, none⟩ (.int .i64 N)).setCell ⟨g2, 1, none⟩ (.slice a1 n1 c1)).setCell ⟨g2, 2, none⟩ (.slice a2 n2 c2)) = w9 ∧
      ((((((w8.setCell ⟨g2, 0, none⟩ (.int .i64 N)).setCell ⟨g2, 1, none⟩ (.slice a1 n1 c1)).setCell ⟨g2, 2, none⟩ (.slice a2 n2 c2)).setCell ⟨g1, 0, none⟩ (.int .i64 0)).setCell ⟨g1, 1, none⟩ (.int .i64 0)).setCell ⟨g1, 2, none⟩ (.slice none 0 0)) = w9 ∧
      ((w9.cell? ⟨g1, 0, none⟩ = some (.int .i64 0) ∧ w9.cell? ⟨g1, 1, none⟩ = some (.int .i64 0) ∧ w9.cell? ⟨g1, 2, none⟩ = some (.slice none 0 0)) ∧ (w9.cell? ⟨g2, 0, none⟩ = some (.int .i64 N) ∧ w9.cell? ⟨g2, 1, none⟩ = some (.slice a1 n1 c1) ∧ w9.cell? ⟨g2, 2, none⟩ = some (.slice a2 n2 c2))) ∧
      PatRef W (0, 0, []) x (.returned (.tuple #[patV 0 0 none 0 0, .agg #[.int .i64 N, .slice a1 n1 c1, .slice a2 n2 c2]])) w9 := by
  obtain ⟨w9, e1, e2, hc, hk, hs, hbl⟩ := set6p hne h1 h2 (.int .i64 0) (.int .i64 0) (.slice none 0 0) (.int .i64 N) (.slice a1 n1 c1) (.slice a2 n2 c2)
  exact ⟨w9, e1, e2, hc, none, 0, 0, N, a1, n1, c1, a2, n2, c2, rfl, RK.nil, hw.oth2 hk hs k1 k2 f1 f2, hn, hbl _ _ l1 l2 hb⟩
/-- the end of a call that is not refused -/
theorem pr_ok {W w8 : World} {g1 g2 : Nat} {H K : Int} {a : Option Addr} {n c : Nat} {l : List Int} {x0 x1 x2 y0 y1 y2 : Value} (hne : g1 ≠ g2) (h1 : w8.heap[g1]? = some (.cells #[x0, x1, x2] 24)) (h2 : w8.heap[g2]? = some (.cells #[y0, y1, y2] 60)) (l1 : W.heap.size ≤ g1) (l2 : W.heap.size ≤ g2) (hb : Below W.heap.size W w8)
    {B : Nat} (k1 : g1 < B) (k2 : g2 < B) (ho : OwI w8 B a n c l) :
    ∃ w9, ((((((w8.setCell ⟨g1, 0, none⟩ (.int .i64 H)).setCell ⟨g1, 1, none⟩ (.int .i64 K)).setCell ⟨g1, 2, none⟩ (.slice a n c)).setCell ⟨g2, 0, none⟩ (.int .i64 0)).setCell ⟨g2, 1, none⟩ (.slice none 0 0)).setCell ⟨g2, 2, none⟩ (.slice none 0 0)) = w9 ∧
      ((((((w8.setCell ⟨g2, 0, none⟩ (.int .i64 0)).setCell ⟨g2, 1, none⟩ (.slice none 0 0)).setCell ⟨g2, 2, none⟩ (.slice none 0 0)).setCell ⟨g1, 0, none⟩ (.int .i64 H)).setCell ⟨g1, 1, none⟩ (.int .i64 K)).setCell ⟨g1, 2, none⟩ (.slice a n c)) = w9 ∧
      ((w9.cell? ⟨g1, 0, none⟩ = some (.int .i64 H) ∧ w9.cell? ⟨g1, 1, none⟩ = some (.int .i64 K) ∧ w9.cell? ⟨g1, 2, none⟩ = some (.slice a n c)) ∧ (w9.cell? ⟨g2, 0, none⟩ = some (.int .i64 0) ∧ w9.cell? ⟨g2, 1, none⟩ = some (.slice none 0 0) ∧ w9.cell? ⟨g2, 2, none⟩ = some (.slice none 0 0))) ∧
      PatRef W (H, K, l) none (.returned (.tuple #[patV H K a n c, .agg #[.int .i64 0, .slice none 0 0, .slice none 0 0]])) w9 := by
  obtain ⟨w9, e1, e2, hc, hk, hs, hbl⟩ := set6p hne h1 h2 (.int .i64 H) (.int .i64 K) (.slice a n c) (.int .i64 0) (.slice none 0 0) (.slice none 0 0)
  refine ⟨w9, e1, e2, hc, a, n, c, 0, none, 0, 0, none, 0, 0, rfl, ?_, wc_none w9, rfl, hbl _ _ l1 l2 hb⟩
  exact OwI.rk ⟨own_of_heap' ho.own fun b hb => by have := (ho.own.lt b hb).1; exact hk b (by omega) (by omega)⟩
theorem take_snoc {l : List Int} {k : Nat} (h : k < l.length) : (l.take k).map (Value.int .i64) ++ (#[Value.int .i64 (l.getD k 0)] : Array Value).toList = (l.take (k + 1)).map (Value.int .i64) := by
  rw [List.take_succ_eq_append_getElem h, List.map_append, show l.getD k 0 = l[k] by simp [h]]
  rfl
theorem set2q {w : World} {g : Nat} {x0 x1 x2 : Value} {t : TypeId} {fr : Nat × Nat} (h : w.heap[g]? = some (.cells #[x0, x1, x2] t fr)) (u : Value) : (w.setCell ⟨g, 2, none⟩ u).heap[g]? = some (.cells #[x0, x1, u] t fr) := by
  simp [World.setCell, Array.getElem?_modify, h]
theorem withinB_t2 {x n m : Int} (h : ¬ withinB x n m = false) : 0 ≤ x ∧ 1 ≤ n ∧ n ≤ m ∧ x ≤ m - n := by
  have h2 : withinB x n m = true := by simpa using h
  exact of_decide_eq_true h2
theorem refBadE (n : Int) (x y : Value) (W : World) (b : Bool) (h : (n != 0) = b) : Calls Tryd.prog 37 #[.agg #[.int .i64 n, x, y]] W fun e w' => e = .returned (.bool b) ∧ Below W.heap.size W w' := by
  subst h
  go_enter Tryd.func37, Tryd.ntmps37
  go_wp2
  go_ret
  exact ⟨rfl, balloc (bnil W) _⟩
theorem refpcheck_ok (w h : Nat) (a : Option Addr) (n c : Nat) (l : List Int) (W : World) (hR : RK .i64 W a n l) (hm : n ≤ maxLen) (hp : IsPatch w h l) :
    Calls Tryd.prog 54 #[patV w h a n c] W fun e w' => e = .returned (.agg #[.int .i64 0, .slice none 0 0, .slice none 0 0]) ∧ Below W.heap.size W w' := by
  refine (refpcheck_any w h a n c l W hR hm).mono ?_
  rintro e w' ⟨N, a1, n1, c1, a2, n2, c2, rfl, _, _, _, _, hz, hb⟩
  obtain ⟨rfl, rfl, rfl, rfl, rfl, rfl, rfl⟩ := hz (by unfold patchD; rw [patchErr_of hp]; rfl)
  exact ⟨rfl, hb⟩
theorem refpcheck_er (w h : Int) (a : Option Addr) (n c : Nat) (l : List Int) (W : World) (hR : RK .i64 W a n l) (hm : n ≤ maxLen) (hp : patchErr w h l ≠ none) :
    Calls Tryd.prog 54 #[patV w h a n c] W fun e w' => ∃ N a1 n1 c1 a2 n2 c2, e = .returned (.agg #[.int .i64 N, .slice a1 n1 c1, .slice a2 n2 c2]) ∧ WC w' (.agg #[.int .i64 N, .slice a1 n1 c1, .slice a2 n2 c2]) (patchD w h l) ∧ Fr W.heap.size a1 ∧ Fr W.heap.size a2 ∧ (N != 0) = true ∧ Below W.heap.size W w' := by
  refine (refpcheck_any w h a n c l W hR hm).mono ?_
  rintro e w' ⟨N, a1, n1, c1, a2, n2, c2, rfl, hw, f1, f2, hn, _, hb⟩
  refine ⟨N, a1, n1, c1, a2, n2, c2, rfl, hw, f1, f2, ?_, hb⟩
  rw [hn]
  unfold patchD
  cases he : patchErr w h l with
  | none => exact absurd he hp
  | some y => rfl

/-- the result's error is set -/
theorem er_set {W w8 : World} {B : Nat} {N : Int} {a1 a2 : Option Addr} {n1 c1 n2 c2 : Nat} {x : ErrD} {x0 x1 x2 : Value} (hB : W.heap.size ≤ B) (hz : w8.heap[B]? = some (.cells #[x0, x1, x2] 60)) (hb : Below W.heap.size W w8) (f1 : Fr (B + 1) a1) (f2 : Fr (B + 1) a2)
    (hw : WC w8 (.agg #[.int .i64 N, .slice a1 n1 c1, .slice a2 n2 c2]) x) :
    ∃ w9, (((w8.setCell ⟨B, 0, none⟩ (.int .i64 N)).setCell ⟨B, 1, none⟩ (.slice a1 n1 c1)).setCell ⟨B, 2, none⟩ (.slice a2 n2 c2)) = w9 ∧
      (w9.cell? ⟨B, 0, none⟩ = some (.int .i64 N) ∧ w9.cell? ⟨B, 1, none⟩ = some (.slice a1 n1 c1) ∧ w9.cell? ⟨B, 2, none⟩ = some (.slice a2 n2 c2)) ∧
      (∀ k, k ≠ B → w9.heap[k]? = w8.heap[k]?) ∧ w9.heap.size = w8.heap.size ∧ WC w9 (.agg #[.int .i64 N, .slice a1 n1 c1, .slice a2 n2 c2]) x ∧ Below W.heap.size W w9 := by
  obtain ⟨w9, e9, hc, hk, hs, hbl⟩ := set3p hz (.int .i64 N) (.slice a1 n1 c1) (.slice a2 n2 c2)
  exact ⟨w9, e9, hc, hk, hs, hw.other hk hs f1 f2, hbl W W.heap.size hB hb⟩
end Go.Proofs.YtoaooblodgejdaaDoor
