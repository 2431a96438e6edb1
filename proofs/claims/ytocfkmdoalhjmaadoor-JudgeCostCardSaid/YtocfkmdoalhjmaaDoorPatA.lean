/- The contracts of patch.side, patch.Check. -/
import Derived.Test.YtocfkmdoalhjmaaDoorPatP
import Derived.Test.YtocfkmdoalhjmaaDoorErrG
import Derived.Test.YtocfkmdoalhjmaaDoorSl
import Derived.Test.YtocfkmdoalhjmaaDoorBitI
import Derived.IntWalk
import Derived.Shelf.Abstract
namespace Go.Proofs.YtocfkmdoalhjmaaDoor
open Go.RowKit
set_option linter.unusedVariables false
set_option maxRecDepth 100000

abbrev patV (W H : Int) (a : Option Addr) (n c : Nat) : Value := .agg #[.int .i64 W, .int .i64 H, .slice a n c]
theorem cpa {w w' : World} {a : Addr} {v : Value} (hb : Below w.heap.size w w') (h : w.cell? a = some v) : w'.cell? a = some v := (hb.cell (World.block_lt_of_cell? _ _ h)).trans h
theorem al000 {w : World} {a : Addr} {v : Value} {o : Obj} (h : w.cell? a = some v) : (w.alloc o).cell? a = some v := cpa (balloc (bnil w) o) h
theorem side_t (n : Int) (W : World) (h1 : 1 ≤ n) (h2 : n ≤ 64) : Calls Tryd.prog 98 #[.int .i64 n] W fun e w' => e = .returned (.bool true) ∧ W = w' := by
  go_enter Tryd.func98, Tryd.ntmps98
  go_wp2
  go_ret
  exact ⟨rfl, rfl⟩
theorem side_f (n : Int) (W : World) (h : n < 1 ∨ 64 < n) : Calls Tryd.prog 98 #[.int .i64 n] W fun e w' => e = .returned (.bool false) ∧ W = w' := by
  by_cases h1 : n < 1
  · clear h
    go_enter Tryd.func98, Tryd.ntmps98
    go_wp2
    go_ret
    exact ⟨rfl, rfl⟩
  · have h2 : 64 < n := by omega
    have h3 : 1 ≤ n := by omega
    have h4 : ¬ n ≤ 64 := by omega
    have h5 : decide (n ≤ 64) = false := decide_eq_false h4
    clear h h1
    go_enter Tryd.func98, Tryd.ntmps98
    go_wp2
    go_ret
    exact ⟨rfl, rfl⟩

def cellA (x : Int) : Bool := bits .andNot .i64 x 1 != 0
theorem pcheck1 (w : World) : PredOf 99 #[] cellA w := by
  intro W x hb
  have key : ∀ b, cellA x = b → Calls Tryd.prog 99 #[.int .i64 x] W fun e w' => e = .returned (.bool b) ∧ ∃ n, w' = W.drewN n := by
    intro b hbx
    unfold cellA at hbx
    go_enter Tryd.func99, Tryd.ntmps99
    go_wp2
    go_ret
    exact ⟨rfl, 0, rfl⟩
  exact key _ rfl
theorem idxI_bd (p : Int → Bool) (l : List Int) : -1 ≤ idxI p l ∧ idxI p l ≤ (l.length : Int) := by
  unfold idxI
  cases h : l.findIdx? p with
  | none => simp only; omega
  | some i =>
    have := (List.findIdx?_eq_some_iff_getElem.1 h).1
    simp only; omega
theorem findIdx_congr {p q : Int → Bool} : ∀ {l : List Int}, (∀ x ∈ l, p x = q x) → l.findIdx? p = l.findIdx? q
  | [], _ => rfl
  | x :: l, h => by
    rw [List.findIdx?_cons, List.findIdx?_cons, h x (by simp), findIdx_congr fun y hy => h y (by simp [hy])]
theorem idxI_congr {p q : Int → Bool} {l : List Int} (h : ∀ x ∈ l, p x = q x) : idxI p l = idxI q l := by
  unfold idxI
  rw [findIdx_congr h]
def I64 (l : List Int) : Prop := ∀ x ∈ l, -9223372036854775808 ≤ x ∧ x ≤ 9223372036854775807
theorem idx_cell {l : List Int} (h : I64 l) : idxI cellA l = idxI cellB l := idxI_congr fun x hx => andNot1_i64 (h x hx).1 (h x hx).2
/-- a patch's fault -/
def patchD (W H : Int) (l : List Int) : ErrD := (patchErr W H l).map fun x => ([(opPatch, x.1)], x.2)

set_option maxHeartbeats 4000000 in
theorem pcheck_any (w h : Int) (a : Option Addr) (n c : Nat) (l : List Int) (W : World) (R : Nat → Addr) (hS : Sent W R) (hR : RK .i64 W a n l) (hm : n ≤ maxLen) (hx : I64 l) :
    Calls Tryd.prog 55 #[patV w h a n c] W fun e w' => ∃ ev, e = .returned ev ∧ EC R w' ev (patchD w h l) ∧ (ev = .nilIface ∨ ∃ g, ev = .iface 117 (.pointer (some ⟨g, 0, none⟩))) ∧ Below W.heap.size W w' := by
  have hmx : n ≤ 9223372036854775807 := hm
  have HL := Lib.hid hR.len
  have HR := Lib.hid hR; clear hR
  have HSN := Lib.hid hS; clear hS
  have HIX := Lib.hid (idx_cell hx); clear hx
  obtain ⟨i, hi⟩ : ∃ i, idxI cellB l = i := ⟨_, rfl⟩
  have hib := idxI_bd cellB l
  rw [hi, ← HL.out] at hib
  obtain ⟨hi1, hi2⟩ := hib
  obtain ⟨Wb, hWb⟩ : ∃ Wb, W.alloc (.cells #[.int .i64 w, .int .i64 h, .slice a n c] 24) = Wb := ⟨_, rfl⟩
  have HX : Hid (Wb.cell? ⟨W.heap.size, 0, none⟩ = some (.int .i64 w) ∧ Wb.cell? ⟨W.heap.size, 1, none⟩ = some (.int .i64 h) ∧ Wb.cell? ⟨W.heap.size, 2, none⟩ = some (.slice a n c)) := by rw [← hWb]; exact ⟨by simp, by simp, by simp⟩
  have HBX : Hid (Below W.heap.size W Wb) := by rw [← hWb]; exact balloc (bnil W) _
  have HE : Hid (∀ (w0 : World) (hb : Below Wb.heap.size Wb w0) (at_ num : Int), EC R (w0.alloc (faultObj opPatch at_ (.iface 199 (.pointer (some (R (rix num))))))) (.iface 117 (.pointer (some ⟨w0.heap.size, 0, none⟩))) (some ([(opPatch, at_)], num))) := fun w0 hb at_ num => ec_err (((HSN.out.up HBX.out).up hb).up (balloc (bnil w0) _)) (isErr_new (Nat.le_refl _))
  have HG := Lib.hid (HSN.out.up HBX.out).glob
  have HI := Lib.hid hi
  clear hi
  have x0 := HX.out.1
  have x1 := HX.out.2.1
  have x2 := HX.out.2.2
  have HWB := Lib.hid hWb; clear hWb
  by_cases c0 : w < 1 ∨ 64 < w
  · have hd : patchD w h l = some ([(opPatch, 0)], 7) := by unfold patchD patchErr; rw [if_pos c0]; rfl
    have HD := Lib.hid hd; clear hd
    go_enter Tryd.func55, Tryd.ntmps55
    go_wp2_with fail
    rw [HWB.out]
    refine (side_f w _ c0).mono ?_; rintro e w1 ⟨rfl, rfl⟩
    clear c0
    go_wp2_with fail
    refine (patch_wrong _ _ _ R HG.out rfl).mono ?_; rintro e w1 ⟨rfl, rfl⟩
    go_wp2
    go_ret
    rw [HD.out]
    exact ⟨_, rfl, HE.out _ (bnil Wb) _ _, .inr ⟨_, rfl⟩, balloc HBX.out _⟩
  by_cases c1 : h < 1 ∨ 64 < h
  · have hd : patchD w h l = some ([(opPatch, 1)], 7) := by unfold patchD patchErr; rw [if_neg c0, if_pos c1]; rfl
    have HD := Lib.hid hd; clear hd
    have w1 : 1 ≤ w := by omega
    have w2 : w ≤ 64 := by omega
    clear c0
    go_enter Tryd.func55, Tryd.ntmps55
    go_wp2_with fail
    rw [HWB.out]
    refine (side_t w _ w1 w2).mono ?_; rintro e w1 ⟨rfl, rfl⟩
    go_wp2_with fail
    refine (side_f h _ c1).mono ?_; rintro e w1 ⟨rfl, rfl⟩
    clear c1
    go_wp2_with fail
    refine (patch_wrong _ _ _ R HG.out rfl).mono ?_; rintro e w1 ⟨rfl, rfl⟩
    go_wp2
    go_ret
    rw [HD.out]
    exact ⟨_, rfl, HE.out _ (bnil Wb) _ _, .inr ⟨_, rfl⟩, balloc HBX.out _⟩
  have w1 : 1 ≤ w := by omega
  have w2 : w ≤ 64 := by omega
  have h1 : 1 ≤ h := by omega
  have h2 : h ≤ 64 := by omega
  obtain ⟨P, hP⟩ : ∃ P, w * h = P := ⟨_, rfl⟩
  have hP0 : 0 ≤ P := by rw [← hP]; exact Int.mul_nonneg (by omega) (by omega)
  have hP1 : P ≤ 4096 := by
    rw [← hP]
    have := Int.mul_le_mul w2 h2 (by omega) (by omega : (0 : Int) ≤ 64)
    omega
  by_cases c2 : (n : Int) ≠ P
  · have hd : patchD w h l = some ([(opPatch, 2)], 7) := by unfold patchD patchErr; rw [if_neg c0, if_neg c1, if_pos (by rw [hP, ← HL.out]; exact c2)]; rfl
    have HD := Lib.hid hd; clear hd
    have cb : ((n : Int) != P) = true := by simpa using c2
    have cb2 : ((n : Int) == P) = false := by simpa using c2
    clear c0 c1 c2
    go_enter Tryd.func55, Tryd.ntmps55
    go_wp2_with fail
    rw [HWB.out]
    refine (side_t w _ w1 w2).mono ?_; rintro e w9 ⟨rfl, rfl⟩
    go_wp2_with fail
    refine (side_t h _ h1 h2).mono ?_; rintro e w9 ⟨rfl, rfl⟩
    go_wp2_with fail
    refine (patch_wrong _ _ _ R HG.out rfl).mono ?_; rintro e w9 ⟨rfl, rfl⟩
    go_wp2
    go_ret
    rw [HD.out]
    exact ⟨_, rfl, HE.out _ (bnil Wb) _ _, .inr ⟨_, rfl⟩, balloc HBX.out _⟩
  have hd : patchD w h l = if 0 ≤ i then some ([(opPatch, 3 + i)], 7) else none := by
    unfold patchD patchErr
    rw [if_neg c0, if_neg c1, if_neg (by rw [hP, ← HL.out]; exact c2), HI.out]
    split <;> rfl
  have HD := Lib.hid hd
  have cn : (n : Int) = P := Decidable.byContradiction c2
  have HCN := Lib.hid cn
  subst cn
  clear hd c0 c1 c2
  have hcall : Calls Tryd.prog 80 #[.slice a n c, .func (.func 99) #[] #[]] Wb fun e w' => e = .returned (.int .i64 i) ∧ ∃ m, w' = Wb.drewN m := by
    have := indexFunc_any a n c l 99 #[] cellA Wb (HR.out.up HBX.out) hm (enters_of Tryd.func99 (by kernel_rfl) rfl) (pcheck1 Wb)
    rwa [HIX.out, HI.out] at this
  have HCALL := Lib.hid hcall
  clear hcall
  by_cases c3 : 0 ≤ i
  · have hd := HD.out
    rw [if_pos c3] at hd
    have HD2 := Lib.hid hd; clear hd
    go_enter Tryd.func55, Tryd.ntmps55
    go_wp2_with fail
    rw [HWB.out]
    refine (side_t w _ w1 w2).mono ?_; rintro e w9 ⟨rfl, rfl⟩
    go_wp2_with fail
    refine (side_t h _ h1 h2).mono ?_; rintro e w9 ⟨rfl, rfl⟩
    go_wp2_with fail
    refine HCALL.out.mono ?_; rintro e w9 ⟨rfl, m, rfl⟩
    go_wp2_with fail
    refine (patch_wrong _ _ _ R (Glob.drewN HG.out) rfl).mono ?_; rintro e w9 ⟨rfl, rfl⟩
    go_wp2
    go_ret
    rw [HD2.out]
    exact ⟨_, rfl, HE.out _ (bdrewN (bnil Wb) m) _ _, .inr ⟨_, rfl⟩, balloc (bdrewN HBX.out m) _⟩
  · have hd := HD.out
    rw [if_neg c3] at hd
    have HD2 := Lib.hid hd; clear hd
    go_enter Tryd.func55, Tryd.ntmps55
    go_wp2_with fail
    rw [HWB.out]
    refine (side_t w _ w1 w2).mono ?_; rintro e w9 ⟨rfl, rfl⟩
    go_wp2_with fail
    refine (side_t h _ h1 h2).mono ?_; rintro e w9 ⟨rfl, rfl⟩
    go_wp2_with fail
    refine HCALL.out.mono ?_; rintro e w9 ⟨rfl, m, rfl⟩
    go_wp2
    go_ret
    rw [HD2.out]
    exact ⟨_, rfl, rfl, .inl rfl, bdrewN HBX.out m⟩
end Go.Proofs.YtocfkmdoalhjmaaDoor
