/- The contract of plane.Step for any table and patch. -/
import Derived.Test.YtoaooblodgejdaaDoorPlaH
namespace Go.Proofs.YtoaooblodgejdaaDoor
open Go.RowKit
set_option linter.unusedVariables false
set_option maxRecDepth 100000

theorem stepD_none {t : List Int} {w h : Int} {l : List Int} (hd : stepD t w h l = none) : ∃ w' h' : Nat, w = w' ∧ h = h' ∧ IsPatch w' h' l ∧ IsTab t ∧ 3 ≤ w' ∧ 3 ≤ h' := by
  unfold stepD at hd
  cases ht : tabD t with
  | some e => rw [ht] at hd; cases hd
  | none =>
    rw [ht] at hd
    have hT := tabD_none ht
    cases hq : patchErr w h l with
    | some e =>
      have h2 : patchD w h l = some ([(opPatch, e.1)], e.2) := by unfold patchD; rw [hq]; rfl
      rw [h2] at hd
      cases hd
    | none =>
      have h2 : patchD w h l = none := by unfold patchD; rw [hq]; rfl
      rw [h2] at hd
      obtain ⟨w', h', rfl, rfl, hp⟩ := patchErr_none hq
      by_cases hc : (w' : Int) < 3 ∨ (h' : Int) < 3
      · simp only at hd
        rw [if_pos hc] at hd
        cases hd
      · exact ⟨w', h', rfl, rfl, hp, hT, by omega, by omega⟩
theorem stepO_ok {t : List Int} {w h : Nat} {l : List Int} (hd : stepD t w h l = none) (hw : 3 ≤ w) (hh : 3 ≤ h) : stepO t w h l = (((w - 2 : Nat) : Int), ((h - 2 : Nat) : Int), stepL t w h l) := by
  unfold stepO
  rw [if_pos hd, Int.toNat_natCast, Int.toNat_natCast, show (w : Int) - 2 = ((w - 2 : Nat) : Int) by omega, show (h : Int) - 2 = ((h - 2 : Nat) : Int) by omega]
theorem plstep_any (w h : Int) (a aT : Option Addr) (n c nT cT : Nat) (l t : List Int) (W : World) (R : Nat → Addr) (hS : Sent W R) (hR : SlI W a n c l) (hx : I64 l) (hT : RK .i64 W aT nT t) (hmT : nT ≤ maxLen) :
    Calls Tryd.prog 27 #[.slice aT nT cT, patV w h a n c] W (PatRet R W (stepO t w h l) (stepD t w h l)) := by
  by_cases hd : stepD t w h l = none
  · obtain ⟨w, h, rfl, rfl, hp, ht, hw, hh⟩ := stepD_none hd
    refine (plstep_ok w h a aT n c nT cT l t W R hS hR hT hmT ht hp hw hh).mono ?_
    rintro e w' ⟨a', n', c', rfl, ho, hb⟩
    rw [stepO_ok hd hw hh, hd]
    exact ⟨a', n', c', _, rfl, ho, rfl, hb⟩
  · exact plstep_er w h a aT n c nT cT l t W R hS hR.rk hR.nm hx hT hmT hd
end Go.Proofs.YtoaooblodgejdaaDoor
