/- WholePowers: the row's statement and its tied card: for every input the law's call returns true, and the arguments read as before. No condition beside the row's own (the listed package-level variables read as the program's text lays them). -/
import Derived.Test.YtnmegpplfbkpcaaDoorWPow
import Derived.Test.YtnmegpplfbkpcaaDoorErrB
import Derived.Test.YtnmegpplfbkpcaaDoorOpenInts
import Derived.Test.YtnmegpplfbkpcaaDoorOpenRow
import Derived.Test.YtnmegpplfbkpcaaDoorCards
import Derived.Test.YtnmegpplfbkpcaaDoorTie
import Derived.ProofKit
import Derived.OpenShut
import Derived.ChangeOld
import Derived.ChangeVars
import Derived.LaidMore
import Derived.LaidHandle
import Derived.MakeChecks
import Derived.Stop.Joined
import Derived.SevenTiedAt
namespace Go.Proofs.YtnmegpplfbkpcaaDoor
open Go.ChangeShapes Go.WideShapes Go.ChangeAt Go.RowKit
set_option linter.unusedVariables false

theorem door_met (os : Os) (args : Array Value) : laidMetH Tryd.prog Rows.wholePowersRow.laid ((World.doorLaid Tryd.prog 4000 os).forCall (fun _ _ => 0) ⟨#[], args, []⟩).memory :=
  by rw [MakeChecks.laidMetH_plain _ _ _ (by kernel_rfl)]; exact laidMet_of_run' 8 (by kernel_rfl) (by kernel_rfl)

set_option maxRecDepth 100000 in
theorem lifted (os : Os) (started : os.Started) (H : Type) (enc : TypeId × Value → H) :
    ReturnsInHanded {} Tryd.checked os 3 .any (fun w args => (Rows.wholePowersSpec.pre enc Tryd.prog Tryd.f3 Rows.wholePowersRow.domain false w args ∧ laidMetH Tryd.prog Rows.wholePowersRow.laid w) ∧ sizedMet enc Tryd.prog Tryd.f3 (OpenSpec.ofChange Rows.wholePowersSpec) false w args)
      (Rows.wholePowersSpec.post enc Tryd.prog Tryd.f3 false true false false) := by
  refine returnsInHanded_of_change_and (C := Tryd.checked) (X := fun w _ => laidMetH Tryd.prog Rows.wholePowersRow.laid w) (fun _ _ _ hh h => h.of_heap hh) own started (by kernel_rfl) Tryd.func3
    (ChangeSpec.witness_shaped (enc := enc) (C := Tryd.checked) (os := os) (X := fun w _ => laidMetH Tryd.prog Rows.wholePowersRow.laid w) false (World.doorLaid Tryd.prog 4000 os) #[.agg #[.int .i64 0, .int .i64 0, .slice none 0 0], .int .i64 0, .slice none 0 0, .agg #[.int .i64 0, .slice none 0 0, .slice none 0 0, .slice none 0 0]] 8 rfl (World.shaped_of_RefB (by kernel_rfl) (by kernel_rfl)) (by kernel_rfl) (by kernel_rfl) (by kernel_rfl) (door_met os _)) ?_
  intro W base args ds gs before hval0 hW hcnd hzz hL hSH
  have hval : ∀ (j : Nat) t v, Tryd.f3.params[j]? = some t → args[j]? = some v → Value.okWide Tryd.prog W .any base t v := hval0
  have hW' := hW
  obtain ⟨p, q, hA0, hV, rfl, hfz, hnd⟩ := hW
  have hA : DataW.TrodAll enc Tryd.prog W 0 (fun _ => true) true Tryd.f3.params.toList args.toList ds p := hA0
  rw [Tryd.params3] at hA hval hzz
  obtain ⟨v0, vs0, d0, ds0, p0, q0, hargs, rfl, rfl, h0, r0⟩ := trodAll_cons hA
  obtain ⟨v1, vs1, d1, ds1, p1, q1, rfl, rfl, rfl, h1, r1⟩ := trodAll_cons r0
  obtain ⟨v2, vs2, d2, ds2, p2, q2, rfl, rfl, rfl, h2, r2⟩ := trodAll_cons r1
  obtain ⟨v3, vs3, d3, ds3, p3, q3, rfl, rfl, rfl, h3, r3⟩ := trodAll_cons r2
  obtain ⟨rfl, rfl, rfl⟩ := trodAll_nil r3
  obtain rfl : args = #[v0, v1, v2, v3] := by cases args; simp_all
  obtain ⟨rfl, rfl⟩ := trodVars_none hV
  have k0 := h0
  have lt0 : ∀ x ∈ p0, x.block < W.heap.size := by obtain ⟨m, hm⟩ := k0; exact DataW.trod_lt m _ _ _ hm
  obtain ⟨rk0, rr0, s0, len0, cap0, l0, rfl, hM0⟩ := open_ruleS (j := 0) (hval 0 24 v0 rfl rfl) h0 hzz rfl rfl
  obtain ⟨a1, rfl, rfl, rfl, w1⟩ := open_int Tryd.underlying3 (hval 1 3 v1 rfl rfl) h1
  have b1 := bounds_i64 w1
  obtain ⟨s2, len2, cap2, rfl⟩ := okWide_slice Tryd.underlying22 (hval 2 22 v2 rfl rfl)
  have k2 := h2
  have lt2 : ∀ x ∈ p2, x.block < W.heap.size := by obtain ⟨m, hm⟩ := k2; exact DataW.trod_lt m _ _ _ hm
  obtain ⟨hz2, hn2⟩ : cap2 * 8 ≤ 140737488351232 ∧ (s2 = none → cap2 = 0) := by
    obtain ⟨fuel, hf⟩ := h2
    have := cap_sized (j := 2) (t := 22) (e := 3) Tryd.underlying22 hf hzz rfl rfl
    rwa [show Tryd.prog.bytesOf 3 = 8 from by kernel_rfl] at this
  obtain ⟨l2, rfl, hc2, hl2, hR2, hx2⟩ : ∃ l2 : List Int, l2.length = len2 ∧ cap2 ≤ maxLen ∧ len2 ≤ cap2 ∧ Rd W s2 len2 1 (l2.map (Value.int .i64)) ∧ (∀ x ∈ l2, -9223372036854775808 ≤ x ∧ x ≤ 9223372036854775807) := by
    obtain ⟨fuel, hf⟩ := h2
    obtain ⟨l, e1, e2, e3, e4, e5⟩ := open_intsl hf
    exact ⟨l, e1, e2, e3, e4, e5⟩
  have k3 := h3
  have lt3 : ∀ x ∈ p3, x.block < W.heap.size := by obtain ⟨m, hm⟩ := k3; exact DataW.trod_lt m _ _ _ hm
  obtain ⟨rp3, aL3, nL3, cL3, L3, aC3, nC3, cC3, C3, aR3, nR3, cR3, Q3, rfl, hM3⟩ := open_row (j := 3) (hval 3 26 v3 rfl rfl) h3 hzz rfl rfl
  obtain ⟨R, hS⟩ := sent_of_laid (show laidMet Tryd.prog _ W by rw [MakeChecks.laidMetH_plain _ _ _ (by kernel_rfl)] at hL; exact hL)
  clear hA0 hval0
  refine (whole_powers_row rk0 rr0 s0 len0 cap0 l0 a1 s2 cap2 l2 rp3 aL3 nL3 cL3 L3 aC3 nC3 cC3 C3 aR3 nR3 cR3 Q3 W R hS hM0 b1 hR2 hl2 hz2 hn2 hx2 hM3).mono fun e W' ⟨he, bel⟩ => ?_
  subst he
  exact ⟨_, rfl, _, _, _, [], _, [], hW', trodAll_mk1 (shut_bool Tryd.underlying4 _), (trodAll_cons_mk (Below.trod laidOut (by kernel_rfl) (of_decide_eq_true (by kernel_rfl)) k0 bel lt0) (trodAll_cons_mk (shut_int Tryd.underlying3 w1) (trodAll_cons_mk (Below.trod laidOut (by kernel_rfl) (of_decide_eq_true (by kernel_rfl)) k2 bel lt2) (trodAll_cons_mk (Below.trod laidOut (by kernel_rfl) (of_decide_eq_true (by kernel_rfl)) k3 bel lt3) trodAll_mk0)))), rfl, bel.frame _, fun h => by cases h⟩

theorem row_holds : Rows.WholePowersSaid :=
  OpenClaim.holds_of_wide 3 Tryd.f3 rfl rfl rfl rfl rfl rfl rfl ⟨rfl, rfl, rfl, rfl, rfl⟩ rfl rfl rfl rfl rfl (by kernel_rfl) Tryd.func3 (by kernel_rfl)
    (of_decide_eq_true (by kernel_rfl)) (by unfold Func.isWrapper; first | (rw [if_pos (by decide +kernel)]; kernel_rfl) | (rw [if_neg (by decide +kernel)]; exact ⟨rfl, rfl⟩))
    (fun os started H enc _ => lifted os started H enc)

theorem card_holds : Rows.WholePowersCardSaid :=
  Claim7.holds_tied_plain_at .later [] Rows.wholePowersCard.laidKinds true Rows.wholePowersCard.stood.harness true
    row_holds (fun _ h => by cases h) (by kernel_rfl) (fun _ h => by cases h) wholePowers_row_tie rfl ⟨rfl, rfl⟩ (by kernel_rfl) rfl
    (fun f fn hf hfn => by
      obtain rfl : f = 3 := Option.some.inj ((show Tryd.prog.funcNamed "eden/edentop.WholePowers" = some 3 by kernel_rfl).symm.trans hf) |>.symm
      obtain rfl : fn = Tryd.f3 := (Option.some.inj (Tryd.func3.symm.trans hfn)).symm
      exact ⟨by kernel_rfl, fun j t ht => by
        rw [Tryd.params3] at ht
        have hm : t ∈ [24, 3, 22, 26] := by simpa using Array.mem_of_getElem? ht
        have hall : ([24, 3, 22, 26].all fun u => !Tryd.prog.wantsStandIn u) = true := by kernel_rfl
        exact (show Tryd.prog.wantsStandIn t = false by simpa using List.all_eq_true.1 hall t hm)⟩)
    (by kernel_rfl)
#print axioms card_holds
end Go.Proofs.YtnmegpplfbkpcaaDoor
