/- PatchTexts: the row's statement and its tied card: for every input the law's call returns true, and the arguments read as before. No condition beside the row's own (the listed package-level variables read as the program's text lays them). -/
import Derived.Test.YtnlpobkmjhajcaaDoorTexts21
import Derived.Test.YtnlpobkmjhajcaaDoorEnvLaid
import Derived.Test.YtnlpobkmjhajcaaDoorOpenPat
import Derived.Test.YtnlpobkmjhajcaaDoorShape
import Derived.Test.YtnlpobkmjhajcaaDoorCards
import Derived.Test.YtnlpobkmjhajcaaDoorTie
import Derived.ProofKit
import Derived.OpenShut
import Derived.ChangeOld
import Derived.ChangeVars
import Derived.LaidMore
import Derived.LaidHandle
import Derived.MakeChecks
import Derived.Stop.Joined
import Derived.SevenTiedAt
namespace Go.Proofs.YtnlpobkmjhajcaaDoor
open Go.ChangeShapes Go.WideShapes Go.ChangeAt Go.RowKit
set_option linter.unusedVariables false

theorem door_met (os : Os) (args : Array Value) : laidMetH Tryd.prog Rows.patchTextsRow.laid (((World.doorLaid Tryd.prog 4000 os).layVars Tryd.prog (Rows.patchTextsRow.laid.filter fun x => x.2.handleName?.isNone)).forCall (fun _ _ => 0) ⟨#[], args, []⟩).memory :=
  laidMetH_of_parts (laidMet_after (w0 := World.doorLaid Tryd.prog 4000 os) args (by kernel_rfl) (by kernel_rfl)) (by kernel_rfl)

set_option maxRecDepth 100000 in
theorem lifted (os : Os) (started : os.Started) (H : Type) (enc : TypeId × Value → H) :
    ReturnsInHanded {} Tryd.checked os 6 .any (fun w args => (Rows.patchTextsSpec.pre enc Tryd.prog Tryd.f6 Rows.patchTextsRow.domain false w args ∧ laidMetH Tryd.prog Rows.patchTextsRow.laid w) ∧ sizedMet enc Tryd.prog Tryd.f6 (OpenSpec.ofChange Rows.patchTextsSpec) false w args)
      (Rows.patchTextsSpec.post enc Tryd.prog Tryd.f6 false true false false) := by
  refine returns_shaped (C := Tryd.checked) (X := fun w _ => laidMetH Tryd.prog Rows.patchTextsRow.laid w) (fun _ _ _ hh h => h.of_heap hh) own started (by kernel_rfl) Tryd.func6
    (ChangeSpec.witness_shaped (enc := enc) (C := Tryd.checked) (os := os) (X := fun w _ => laidMetH Tryd.prog Rows.patchTextsRow.laid w) false ((World.doorLaid Tryd.prog 4000 os).layVars Tryd.prog (Rows.patchTextsRow.laid.filter fun x => x.2.handleName?.isNone)) #[.agg #[.int .i64 0, .int .i64 0, .slice none 0 0], .string ByteArray.empty] 8 ((World.layVars_os _ _ _).trans rfl) (World.shaped_of_ZipB (by kernel_rfl) (by kernel_rfl)) (by kernel_rfl) (by kernel_rfl) (by kernel_rfl) (door_met os _)) ?_
  intro W base args ds gs before hval0 hW hcnd hzz hL hSH
  have hval : ∀ (j : Nat) t v, Tryd.f6.params[j]? = some t → args[j]? = some v → Value.okWide Tryd.prog W .any base t v := hval0
  have hW' := hW
  obtain ⟨p, q, hA0, hV, rfl, hfz, hnd⟩ := hW
  have hA : DataW.TrodAll enc Tryd.prog W 0 (fun _ => true) true Tryd.f6.params.toList args.toList ds p := hA0
  rw [Tryd.params6] at hA hval hzz
  obtain ⟨v0, vs0, d0, ds0, p0, q0, hargs, rfl, rfl, h0, r0⟩ := trodAll_cons hA
  obtain ⟨v1, vs1, d1, ds1, p1, q1, rfl, rfl, rfl, h1, r1⟩ := trodAll_cons r0
  obtain ⟨rfl, rfl, rfl⟩ := trodAll_nil r1
  obtain rfl : args = #[v0, v1] := by cases args; simp_all
  obtain ⟨rfl, rfl⟩ := trodVars_none hV
  have k0 := h0
  have lt0 : ∀ x ∈ p0, x.block < W.heap.size := by obtain ⟨m, hm⟩ := k0; exact DataW.trod_lt m _ _ _ hm
  obtain ⟨pw0, ph0, s0, len0, cap0, l0, rfl, hM0, hx0⟩ := open_patchS (j := 0) (hval 0 24 v0 rfl rfl) h0 hzz rfl rfl
  obtain ⟨s1, rfl, rfl, rfl, w1⟩ := Go.ChangeMaps.open_string Tryd.underlying9 (hval 1 9 v1 rfl rfl) h1
  obtain ⟨R, hS⟩ : ∃ R : Nat → Addr, Env W R := env_of_row 1 hL (by kernel_rfl) (by kernel_rfl)
  obtain ⟨m, hm⟩ := maxlen_some hSH
  clear hA0 hval0
  refine (patch_texts pw0 ph0 s0 len0 cap0 l0 s1 W R hS m hm hM0 hx0 w1).mono fun e W' ⟨he, bel⟩ => ?_
  subst he
  exact ⟨_, rfl, _, _, _, [], _, [], hW', trodAll_mk1 (shut_bool Tryd.underlying4 _), (trodAll_cons_mk (Below.trod laidOut (by kernel_rfl) (of_decide_eq_true (by kernel_rfl)) k0 bel lt0) (trodAll_cons_mk (Go.ChangeMaps.shut_string Tryd.underlying9 w1) trodAll_mk0)), rfl, bel.frame _, fun h => by cases h⟩

theorem row_holds : Rows.PatchTextsSaid :=
  OpenClaim.holds_of_wide 6 Tryd.f6 rfl rfl rfl rfl rfl rfl rfl ⟨rfl, rfl, rfl, rfl, rfl⟩ rfl rfl rfl rfl rfl (by kernel_rfl) Tryd.func6 (by kernel_rfl)
    (of_decide_eq_true (by kernel_rfl)) (by unfold Func.isWrapper; first | (rw [if_pos (by decide +kernel)]; kernel_rfl) | (rw [if_neg (by decide +kernel)]; exact ⟨rfl, rfl⟩))
    (fun os started H enc _ => lifted os started H enc)

theorem card_holds : Rows.PatchTextsCardSaid :=
  Claim7.holds_tied_plain_at .later [] Rows.patchTextsCard.laidKinds true Rows.patchTextsCard.stood.harness true
    row_holds (fun _ h => by cases h) (by kernel_rfl) (fun _ h => by cases h) patchTexts_row_tie rfl ⟨rfl, rfl⟩ (by kernel_rfl) rfl
    (fun f fn hf hfn => by
      obtain rfl : f = 6 := Option.some.inj ((show Tryd.prog.funcNamed "eden/edenlaw21.PatchTexts" = some 6 by kernel_rfl).symm.trans hf) |>.symm
      obtain rfl : fn = Tryd.f6 := (Option.some.inj (Tryd.func6.symm.trans hfn)).symm
      exact ⟨by kernel_rfl, fun j t ht => by
        rw [Tryd.params6] at ht
        have hm : t ∈ [24, 9] := by simpa using Array.mem_of_getElem? ht
        have hall : ([24, 9].all fun u => !Tryd.prog.wantsStandIn u) = true := by kernel_rfl
        exact (show Tryd.prog.wantsStandIn t = false by simpa using List.all_eq_true.1 hall t hm)⟩)
    (by kernel_rfl)
#print axioms card_holds
end Go.Proofs.YtnlpobkmjhajcaaDoor
