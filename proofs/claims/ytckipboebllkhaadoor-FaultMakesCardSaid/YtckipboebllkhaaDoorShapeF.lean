/- The wrap of a law over drawn data, with the first world's shape for the contract; the library's MaxLen holds some number. -/
import Derived.Handed
import Derived.HandedShaped
import Derived.Shelf.Vars
import Derived.Lay
import Derived.Test.YtckipboebllkhaaDoorErrF
namespace Go.Proofs.YtckipboebllkhaaDoor
open Go
set_option linter.unusedVariables false

theorem returns_shaped {H : Type} {enc : TypeId × Value → H} {C : Checked} {os : Os} {f : FuncId} {fn : Func} {s : ChangeSpec} {conds : List PathCond} {apart fresh handsOn again : Bool} {X : World → Array Value → Prop}
    (hX : ∀ (w w' : World) (args : Array Value), w.heap = w'.heap → X w args → X w' args)
    (own : ownKnob C.prog.godebug = none) (started : os.Started) (noInit : C.prog.inits.idxOf? f = none) (hfn : C.prog.funcs[f]? = some fn)
    (witness : ∃ (w : World) (tape : Tape) (i : Input), w.os = os ∧ (w.forCall tape i).Shaped C.prog ∧ i.vars = [] ∧ Input.okWide C.prog (w.forCall tape i) .any w.heap.size f i ∧
      ((s.pre enc C.prog fn conds apart (w.forCall tape i).memory i.args ∧ X (w.forCall tape i).memory i.args) ∧ sizedMet enc C.prog fn (OpenSpec.ofChange s) apart (w.forCall tape i).memory i.args) ∧ ({} : Assume).holds C.prog (lone (Frame.enter C.prog f i.args .normal) [] (w.forCall tape i)))
    (contract : ∀ (W : World) (base : Nat) (args : Array Value) (ds gs : List (DataW H)) (before : List MemPlace),
      (∀ (j : Nat) t v, fn.params[j]? = some t → args[j]? = some v → Value.okWide C.prog W .any base t v) →
      DataW.Whole enc C.prog fn.params.toList s.vars apart W args.toList ds gs before →
      conds.all (PathCond.test C.prog ⟨fn.params.toList, ds, s.plain.varTypes C.prog, gs⟩) = true →
      (DataW.weightsEach C.prog (fn.params.toList ++ s.plain.varTypes C.prog) (ds ++ gs)).all (· ≤ reachBytes) = true → X W args → W.ShapedOpen C.prog →
      Calls C.prog f args W fun e W' => ∃ v, e = .returned v ∧ s.post enc C.prog fn apart fresh handsOn again W args v W') :
    ReturnsInHanded {} C os f .any (fun w args => (s.pre enc C.prog fn conds apart w args ∧ X w args) ∧ sizedMet enc C.prog fn (OpenSpec.ofChange s) apart w args) (s.post enc C.prog fn apart fresh handsOn again) := by
  refine returnsInHanded_of_calls own started noInit witness ?_
  intro w tape i _ hsh _ hok hpre _
  obtain ⟨_, _, _, g, hg, _, _, _, _, hval⟩ := hok
  obtain rfl : g = fn := Option.some.inj (hg.symm.trans hfn)
  obtain ⟨⟨⟨ds, gs, before, hw, hc⟩, hx⟩, hz⟩ := hpre
  have hw2 := DataW.Whole.of_heap (w' := w.forCall tape i) (by rfl) hw
  refine (contract (w.forCall tape i) w.heap.size i.args ds gs before hval hw2 hc (hz.weights hw) (hX _ _ _ (by rfl) hx) hsh).mono fun e W' ⟨v, he, hp⟩ => ?_
  subst he
  exact ChangeSpec.post_blind hp

theorem laidVars_app {P : Program} {w : World} : ∀ {a b : List (String × DataW Unit)} {ps : List MemPlace}, DataW.LaidVars P w (a ++ b) ps → ∃ p q, DataW.LaidVars P w a p ∧ DataW.LaidVars P w b q ∧ ps = p ++ q
  | [], b, ps, h => ⟨[], ps, rfl, h, rfl⟩
  | (n, d) :: a, b, ps, h => by
    obtain ⟨g, t, cs, fuel, p, q, e1, e2, e3, e4, h2, rfl⟩ := h
    obtain ⟨p2, q2, h3, h4, rfl⟩ := laidVars_app h2
    exact ⟨_, q2, ⟨g, t, cs, fuel, p, p2, e1, e2, e3, e4, h3, rfl⟩, h4, by simp [List.append_assoc]⟩
theorem laidMet_mid {P : Program} {w : World} {a l b : List (String × DataW Unit)} (h : laidMet P (a ++ l ++ b) w) : laidMet P l w := by
  obtain ⟨ps, hv, hnd, hr⟩ := h
  obtain ⟨p, q, h1, _, rfl⟩ := laidVars_app hv
  obtain ⟨p1, p2, _, h2, rfl⟩ := laidVars_app h1
  refine ⟨p2, h2, ?_, fun b off hm => hr b off (by simp [hm])⟩
  exact (List.nodup_append.1 (List.nodup_append.1 hnd).1).2.1
theorem laidMetH_none {P : Program} {w : World} {laid : List (String × DataW Unit)} (h : laidMetH P laid w) : laidMet P (laid.filter fun x => x.2.handleName?.isNone) w := by
  unfold laidMetH at h
  split at h
  · rename_i e
    have e2 : (laid.filter fun x => x.2.handleName?.isNone) = laid := by
      rw [List.filter_eq_self]
      intro x hx
      have := List.filter_eq_nil_iff.1 e x hx
      simpa using this
    rw [e2]
    exact h
  · exact h.1
/-- the twelve errors, wherever they stand in a row's list -/
theorem sent_of_row {W : World} {laid : List (String × DataW Unit)} (i : Nat) (h : laidMetH Tryd.prog laid W) (e : ((laid.filter fun x => x.2.handleName?.isNone).drop i).take 12 = sentL.map fun x => (x.1, .iface "*errors.errorString" (.ptr (.agg [.lit (.string x.2.1)])))) : ∃ R : Nat → Addr, Sent W R := by
  have h1 := laidMetH_none h
  rw [← List.take_append_drop i (laid.filter fun x => x.2.handleName?.isNone), ← List.take_append_drop 12 ((laid.filter fun x => x.2.handleName?.isNone).drop i), ← List.append_assoc, e] at h1
  exact sent_of_laid (laidMet_mid h1)
theorem handles_of_row {W : World} {laid : List (String × DataW Unit)} (h : laidMetH Tryd.prog laid W) : handlesMet Tryd.prog (laid.filter fun x => x.2.handleName?.isSome) W := by
  unfold laidMetH at h
  split at h
  · rename_i e
    rw [e]
    intro x hx
    cases hx
  · rename_i e
    rw [e]
    exact h.2
/-- and errors.errorType -/
theorem env_of_row {W : World} {laid : List (String × DataW Unit)} (i : Nat) (h : laidMetH Tryd.prog laid W) (e : ((laid.filter fun x => x.2.handleName?.isNone).drop i).take 12 = sentL.map fun x => (x.1, .iface "*errors.errorString" (.ptr (.agg [.lit (.string x.2.1)]))))
    (e2 : (laid.filter fun x => x.2.handleName?.isSome) = [( "errors.errorType", .iface "internal/reflectlite.rtype" (.agg [.ptr (.lit (.string [101, 114, 114, 111, 114]))]))]) : ∃ R : Nat → Addr, Env W R := by
  have h1 := laidMetH_none h
  rw [← List.take_append_drop i (laid.filter fun x => x.2.handleName?.isNone), ← List.take_append_drop 12 ((laid.filter fun x => x.2.handleName?.isNone).drop i), ← List.append_assoc, e] at h1
  have h2 := handles_of_row h
  rw [e2] at h2
  exact env_of_laid (W := W) ⟨laidMet_mid h1, h2⟩
/-- the listed plain data laid behind another world -/
theorem laidMet_after {P : Program} {w0 : World} {laid : List (String × DataW Unit)} (args : Array Value) (hf : w0.layFits P laid [] = true) (hi : w0.layIfaces P laid (w0.layVars P laid) = true) :
    laidMet P laid ((w0.layVars P laid).forCall (fun _ _ => 0) ⟨#[], args, []⟩).memory := by
  have e1 : (laid.filter fun x => (laid.map (·.1)).contains x.1) = laid := List.filter_eq_self.2 fun x hx => List.contains_iff_mem.2 (List.mem_map.2 ⟨x, hx, rfl⟩)
  have e2 : (laid.filter fun x => !(laid.map (·.1)).contains x.1) = [] := List.filter_eq_nil_iff.2 fun x hx => by rw [List.contains_iff_mem.2 (List.mem_map.2 ⟨x, hx, rfl⟩)]; simp
  have h : laidMet P laid (w0.layVars P laid) := laidMet_layVars (w0 := w0) (laid.map (·.1)) [] (by rw [e1]) (by rw [e1]; exact hf) (by rw [e1]; exact hi) (by rw [e2]; exact LaidIn.none)
  exact h.of_heap (by simp [World.memory, World.forCall, Input.heap])
end Go.Proofs.YtckipboebllkhaaDoor
