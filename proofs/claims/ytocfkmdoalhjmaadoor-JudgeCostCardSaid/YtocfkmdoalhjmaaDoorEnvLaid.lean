/- What the listed package-level variables give a walk, where errors.errorType is among them. -/
import Derived.Test.YtocfkmdoalhjmaaDoorLaid
import Derived.Test.YtocfkmdoalhjmaaDoorRaw2
import Derived.SizedLaws
import Derived.ChangeArms
namespace Go.Proofs.YtocfkmdoalhjmaaDoor
open Go.RowKit Go.ChangeShapes
set_option linter.unusedVariables false

theorem env_et : Tryd.prog.globalNamed "errors.errorType" = some 12 := by kernel_rfl
theorem env_rt : (Tryd.prog.cutTypes.find? (·.1 == "internal/reflectlite.rtype")).map (·.2) = some 179 := by kernel_rfl
theorem env_row : ((List.range Tryd.prog.types.size).filter fun t => Tryd.prog.rowNamed t [101, 114, 114, 111, 114]) = [27] := by kernel_rfl
/-- the list of a row that lists errors.errorType and the twelve errors -/
def laidL : List (String × DataW Unit) :=
  ( "errors.errorType", .iface "internal/reflectlite.rtype" (.agg [.ptr (.lit (.string [101, 114, 114, 111, 114]))])) :: sentL.map fun x => (x.1, .iface "*errors.errorString" (.ptr (.agg [.lit (.string x.2.1)])))

theorem env_of_laid {W : World} (h : laidMetH Tryd.prog laidL W) : ∃ R : Nat → Addr, Env W R := by
  have h' : laidMet Tryd.prog (sentL.map fun x => (x.1, .iface "*errors.errorString" (.ptr (.agg [.lit (.string x.2.1)])))) W ∧ handlesMet Tryd.prog [( "errors.errorType", .iface "internal/reflectlite.rtype" (.agg [.ptr (.lit (.string [101, 114, 114, 111, 114]))]))] W := h
  obtain ⟨R, hS⟩ := sent_of_laid h'.1
  refine ⟨R, hS, ?_⟩
  obtain ⟨name, u, ty, e1, e2, e3, e4, e5⟩ := h'.2 _ (List.mem_singleton.2 rfl)
  have en : name = [101, 114, 114, 111, 114] := (Option.some.inj e1).symm
  subst en
  obtain rfl := Option.some.inj (env_rt.symm.trans e2)
  have hm : ty ∈ (List.range Tryd.prog.types.size).filter fun t => Tryd.prog.rowNamed t [101, 114, 114, 111, 114] := List.mem_filter.2 ⟨List.mem_range.2 e3, e4⟩
  rw [env_row] at hm
  obtain rfl := List.mem_singleton.1 hm
  have hh : typeHandle Tryd.prog 27 = .pointer (some ⟨14, 27, none⟩) := by kernel_rfl
  rw [hh] at e5
  unfold ErrType
  simpa using World.var?_cell env_et e5 0

theorem own : ownKnob Tryd.prog.godebug = none := by kernel_rfl
theorem laidOut : laidOutB Tryd.prog = true := by kernel_rfl

/-- a slice argument's capacity, in bytes: the form's own reach -/
theorem cap_sized {P : Program} {H : Type} {enc : TypeId × Value → H} {w : World} {fuel len cap : Nat} {a : Option Addr} {t e : TypeId} {d : DataW H} {p : List MemPlace} {ts : List TypeId} {ds : List (DataW H)} {j : Nat}
    (hu : P.underlying t = some (.slice e)) (h : DataW.trod enc P w 0 (fun _ => true) true fuel t [.slice a len cap] = some (d, p))
    (hz : (DataW.weightsEach P ts ds).all (· ≤ reachBytes) = true) (ht : ts[j]? = some t) (hd : ds[j]? = some d) : cap * P.bytesOf e ≤ 140737488351232 ∧ (a = none → cap = 0) := by
  rcases DataW.trod_slice hu h with ⟨h1, _⟩ | ⟨ad, len', cap', elems, rest, n, _, h1, h2, _, hl, _, he, _, hs, _⟩
  · cases h1
    exact ⟨by simp, fun _ => rfl⟩
  · cases h1
    cases h2
    have := sized_slice hz ht hd hu
    simp only [List.length_map, he, (hs rfl).1] at this
    rw [show len + (cap - len) = cap from by omega] at this
    refine ⟨Nat.le_trans this (by decide), fun h => by cases h⟩
end Go.Proofs.YtocfkmdoalhjmaaDoor
