/- What the listed package-level errors give a walk. -/
import Derived.Test.YtocfkmdoalhjmaaDoorErr
import Derived.Test.YtocfkmdoalhjmaaDoorRows
import Derived.Stop.LaidErr
import Derived.LaidHandle
import Derived.LaidMore
import Derived.LaidLaws
import Derived.MakeChecks
import Derived.KernelRfl
namespace Go.Proofs.YtocfkmdoalhjmaaDoor
open Go.RowKit Go.ChangeShapes

/-- The errors of a list of sentinels: each one's address; its text; its block; no two at one address. -/
theorem laidVars_all {P : Program} {W : World} {nm : String} {ti tp te ts : TypeId} {ms : Array (String × TypeId)} {f : Field}
    (hi : P.underlying ti = some (.interface ms)) (hrow : ∀ u, P.typeName? 3 u = some nm → u = tp)
    (hp : P.underlying tp = some (.pointer te)) (he : P.underlying te = some (.struct #[f])) (hft : f.type = ts) (hfo : f.offset = 0) (hs : P.underlying ts = some .string) (hc : P.cellsOf te = 1) (hcs : P.cellsOf ts = 1) :
    ∀ (L : List (String × List UInt8 × Nat)) (q : List MemPlace), DataW.LaidVars P W (L.map fun x => (x.1, .iface nm (.ptr (.agg [.lit (.string x.2.1)])))) q →
      (∀ x ∈ L, P.globalNamed x.1 = some x.2.2 ∧ (P.globals[x.2.2]?).map (·.type) = some ti) →
      (∀ b off, MemPlace.cell b off ∈ q → (∃ c t, W.heap[b]? = some (.cells c t (0, 0))) ∧ ∀ u v, W.cell? ⟨b, off, none⟩ = some (.iface u v) → Value.okWide P W .any 0 u v) → q.Nodup →
      ∃ A : List Addr, A.length = L.length ∧ A.Nodup ∧ (∀ a ∈ A, a.spot = none ∧ MemPlace.cell a.block a.off ∈ q) ∧
        ∀ (i : Nat) (x : String × List UInt8 × Nat) (a : Addr), L[i]? = some x → A[i]? = some a → W.cell? ⟨x.2.2, 0, none⟩ = some (.iface tp (.pointer (some a))) ∧ (∃ s, W.cell? a = some (.string s) ∧ s.data.toList = x.2.1) ∧ ∃ c t, W.heap[a.block]? = some (.cells c t (0, 0)) := by
  intro L
  induction L with
  | nil => intro q hq _ _ _; exact ⟨[], rfl, List.nodup_nil, (fun a h => by cases h), (fun i x a h => by simp at h)⟩
  | cons y L ih =>
    intro q hq hg hrows hnd
    obtain ⟨g, t, cs, fuel, p, q', hgn, hgt, hv, hd, hq', rfl⟩ := hq
    obtain ⟨g1, g2⟩ := hg y (List.mem_cons_self ..)
    obtain rfl := Option.some.inj (g1.symm.trans hgn)
    obtain rfl := Option.some.inj (g2.symm.trans hgt)
    obtain ⟨l0⟩ := cs
    have ok0 : ∀ u v, l0 = [.iface u v] → Value.okWide P W .any 0 u v := fun u v e => by
      subst e
      exact (hrows y.2.2 0 (by simp [MemPlace.row])).2 u v (by simpa using World.var?_cell g1 hv 0)
    obtain ⟨a0, s0, rfl, hc0, hs0, hz0, rfl⟩ := errorString_of_trod hi hrow hp he hft hfo hs hc hcs hd ok0
    have hspot : a0.spot = none := World.cell?_spot hc0
    obtain ⟨A, hA1, hA2, hA3, hA4⟩ := ih q' hq' (fun x hx => hg x (List.mem_cons_of_mem _ hx)) (fun b off hm => hrows b off (List.mem_append_right _ hm)) (List.Nodup.sublist (List.sublist_append_right _ _) hnd)
    refine ⟨a0 :: A, by simp [hA1], List.nodup_cons.2 ⟨fun hm => ?_, hA2⟩, ?_, ?_⟩
    · have h1 := (hA3 a0 hm).2
      rw [List.nodup_append] at hnd
      exact hnd.2.2 (MemPlace.cell a0.block a0.off) (List.mem_append_right _ (by simp [MemPlace.row])) _ h1 rfl
    · intro a ha
      rcases List.mem_cons.1 ha with rfl | ha
      · exact ⟨hspot, List.mem_append_left _ (List.mem_append_right _ (by simp [MemPlace.row]))⟩
      · exact ⟨(hA3 a ha).1, List.mem_append_right _ (hA3 a ha).2⟩
    · intro i x a hx ha
      cases i with
      | zero =>
        simp only [List.getElem?_cons_zero, Option.some.injEq] at hx ha
        subst hx ha
        exact ⟨by simpa using World.var?_cell g1 hv 0, ⟨s0, hc0, hs0⟩, (hrows a0.block a0.off (List.mem_append_left _ (List.mem_append_right _ (by simp [MemPlace.row])))).1⟩
      | succ i =>
        simp only [List.getElem?_cons_succ] at hx ha
        exact hA4 i x a hx ha

def sentL : List (String × List UInt8 × Nat) :=
  [("eden/api.BadRule", [98, 97, 100, 32, 114, 117, 108, 101], 0), ("eden/api.BadWord", [98, 97, 100, 32, 119, 111, 114, 100], 1), ("eden/api.BadArg", [98, 97, 100, 32, 97, 114, 103, 117, 109, 101, 110, 116], 2),
   ("eden/api.TooBig", [116, 111, 111, 32, 98, 105, 103], 3), ("eden/api.NoBudget", [110, 111, 32, 98, 117, 100, 103, 101, 116], 4), ("eden/api.BadText", [98, 97, 100, 32, 116, 101, 120, 116], 5),
   ("eden/api.BadPatch", [98, 97, 100, 32, 112, 97, 116, 99, 104], 6), ("eden/api.BadCert", [98, 97, 100, 32, 99, 101, 114, 116, 105, 102, 105, 99, 97, 116, 101], 7), ("eden/api.NoInverse", [110, 111, 32, 105, 110, 118, 101, 114, 115, 101], 8),
   ("eden/api.BadLine", [98, 97, 100, 32, 108, 105, 110, 101], 9), ("eden/api.BadState", [98, 97, 100, 32, 115, 116, 97, 116, 101], 10), ("eden/api.Unknown", [117, 110, 107, 110, 111, 119, 110], 11)]

/-- what the walks are told of the package-level errors: where each lies; that no two lie at one place; that none of their blocks is marked -/
structure Sent (w : World) (R : Nat → Addr) : Prop where
  glob : Glob w R
  apart : ∀ j k, j < 12 → k < 12 → R j = R k → j = k
  row : ∀ k, k < 12 → ∃ c t, w.heap[(R k).block]? = some (.cells c t (0, 0))
  text : ∀ k, k < 12 → ∃ s, w.cell? (R k) = some (.string s)

theorem starName : "*" ++ "errors.errorString" = "*errors.errorString" := by decide
theorem sent_rows (u : TypeId) (h : Tryd.prog.typeName? 3 u = some "*errors.errorString") : u = 199 :=
  typeName_ptr_named (nm := "errors.errorString") (by rw [starName]; kernel_rfl) (by kernel_rfl) (by decide) u (by rw [starName]; exact h)

theorem sentL_ok : ∀ x ∈ sentL, Tryd.prog.globalNamed x.1 = some x.2.2 ∧ (Tryd.prog.globals[x.2.2]?).map (·.type) = some 27 := by
  intro x hx
  have hall : (sentL.all fun x => decide (Tryd.prog.globalNamed x.1 = some x.2.2) && decide ((Tryd.prog.globals[x.2.2]?).map (·.type) = some 27)) = true := by kernel_rfl
  have := List.all_eq_true.1 hall x hx
  rw [Bool.and_eq_true, decide_eq_true_eq, decide_eq_true_eq] at this
  exact this

/-- FROM THE ROW's CONDITION TO WHAT THE WALKS ARE TOLD -/
theorem sent_of_laid {W : World} (h : laidMet Tryd.prog (sentL.map fun x => (x.1, .iface "*errors.errorString" (.ptr (.agg [.lit (.string x.2.1)])))) W) : ∃ R : Nat → Addr, Sent W R := by
  obtain ⟨ps, hv, hnd, hrows⟩ := h
  obtain ⟨A, hA1, hA2, hA3, hA4⟩ := laidVars_all Tryd.underlying27 sent_rows Tryd.underlying199 Tryd.underlying218 rfl rfl Tryd.underlying9 (by kernel_rfl) (by kernel_rfl) sentL ps hv sentL_ok hrows hnd
  have hlen : A.length = 12 := hA1
  have hget : ∀ k, k < 12 → A[k]? = some (A.getD k default) := fun k hk => by
    simp [hlen, hk]
  have hL : ∀ k, k < 12 → ∃ x, sentL[k]? = some x ∧ x.2.2 = gix k := by
    intro k hk
    have hall : ((List.range 12).all fun k => match sentL[k]? with | some x => decide (x.2.2 = gix k) | none => false) = true := by decide
    have := List.all_eq_true.1 hall k (List.mem_range.2 hk)
    cases hx : sentL[k]? with
    | none => rw [hx] at this; cases this
    | some x => rw [hx] at this; exact ⟨x, rfl, of_decide_eq_true this⟩
  refine ⟨fun k => A.getD k default, ⟨?_, ?_, ?_, ?_⟩⟩
  · intro k hk
    obtain ⟨x, hx, hg⟩ := hL k hk
    have := (hA4 k x _ hx (hget k hk)).1
    rw [hg] at this
    exact this
  · intro j k hj hk e
    have h1 := hget j hj
    have h2 := hget k hk
    have e2 : A.getD j default = A.getD k default := e
    rw [e2] at h1
    exact (List.getElem?_inj (show j < A.length by omega) hA2).1 (h1.trans h2.symm)
  · intro k hk
    obtain ⟨x, hx, _⟩ := hL k hk
    exact (hA4 k x _ hx (hget k hk)).2.2
  · intro k hk
    obtain ⟨x, hx, _⟩ := hL k hk
    obtain ⟨s, hs, _⟩ := (hA4 k x _ hx (hget k hk)).2.1
    exact ⟨s, hs⟩
end Go.Proofs.YtocfkmdoalhjmaaDoor
