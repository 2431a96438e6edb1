/- What the listed package-level errors give a walk. errors.Is by its contract, for the errors that this program makes: Faults, one within another, and one of the package-level errors in the end. errors.As by its contract, at a variable of the type *api.Fault, for the errors that this program makes. edenraw.Is by its contract. edenraw.New; what edenraw.Is answers of an error and an expected error, by their places and numbers. What the listed package-level variables give a walk, where errors.errorType is among them. edenraw.New, its two rows in new memory; a result of a struct's type that lies in a block of the call's own. edenraw.Is where the error is the one that is wanted. Errors told by several packages: an error, the expected error, edenraw.Is of both. -/
import Derived.Test.YtnmegpplfbkpcaaDoorBase
import Derived.Test.YtnmegpplfbkpcaaDoorRows
import Derived.Stop.LaidErr
import Derived.LaidHandle
import Derived.LaidMore
import Derived.LaidLaws
import Derived.MakeChecks
import Derived.KernelRfl
import Derived.WalkKit
import Derived.LaidEql
import Derived.Stop.Asserts
import Derived.RowKitTokens
import Derived.Deep.RegionWith
import Derived.Deep.RegionHeld3
import Derived.BigRegion
import Derived.Deep.QuietTactic
import Derived.BigQuiet
import Derived.SizedLaws
import Derived.ChangeArms
import Derived.OneCell
namespace Go.Proofs.YtnmegpplfbkpcaaDoor
open Go.RowKit Go.ChangeShapes

/-- The errors of a list of sentinels: each one's address; its text; its block; no two at one address. -/
theorem laidVars_all {P : Program} {W : World} {nm : String} {ti tp te ts : TypeId} {ms : Array (String × TypeId)} {f : Field}
    (hi : P.underlying ti = some (.interface ms)) (hrow : ∀ u, P.typeName? 3 u = some nm → u = tp)
    (hp : P.underlying tp = some (.pointer te)) (he : P.underlying te = some (.struct #[f])) (hft : f.type = ts) (hfo : f.offset = 0) (hs : P.underlying ts = some .string) (hc : P.cellsOf te = 1) (hcs : P.cellsOf ts = 1) :
    ∀ (L : List (String × List UInt8 × Nat)) (q : List MemPlace), DataW.LaidVars P W (L.map fun x => (x.1, .iface nm (.ptr (.agg [.lit (.string x.2.1)])))) q →
      (∀ x ∈ L, P.globalNamed x.1 = some x.2.2 ∧ (P.globals[x.2.2]?).map (·.type) = some ti) →
      (∀ b off, MemPlace.cell b off ∈ q → (∃ c t, W.heap[b]? = some (.cells c t (0, 0))) ∧ ∀ u v, W.cell? ⟨b, off, none⟩ = some (.iface u v) → Value.okWide P W .any 0 u v) → q.Nodup →
      ∃ A : List Addr, A.length = L.length ∧ A.Nodup ∧ (∀ a ∈ A, a.spot = none ∧ MemPlace.cell a.block a.off ∈ q) ∧
        ∀ (i : Nat) (x : String × List UInt8 × Nat) (a : Addr), L[i]? = some x → A[i]? = some a → W.cell? ⟨x.2.2, 0, none⟩ = some (.iface tp (.pointer (some a))) ∧ (∃ s, W.cell? a = some (.string s) ∧ s.data.toList = x.2.1) ∧ ∃ c t, W.heap[a.block]? = some (.cells c t (0, 0)) := by
  intro L
  induction L with
  | nil => intro q hq _ _ _; exact ⟨[], rfl, List.nodup_nil, (fun a h => by cases h), (fun i x a h => by simp at h)⟩
  | cons y L ih =>
    intro q hq hg hrows hnd
    obtain ⟨g, t, cs, fuel, p, q', hgn, hgt, hv, hd, hq', rfl⟩ := hq
    obtain ⟨g1, g2⟩ := hg y (List.mem_cons_self ..)
    obtain rfl := Option.some.inj (g1.symm.trans hgn)
    obtain rfl := Option.some.inj (g2.symm.trans hgt)
    obtain ⟨l0⟩ := cs
    have ok0 : ∀ u v, l0 = [.iface u v] → Value.okWide P W .any 0 u v := fun u v e => by
      subst e
      exact (hrows y.2.2 0 (by simp [MemPlace.row])).2 u v (by simpa using World.var?_cell g1 hv 0)
    obtain ⟨a0, s0, rfl, hc0, hs0, hz0, rfl⟩ := errorString_of_trod hi hrow hp he hft hfo hs hc hcs hd ok0
    have hspot : a0.spot = none := World.cell?_spot hc0
    obtain ⟨A, hA1, hA2, hA3, hA4⟩ := ih q' hq' (fun x hx => hg x (List.mem_cons_of_mem _ hx)) (fun b off hm => hrows b off (List.mem_append_right _ hm)) (List.Nodup.sublist (List.sublist_append_right _ _) hnd)
    refine ⟨a0 :: A, by simp [hA1], List.nodup_cons.2 ⟨fun hm => ?_, hA2⟩, ?_, ?_⟩
    · have h1 := (hA3 a0 hm).2
      rw [List.nodup_append] at hnd
      exact hnd.2.2 (MemPlace.cell a0.block a0.off) (List.mem_append_right _ (by simp [MemPlace.row])) _ h1 rfl
    · intro a ha
      rcases List.mem_cons.1 ha with rfl | ha
      · exact ⟨hspot, List.mem_append_left _ (List.mem_append_right _ (by simp [MemPlace.row]))⟩
      · exact ⟨(hA3 a ha).1, List.mem_append_right _ (hA3 a ha).2⟩
    · intro i x a hx ha
      cases i with
      | zero =>
        simp only [List.getElem?_cons_zero, Option.some.injEq] at hx ha
        subst hx ha
        exact ⟨by simpa using World.var?_cell g1 hv 0, ⟨s0, hc0, hs0⟩, (hrows a0.block a0.off (List.mem_append_left _ (List.mem_append_right _ (by simp [MemPlace.row])))).1⟩
      | succ i =>
        simp only [List.getElem?_cons_succ] at hx ha
        exact hA4 i x a hx ha

def sentL : List (String × List UInt8 × Nat) :=
  [("eden/api.BadRule", [98, 97, 100, 32, 114, 117, 108, 101], 0), ("eden/api.BadWord", [98, 97, 100, 32, 119, 111, 114, 100], 1), ("eden/api.BadArg", [98, 97, 100, 32, 97, 114, 103, 117, 109, 101, 110, 116], 2),
   ("eden/api.TooBig", [116, 111, 111, 32, 98, 105, 103], 3), ("eden/api.NoBudget", [110, 111, 32, 98, 117, 100, 103, 101, 116], 4), ("eden/api.BadText", [98, 97, 100, 32, 116, 101, 120, 116], 5),
   ("eden/api.BadPatch", [98, 97, 100, 32, 112, 97, 116, 99, 104], 6), ("eden/api.BadCert", [98, 97, 100, 32, 99, 101, 114, 116, 105, 102, 105, 99, 97, 116, 101], 7), ("eden/api.NoInverse", [110, 111, 32, 105, 110, 118, 101, 114, 115, 101], 8),
   ("eden/api.BadLine", [98, 97, 100, 32, 108, 105, 110, 101], 9), ("eden/api.BadState", [98, 97, 100, 32, 115, 116, 97, 116, 101], 10), ("eden/api.Unknown", [117, 110, 107, 110, 111, 119, 110], 11)]

/-- what the walks are told of the package-level errors: where each lies; that no two lie at one place; that none of their blocks is marked -/
structure Sent (w : World) (R : Nat → Addr) : Prop where
  glob : Glob w R
  apart : ∀ j k, j < 12 → k < 12 → R j = R k → j = k
  row : ∀ k, k < 12 → ∃ c t, w.heap[(R k).block]? = some (.cells c t (0, 0))
  text : ∀ k, k < 12 → ∃ s, w.cell? (R k) = some (.string s)

theorem starName : "*" ++ "errors.errorString" = "*errors.errorString" := by decide
theorem sent_rows (u : TypeId) (h : Tryd.prog.typeName? 3 u = some "*errors.errorString") : u = 166 :=
  typeName_ptr_named (nm := "errors.errorString") (by rw [starName]; kernel_rfl) (by kernel_rfl) (by decide) u (by rw [starName]; exact h)

theorem sentL_ok : ∀ x ∈ sentL, Tryd.prog.globalNamed x.1 = some x.2.2 ∧ (Tryd.prog.globals[x.2.2]?).map (·.type) = some 29 := by
  intro x hx
  have hall : (sentL.all fun x => decide (Tryd.prog.globalNamed x.1 = some x.2.2) && decide ((Tryd.prog.globals[x.2.2]?).map (·.type) = some 29)) = true := by kernel_rfl
  have := List.all_eq_true.1 hall x hx
  rw [Bool.and_eq_true, decide_eq_true_eq, decide_eq_true_eq] at this
  exact this

/-- FROM THE ROW's CONDITION TO WHAT THE WALKS ARE TOLD -/
theorem sent_of_laid {W : World} (h : laidMet Tryd.prog (sentL.map fun x => (x.1, .iface "*errors.errorString" (.ptr (.agg [.lit (.string x.2.1)])))) W) : ∃ R : Nat → Addr, Sent W R := by
  obtain ⟨ps, hv, hnd, hrows⟩ := h
  obtain ⟨A, hA1, hA2, hA3, hA4⟩ := laidVars_all Tryd.underlying29 sent_rows Tryd.underlying166 Tryd.underlying187 rfl rfl Tryd.underlying9 (by kernel_rfl) (by kernel_rfl) sentL ps hv sentL_ok hrows hnd
  have hlen : A.length = 12 := hA1
  have hget : ∀ k, k < 12 → A[k]? = some (A.getD k default) := fun k hk => by
    simp [hlen, hk]
  have hL : ∀ k, k < 12 → ∃ x, sentL[k]? = some x ∧ x.2.2 = gix k := by
    intro k hk
    have hall : ((List.range 12).all fun k => match sentL[k]? with | some x => decide (x.2.2 = gix k) | none => false) = true := by decide
    have := List.all_eq_true.1 hall k (List.mem_range.2 hk)
    cases hx : sentL[k]? with
    | none => rw [hx] at this; cases this
    | some x => rw [hx] at this; exact ⟨x, rfl, of_decide_eq_true this⟩
  refine ⟨fun k => A.getD k default, ⟨?_, ?_, ?_, ?_⟩⟩
  · intro k hk
    obtain ⟨x, hx, hg⟩ := hL k hk
    have := (hA4 k x _ hx (hget k hk)).1
    rw [hg] at this
    exact this
  · intro j k hj hk e
    have h1 := hget j hj
    have h2 := hget k hk
    have e2 : A.getD j default = A.getD k default := e
    rw [e2] at h1
    exact (List.getElem?_inj (show j < A.length by omega) hA2).1 (h1.trans h2.symm)
  · intro k hk
    obtain ⟨x, hx, _⟩ := hL k hk
    exact (hA4 k x _ hx (hget k hk)).2.2
  · intro k hk
    obtain ⟨x, hx, _⟩ := hL k hk
    obtain ⟨s, hs, _⟩ := (hA4 k x _ hx (hget k hk)).2.1
    exact ⟨s, hs⟩
end Go.Proofs.YtnmegpplfbkpcaaDoor
namespace Go.Proofs.YtnmegpplfbkpcaaDoor
open Go.RowKit Go.Extern.Stop Go.Stop Go.Extern
set_option linter.unusedVariables false
set_option maxRecDepth 100000

/-- v is an error: Faults (package, place), from the outermost on, and the error at a in the end -/
def Chain (w : World) : Value → List (ByteArray × Int) → Addr → Prop
  | v, [], a => v = .iface 166 (.pointer (some a)) ∧ ∃ c t, w.heap[a.block]? = some (.cells c t (0, 0))
  | v, y :: r, a => ∃ g x, v = .iface 100 (.pointer (some ⟨g, 0, none⟩)) ∧ w.heap[g]? = some (faultObj y.1 y.2 x) ∧ Chain w x r a

theorem Chain.iface {w : World} {v : Value} {l : List (ByteArray × Int)} {a : Addr} (h : Chain w v l a) : ∃ t p, v = .iface t (.pointer (some p)) := by
  cases l with
  | nil => exact ⟨_, _, h.1⟩
  | cons y r => obtain ⟨g, x, hv, _⟩ := h; exact ⟨_, _, hv⟩

theorem faultObj_inj {a b : ByteArray} {i j : Int} {x y : Value} (h : faultObj a i x = faultObj b j y) : a = b ∧ i = j ∧ x = y := by
  simp only [faultObj, Obj.cells.injEq, and_true] at h
  have h2 := congrArg Array.toList h
  simp only [List.cons.injEq, Value.string.injEq, Value.int.injEq, true_and, and_true] at h2
  exact h2

theorem Chain.inj {w : World} : ∀ {l l' : List (ByteArray × Int)} {v : Value} {a a' : Addr}, Chain w v l a → Chain w v l' a' → l = l' ∧ a = a' := by
  intro l
  induction l with
  | nil =>
    intro l' v a a' h h'
    cases l' with
    | nil => have := h.1.symm.trans h'.1; cases this; exact ⟨rfl, rfl⟩
    | cons y r => obtain ⟨g, x, hv, _⟩ := h'; have := h.1.symm.trans hv; cases this
  | cons y r ih =>
    intro l' v a a' h h'
    obtain ⟨g, x, hv, hg, hc⟩ := h
    cases l' with
    | nil => have := hv.symm.trans h'.1; cases this
    | cons y' r' =>
      obtain ⟨g', x', hv', hg', hc'⟩ := h'
      have e := hv.symm.trans hv'
      cases e
      obtain ⟨e1, e2, e3⟩ := faultObj_inj (Option.some.inj (hg.symm.trans hg'))
      subst e3
      obtain ⟨e4, e5⟩ := ih hc hc'
      exact ⟨by rw [e4, Prod.ext e1 e2], e5⟩

theorem Chain.up {w w' : World} (hb : Below w.heap.size w w') : ∀ {l : List (ByteArray × Int)} {v : Value} {a : Addr}, Chain w v l a → Chain w' v l a := by
  intro l
  induction l with
  | nil =>
    intro v a h
    obtain ⟨h1, c, t, h2⟩ := h
    exact ⟨h1, c, t, by rw [hb.block _ (Array.getElem?_eq_some_iff.1 h2).1]; exact h2⟩
  | cons y r ih =>
    intro v a h
    obtain ⟨g, x, hv, hg, hc⟩ := h
    exact ⟨g, x, hv, by rw [hb.block _ (Array.getElem?_eq_some_iff.1 hg).1]; exact hg, ih hc⟩

open Classical in
/-- how many Faults there are -/
noncomputable def dep (w : World) (v : Value) : Nat := if h : ∃ l a, Chain w v l a then (Classical.choose h).length else 0
theorem dep_eq {w : World} {v : Value} {l : List (ByteArray × Int)} {a : Addr} (h : Chain w v l a) : dep w v = l.length := by
  unfold dep
  have hx : ∃ l a, Chain w v l a := ⟨l, a, h⟩
  rw [dif_pos hx]
  obtain ⟨a', h'⟩ := Classical.choose_spec hx
  rw [(h'.inj h).1]

theorem cell_fault {w : World} {g : Nat} {op : ByteArray} {at_ : Int} {x : Value} (h : w.heap[g]? = some (faultObj op at_ x)) :
    w.cell? ⟨g, 0, none⟩ = some (.string op) ∧ w.cell? ⟨g, 1, none⟩ = some (.int .i64 at_) ∧ w.cell? ⟨g, 2, none⟩ = some x := by
  have h' : w.heap[g]? = some (.cells #[.string op, .int .i64 at_, x] 102) := h
  refine ⟨?_, ?_, ?_⟩ <;> simp [World.cell?, h']

/-! ### CLOSED FACTS on the model's entries -/
theorem isTypeOf (v : Value) (w : World) : (Extern.ReflectliteType.typeOf #[.iface 166 v]).run Tryd.prog w = .ok (.iface 147 (.agg #[.pointer (some ⟨14, 166, none⟩)])) w := by kernel_rfl
def entCmp : Array Value → Sem Value := Extern.ReflectliteType.method fun t => do Extern.Rtype.noPackHeld "Comparable" t; pure (.bool (← typeInfo t).comparable)
theorem isComparable (w : World) : (entCmp #[.agg #[.pointer (some ⟨14, 166, none⟩)]]).run Tryd.prog w = .ok (.bool true) w := by kernel_rfl
theorem isMethodComparable (v : Value) (w : World) : (Go.method 299 147 v "Comparable").run Tryd.prog w = .ok (142, v) w := by kernel_rfl
theorem isComp : (Tryd.prog.info? 166).map (·.comparable) = some true := by kernel_rfl
theorem isSize : (Tryd.prog.info? 187).map (·.size) = some 1 := by kernel_rfl
theorem noIsE (v : Value) (xT : TypeId) (w : World) : (Instr.typeAssert (.iface 166 v) xT 149 true).run Tryd.prog w = .ok (.tuple #[.nilIface, .bool false]) w := run_typeAssert_lacksB Tryd.underlying149 (by kernel_rfl) (by kernel_rfl) v xT w
theorem noUnwrapE (v : Value) (xT : TypeId) (w : World) : (Instr.typeAssert (.iface 166 v) xT 152 true).run Tryd.prog w = .ok (.tuple #[.nilIface, .bool false]) w := run_typeAssert_lacksB Tryd.underlying152 (by kernel_rfl) (by kernel_rfl) v xT w
theorem noUnwrapsE (v : Value) (xT : TypeId) (w : World) : (Instr.typeAssert (.iface 166 v) xT 154 true).run Tryd.prog w = .ok (.tuple #[.nilIface, .bool false]) w := run_typeAssert_lacksB Tryd.underlying154 (by kernel_rfl) (by kernel_rfl) v xT w
theorem noIsF (v : Value) (xT : TypeId) (w : World) : (Instr.typeAssert (.iface 100 v) xT 149 true).run Tryd.prog w = .ok (.tuple #[.nilIface, .bool false]) w := run_typeAssert_lacksB Tryd.underlying149 (by kernel_rfl) (by kernel_rfl) v xT w
theorem hasUnwrapF (v : Value) (xT : TypeId) (w : World) : (Instr.typeAssert (.iface 100 v) xT 152 true).run Tryd.prog w = .ok (.tuple #[.iface 100 v, .bool true]) w := run_typeAssert_hasB Tryd.underlying152 (by kernel_rfl) v xT w
theorem methodUnwrap (v : Value) (w : World) : (Go.method 299 100 v "Unwrap").run Tryd.prog w = .ok (136, v) w := by kernel_rfl

set_option maxHeartbeats 4000000 in
theorem is_loop (v : Value) (l : List (ByteArray × Int)) (a b : Addr) (w : World) (cb : Array Value) (tb : TypeId) (hv : Chain w v l a) (hb : w.heap[b.block]? = some (.cells cb tb (0, 0))) :
    Calls Tryd.prog 100 #[v, .iface 166 (.pointer (some b)), .bool true] w fun e w' => e = .returned (.bool (decide (a = b))) ∧ w = w' := by
  obtain ⟨i, hi, hcmp⟩ := Option.map_eq_some_iff.1 isComp
  obtain ⟨j, hj, hjs⟩ := Option.map_eq_some_iff.1 isSize
  have nE := noIsE
  have uE := noUnwrapE
  have vE := noUnwrapsE
  have nF := noIsF
  have uF := hasUnwrapF
  have mU := methodUnwrap
  go_enter Tryd.func100, Tryd.ntmps100
  go_wp2_with fail
  go_loop [0] (fun v => ∃ l, Chain w v l a) (fun v => dep w v)
  case atStart => exact ⟨l, hv⟩
  case round =>
    clear hv
    obtain ⟨l, hv⟩ := hrel
    cases l with
    | nil =>
      obtain ⟨rfl, ca, ta, ha⟩ := hv
      by_cases hab : a = b
      · subst hab
        have heq := run_eql_iface_ptr_same (P := Tryd.prog) w a Tryd.underlying29 Tryd.underlying166 hi hcmp hj
        go_wp2
        go_ret
        exact ⟨by simp, rfl⟩
      · have heq := run_eql_iface_ptr_other (P := Tryd.prog) w Tryd.underlying29 Tryd.underlying166 hi hcmp hj (by rw [hjs]; decide) hab ha hb
        go_wp2
        go_ret
        exact ⟨by simp, rfl⟩
    | cons y r =>
      have hd := dep_eq hv
      obtain ⟨g, x, rfl, hg, hc⟩ := hv
      have hd2 := dep_eq hc
      obtain ⟨t, p, rfl⟩ := hc.iface
      obtain ⟨c0, c1, c2⟩ := cell_fault hg
      have hty := run_eql_iface_types (P := Tryd.prog) 100 166 (.pointer (some ⟨g, 0, none⟩)) (.pointer (some b)) Tryd.underlying29 (by decide) w
      have HD := Lib.hid hd
      have HD2 := Lib.hid hd2
      have HC := Lib.hid hc
      clear hd hd2 hc hg
      go_wp2
      go_round
      case rel => exact ⟨r, HC.out⟩
      case measure => show dep w (.iface t (.pointer (some p))) < dep w (.iface 100 (.pointer (some ⟨g, 0, none⟩))); rw [HD.out, HD2.out]; simp

set_option maxHeartbeats 4000000 in
theorem is_any (v : Value) (l : List (ByteArray × Int)) (a b : Addr) (w : World) (cb : Array Value) (tb : TypeId) (hv : Chain w v l a) (hb : w.heap[b.block]? = some (.cells cb tb (0, 0))) :
    Calls Tryd.prog 75 #[v, .iface 166 (.pointer (some b))] w fun e w' => e = .returned (.bool (decide (a = b))) ∧ w = w' := by
  have h8 := @run_callFunc_extern Tryd.prog 99 _ Extern.ReflectliteType.typeOf Tryd.func99 (by kernel_rfl) (by kernel_rfl) (by kernel_rfl) (by kernel_rfl)
  have h32 := @run_callFunc_extern Tryd.prog 142 _ entCmp Tryd.func142 (by kernel_rfl) (by kernel_rfl) (by kernel_rfl) (by kernel_rfl)
  have tT := isTypeOf
  have cT := isComparable
  have mR := isMethodComparable
  obtain ⟨t, p, rfl⟩ := hv.iface
  go_enter Tryd.func75, Tryd.ntmps75
  go_wp2_with (first
    | (go_at_call 100; refine (is_loop _ l a b w cb tb hv hb).mono ?_; rintro e w' ⟨rfl, rfl⟩))
  go_ret
  exact ⟨rfl, rfl⟩
end Go.Proofs.YtnmegpplfbkpcaaDoor
namespace Go.Proofs.YtnmegpplfbkpcaaDoor
open Go.RowKit Go.Extern.Stop Go.Stop Go.Extern
set_option linter.unusedVariables false
set_option maxRecDepth 100000

theorem as_nil (t : Value) (w : World) :
    Calls Tryd.prog 77 #[.nilIface, t] w fun e w' => e = .returned (.bool false) ∧ w = w' := by
  go_enter Tryd.func77, Tryd.ntmps77
  go_wp2
  go_ret
  exact ⟨rfl, rfl⟩

/-! ### the model's entries under names of their own -/
def enVal : Array Value → Sem Value := fun args => ReflectliteValue.unpack (args.getD 0 (.tuple #[]))
def enType : Array Value → Sem Value := ReflectliteValue.methodAny (ReflectliteValue.valueError "reflectlite.Value.Type" 0) (fun t _ _ _ => ReflectliteType.toType t)
def enNil : Array Value → Sem Value := ReflectliteValue.method (ReflectliteValue.valueError "reflectlite.Value.IsNil" 0) ReflectliteValue.isNil
def enKind : Array Value → Sem Value := ReflectliteType.abiMethod fun t => do pure (.int .u8 (← Rtype.kind t))
def enElemT : Array Value → Sem Value := ReflectliteType.method ReflectliteType.elem
def enImpl : Array Value → Sem Value := ReflectliteType.relation "Implements" ReflectliteType.implements_
def enAssign : Array Value → Sem Value := ReflectliteType.relation "AssignableTo" ReflectliteType.assignableTo
def enElemV : Array Value → Sem Value := ReflectliteValue.method (ReflectliteValue.valueError "reflectlite.Value.Elem" 0) ReflectliteValue.elem
def enSet : Array Value → Sem Value := ReflectliteValue.set

theorem f_val : ∀ (args : Array Value) (w : World), (callFunc 101 args).run Tryd.prog w = ((enVal args).run Tryd.prog w).andThen fun v w' => .ok (.value v) w' := @run_callFunc_extern Tryd.prog 101 _ enVal Tryd.func101 (by kernel_rfl) (by kernel_rfl) (by kernel_rfl) (by kernel_rfl)
theorem f_type : ∀ (args : Array Value) (w : World), (callFunc 102 args).run Tryd.prog w = ((enType args).run Tryd.prog w).andThen fun v w' => .ok (.value v) w' := @run_callFunc_extern Tryd.prog 102 _ enType Tryd.func102 (by kernel_rfl) (by kernel_rfl) (by kernel_rfl) (by kernel_rfl)
theorem f_nil : ∀ (args : Array Value) (w : World), (callFunc 103 args).run Tryd.prog w = ((enNil args).run Tryd.prog w).andThen fun v w' => .ok (.value v) w' := @run_callFunc_extern Tryd.prog 103 _ enNil Tryd.func103 (by kernel_rfl) (by kernel_rfl) (by kernel_rfl) (by kernel_rfl)
theorem f_kind : ∀ (args : Array Value) (w : World), (callFunc 132 args).run Tryd.prog w = ((enKind args).run Tryd.prog w).andThen fun v w' => .ok (.value v) w' := @run_callFunc_extern Tryd.prog 132 _ enKind Tryd.func132 (by kernel_rfl) (by kernel_rfl) (by kernel_rfl) (by kernel_rfl)
theorem f_elemT : ∀ (args : Array Value) (w : World), (callFunc 143 args).run Tryd.prog w = ((enElemT args).run Tryd.prog w).andThen fun v w' => .ok (.value v) w' := @run_callFunc_extern Tryd.prog 143 _ enElemT Tryd.func143 (by kernel_rfl) (by kernel_rfl) (by kernel_rfl) (by kernel_rfl)
theorem f_impl : ∀ (args : Array Value) (w : World), (callFunc 144 args).run Tryd.prog w = ((enImpl args).run Tryd.prog w).andThen fun v w' => .ok (.value v) w' := @run_callFunc_extern Tryd.prog 144 _ enImpl Tryd.func144 (by kernel_rfl) (by kernel_rfl) (by kernel_rfl) (by kernel_rfl)
theorem f_assign : ∀ (args : Array Value) (w : World), (callFunc 141 args).run Tryd.prog w = ((enAssign args).run Tryd.prog w).andThen fun v w' => .ok (.value v) w' := @run_callFunc_extern Tryd.prog 141 _ enAssign Tryd.func141 (by kernel_rfl) (by kernel_rfl) (by kernel_rfl) (by kernel_rfl)
theorem f_typeOf : ∀ (args : Array Value) (w : World), (callFunc 99 args).run Tryd.prog w = ((ReflectliteType.typeOf args).run Tryd.prog w).andThen fun v w' => .ok (.value v) w' := @run_callFunc_extern Tryd.prog 99 _ ReflectliteType.typeOf Tryd.func99 (by kernel_rfl) (by kernel_rfl) (by kernel_rfl) (by kernel_rfl)
theorem f_elemV : ∀ (args : Array Value) (w : World), (callFunc 113 args).run Tryd.prog w = ((enElemV args).run Tryd.prog w).andThen fun v w' => .ok (.value v) w' := @run_callFunc_extern Tryd.prog 113 _ enElemV Tryd.func113 (by kernel_rfl) (by kernel_rfl) (by kernel_rfl) (by kernel_rfl)
theorem f_set : ∀ (args : Array Value) (w : World), (callFunc 114 args).run Tryd.prog w = ((enSet args).run Tryd.prog w).andThen fun v w' => .ok (.value v) w' := @run_callFunc_extern Tryd.prog 114 _ enSet Tryd.func114 (by kernel_rfl) (by kernel_rfl) (by kernel_rfl) (by kernel_rfl)

/-- the Value of a **api.Fault; of a *api.Fault; of a *api.Fault variable -/
def vPP (a : Addr) : Value := .agg #[.pointer (some ⟨14, 109, none⟩), .pointer (some a), .int .u64 150]
theorem valueOfPP (t : Addr) (w : World) : (enVal #[.iface 109 (.pointer (some t))]).run Tryd.prog w = .ok (.agg #[.pointer (some ⟨14, 109, none⟩), .pointer (some ⟨w.heap.size, 0, none⟩), .int .u64 150]) (w.alloc (.cells #[.pointer (some t)] 109)) := by kernel_rfl
theorem typePP (a : Addr) (w : World) : (enType #[.agg #[.pointer (some ⟨14, 109, none⟩), .pointer (some a), .int .u64 150]]).run Tryd.prog w = .ok (.iface 147 (.agg #[.pointer (some ⟨14, 109, none⟩)])) w := by kernel_rfl
theorem methodKind (h : Value) (w : World) : (Go.method 299 147 (.agg #[h]) "Kind").run Tryd.prog w = .ok (132, h) w := by kernel_rfl
theorem kindPP (w : World) : (enKind #[.pointer (some ⟨14, 109, none⟩)]).run Tryd.prog w = .ok (.int .u8 22) w := by kernel_rfl
theorem kindP (w : World) : (enKind #[.pointer (some ⟨14, 100, none⟩)]).run Tryd.prog w = .ok (.int .u8 22) w := by kernel_rfl
theorem rlm (z : Sem Value) (f : TypeId → Addr → Nat → Nat → Sem Value) (v : Value) :
    ReflectliteValue.method z f #[v] = (do match ← ReflectliteValue.parts v with | none => z | some (t, a, fl) => f t a fl (fl % 32)) := rfl
theorem partsPP (a : Addr) (w : World) : (ReflectliteValue.parts (.agg #[.pointer (some ⟨14, 109, none⟩), .pointer (some a), .int .u64 150])).run Tryd.prog w = .ok (some (109, a, 150)) w := by kernel_rfl
theorem isNilPP (a p : Addr) (W : World) (ha : W.cell? a = some (.pointer (some p))) :
    (enNil #[.agg #[.pointer (some ⟨14, 109, none⟩), .pointer (some a), .int .u64 150]]).run Tryd.prog W = .ok (.bool false) W := by
  unfold enNil
  rw [rlm]
  simp only [Sem.run_bind, partsPP, Result.andThen]
  simp [ReflectliteValue.isNil, loadVar, isAgg, underlying, Tryd.underlying109, ha, Result.andThen]
theorem methodElem (h : Value) (w : World) : (Go.method 299 147 (.agg #[h]) "Elem").run Tryd.prog w = .ok (143, .agg #[h]) w := by kernel_rfl
theorem methodImplements (h : Value) (w : World) : (Go.method 299 147 (.agg #[h]) "Implements").run Tryd.prog w = .ok (144, .agg #[h]) w := by kernel_rfl
theorem methodAssignableTo (h : Value) (w : World) : (Go.method 299 147 (.agg #[h]) "AssignableTo").run Tryd.prog w = .ok (141, .agg #[h]) w := by kernel_rfl
theorem elemPP (w : World) : (enElemT #[.agg #[.pointer (some ⟨14, 109, none⟩)]]).run Tryd.prog w = .ok (.iface 147 (.agg #[.pointer (some ⟨14, 100, none⟩)])) w := by kernel_rfl
theorem implementsP (w : World) : (enImpl #[.agg #[.pointer (some ⟨14, 100, none⟩)], .iface 147 (.agg #[.pointer (some ⟨14, 29, none⟩)])]).run Tryd.prog w = .ok (.bool true) w := by kernel_rfl
theorem typeOfP (v : Value) (w : World) : (ReflectliteType.typeOf #[.iface 100 v]).run Tryd.prog w = .ok (.iface 147 (.agg #[.pointer (some ⟨14, 100, none⟩)])) w := by kernel_rfl
theorem assignableP (w : World) : (enAssign #[.agg #[.pointer (some ⟨14, 100, none⟩)], .iface 147 (.agg #[.pointer (some ⟨14, 100, none⟩)])]).run Tryd.prog w = .ok (.bool true) w := by kernel_rfl
theorem assignableE (w : World) : (enAssign #[.agg #[.pointer (some ⟨14, 166, none⟩)], .iface 147 (.agg #[.pointer (some ⟨14, 100, none⟩)])]).run Tryd.prog w = .ok (.bool false) w := by kernel_rfl
theorem valueOfP (e : Addr) (w : World) : (enVal #[.iface 100 (.pointer (some e))]).run Tryd.prog w = .ok (.agg #[.pointer (some ⟨14, 100, none⟩), .pointer (some ⟨w.heap.size, 0, none⟩), .int .u64 150]) (w.alloc (.cells #[.pointer (some e)] 100)) := by kernel_rfl
theorem elemOfPP (w : World) : (Rtype.elem? 109).run Tryd.prog w = .ok (some 100) w := by kernel_rfl
theorem mkP (p : Addr) (w : World) : (ReflectliteValue.mk 100 p ReflectliteValue.flagAddr).run Tryd.prog w = .ok (.agg #[.pointer (some ⟨14, 100, none⟩), .pointer (some p), .int .u64 406]) w := by kernel_rfl
theorem elemVPP (a p : Addr) (W : World) (ha : W.cell? a = some (.pointer (some p))) :
    (enElemV #[.agg #[.pointer (some ⟨14, 109, none⟩), .pointer (some a), .int .u64 150]]).run Tryd.prog W = .ok (.agg #[.pointer (some ⟨14, 100, none⟩), .pointer (some p), .int .u64 406]) W := by
  unfold enElemV
  rw [rlm]
  simp only [Sem.run_bind, partsPP, Result.andThen]
  simp [ReflectliteValue.elem, loadVar, isAgg, underlying, Tryd.underlying109, ha, Result.andThen, elemOfPP, mkP]
theorem rls (v x : Value) : ReflectliteValue.set #[v, x] = (do
    let (some (dst, a, fl), some (src, b, _)) := (← ReflectliteValue.parts v, ← ReflectliteValue.parts x)
      | unsupported (.noEntry "extern/(internal/reflectlite.Value).Set.zeroValue")
    if fl / ReflectliteValue.flagAddr % 2 == 0 then unsupported (.noEntry "extern/(internal/reflectlite.Value).Set.unaddressable")
    let val ← loadVar src b
    if ← Rtype.directlyAssignable dst src then storeVar dst a val
    else if ← Rtype.implements dst src then
      if (← Rtype.kind src) == 20 then
        match val with
        | .nilIface => unsupported (.noEntry "extern/reflectlite: a nil value of one interface type handed on as a value of another")
        | _ => storeVar dst a val
      else storeVar dst a (.iface src val)
    else panicString ("reflectlite.Set: value of type " ++ (← Rtype.spelt src) ++ " is not assignable to type " ++ (← Rtype.spelt dst))
    pure (.tuple #[])) := rfl
theorem partsPa (a : Addr) (w : World) : (ReflectliteValue.parts (.agg #[.pointer (some ⟨14, 100, none⟩), .pointer (some a), .int .u64 406])).run Tryd.prog w = .ok (some (100, a, 406)) w := by kernel_rfl
theorem partsP (a : Addr) (w : World) : (ReflectliteValue.parts (.agg #[.pointer (some ⟨14, 100, none⟩), .pointer (some a), .int .u64 150])).run Tryd.prog w = .ok (some (100, a, 150)) w := by kernel_rfl
theorem directP (w : World) : (Rtype.directlyAssignable 100 100).run Tryd.prog w = .ok true w := by kernel_rfl
theorem sizeP (w : World) : (sizeOf 100).run Tryd.prog w = .ok 1 w := by kernel_rfl
theorem setP (ta b e : Addr) (old : Value) (W : World) (hb : W.cell? b = some (.pointer (some e))) (ht : W.cell? ta = some old) (hf : W.frozen? ta = false) :
    (enSet #[.agg #[.pointer (some ⟨14, 100, none⟩), .pointer (some ta), .int .u64 406], .agg #[.pointer (some ⟨14, 100, none⟩), .pointer (some b), .int .u64 150]]).run Tryd.prog W = .ok (.tuple #[]) (W.setCell ta (.pointer (some e))) := by
  unfold enSet
  rw [rls]
  simp only [Sem.run_bind, partsPa, partsP, Result.andThen]
  simp [ReflectliteValue.flagAddr, loadVar, isAgg, underlying, Tryd.underlying100, hb, Result.andThen, directP, storeVar, Value.cells, storeCells, Addr.add]
  rw [run_store Tryd.prog W ta _ _ (by rfl)]
  simp [ht, hf]
theorem noAsE (v : Value) (xT : TypeId) (w : World) : (Instr.typeAssert (.iface 166 v) xT 159 true).run Tryd.prog w = .ok (.tuple #[.nilIface, .bool false]) w := run_typeAssert_lacksB Tryd.underlying159 (by kernel_rfl) (by kernel_rfl) v xT w

/-- the variable errors.errorType holds what start-up lays there -/
def ErrType (w : World) : Prop := w.cell? ⟨12, 0, none⟩ = some (.iface 147 (.agg #[.pointer (some ⟨14, 29, none⟩)]))

theorem ErrType.up {w w' : World} (h : ErrType w) (hb : Below w.heap.size w w') : ErrType w' := by
  unfold ErrType at *
  rw [hb.cell (World.block_lt_of_cell? _ _ h)]; exact h

def bV (t : Addr) (g : Nat) : Obj := .cells #[.pointer (some ⟨14, 109, none⟩), .pointer (some ⟨g, 0, none⟩), .int .u64 150] 131

set_option maxHeartbeats 4000000 in
theorem as_hit (e t : Addr) (old : Value) (w : World) (hg : ErrType w) (ht0 : w.cell? t = some old) (hf0 : w.frozen? t = false) :
    Calls Tryd.prog 77 #[.iface 100 (.pointer (some e)), .iface 109 (.pointer (some t))] w fun ev w' => ev = .returned (.bool true) ∧
      w' = ((((w.alloc (.cells #[.pointer (some t)] 109)).alloc (.cells #[.pointer (some ⟨14, 109, none⟩), .pointer (some ⟨w.heap.size, 0, none⟩), .int .u64 150] 131)).alloc (.cells #[.pointer (some ⟨14, 109, none⟩), .pointer (some ⟨w.heap.size, 0, none⟩), .int .u64 150] 131)).alloc (.cells #[.pointer (some e)] 100)).setCell t (.pointer (some e)) := by
  have h6 := f_val
  have h7 := f_type
  have h8 := f_nil
  have h27 := f_kind
  have h37 := f_elemT
  have h38 := f_impl
  have h10 := f_typeOf
  have h35 := f_assign
  have h11 := f_elemV
  have h12 := f_set
  have tO := typeOfP
  have mA := methodAssignableTo
  have a25 := assignableP
  have v25 := valueOfP
  have f6 := valueOfPP
  have f7 := typePP
  have mK := methodKind
  have mE := methodElem
  have mI := methodImplements
  have k27 := kindPP
  have k25 := kindP
  have e27 := elemPP
  have i25 := implementsP
  unfold ErrType at hg
  have hlt : 12 < w.heap.size := World.block_lt_of_cell? _ _ hg
  have htl : t.block < w.heap.size := World.block_lt_of_cell? _ _ ht0
  have n8 := isNilPP ⟨w.heap.size, 0, none⟩ t ((w.alloc (.cells #[.pointer (some t)] 109)).alloc (.cells #[.pointer (some ⟨14, 109, none⟩), .pointer (some ⟨w.heap.size, 0, none⟩), .int .u64 150] 131)) (by simp)
  have hg2 : ((w.alloc (.cells #[.pointer (some t)] 109)).alloc (.cells #[.pointer (some ⟨14, 109, none⟩), .pointer (some ⟨w.heap.size, 0, none⟩), .int .u64 150] 131)).cell? ⟨12, 0, none⟩ = some (.iface 147 (.agg #[.pointer (some ⟨14, 29, none⟩)])) := by
    rw [World.cell?_alloc_lt _ _ ⟨12, 0, none⟩ (by simp; omega), World.cell?_alloc_lt _ _ ⟨12, 0, none⟩ hlt]; exact hg
  have el := elemVPP ⟨w.heap.size, 0, none⟩ t (((w.alloc (.cells #[.pointer (some t)] 109)).alloc (.cells #[.pointer (some ⟨14, 109, none⟩), .pointer (some ⟨w.heap.size, 0, none⟩), .int .u64 150] 131)).alloc (.cells #[.pointer (some ⟨14, 109, none⟩), .pointer (some ⟨w.heap.size, 0, none⟩), .int .u64 150] 131)) (by rw [World.cell?_alloc_lt _ _ ⟨w.heap.size, 0, none⟩ (by simp; omega)]; simp)
  have st := setP t ⟨w.heap.size + 1 + 1 + 1, 0, none⟩ e old ((((w.alloc (.cells #[.pointer (some t)] 109)).alloc (.cells #[.pointer (some ⟨14, 109, none⟩), .pointer (some ⟨w.heap.size, 0, none⟩), .int .u64 150] 131)).alloc (.cells #[.pointer (some ⟨14, 109, none⟩), .pointer (some ⟨w.heap.size, 0, none⟩), .int .u64 150] 131)).alloc (.cells #[.pointer (some e)] 100))
    (by rw [World.cell?_alloc_at _ _ _ _ (by simp)]; rfl)
    (by rw [World.cell?_alloc_lt _ _ t (by simp; omega), World.cell?_alloc_lt _ _ t (by simp; omega), World.cell?_alloc_lt _ _ t (by simp; omega), World.cell?_alloc_lt _ _ t htl]; exact ht0)
    (by rw [World.frozen?_alloc_old _ _ t (by simp; omega), World.frozen?_alloc_old _ _ t (by simp; omega), World.frozen?_alloc_old _ _ t (by simp; omega), World.frozen?_alloc_old _ _ t (Nat.ne_of_lt htl)]; exact hf0)
  go_enter Tryd.func77, Tryd.ntmps77
  go_wp2
  refine wp_loop_rounds 1 ?_
  rw [rounds_succ]
  go_wp2
  go_ret
  exact ⟨rfl, rfl⟩

set_option maxHeartbeats 4000000 in
theorem as_miss (a t : Addr) (old : Value) (w : World) (hg : ErrType w) (ht0 : w.cell? t = some old) :
    Calls Tryd.prog 77 #[.iface 166 (.pointer (some a)), .iface 109 (.pointer (some t))] w fun ev w' => ev = .returned (.bool false) ∧
      w' = (((w.alloc (.cells #[.pointer (some t)] 109)).alloc (.cells #[.pointer (some ⟨14, 109, none⟩), .pointer (some ⟨w.heap.size, 0, none⟩), .int .u64 150] 131)).alloc (.cells #[.pointer (some ⟨14, 109, none⟩), .pointer (some ⟨w.heap.size, 0, none⟩), .int .u64 150] 131)) := by
  have h6 := f_val
  have h7 := f_type
  have h8 := f_nil
  have h27 := f_kind
  have h37 := f_elemT
  have h38 := f_impl
  have h10 := f_typeOf
  have h35 := f_assign
  have tO := isTypeOf
  have mA := methodAssignableTo
  have a25 := assignableE
  have f6 := valueOfPP
  have f7 := typePP
  have mK := methodKind
  have mE := methodElem
  have mI := methodImplements
  have k27 := kindPP
  have k25 := kindP
  have e27 := elemPP
  have i25 := implementsP
  have nA := noAsE
  have uE := noUnwrapE
  have vE := noUnwrapsE
  unfold ErrType at hg
  have hlt : 12 < w.heap.size := World.block_lt_of_cell? _ _ hg
  have n8 := isNilPP ⟨w.heap.size, 0, none⟩ t ((w.alloc (.cells #[.pointer (some t)] 109)).alloc (.cells #[.pointer (some ⟨14, 109, none⟩), .pointer (some ⟨w.heap.size, 0, none⟩), .int .u64 150] 131)) (by simp)
  have hg2 : ((w.alloc (.cells #[.pointer (some t)] 109)).alloc (.cells #[.pointer (some ⟨14, 109, none⟩), .pointer (some ⟨w.heap.size, 0, none⟩), .int .u64 150] 131)).cell? ⟨12, 0, none⟩ = some (.iface 147 (.agg #[.pointer (some ⟨14, 29, none⟩)])) := by
    rw [World.cell?_alloc_lt _ _ ⟨12, 0, none⟩ (by simp; omega), World.cell?_alloc_lt _ _ ⟨12, 0, none⟩ hlt]; exact hg
  go_enter Tryd.func77, Tryd.ntmps77
  go_wp2
  refine wp_loop_rounds 1 ?_
  rw [rounds_succ]
  go_wp2
  go_ret
  exact ⟨rfl, rfl⟩
end Go.Proofs.YtnmegpplfbkpcaaDoor
namespace Go.Proofs.YtnmegpplfbkpcaaDoor
open Go.RowKit Go.Extern.Stop Go.Stop Go.Extern
set_option linter.unusedVariables false
set_option maxRecDepth 100000

set_option maxHeartbeats 1000000 in
theorem rawRoot_any (n : Int) (w : World) (R : Nat → Addr) (hG : Glob w R) :
    Calls Tryd.prog 76 #[.int .i64 n] w fun e w' => e = .returned (.iface 166 (.pointer (some (R (rix n))))) ∧ w = w' := by
  have h0 := hG 0 (by omega)
  have h1 := hG 1 (by omega)
  have h2 := hG 2 (by omega)
  have h3 := hG 3 (by omega)
  have h4 := hG 4 (by omega)
  have h5 := hG 5 (by omega)
  have h6 := hG 6 (by omega)
  have h7 := hG 7 (by omega)
  have h8 := hG 8 (by omega)
  have h9 := hG 9 (by omega)
  have h10 := hG 10 (by omega)
  have h11 := hG 11 (by omega)
  simp only [gix, List.getD_cons_zero, List.getD_cons_succ] at h0 h1 h2 h3 h4 h5 h6 h7 h8 h9 h10 h11
  clear hG
  go_enter Tryd.func76, Tryd.ntmps76
  go_wp2
  all_goals (go_ret; exact ⟨by simp_all [rix], rfl⟩)

theorem rix_lt (n : Int) : rix n < 12 := by unfold rix; (repeat' split) <;> omega

/-- errors.As at a fresh variable of the type *api.Fault, behind a draw -/
theorem as_var_hit (e : Addr) (w : World) (hE : ErrType w) :
    Calls Tryd.prog 77 #[.iface 100 (.pointer (some e)), .iface 109 (.pointer (some ⟨w.heap.size, 0, none⟩))] (w.alloc (.cells #[.pointer none] 100)).drew fun ev w' => ev = .returned (.bool true) ∧
      Below w.heap.size w w' ∧ w.heap.size < w'.heap.size ∧ w'.cell? ⟨w.heap.size, 0, none⟩ = some (.pointer (some e)) := by
  have hE1 : ErrType (w.alloc (.cells #[.pointer none] 100)).drew := hE.up (Below.drew (balloc (bnil _) _))
  refine (as_hit e ⟨w.heap.size, 0, none⟩ (.pointer none) _ hE1 (by simp) (by simp)).mono fun ev w' h => ?_
  obtain ⟨h1, rfl⟩ := h
  refine ⟨h1, ?_, by simp; omega, ?_⟩
  · exact Below.setCell (balloc (balloc (balloc (balloc (Below.drew (balloc (bnil _) _)) _) _) _) _) (Nat.le_refl _) _
  · refine World.cell?_setCell_same _ _ _ (u := .pointer none) ?_
    rw [World.cell?_alloc_lt _ _ _ (by simp; omega), World.cell?_alloc_lt _ _ _ (by simp; omega), World.cell?_alloc_lt _ _ _ (by simp; omega), World.cell?_alloc_lt _ _ _ (by simp)]
    simp
theorem as_var_miss (a : Addr) (w : World) (hE : ErrType w) :
    Calls Tryd.prog 77 #[.iface 166 (.pointer (some a)), .iface 109 (.pointer (some ⟨w.heap.size, 0, none⟩))] (w.alloc (.cells #[.pointer none] 100)).drew fun ev w' => ev = .returned (.bool false) ∧
      Below w.heap.size w w' ∧ w.heap.size < w'.heap.size ∧ w'.cell? ⟨w.heap.size, 0, none⟩ = some (.pointer none) := by
  have hE1 : ErrType (w.alloc (.cells #[.pointer none] 100)).drew := hE.up (Below.drew (balloc (bnil _) _))
  refine (as_miss a ⟨w.heap.size, 0, none⟩ (.pointer none) _ hE1 (by simp)).mono fun ev w' h => ?_
  obtain ⟨h1, rfl⟩ := h
  refine ⟨h1, ?_, by simp; omega, ?_⟩
  · exact balloc (balloc (balloc (Below.drew (balloc (bnil _) _)) _) _) _
  · rw [World.cell?_alloc_lt _ _ _ (by simp; omega), World.cell?_alloc_lt _ _ _ (by simp; omega), World.cell?_alloc_lt _ _ _ (by simp)]
    simp

/-- FROM THE MIDST OF A REGION THAT DRAWS ITS ORDER: what is left only reads: one walk of the lexical order serves. -/
theorem wpAny_quiet_from {P : Program} {ops : Array Oper} {Q : Exit → Act → World → Prop} {a : Act} {w : World} {listed : Array Bool} (l : List Oper) (k : Nat) (hl : ops.toList.drop k = l) (hs : Region.noSelect ops = true)
    (hB : Region.lexFrom .any ops l.length k listed = true)
    (h : wpQuiet P ops (fun w' => ∃ n, w' = w.drewN n) (fun a' => ∀ w', (∃ n, w' = w.drewN n) → Q .normal a' w') l a) : wpAny P .any ops Q l.length listed a w :=
  wpAny_of_quiet (Q := fun a' => ∀ w', (∃ n, w' = w.drewN n) → Q .normal a' w') (fun _ w' hw' h => h w' hw') _ _ _ _ ⟨0, rfl⟩ (wpAnyQ_lex hs l k listed a (fun j => by subst hl; simp) hB h)

/-- the facts on an expected error: packages and places -/
structure WantRd (w : World) (es : List (ByteArray × Int)) (ao aa : Option Addr) (n1 n2 : Nat) : Prop where
  n1 : n1 = es.length
  n2 : n2 = es.length
  ops : Rd w ao es.length 1 (es.map fun x => Value.string x.1)
  ats : Rd w aa es.length 1 (es.map fun x => Value.int .i64 x.2)
  len : es.length ≤ 1000000

theorem rawIs_none_nil (ops ats : Value) (w : World) :
    Calls Tryd.prog 43 #[.nilIface, .agg #[.int .i64 0, ops, ats]] w fun e w' => e = .returned (.bool true) ∧ Below w.heap.size w w' := by
  go_enter Tryd.func43, Tryd.ntmps43
  go_wp2
  go_ret
  exact ⟨rfl, balloc (bnil _) _⟩

theorem rawIs_none (v : Value) (l : List (ByteArray × Int)) (a : Addr) (ops ats : Value) (w : World) (hv : Chain w v l a) :
    Calls Tryd.prog 43 #[v, .agg #[.int .i64 0, ops, ats]] w fun e w' => e = .returned (.bool false) ∧ Below w.heap.size w w' := by
  obtain ⟨t, p, rfl⟩ := hv.iface
  go_enter Tryd.func43, Tryd.ntmps43
  go_wp2
  go_ret
  exact ⟨rfl, balloc (bnil _) _⟩

theorem rawIs_nil (N : Int) (ops ats : Value) (w : World) (hN : (N == 0) = false) :
    Calls Tryd.prog 43 #[.nilIface, .agg #[.int .i64 N, ops, ats]] w fun e w' => e = .returned (.bool false) ∧ Below w.heap.size w w' := by
  go_enter Tryd.func43, Tryd.ntmps43
  go_wp2
  go_ret
  exact ⟨rfl, balloc (bnil _) _⟩

def IsPost (W : World) (b : Bool) (e : Ending) (w' : World) : Prop := e = .returned (.bool b) ∧ Below W.heap.size W w'

theorem at_head {α : Type} {es r : List α} {k : Nat} (hk : k ≤ es.length) (h : (es.take k ++ r) = es) : r = es.drop k := by
  have := congrArg (List.drop k) h
  rwa [List.drop_append_of_le_length (by simp [hk]), List.drop_of_length_le (by simp; omega), List.nil_append] at this

set_option maxHeartbeats 8000000 in
theorem rawIs_some (v : Value) (l es : List (ByteArray × Int)) (a : Addr) (N : Int) (ao aa : Option Addr) (no na co ca : Nat) (W : World) (R : Nat → Addr) (hS : Sent W R) (hE : ErrType W) (hv : Chain W v l a) (hw : WantRd W es ao aa no na) (hN : (N == 0) = false) :
    Calls Tryd.prog 43 #[v, .agg #[.int .i64 N, .slice ao no co, .slice aa na ca]] W (IsPost W (decide (a = R (rix N) ∧ l = es))) := by
  have hno := hw.n1
  have hna := hw.n2
  subst hno hna
  have hlen := hw.len
  obtain ⟨cb, tb, hb⟩ := hS.row (rix N) (rix_lt N)
  have HV := Lib.hid hv
  have HS := Lib.hid hS; clear hS
  have HE := Lib.hid hE; clear hE
  have HW := Lib.hid hw; clear hw
  have HB := Lib.hid hb; clear hb
  obtain ⟨t0, p0, rfl⟩ := hv.iface
  clear hv
  have hB1 : (W.alloc (.cells #[.int .i64 N, .slice ao es.length co, .slice aa es.length ca] 78)).heap[(R (rix N)).block]? = some (.cells cb tb (0, 0)) := by
    rw [(balloc (bnil W) _).block _ (Array.getElem?_eq_some_iff.1 HB.out).1]; exact HB.out
  have HB1 := Lib.hid hB1; clear hB1
  go_enter Tryd.func43, Tryd.ntmps43
  go_wp2_with fail
  refine (rawRoot_any _ _ R (HS.out.glob.alloc _)).mono ?_; rintro e w' ⟨rfl, rfl⟩
  go_wp2_with fail
  refine (is_any _ l a _ _ cb tb (HV.out.up (balloc (bnil _) _)) HB1.out).mono ?_
  by_cases ha : a = R (rix N)
  · subst ha
    rintro e w' ⟨rfl, rfl⟩
    have hdd : decide (R (rix N) = R (rix N)) = true := decide_eq_true rfl
    have hpp : decide (R (rix N) = R (rix N) ∧ l = es) = decide (l = es) := by simp
    have HP := Lib.hid hpp
    rw [hdd]
    clear hdd hpp
    go_wp2_with fail
    have hC1 := HV.out.up (balloc (bnil W) (.cells #[.int .i64 N, .slice ao es.length co, .slice aa es.length ca] 78))
    have hE1 := HE.out.up (balloc (bnil W) (.cells #[.int .i64 N, .slice ao es.length co, .slice aa es.length ca] 78))
    have hG1 := HS.out.glob.alloc (.cells #[.int .i64 N, .slice ao es.length co, .slice aa es.length ca] 78)
    have hO1 := HW.out.ops.al (.cells #[.int .i64 N, .slice ao es.length co, .slice aa es.length ca] 78)
    have hA1 := HW.out.ats.al (.cells #[.int .i64 N, .slice ao es.length co, .slice aa es.length ca] 78)
    have bw := balloc (bnil W) (.cells #[.int .i64 N, .slice ao es.length co, .slice aa es.length ca] 78)
    have x1 : (W.alloc (.cells #[.int .i64 N, .slice ao es.length co, .slice aa es.length ca] 78)).cell? ⟨W.heap.size, 0, none⟩ = some (.int .i64 N) := by simp
    have x2 : (W.alloc (.cells #[.int .i64 N, .slice ao es.length co, .slice aa es.length ca] 78)).cell? ⟨W.heap.size, 1, none⟩ = some (.slice ao es.length co) := by simp
    have x3 : (W.alloc (.cells #[.int .i64 N, .slice ao es.length co, .slice aa es.length ca] 78)).cell? ⟨W.heap.size, 2, none⟩ = some (.slice aa es.length ca) := by simp
    have z1 : W.heap.size < (W.alloc (.cells #[.int .i64 N, .slice ao es.length co, .slice aa es.length ca] 78)).heap.size := by simp
    generalize W.alloc (.cells #[.int .i64 N, .slice ao es.length co, .slice aa es.length ca] 78) = W1 at *
    have HE1 := Lib.hid hE1; clear hE1
    have HG1 := Lib.hid hG1; clear hG1
    have HC1 := Lib.hid hC1; clear hC1
    have X1 := Lib.hid x1; have X2 := Lib.hid x2; have X3 := Lib.hid x3
    clear x1 x2 x3
    go_loopw [0, 5] (fun u i wr => ∃ (k : Nat) (r : List (ByteArray × Int)), k ≤ es.length ∧ i = .int .i64 k ∧ l = es.take k ++ r ∧ Chain wr u r (R (rix N)) ∧ Below W1.heap.size W1 wr) (fun _ i _ => es.length - (intOf i).toNat)
    case atStart => exact ⟨0, l, by omega, rfl, rfl, HC1.out, bnil _⟩
    case round =>
      obtain ⟨k, r, hk, rfl, hl, hc, hb⟩ := hrel
      have HL := Lib.hid hl; clear hl
      have c1 : wr.cell? ⟨W.heap.size, 0, none⟩ = some (.int .i64 N) := (hb.cell z1).trans X1.out
      have c2 : wr.cell? ⟨W.heap.size, 1, none⟩ = some (.slice ao es.length co) := (hb.cell z1).trans X2.out
      have c3 : wr.cell? ⟨W.heap.size, 2, none⟩ = some (.slice aa es.length ca) := (hb.cell z1).trans X3.out
      by_cases hlt : k < es.length
      · cases r with
        | nil =>
          have HF : Hid (decide (l = es) = false) := by
            refine decide_eq_false fun e => ?_
            have := congrArg List.length (HL.out.symm.trans e)
            simp at this; omega
          obtain ⟨rfl, _⟩ := hc
          go_wp2_with fail
          have HEr := Lib.hid (HE1.out.up hb)
          clear c1 c2 c3
          refine wp_region_any (by kernel_rfl) ?_
          refine wpAny_take (i := 0) (v := ?_) rfl (by kernel_rfl) (by kernel_rfl) (by kernel_rfl) (fun _ _ _ h => h) (Or.inl ⟨by rfl, ?_⟩) ?_
          rotate_left
          · intro w; go_simp; with_reducible rfl
          refine wpAny_take (i := 1) (v := ?_) rfl (by kernel_rfl) (by kernel_rfl) (by kernel_rfl) (fun _ _ _ h => h) (Or.inl ⟨by rfl, ?_⟩) ?_
          rotate_left
          · intro w; go_simp; with_reducible rfl
          refine wpAny_ready (rs := [2]) (by kernel_rfl) (by simp) ?_
          refine AllReady.cons rfl (fun K hK => ?_) AllReady.nil
          go_simp
          refine (as_var_miss _ wr HEr.out).mono ?_; rintro e w' ⟨rfl, hb2, _, _⟩
          refine hK _ _ ?_
          refine wpAny_quiet_from _ 3 rfl (by kernel_rfl) (by kernel_rfl) ?_
          repeat (go_big_quiet_step (fail))
          refine wpQuiet_nil ?_
          intro _ hw'
          obtain ⟨nq, hw''⟩ := hw'
          subst hw''
          go_wp2
          go_ret
          rw [HF.out]
          exact ⟨rfl, bdrewN (bstep (bstep bw hb) hb2) _⟩
        | cons y r =>
          obtain ⟨g, x, rfl, hg, hc⟩ := hc
          go_wp2_with fail
          have HEr := Lib.hid (HE1.out.up hb)
          obtain ⟨g0, g1, g2⟩ := cell_fault hg
          have gl : g < wr.heap.size := (Array.getElem?_eq_some_iff.1 hg).1
          obtain ⟨tx, px, rfl⟩ := hc.iface
          obtain ⟨bo, oo, rfl, lo, co'⟩ := hO1.2.resolve_left (by omega)
          obtain ⟨ba, oa, rfl, la, ca'⟩ := hA1.2.resolve_left (by omega)
          have eo : wr.cell? ⟨bo, oo + k, none⟩ = some (.string es[k].1) := (hb.cell lo).trans (co' k _ (by simp [hlt]))
          have ea : wr.cell? ⟨ba, oa + k, none⟩ = some (.int .i64 es[k].2) := (hb.cell la).trans (ca' k _ (by simp [hlt]))
          have lo2 := Nat.lt_of_lt_of_le lo hb.size
          have la2 := Nat.lt_of_lt_of_le la hb.size
          have zz := hb.size
          have q0 : (0 : Int) ≤ (k : Int) := by omega
          have q1 : (k : Int) < (es.length : Int) := by omega
          clear co' ca' hg
          have HC := Lib.hid hc; clear hc
          have HY : Hid (¬ (y.1 = es[k].1 ∧ y.2 = es[k].2) → decide (l = es) = false) := fun hne => decide_eq_false fun e => by
            have h2 := HL.out.symm.trans e
            have h3 := congrArg (fun z => z[k]?) h2
            simp [hlt, Nat.min_eq_left (Nat.le_of_lt hlt)] at h3
            exact hne (by rw [← h3]; exact ⟨rfl, rfl⟩)
          have HN : Hid (y.1 = es[k].1 → y.2 = es[k].2 → l = es.take (k + 1) ++ r) := fun e1 e2 => by
            rw [HL.out, List.take_succ_eq_append_getElem hlt, List.append_assoc]
            congr 1
            simp only [List.singleton_append, List.cons.injEq, and_true]
            exact Prod.ext e1 e2
          generalize es[k] = z at *
          refine wp_region_any (by kernel_rfl) ?_
          refine wpAny_take (i := 0) (v := ?_) rfl (by kernel_rfl) (by kernel_rfl) (by kernel_rfl) (fun _ _ _ h => h) (Or.inl ⟨by rfl, ?_⟩) ?_
          rotate_left
          · intro w; go_simp; with_reducible rfl
          refine wpAny_take (i := 1) (v := ?_) rfl (by kernel_rfl) (by kernel_rfl) (by kernel_rfl) (fun _ _ _ h => h) (Or.inl ⟨by rfl, ?_⟩) ?_
          rotate_left
          · intro w; go_simp; with_reducible rfl
          refine wpAny_ready (rs := [2]) (by kernel_rfl) (by simp) ?_
          refine AllReady.cons rfl (fun K hK => ?_) AllReady.nil
          go_simp
          refine (as_var_hit _ wr HEr.out).mono ?_; rintro e w' ⟨rfl, hb2, hz2, ct⟩
          have d1 : w'.cell? ⟨g, 0, none⟩ = some (.string y.1) := (hb2.cell gl).trans g0
          have d2 : w'.cell? ⟨g, 1, none⟩ = some (.int .i64 y.2) := (hb2.cell gl).trans g1
          have d3 : w'.cell? ⟨g, 2, none⟩ = some (.iface tx (.pointer (some px))) := (hb2.cell gl).trans g2
          have d4 : w'.cell? ⟨W.heap.size, 0, none⟩ = some (.int .i64 N) := (hb2.cell (by show W.heap.size < _; omega)).trans c1
          have d5 : w'.cell? ⟨W.heap.size, 1, none⟩ = some (.slice (some ⟨bo, oo, none⟩) es.length co) := (hb2.cell (by show W.heap.size < _; omega)).trans c2
          have d6 : w'.cell? ⟨W.heap.size, 2, none⟩ = some (.slice (some ⟨ba, oa, none⟩) es.length ca) := (hb2.cell (by show W.heap.size < _; omega)).trans c3
          have d7 : w'.cell? ⟨bo, oo + k, none⟩ = some (.string z.1) := (hb2.cell lo2).trans eo
          have d8 : w'.cell? ⟨ba, oa + k, none⟩ = some (.int .i64 z.2) := (hb2.cell la2).trans ea
          clear g0 g1 g2 c1 c2 c3 eo ea
          refine hK _ _ ?_
          refine wpAny_quiet_from _ 3 rfl (by kernel_rfl) (by kernel_rfl) ?_
          by_cases e1 : y.1 = z.1
          · by_cases e2 : y.2 = z.2
            · have HN2 := Lib.hid (HN.out e1 e2)
              have b1 : (y.1.toList == z.1.toList) = true := by rw [e1]; simp
              have b2 : (y.2 == z.2) = true := by rw [e2]; simp
              clear HY HN e1 e2
              repeat (go_big_quiet_step (fail))
              refine wpQuiet_nil ?_
              intro _ hw'
              obtain ⟨nq, hw''⟩ := hw'
              subst hw''
              go_wp2
              go_roundw
              case rel => exact ⟨k + 1, r, by omega, by go_num, HN2.out, (HC.out.up hb2).up (bdrewN (bnil _) _), bdrewN (bstep hb hb2) _⟩
              case measure => simp [intOf]; omega
            · have HF := Lib.hid (HY.out (fun h => e2 h.2))
              have b1 : (y.1.toList == z.1.toList) = true := by rw [e1]; simp
              have b2 : (y.2 != z.2) = true := by simpa using e2
              clear HY HN e1 e2
              repeat (go_big_quiet_step (fail))
              refine wpQuiet_nil ?_
              intro _ hw'
              obtain ⟨nq, hw''⟩ := hw'
              subst hw''
              go_wp2
              go_ret
              rw [HF.out]
              exact ⟨rfl, bdrewN (bstep (bstep bw hb) hb2) _⟩
          · have HF := Lib.hid (HY.out (fun h => e1 h.1))
            have b1 : (y.1.toList == z.1.toList) = false := by
              rw [beq_eq_false_iff_ne]
              intro h
              apply e1
              rw [ByteArray.toList_eq, ByteArray.toList_eq] at h
              exact ByteArray.ext (Array.toList_inj.1 h)
            clear HY HN e1
            repeat (go_big_quiet_step (fail))
            refine wpQuiet_nil ?_
            intro _ hw'
            obtain ⟨nq, hw''⟩ := hw'
            subst hw''
            go_wp2
            go_ret
            rw [HF.out]
            exact ⟨rfl, bdrewN (bstep (bstep bw hb) hb2) _⟩
      · obtain rfl : k = es.length := by omega
        have HF : Hid (l = es ↔ r = []) := by
          have := HL.out
          rw [List.take_length] at this
          constructor
          · intro h; rw [h] at this; simpa using this
          · intro h; rw [this, h, List.append_nil]
        obtain ⟨i, hi, hcmp⟩ := Option.map_eq_some_iff.1 isComp
        obtain ⟨j, hj, hjs⟩ := Option.map_eq_some_iff.1 isSize
        have HGr := Lib.hid (HG1.out.up hb)
        cases r with
        | nil =>
          have HT := Lib.hid (decide_eq_true (HF.out.2 rfl))
          obtain ⟨rfl, _⟩ := hc
          have heq := run_eql_iface_ptr_same (P := Tryd.prog) wr (R (rix N)) Tryd.underlying29 Tryd.underlying166 hi hcmp hj
          go_wp2_with (first | (go_at_call 76; refine (rawRoot_any _ _ R HGr.out).mono ?_; rintro e w' ⟨rfl, rfl⟩))
          go_ret
          rw [HT.out]
          exact ⟨rfl, bstep bw hb⟩
        | cons y r =>
          have HN := Lib.hid (decide_eq_false fun h => by have := HF.out.1 h; cases this)
          obtain ⟨g, x, rfl, _, _⟩ := hc
          have hty := run_eql_iface_types (P := Tryd.prog) 100 166 (.pointer (some ⟨g, 0, none⟩)) (.pointer (some (R (rix N)))) Tryd.underlying29 (by decide) wr
          go_wp2_with (first | (go_at_call 76; refine (rawRoot_any _ _ R HGr.out).mono ?_; rintro e w' ⟨rfl, rfl⟩))
          go_ret
          rw [HN.out]
          exact ⟨rfl, bstep bw hb⟩
  · rintro e w' ⟨rfl, rfl⟩
    have hdd : decide (a = R (rix N)) = false := decide_eq_false ha
    have hpp : decide (a = R (rix N) ∧ l = es) = false := by simp [ha]
    rw [hdd]
    have HP := Lib.hid hpp
    clear hdd hpp ha
    go_wp2
    go_ret
    rw [HP.out]
    exact ⟨rfl, balloc (bnil _) _⟩
end Go.Proofs.YtnmegpplfbkpcaaDoor
namespace Go.Proofs.YtnmegpplfbkpcaaDoor
open Go.RowKit
set_option linter.unusedVariables false
set_option maxRecDepth 100000

/-- v is an expected error: its number, packages and places -/
def ErrVal (w : World) (v : Value) (N : Int) (es : List (ByteArray × Int)) : Prop :=
  ∃ ao aa co ca, v = .agg #[.int .i64 N, .slice ao es.length co, .slice aa es.length ca] ∧ WantRd w es ao aa es.length es.length

theorem WantRd.up {w w' : World} {es : List (ByteArray × Int)} {ao aa : Option Addr} {n1 n2 : Nat} (h : WantRd w es ao aa n1 n2) (hb : Below w.heap.size w w') : WantRd w' es ao aa n1 n2 :=
  ⟨h.n1, h.n2, h.ops.up hb, h.ats.up hb, h.len⟩
theorem ErrVal.up {w w' : World} {v : Value} {N : Int} {es : List (ByteArray × Int)} (h : ErrVal w v N es) (hb : Below w.heap.size w w') : ErrVal w' v N es := by
  obtain ⟨ao, aa, co, ca, h1, h2⟩ := h
  exact ⟨ao, aa, co, ca, h1, h2.up hb⟩
theorem errVal_none (w : World) : ErrVal w (.agg #[.int .i64 0, .slice none 0 0, .slice none 0 0]) 0 [] :=
  ⟨none, none, 0, 0, rfl, rfl, rfl, ⟨rfl, .inl rfl⟩, ⟨rfl, .inl rfl⟩, by simp⟩

/-- a new block of cells reads as its cells -/
theorem rd_row {w : World} {g m sz : Nat} {cs : Array Value} {e : TypeId} {fr : Nat × Nat} (h : w.heap[g]? = some (.cells cs e fr)) (hn : cs.size = m * sz) : Rd w (some ⟨g, 0, none⟩) m sz cs.toList := by
  refine ⟨by simpa using hn, .inr ⟨g, 0, rfl, (Array.getElem?_eq_some_iff.1 h).1, fun j u hu => ?_⟩⟩
  simp only [World.cell?, h, Nat.zero_add]
  simpa using hu

/-- edenraw.Is, by what an error is (none: nil) and what is expected (number 0: none) -/
def errIs (e f : Option (ByteArray × Int × Int)) : Bool :=
  match e, f with
  | none, none => true
  | some (o, a, n), some (o', a', n') => decide (o = o') && decide (a = a') && decide (rix n = rix n')
  | _, _ => false
/-- v is nil, or the error told by one package -/
def ErrIs (B : Nat) (R : Nat → Addr) (w : World) (v : Value) : Option (ByteArray × Int × Int) → Prop
  | none => v = .nilIface
  | some (o, a, n) => IsErr B R w v o a n
/-- v is the expected error -/
def WantIs (w : World) (v : Value) : Option (ByteArray × Int × Int) → Prop
  | none => ErrVal w v 0 []
  | some (o, a, n) => ErrVal w v n [(o, a)] ∧ (n == 0) = false

theorem rawNew_any (op : ByteArray) (at_ N : Int) (w : World) :
    Calls Tryd.prog 79 #[.string op, .int .i64 at_, .int .i64 N] w fun e w' => ∃ ao aa co ca, e = .returned (.agg #[.int .i64 N, .slice ao 1 co, .slice aa 1 ca]) ∧ WantRd w' [(op, at_)] ao aa 1 1 ∧ Below w.heap.size w w' := by
  go_enter Tryd.func79, Tryd.ntmps79
  go_wp2
  refine bodyPost_ret (v := .agg #[.int .i64 N, .slice (some ⟨w.heap.size + 1, 0, none⟩) 1 1, .slice (some ⟨w.heap.size + 1 + 1, 0, none⟩) 1 1]) (by simp [results, Tryd.results79, go_sem]) rfl ?_
  refine ⟨_, _, _, _, rfl, ⟨rfl, rfl, ?_, ?_, by simp⟩, balloc (balloc (balloc (bnil _) _) _) _⟩
  · exact (rd_new (news := #[.string op]) (m := 1) (sz := 1) (by simp) rfl).al _
  · exact rd_new (news := #[.int .i64 at_]) (m := 1) (sz := 1) (by simp) rfl

theorem rawNew_want (op : ByteArray) (at_ N : Int) (w : World) (hN : (N == 0) = false) :
    Calls Tryd.prog 79 #[.string op, .int .i64 at_, .int .i64 N] w fun e w' => ∃ ao aa co ca, e = .returned (.agg #[.int .i64 N, .slice ao 1 co, .slice aa 1 ca]) ∧ WantIs w' (.agg #[.int .i64 N, .slice ao 1 co, .slice aa 1 ca]) (some (op, at_, N)) ∧ Below w.heap.size w w' :=
  (rawNew_any op at_ N w).mono fun e w' h => by
    obtain ⟨ao, aa, co, ca, h1, h2, h3⟩ := h
    exact ⟨ao, aa, co, ca, h1, ⟨⟨ao, aa, co, ca, rfl, h2⟩, hN⟩, h3⟩

theorem isErr_chain {B : Nat} {R : Nat → Addr} {w w0 : World} {v : Value} {op : ByteArray} {at_ n : Int} (h : IsErr B R w v op at_ n) (hS : Sent w R) : Chain w v [(op, at_)] (R (rix n)) := by
  obtain ⟨g, rfl, _, hg⟩ := h
  exact ⟨g, _, rfl, hg, rfl, hS.row _ (rix_lt n)⟩

theorem Sent.up {w w' : World} {R : Nat → Addr} (h : Sent w R) (hb : Below w.heap.size w w') : Sent w' R := by
  refine ⟨h.glob.up hb, h.apart, fun k hk => ?_, fun k hk => ?_⟩
  · obtain ⟨c, t, e⟩ := h.row k hk
    exact ⟨c, t, by rw [hb.block _ (Array.getElem?_eq_some_iff.1 e).1]; exact e⟩
  · obtain ⟨s, e⟩ := h.text k hk
    exact ⟨s, by rw [hb.cell (World.block_lt_of_cell? _ _ e)]; exact e⟩

/-- the facts on the package-level variables -/
structure Env (w : World) (R : Nat → Addr) : Prop where
  sent : Sent w R
  et : ErrType w
theorem Env.up {w w' : World} {R : Nat → Addr} (h : Env w R) (hb : Below w.heap.size w w') : Env w' R := ⟨h.sent.up hb, h.et.up hb⟩
theorem Env.al {w : World} {R : Nat → Addr} (h : Env w R) (o : Obj) : Env (w.alloc o) R := h.up (balloc (bnil _) _)

theorem IsErr.up {B : Nat} {R : Nat → Addr} {w w' : World} {v : Value} {op : ByteArray} {at_ n : Int} (h : IsErr B R w v op at_ n) (hb : Below w.heap.size w w') : IsErr B R w' v op at_ n := by
  obtain ⟨g, h1, h2, h3⟩ := h
  exact ⟨g, h1, h2, by rw [hb.block _ (Array.getElem?_eq_some_iff.1 h3).1]; exact h3⟩
theorem ErrIs.up {B : Nat} {R : Nat → Addr} {w w' : World} {v : Value} {e : Option (ByteArray × Int × Int)} (h : ErrIs B R w v e) (hb : Below w.heap.size w w') : ErrIs B R w' v e := by
  cases e with
  | none => exact h
  | some x => exact IsErr.up h hb
theorem WantIs.up {w w' : World} {v : Value} {e : Option (ByteArray × Int × Int)} (h : WantIs w v e) (hb : Below w.heap.size w w') : WantIs w' v e := by
  cases e with
  | none => exact ErrVal.up h hb
  | some x => exact ⟨h.1.up hb, h.2⟩

theorem rawIs_any (B : Nat) (v x : Value) (e f : Option (ByteArray × Int × Int)) (w : World) (R : Nat → Addr) (hE : Env w R) (he : ErrIs B R w v e) (hf : WantIs w x f) :
    Calls Tryd.prog 43 #[v, x] w (IsPost w (errIs e f)) := by
  cases f with
  | none =>
    obtain ⟨ao, aa, co, ca, rfl, _⟩ := hf
    cases e with
    | none => cases he; exact rawIs_none_nil _ _ w
    | some y => exact rawIs_none v _ _ _ _ w (isErr_chain (w0 := w) he hE.sent)
  | some z =>
    obtain ⟨⟨ao, aa, co, ca, rfl, hw⟩, hn⟩ := hf
    cases e with
    | none => cases he; exact rawIs_nil _ _ _ w hn
    | some y =>
      have h := rawIs_some v _ _ _ z.2.2 ao aa _ _ co ca w R hE.sent hE.et (isErr_chain (w0 := w) he hE.sent) hw hn
      have e2 : decide (R (rix y.2.2) = R (rix z.2.2) ∧ [(y.1, y.2.1)] = [(z.1, z.2.1)]) = errIs (some y) (some z) := by
        unfold errIs
        rw [Bool.eq_iff_iff]
        simp only [decide_eq_true_eq, Bool.and_eq_true, List.cons.injEq, Prod.mk.injEq, and_true]
        constructor
        · rintro ⟨h1, h2, h3⟩; exact ⟨⟨h2, h3⟩, hE.sent.apart _ _ (rix_lt _) (rix_lt _) h1⟩
        · rintro ⟨⟨h1, h2⟩, h3⟩; exact ⟨by rw [h3], h1, h2⟩
      rw [← e2]
      exact h
end Go.Proofs.YtnmegpplfbkpcaaDoor
namespace Go.Proofs.YtnmegpplfbkpcaaDoor
open Go.RowKit Go.ChangeShapes
set_option linter.unusedVariables false

theorem env_et : Tryd.prog.globalNamed "errors.errorType" = some 12 := by kernel_rfl
theorem env_rt : (Tryd.prog.cutTypes.find? (·.1 == "internal/reflectlite.rtype")).map (·.2) = some 147 := by kernel_rfl
theorem env_row : ((List.range Tryd.prog.types.size).filter fun t => Tryd.prog.rowNamed t [101, 114, 114, 111, 114]) = [29] := by kernel_rfl
/-- the list of a row that lists errors.errorType and the twelve errors -/
def laidL : List (String × DataW Unit) :=
  ( "errors.errorType", .iface "internal/reflectlite.rtype" (.agg [.ptr (.lit (.string [101, 114, 114, 111, 114]))])) :: sentL.map fun x => (x.1, .iface "*errors.errorString" (.ptr (.agg [.lit (.string x.2.1)])))

theorem env_of_laid {W : World} (h : laidMetH Tryd.prog laidL W) : ∃ R : Nat → Addr, Env W R := by
  have h' : laidMet Tryd.prog (sentL.map fun x => (x.1, .iface "*errors.errorString" (.ptr (.agg [.lit (.string x.2.1)])))) W ∧ handlesMet Tryd.prog [( "errors.errorType", .iface "internal/reflectlite.rtype" (.agg [.ptr (.lit (.string [101, 114, 114, 111, 114]))]))] W := h
  obtain ⟨R, hS⟩ := sent_of_laid h'.1
  refine ⟨R, hS, ?_⟩
  obtain ⟨name, u, ty, e1, e2, e3, e4, e5⟩ := h'.2 _ (List.mem_singleton.2 rfl)
  have en : name = [101, 114, 114, 111, 114] := (Option.some.inj e1).symm
  subst en
  obtain rfl := Option.some.inj (env_rt.symm.trans e2)
  have hm : ty ∈ (List.range Tryd.prog.types.size).filter fun t => Tryd.prog.rowNamed t [101, 114, 114, 111, 114] := List.mem_filter.2 ⟨List.mem_range.2 e3, e4⟩
  rw [env_row] at hm
  obtain rfl := List.mem_singleton.1 hm
  have hh : typeHandle Tryd.prog 29 = .pointer (some ⟨14, 29, none⟩) := by kernel_rfl
  rw [hh] at e5
  unfold ErrType
  simpa using World.var?_cell env_et e5 0

theorem own : ownKnob Tryd.prog.godebug = none := by kernel_rfl
theorem laidOut : laidOutB Tryd.prog = true := by kernel_rfl

/-- a slice argument's capacity, in bytes: the form's own reach -/
theorem cap_sized {P : Program} {H : Type} {enc : TypeId × Value → H} {w : World} {fuel len cap : Nat} {a : Option Addr} {t e : TypeId} {d : DataW H} {p : List MemPlace} {ts : List TypeId} {ds : List (DataW H)} {j : Nat}
    (hu : P.underlying t = some (.slice e)) (h : DataW.trod enc P w 0 (fun _ => true) true fuel t [.slice a len cap] = some (d, p))
    (hz : (DataW.weightsEach P ts ds).all (· ≤ reachBytes) = true) (ht : ts[j]? = some t) (hd : ds[j]? = some d) : cap * P.bytesOf e ≤ 140737488351232 ∧ (a = none → cap = 0) := by
  rcases DataW.trod_slice hu h with ⟨h1, _⟩ | ⟨ad, len', cap', elems, rest, n, _, h1, h2, _, hl, _, he, _, hs, _⟩
  · cases h1
    exact ⟨by simp, fun _ => rfl⟩
  · cases h1
    cases h2
    have := sized_slice hz ht hd hu
    simp only [List.length_map, he, (hs rfl).1] at this
    rw [show len + (cap - len) = cap from by omega] at this
    refine ⟨Nat.le_trans this (by decide), fun h => by cases h⟩
end Go.Proofs.YtnmegpplfbkpcaaDoor
namespace Go.Proofs.YtnmegpplfbkpcaaDoor
open Go.RowKit
set_option linter.unusedVariables false
set_option maxRecDepth 100000

theorem rawNew_fresh (op : ByteArray) (at_ N : Int) (w : World) (hN : (N == 0) = false) :
    Calls Tryd.prog 79 #[.string op, .int .i64 at_, .int .i64 N] w fun e w' => ∃ b1 b2, e = .returned (.agg #[.int .i64 N, .slice (some ⟨b1, 0, none⟩) 1 1, .slice (some ⟨b2, 0, none⟩) 1 1]) ∧ w.heap.size ≤ b1 ∧ w.heap.size ≤ b2 ∧
      WantIs w' (.agg #[.int .i64 N, .slice (some ⟨b1, 0, none⟩) 1 1, .slice (some ⟨b2, 0, none⟩) 1 1]) (some (op, at_, N)) ∧ Below w.heap.size w w' := by
  go_enter Tryd.func79, Tryd.ntmps79
  go_wp2
  refine bodyPost_ret (v := .agg #[.int .i64 N, .slice (some ⟨w.heap.size + 1, 0, none⟩) 1 1, .slice (some ⟨w.heap.size + 1 + 1, 0, none⟩) 1 1]) (by simp [results, Tryd.results79, go_sem]) rfl ?_
  refine ⟨_, _, rfl, by omega, by omega, ⟨⟨_, _, _, _, rfl, rfl, rfl, ?_, ?_, by simp⟩, hN⟩, balloc (balloc (balloc (bnil _) _) _) _⟩
  · exact (rd_new (news := #[.string op]) (m := 1) (sz := 1) (by simp) rfl).al _
  · exact rd_new (news := #[.int .i64 at_]) (m := 1) (sz := 1) (by simp) rfl

/-- a struct of three cells that was laid before a call: it can be read and written behind it -/
theorem res3 {W w' : World} {x y z : Value} {t : TypeId} {g : Nat} (hg : g = W.heap.size) (hb : Below (W.alloc (.cells #[x, y, z] t)).heap.size (W.alloc (.cells #[x, y, z] t)) w') :
    (w'.cell? ⟨g, 0, none⟩ = some x ∧ w'.cell? ⟨g, 1, none⟩ = some y ∧ w'.cell? ⟨g, 2, none⟩ = some z) ∧ w'.frozen? ⟨g, 0, none⟩ = false ∧ w'.frozen? ⟨g, 1, none⟩ = false ∧ w'.frozen? ⟨g, 2, none⟩ = false := by
  subst hg
  have h := hb.block W.heap.size (by simp)
  rw [heap_alloc_new] at h
  simp [World.cell?, World.frozen?, h]

/-- .. and what it reads once its three cells are set; the blocks beside it are as they were -/
theorem res3_set {W w' : World} {x y z u0 u1 u2 : Value} {t : TypeId} {g : Nat} (hg : g = W.heap.size) (hb : Below (W.alloc (.cells #[x, y, z] t)).heap.size (W.alloc (.cells #[x, y, z] t)) w') :
    ∃ w6, (((w'.setCell ⟨g, 0, none⟩ u0).setCell ⟨g, 1, none⟩ u1).setCell ⟨g, 2, none⟩ u2) = w6 ∧ (w6.cell? ⟨g, 0, none⟩ = some u0 ∧ w6.cell? ⟨g, 1, none⟩ = some u1 ∧ w6.cell? ⟨g, 2, none⟩ = some u2) ∧ Below W.heap.size W w6 ∧ (∀ k, k ≠ g → w6.heap[k]? = w'.heap[k]?) ∧ w6.heap.size = w'.heap.size := by
  subst hg
  refine ⟨_, rfl, ?_, ?_, ?_, ?_⟩
  · have h := hb.block W.heap.size (by simp)
    rw [heap_alloc_new] at h
    simp [World.cell?, World.setCell, Array.getElem?_modify, h]
  · exact (((((balloc (bnil W) _).trans (hb.mono (by simp))).setCell (p := ⟨W.heap.size, 0, none⟩) (Nat.le_refl _) u0).setCell (p := ⟨W.heap.size, 1, none⟩) (Nat.le_refl _) u1).setCell (p := ⟨W.heap.size, 2, none⟩) (Nat.le_refl _) u2)
  · intro k hk
    rw [Below.heap_setCell _ _ _ _ hk, Below.heap_setCell _ _ _ _ hk, Below.heap_setCell _ _ _ _ hk]
  · simp [World.setCell]

theorem Rd.other {w w6 : World} {g b n sz : Nat} {o : Nat} {cs : List Value} (h : Rd w (some ⟨b, o, none⟩) n sz cs) (hk : ∀ k, k ≠ g → w6.heap[k]? = w.heap[k]?) (hs : w6.heap.size = w.heap.size) (hb : b ≠ g) : Rd w6 (some ⟨b, o, none⟩) n sz cs := by
  refine ⟨h.1, ?_⟩
  rcases h.2 with h0 | ⟨b', o', e, hlt, hc⟩
  · exact .inl h0
  · cases e
    refine .inr ⟨b, o, rfl, by omega, fun j u hu => ?_⟩
    rw [World.cell?_of_block (hk b hb)]
    exact hc j u hu
theorem WantIs.other {w w6 : World} {g b1 b2 : Nat} {N : Int} {f : Option (ByteArray × Int × Int)} (h : WantIs w (.agg #[.int .i64 N, .slice (some ⟨b1, 0, none⟩) 1 1, .slice (some ⟨b2, 0, none⟩) 1 1]) f) (hk : ∀ k, k ≠ g → w6.heap[k]? = w.heap[k]?) (hs : w6.heap.size = w.heap.size) (h1 : b1 ≠ g) (h2 : b2 ≠ g) :
    WantIs w6 (.agg #[.int .i64 N, .slice (some ⟨b1, 0, none⟩) 1 1, .slice (some ⟨b2, 0, none⟩) 1 1]) f := by
  cases f with
  | none =>
    obtain ⟨ao, aa, co, ca, e, hw⟩ := h
    simp at e
  | some x =>
    obtain ⟨⟨ao, aa, co, ca, e, hw⟩, hn⟩ := h
    simp only [Value.agg.injEq, Array.mk.injEq, List.cons.injEq, Value.int.injEq, Value.slice.injEq] at e
    obtain ⟨⟨_, rfl⟩, ⟨rfl, _, rfl⟩, ⟨rfl, _, rfl⟩, _⟩ := e
    exact ⟨⟨_, _, _, _, rfl, hw.n1, hw.n2, hw.ops.other hk hs h1, hw.ats.other hk hs h2, hw.len⟩, hn⟩
end Go.Proofs.YtnmegpplfbkpcaaDoor
namespace Go.Proofs.YtnmegpplfbkpcaaDoor
open Go.RowKit
set_option linter.unusedVariables false
set_option maxRecDepth 100000

theorem errIs_selfR (f : Option (ByteArray × Int × Int)) : errIs f f = true := by
  cases f with
  | none => rfl
  | some x => simp [errIs]
theorem rawIs_same (B : Nat) (v x : Value) (f : Option (ByteArray × Int × Int)) (w : World) (R : Nat → Addr) (hE : Env w R) (he : ErrIs B R w v f) (hf : WantIs w x f) :
    Calls Tryd.prog 43 #[v, x] w fun e w' => e = .returned (.bool true) ∧ Below w.heap.size w w' := by
  have := rawIs_any B v x f f w R hE he hf
  rw [errIs_selfR] at this
  exact this
/-- an error as a result that lies in the call's own first block -/
theorem ref_fin {W w5 : World} {op : ByteArray} {at_ k : Int} {b1 b2 g : Nat} {z0 z1 z2 : Value} {t : TypeId} (hg : g = W.heap.size) (hb : Below (W.alloc (.cells #[z0, z1, z2] t)).heap.size (W.alloc (.cells #[z0, z1, z2] t)) w5) (h1 : W.heap.size < b1) (h2 : W.heap.size < b2)
    (hw : WantIs w5 (.agg #[.int .i64 k, .slice (some ⟨b1, 0, none⟩) 1 1, .slice (some ⟨b2, 0, none⟩) 1 1]) (some (op, at_, k))) :
    ∃ w6, (((w5.setCell ⟨g, 0, none⟩ (.int .i64 k)).setCell ⟨g, 1, none⟩ (.slice (some ⟨b1, 0, none⟩) 1 1)).setCell ⟨g, 2, none⟩ (.slice (some ⟨b2, 0, none⟩) 1 1)) = w6 ∧
      (w6.cell? ⟨g, 0, none⟩ = some (.int .i64 k) ∧ w6.cell? ⟨g, 1, none⟩ = some (.slice (some ⟨b1, 0, none⟩) 1 1) ∧ w6.cell? ⟨g, 2, none⟩ = some (.slice (some ⟨b2, 0, none⟩) 1 1)) ∧
      WantIs w6 (.agg #[.int .i64 k, .slice (some ⟨b1, 0, none⟩) 1 1, .slice (some ⟨b2, 0, none⟩) 1 1]) (some (op, at_, k)) ∧ Below W.heap.size W w6 := by
  obtain ⟨w6, e6, cells, bel, hk, hs⟩ := res3_set (u0 := .int .i64 k) (u1 := .slice (some ⟨b1, 0, none⟩) 1 1) (u2 := .slice (some ⟨b2, 0, none⟩) 1 1) hg hb
  exact ⟨w6, e6, cells, hw.other hk hs (by omega) (by omega), bel⟩
end Go.Proofs.YtnmegpplfbkpcaaDoor
namespace Go.Proofs.YtnmegpplfbkpcaaDoor
open Go.RowKit
set_option linter.unusedVariables false
set_option maxRecDepth 100000

/-- what an error is: none, or packages and places from the outermost on, and a number -/
abbrev ErrD := Option (List (ByteArray × Int) × Int)
def EC (R : Nat → Addr) (w : World) (v : Value) : ErrD → Prop
  | none => v = .nilIface
  | some (es, n) => Chain w v es (R (rix n))
def WC (w : World) (x : Value) : ErrD → Prop
  | none => ErrVal w x 0 []
  | some (es, n) => ErrVal w x n es ∧ (n == 0) = false
theorem EC.up {R : Nat → Addr} {w w' : World} {v : Value} {f : ErrD} (h : EC R w v f) (hb : Below w.heap.size w w') : EC R w' v f := by
  cases f with
  | none => exact h
  | some x => exact Chain.up hb h
theorem WC.up {w w' : World} {x : Value} {f : ErrD} (h : WC w x f) (hb : Below w.heap.size w w') : WC w' x f := by
  cases f with
  | none => exact ErrVal.up h hb
  | some y => exact ⟨h.1.up hb, h.2⟩
theorem wc_none (w : World) : WC w (.agg #[.int .i64 0, .slice none 0 0, .slice none 0 0]) none := errVal_none w
theorem ec_err {B : Nat} {R : Nat → Addr} {w : World} {v : Value} {op : ByteArray} {at_ n : Int} (hS : Sent w R) (h : IsErr B R w v op at_ n) : EC R w v (some ([(op, at_)], n)) := isErr_chain (w0 := w) h hS
theorem wc_want {w : World} {x : Value} {op : ByteArray} {at_ n : Int} (h : WantIs w x (some (op, at_, n))) : WC w x (some ([(op, at_)], n)) := h
theorem rawIs_ch (v x : Value) (f : ErrD) (w : World) (R : Nat → Addr) (hE : Env w R) (he : EC R w v f) (hf : WC w x f) :
    Calls Tryd.prog 43 #[v, x] w fun e w' => e = .returned (.bool true) ∧ Below w.heap.size w w' := by
  cases f with
  | none =>
    obtain ⟨ao, aa, co, ca, rfl, _⟩ := hf
    cases he
    exact rawIs_none_nil _ _ w
  | some z =>
    obtain ⟨⟨ao, aa, co, ca, rfl, hw⟩, hn⟩ := hf
    have h := rawIs_some v _ _ _ z.2 ao aa _ _ co ca w R hE.sent hE.et he hw hn
    have e2 : decide (R (rix z.2) = R (rix z.2) ∧ z.1 = z.1) = true := decide_eq_true ⟨rfl, rfl⟩
    rw [e2] at h
    exact h

/-- an error, told further: a new fault over it -/
theorem ec_under {R : Nat → Addr} {w : World} {v : Value} {es : List (ByteArray × Int)} {n : Int} (op : ByteArray) (at_ : Int) (h : EC R w v (some (es, n))) :
    EC R (w.alloc (faultObj op at_ v)) (.iface 100 (.pointer (some ⟨w.heap.size, 0, none⟩))) (some ((op, at_) :: es, n)) :=
  ⟨_, v, rfl, heap_alloc_new w _, Chain.up (balloc (bnil w) _) h⟩

/-- a slice lies from block B on -/
def Fr (B : Nat) (a : Option Addr) : Prop := ∀ b o, a = some ⟨b, o, none⟩ → B ≤ b
theorem fr_none {B : Nat} : Fr B none := fun b o h => by cases h
theorem Fr.base {B B' : Nat} {a : Option Addr} (h : Fr B a) (hb : B' ≤ B) : Fr B' a := fun b o e => Nat.le_trans hb (h b o e)
theorem fr_some {B b : Nat} (h : B ≤ b) : Fr B (some ⟨b, 0, none⟩) := fun b' o e => by cases e; exact h
theorem Rd.oth {w w6 : World} {g n sz : Nat} {a : Option Addr} {cs : List Value} (h : Rd w a n sz cs) (hk : ∀ k, k ≠ g → w6.heap[k]? = w.heap[k]?) (hs : w6.heap.size = w.heap.size) (hn : ∀ b o, a = some ⟨b, o, none⟩ → b ≠ g) : Rd w6 a n sz cs := by
  refine ⟨h.1, ?_⟩
  rcases h.2 with h0 | ⟨b, o, rfl, hlt, hc⟩
  · exact .inl h0
  · refine .inr ⟨b, o, rfl, by omega, fun j u hu => ?_⟩
    rw [World.cell?_of_block (hk b (hn b o rfl))]
    exact hc j u hu
theorem WC.other {w w6 : World} {g : Nat} {N : Int} {a1 a2 : Option Addr} {n1 c1 n2 c2 : Nat} {f : ErrD} (h : WC w (.agg #[.int .i64 N, .slice a1 n1 c1, .slice a2 n2 c2]) f) (hk : ∀ k, k ≠ g → w6.heap[k]? = w.heap[k]?) (hs : w6.heap.size = w.heap.size) (h1 : Fr (g + 1) a1) (h2 : Fr (g + 1) a2) :
    WC w6 (.agg #[.int .i64 N, .slice a1 n1 c1, .slice a2 n2 c2]) f := by
  have key : ∀ {n : Int} {es : List (ByteArray × Int)}, ErrVal w (.agg #[.int .i64 N, .slice a1 n1 c1, .slice a2 n2 c2]) n es → ErrVal w6 (.agg #[.int .i64 N, .slice a1 n1 c1, .slice a2 n2 c2]) n es := by
    rintro n es ⟨ao, aa, co, ca, e, hw⟩
    simp only [Value.agg.injEq, Array.mk.injEq, List.cons.injEq, Value.int.injEq, Value.slice.injEq] at e
    obtain ⟨⟨_, rfl⟩, ⟨rfl, rfl, rfl⟩, ⟨rfl, _, rfl⟩, _⟩ := e
    exact ⟨a1, a2, c1, c2, by simp_all, hw.n1, hw.n2, hw.ops.oth hk hs (fun b o e => by have := h1 b o e; omega), hw.ats.oth hk hs (fun b o e => by have := h2 b o e; omega), hw.len⟩
  cases f with
  | none => exact key h
  | some y => exact ⟨key h.1, h.2⟩

/-- an error as the document has it, in new memory -/
def RefRet (W : World) (x : ErrD) (e : Ending) (w' : World) : Prop := ∃ N a1 n1 c1 a2 n2 c2, e = .returned (.agg #[.int .i64 N, .slice a1 n1 c1, .slice a2 n2 c2]) ∧ WC w' (.agg #[.int .i64 N, .slice a1 n1 c1, .slice a2 n2 c2]) x ∧ Fr W.heap.size a1 ∧ Fr W.heap.size a2 ∧ (N != 0) = x.isSome ∧ (x = none → N = 0 ∧ a1 = none ∧ n1 = 0 ∧ c1 = 0 ∧ a2 = none ∧ n2 = 0 ∧ c2 = 0) ∧ Below W.heap.size W w'
end Go.Proofs.YtnmegpplfbkpcaaDoor
