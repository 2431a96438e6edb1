/- What the listed package-level variables give a walk; errors.Is and errors.As by their contracts (for a place without edenraw.Is). -/
import Derived.Test.YtiglilecmieelaaGreatDoorBase
import Derived.Test.YtiglilecmieelaaGreatDoorRows
import Derived.Stop.LaidErr
import Derived.LaidHandle
import Derived.LaidMore
import Derived.LaidLaws
import Derived.MakeChecks
import Derived.KernelRfl
import Derived.WalkKit
import Derived.LaidEql
import Derived.Stop.Asserts
import Derived.RowKitTokens
import Derived.SizedLaws
import Derived.ChangeArms
namespace Go.Proofs.YtiglilecmieelaaGreatDoor
open Go.RowKit Go.ChangeShapes

/-- The errors of a list of sentinels: each one's address; its text; its block; no two at one address. -/
theorem laidVars_all {P : Program} {W : World} {nm : String} {ti tp te ts : TypeId} {ms : Array (String × TypeId)} {f : Field}
    (hi : P.underlying ti = some (.interface ms)) (hrow : ∀ u, P.typeName? 3 u = some nm → u = tp)
    (hp : P.underlying tp = some (.pointer te)) (he : P.underlying te = some (.struct #[f])) (hft : f.type = ts) (hfo : f.offset = 0) (hs : P.underlying ts = some .string) (hc : P.cellsOf te = 1) (hcs : P.cellsOf ts = 1) :
    ∀ (L : List (String × List UInt8 × Nat)) (q : List MemPlace), DataW.LaidVars P W (L.map fun x => (x.1, .iface nm (.ptr (.agg [.lit (.string x.2.1)])))) q →
      (∀ x ∈ L, P.globalNamed x.1 = some x.2.2 ∧ (P.globals[x.2.2]?).map (·.type) = some ti) →
      (∀ b off, MemPlace.cell b off ∈ q → (∃ c t, W.heap[b]? = some (.cells c t (0, 0))) ∧ ∀ u v, W.cell? ⟨b, off, none⟩ = some (.iface u v) → Value.okWide P W .any 0 u v) → q.Nodup →
      ∃ A : List Addr, A.length = L.length ∧ A.Nodup ∧ (∀ a ∈ A, a.spot = none ∧ MemPlace.cell a.block a.off ∈ q) ∧
        ∀ (i : Nat) (x : String × List UInt8 × Nat) (a : Addr), L[i]? = some x → A[i]? = some a → W.cell? ⟨x.2.2, 0, none⟩ = some (.iface tp (.pointer (some a))) ∧ (∃ s, W.cell? a = some (.string s) ∧ s.data.toList = x.2.1) ∧ ∃ c t, W.heap[a.block]? = some (.cells c t (0, 0)) := by
  intro L
  induction L with
  | nil => intro q hq _ _ _; exact ⟨[], rfl, List.nodup_nil, (fun a h => by cases h), (fun i x a h => by simp at h)⟩
  | cons y L ih =>
    intro q hq hg hrows hnd
    obtain ⟨g, t, cs, fuel, p, q', hgn, hgt, hv, hd, hq', rfl⟩ := hq
    obtain ⟨g1, g2⟩ := hg y (List.mem_cons_self ..)
    obtain rfl := Option.some.inj (g1.symm.trans hgn)
    obtain rfl := Option.some.inj (g2.symm.trans hgt)
    obtain ⟨l0⟩ := cs
    have ok0 : ∀ u v, l0 = [.iface u v] → Value.okWide P W .any 0 u v := fun u v e => by
      subst e
      exact (hrows y.2.2 0 (by simp [MemPlace.row])).2 u v (by simpa using World.var?_cell g1 hv 0)
    obtain ⟨a0, s0, rfl, hc0, hs0, hz0, rfl⟩ := errorString_of_trod hi hrow hp he hft hfo hs hc hcs hd ok0
    have hspot : a0.spot = none := World.cell?_spot hc0
    obtain ⟨A, hA1, hA2, hA3, hA4⟩ := ih q' hq' (fun x hx => hg x (List.mem_cons_of_mem _ hx)) (fun b off hm => hrows b off (List.mem_append_right _ hm)) (List.Nodup.sublist (List.sublist_append_right _ _) hnd)
    refine ⟨a0 :: A, by simp [hA1], List.nodup_cons.2 ⟨fun hm => ?_, hA2⟩, ?_, ?_⟩
    · have h1 := (hA3 a0 hm).2
      rw [List.nodup_append] at hnd
      exact hnd.2.2 (MemPlace.cell a0.block a0.off) (List.mem_append_right _ (by simp [MemPlace.row])) _ h1 rfl
    · intro a ha
      rcases List.mem_cons.1 ha with rfl | ha
      · exact ⟨hspot, List.mem_append_left _ (List.mem_append_right _ (by simp [MemPlace.row]))⟩
      · exact ⟨(hA3 a ha).1, List.mem_append_right _ (hA3 a ha).2⟩
    · intro i x a hx ha
      cases i with
      | zero =>
        simp only [List.getElem?_cons_zero, Option.some.injEq] at hx ha
        subst hx ha
        exact ⟨by simpa using World.var?_cell g1 hv 0, ⟨s0, hc0, hs0⟩, (hrows a0.block a0.off (List.mem_append_left _ (List.mem_append_right _ (by simp [MemPlace.row])))).1⟩
      | succ i =>
        simp only [List.getElem?_cons_succ] at hx ha
        exact hA4 i x a hx ha

def sentL : List (String × List UInt8 × Nat) :=
  [("eden/api.BadRule", [98, 97, 100, 32, 114, 117, 108, 101], 2), ("eden/api.BadWord", [98, 97, 100, 32, 119, 111, 114, 100], 3), ("eden/api.BadArg", [98, 97, 100, 32, 97, 114, 103, 117, 109, 101, 110, 116], 4),
   ("eden/api.TooBig", [116, 111, 111, 32, 98, 105, 103], 1), ("eden/api.NoBudget", [110, 111, 32, 98, 117, 100, 103, 101, 116], 5), ("eden/api.BadText", [98, 97, 100, 32, 116, 101, 120, 116], 6),
   ("eden/api.BadPatch", [98, 97, 100, 32, 112, 97, 116, 99, 104], 7), ("eden/api.BadCert", [98, 97, 100, 32, 99, 101, 114, 116, 105, 102, 105, 99, 97, 116, 101], 8), ("eden/api.NoInverse", [110, 111, 32, 105, 110, 118, 101, 114, 115, 101], 9),
   ("eden/api.BadLine", [98, 97, 100, 32, 108, 105, 110, 101], 10), ("eden/api.BadState", [98, 97, 100, 32, 115, 116, 97, 116, 101], 11), ("eden/api.Unknown", [117, 110, 107, 110, 111, 119, 110], 12)]

/-- what the walks are told of the package-level errors: where each lies; that no two lie at one place; that none of their blocks is marked -/
structure Sent (w : World) (R : Nat → Addr) : Prop where
  glob : Glob w R
  apart : ∀ j k, j < 12 → k < 12 → R j = R k → j = k
  row : ∀ k, k < 12 → ∃ c t, w.heap[(R k).block]? = some (.cells c t (0, 0))
  text : ∀ k, k < 12 → ∃ s, w.cell? (R k) = some (.string s)

theorem starName : "*" ++ "errors.errorString" = "*errors.errorString" := by decide
theorem sent_rows (u : TypeId) (h : Tryz.prog.typeName? 3 u = some "*errors.errorString") : u = 172 :=
  typeName_ptr_named (nm := "errors.errorString") (by rw [starName]; kernel_rfl) (by kernel_rfl) (by decide) u (by rw [starName]; exact h)

theorem sentL_ok : ∀ x ∈ sentL, Tryz.prog.globalNamed x.1 = some x.2.2 ∧ (Tryz.prog.globals[x.2.2]?).map (·.type) = some 27 := by
  intro x hx
  have hall : (sentL.all fun x => decide (Tryz.prog.globalNamed x.1 = some x.2.2) && decide ((Tryz.prog.globals[x.2.2]?).map (·.type) = some 27)) = true := by kernel_rfl
  have := List.all_eq_true.1 hall x hx
  rw [Bool.and_eq_true, decide_eq_true_eq, decide_eq_true_eq] at this
  exact this

/-- FROM THE ROW's CONDITION TO WHAT THE WALKS ARE TOLD -/
theorem sent_of_laid {W : World} (h : laidMet Tryz.prog (sentL.map fun x => (x.1, .iface "*errors.errorString" (.ptr (.agg [.lit (.string x.2.1)])))) W) : ∃ R : Nat → Addr, Sent W R := by
  obtain ⟨ps, hv, hnd, hrows⟩ := h
  obtain ⟨A, hA1, hA2, hA3, hA4⟩ := laidVars_all Tryz.underlying27 sent_rows Tryz.underlying172 Tryz.underlying192 rfl rfl Tryz.underlying9 (by kernel_rfl) (by kernel_rfl) sentL ps hv sentL_ok hrows hnd
  have hlen : A.length = 12 := hA1
  have hget : ∀ k, k < 12 → A[k]? = some (A.getD k default) := fun k hk => by
    simp [hlen, hk]
  have hL : ∀ k, k < 12 → ∃ x, sentL[k]? = some x ∧ x.2.2 = gix k := by
    intro k hk
    have hall : ((List.range 12).all fun k => match sentL[k]? with | some x => decide (x.2.2 = gix k) | none => false) = true := by decide
    have := List.all_eq_true.1 hall k (List.mem_range.2 hk)
    cases hx : sentL[k]? with
    | none => rw [hx] at this; cases this
    | some x => rw [hx] at this; exact ⟨x, rfl, of_decide_eq_true this⟩
  refine ⟨fun k => A.getD k default, ⟨?_, ?_, ?_, ?_⟩⟩
  · intro k hk
    obtain ⟨x, hx, hg⟩ := hL k hk
    have := (hA4 k x _ hx (hget k hk)).1
    rw [hg] at this
    exact this
  · intro j k hj hk e
    have h1 := hget j hj
    have h2 := hget k hk
    have e2 : A.getD j default = A.getD k default := e
    rw [e2] at h1
    exact (List.getElem?_inj (show j < A.length by omega) hA2).1 (h1.trans h2.symm)
  · intro k hk
    obtain ⟨x, hx, _⟩ := hL k hk
    exact (hA4 k x _ hx (hget k hk)).2.2
  · intro k hk
    obtain ⟨x, hx, _⟩ := hL k hk
    obtain ⟨s, hs, _⟩ := (hA4 k x _ hx (hget k hk)).2.1
    exact ⟨s, hs⟩
end Go.Proofs.YtiglilecmieelaaGreatDoor
namespace Go.Proofs.YtiglilecmieelaaGreatDoor
open Go.RowKit Go.Extern.Stop Go.Stop Go.Extern
set_option linter.unusedVariables false
set_option maxRecDepth 100000

/-- v is an error: Faults (package, place), from the outermost on, and the error at a in the end -/
def Chain (w : World) : Value → List (ByteArray × Int) → Addr → Prop
  | v, [], a => v = .iface 172 (.pointer (some a)) ∧ ∃ c t, w.heap[a.block]? = some (.cells c t (0, 0))
  | v, y :: r, a => ∃ g x, v = .iface 75 (.pointer (some ⟨g, 0, none⟩)) ∧ w.heap[g]? = some (faultObj y.1 y.2 x) ∧ Chain w x r a

theorem Chain.iface {w : World} {v : Value} {l : List (ByteArray × Int)} {a : Addr} (h : Chain w v l a) : ∃ t p, v = .iface t (.pointer (some p)) := by
  cases l with
  | nil => exact ⟨_, _, h.1⟩
  | cons y r => obtain ⟨g, x, hv, _⟩ := h; exact ⟨_, _, hv⟩

theorem faultObj_inj {a b : ByteArray} {i j : Int} {x y : Value} (h : faultObj a i x = faultObj b j y) : a = b ∧ i = j ∧ x = y := by
  simp only [faultObj, Obj.cells.injEq, and_true] at h
  have h2 := congrArg Array.toList h
  simp only [List.cons.injEq, Value.string.injEq, Value.int.injEq, true_and, and_true] at h2
  exact h2

theorem Chain.inj {w : World} : ∀ {l l' : List (ByteArray × Int)} {v : Value} {a a' : Addr}, Chain w v l a → Chain w v l' a' → l = l' ∧ a = a' := by
  intro l
  induction l with
  | nil =>
    intro l' v a a' h h'
    cases l' with
    | nil => have := h.1.symm.trans h'.1; cases this; exact ⟨rfl, rfl⟩
    | cons y r => obtain ⟨g, x, hv, _⟩ := h'; have := h.1.symm.trans hv; cases this
  | cons y r ih =>
    intro l' v a a' h h'
    obtain ⟨g, x, hv, hg, hc⟩ := h
    cases l' with
    | nil => have := hv.symm.trans h'.1; cases this
    | cons y' r' =>
      obtain ⟨g', x', hv', hg', hc'⟩ := h'
      have e := hv.symm.trans hv'
      cases e
      obtain ⟨e1, e2, e3⟩ := faultObj_inj (Option.some.inj (hg.symm.trans hg'))
      subst e3
      obtain ⟨e4, e5⟩ := ih hc hc'
      exact ⟨by rw [e4, Prod.ext e1 e2], e5⟩

theorem Chain.up {w w' : World} (hb : Below w.heap.size w w') : ∀ {l : List (ByteArray × Int)} {v : Value} {a : Addr}, Chain w v l a → Chain w' v l a := by
  intro l
  induction l with
  | nil =>
    intro v a h
    obtain ⟨h1, c, t, h2⟩ := h
    exact ⟨h1, c, t, by rw [hb.block _ (Array.getElem?_eq_some_iff.1 h2).1]; exact h2⟩
  | cons y r ih =>
    intro v a h
    obtain ⟨g, x, hv, hg, hc⟩ := h
    exact ⟨g, x, hv, by rw [hb.block _ (Array.getElem?_eq_some_iff.1 hg).1]; exact hg, ih hc⟩

open Classical in
/-- how many Faults there are -/
noncomputable def dep (w : World) (v : Value) : Nat := if h : ∃ l a, Chain w v l a then (Classical.choose h).length else 0
theorem dep_eq {w : World} {v : Value} {l : List (ByteArray × Int)} {a : Addr} (h : Chain w v l a) : dep w v = l.length := by
  unfold dep
  have hx : ∃ l a, Chain w v l a := ⟨l, a, h⟩
  rw [dif_pos hx]
  obtain ⟨a', h'⟩ := Classical.choose_spec hx
  rw [(h'.inj h).1]

theorem cell_fault {w : World} {g : Nat} {op : ByteArray} {at_ : Int} {x : Value} (h : w.heap[g]? = some (faultObj op at_ x)) :
    w.cell? ⟨g, 0, none⟩ = some (.string op) ∧ w.cell? ⟨g, 1, none⟩ = some (.int .i64 at_) ∧ w.cell? ⟨g, 2, none⟩ = some x := by
  have h' : w.heap[g]? = some (.cells #[.string op, .int .i64 at_, x] 78) := h
  refine ⟨?_, ?_, ?_⟩ <;> simp [World.cell?, h']

/-! ### CLOSED FACTS on the model's entries -/
theorem isTypeOf (v : Value) (w : World) : (Extern.ReflectliteType.typeOf #[.iface 172 v]).run Tryz.prog w = .ok (.iface 114 (.agg #[.pointer (some ⟨13, 172, none⟩)])) w := by kernel_rfl
def entCmp : Array Value → Sem Value := Extern.ReflectliteType.method fun t => do Extern.Rtype.noPackHeld "Comparable" t; pure (.bool (← typeInfo t).comparable)
theorem isComparable (w : World) : (entCmp #[.agg #[.pointer (some ⟨13, 172, none⟩)]]).run Tryz.prog w = .ok (.bool true) w := by kernel_rfl
theorem isMethodComparable (v : Value) (w : World) : (Go.method 304 114 v "Comparable").run Tryz.prog w = .ok (118, v) w := by kernel_rfl
theorem isComp : (Tryz.prog.info? 172).map (·.comparable) = some true := by kernel_rfl
theorem isSize : (Tryz.prog.info? 192).map (·.size) = some 1 := by kernel_rfl
theorem noIsE (v : Value) (xT : TypeId) (w : World) : (Instr.typeAssert (.iface 172 v) xT 138 true).run Tryz.prog w = .ok (.tuple #[.nilIface, .bool false]) w := run_typeAssert_lacksB Tryz.underlying138 (by kernel_rfl) (by kernel_rfl) v xT w
theorem noUnwrapE (v : Value) (xT : TypeId) (w : World) : (Instr.typeAssert (.iface 172 v) xT 101 true).run Tryz.prog w = .ok (.tuple #[.nilIface, .bool false]) w := run_typeAssert_lacksB Tryz.underlying101 (by kernel_rfl) (by kernel_rfl) v xT w
theorem noUnwrapsE (v : Value) (xT : TypeId) (w : World) : (Instr.typeAssert (.iface 172 v) xT 122 true).run Tryz.prog w = .ok (.tuple #[.nilIface, .bool false]) w := run_typeAssert_lacksB Tryz.underlying122 (by kernel_rfl) (by kernel_rfl) v xT w
theorem noIsF (v : Value) (xT : TypeId) (w : World) : (Instr.typeAssert (.iface 75 v) xT 138 true).run Tryz.prog w = .ok (.tuple #[.nilIface, .bool false]) w := run_typeAssert_lacksB Tryz.underlying138 (by kernel_rfl) (by kernel_rfl) v xT w
theorem hasUnwrapF (v : Value) (xT : TypeId) (w : World) : (Instr.typeAssert (.iface 75 v) xT 101 true).run Tryz.prog w = .ok (.tuple #[.iface 75 v, .bool true]) w := run_typeAssert_hasB Tryz.underlying101 (by kernel_rfl) v xT w
theorem methodUnwrap (v : Value) (w : World) : (Go.method 304 75 v "Unwrap").run Tryz.prog w = .ok (115, v) w := by kernel_rfl

set_option maxHeartbeats 4000000 in
theorem is_loop (v : Value) (l : List (ByteArray × Int)) (a b : Addr) (w : World) (cb : Array Value) (tb : TypeId) (hv : Chain w v l a) (hb : w.heap[b.block]? = some (.cells cb tb (0, 0))) :
    Calls Tryz.prog 51 #[v, .iface 172 (.pointer (some b)), .bool true] w fun e w' => e = .returned (.bool (decide (a = b))) ∧ w = w' := by
  obtain ⟨i, hi, hcmp⟩ := Option.map_eq_some_iff.1 isComp
  obtain ⟨j, hj, hjs⟩ := Option.map_eq_some_iff.1 isSize
  have nE := noIsE
  have uE := noUnwrapE
  have vE := noUnwrapsE
  have nF := noIsF
  have uF := hasUnwrapF
  have mU := methodUnwrap
  go_enter Tryz.func51, Tryz.ntmps51
  go_wp2_with fail
  go_loop [0] (fun v => ∃ l, Chain w v l a) (fun v => dep w v)
  case atStart => exact ⟨l, hv⟩
  case round =>
    clear hv
    obtain ⟨l, hv⟩ := hrel
    cases l with
    | nil =>
      obtain ⟨rfl, ca, ta, ha⟩ := hv
      by_cases hab : a = b
      · subst hab
        have heq := run_eql_iface_ptr_same (P := Tryz.prog) w a Tryz.underlying27 Tryz.underlying172 hi hcmp hj
        go_wp2
        go_ret
        exact ⟨by simp, rfl⟩
      · have heq := run_eql_iface_ptr_other (P := Tryz.prog) w Tryz.underlying27 Tryz.underlying172 hi hcmp hj (by rw [hjs]; decide) hab ha hb
        go_wp2
        go_ret
        exact ⟨by simp, rfl⟩
    | cons y r =>
      have hd := dep_eq hv
      obtain ⟨g, x, rfl, hg, hc⟩ := hv
      have hd2 := dep_eq hc
      obtain ⟨t, p, rfl⟩ := hc.iface
      obtain ⟨c0, c1, c2⟩ := cell_fault hg
      have hty := run_eql_iface_types (P := Tryz.prog) 75 172 (.pointer (some ⟨g, 0, none⟩)) (.pointer (some b)) Tryz.underlying27 (by decide) w
      have HD := Lib.hid hd
      have HD2 := Lib.hid hd2
      have HC := Lib.hid hc
      clear hd hd2 hc hg
      go_wp2
      go_round
      case rel => exact ⟨r, HC.out⟩
      case measure => show dep w (.iface t (.pointer (some p))) < dep w (.iface 75 (.pointer (some ⟨g, 0, none⟩))); rw [HD.out, HD2.out]; simp

set_option maxHeartbeats 4000000 in
theorem is_any (v : Value) (l : List (ByteArray × Int)) (a b : Addr) (w : World) (cb : Array Value) (tb : TypeId) (hv : Chain w v l a) (hb : w.heap[b.block]? = some (.cells cb tb (0, 0))) :
    Calls Tryz.prog 26 #[v, .iface 172 (.pointer (some b))] w fun e w' => e = .returned (.bool (decide (a = b))) ∧ w = w' := by
  have h8 := @run_callFunc_extern Tryz.prog 48 _ Extern.ReflectliteType.typeOf Tryz.func48 (by kernel_rfl) (by kernel_rfl) (by kernel_rfl) (by kernel_rfl)
  have h32 := @run_callFunc_extern Tryz.prog 118 _ entCmp Tryz.func118 (by kernel_rfl) (by kernel_rfl) (by kernel_rfl) (by kernel_rfl)
  have tT := isTypeOf
  have cT := isComparable
  have mR := isMethodComparable
  obtain ⟨t, p, rfl⟩ := hv.iface
  go_enter Tryz.func26, Tryz.ntmps26
  go_wp2_with (first
    | (go_at_call 51; refine (is_loop _ l a b w cb tb hv hb).mono ?_; rintro e w' ⟨rfl, rfl⟩))
  go_ret
  exact ⟨rfl, rfl⟩
end Go.Proofs.YtiglilecmieelaaGreatDoor
namespace Go.Proofs.YtiglilecmieelaaGreatDoor
open Go.RowKit Go.Extern.Stop Go.Stop Go.Extern
set_option linter.unusedVariables false
set_option maxRecDepth 100000

theorem as_nil (t : Value) (w : World) :
    Calls Tryz.prog 9 #[.nilIface, t] w fun e w' => e = .returned (.bool false) ∧ w = w' := by
  go_enter Tryz.func9, Tryz.ntmps9
  go_wp2
  go_ret
  exact ⟨rfl, rfl⟩

/-! ### the model's entries under names of their own -/
def enVal : Array Value → Sem Value := fun args => ReflectliteValue.unpack (args.getD 0 (.tuple #[]))
def enType : Array Value → Sem Value := ReflectliteValue.methodAny (ReflectliteValue.valueError "reflectlite.Value.Type" 0) (fun t _ _ _ => ReflectliteType.toType t)
def enNil : Array Value → Sem Value := ReflectliteValue.method (ReflectliteValue.valueError "reflectlite.Value.IsNil" 0) ReflectliteValue.isNil
def enKind : Array Value → Sem Value := ReflectliteType.abiMethod fun t => do pure (.int .u8 (← Rtype.kind t))
def enElemT : Array Value → Sem Value := ReflectliteType.method ReflectliteType.elem
def enImpl : Array Value → Sem Value := ReflectliteType.relation "Implements" ReflectliteType.implements_
def enAssign : Array Value → Sem Value := ReflectliteType.relation "AssignableTo" ReflectliteType.assignableTo
def enElemV : Array Value → Sem Value := ReflectliteValue.method (ReflectliteValue.valueError "reflectlite.Value.Elem" 0) ReflectliteValue.elem
def enSet : Array Value → Sem Value := ReflectliteValue.set

theorem f_val : ∀ (args : Array Value) (w : World), (callFunc 22 args).run Tryz.prog w = ((enVal args).run Tryz.prog w).andThen fun v w' => .ok (.value v) w' := @run_callFunc_extern Tryz.prog 22 _ enVal Tryz.func22 (by kernel_rfl) (by kernel_rfl) (by kernel_rfl) (by kernel_rfl)
theorem f_type : ∀ (args : Array Value) (w : World), (callFunc 23 args).run Tryz.prog w = ((enType args).run Tryz.prog w).andThen fun v w' => .ok (.value v) w' := @run_callFunc_extern Tryz.prog 23 _ enType Tryz.func23 (by kernel_rfl) (by kernel_rfl) (by kernel_rfl) (by kernel_rfl)
theorem f_nil : ∀ (args : Array Value) (w : World), (callFunc 24 args).run Tryz.prog w = ((enNil args).run Tryz.prog w).andThen fun v w' => .ok (.value v) w' := @run_callFunc_extern Tryz.prog 24 _ enNil Tryz.func24 (by kernel_rfl) (by kernel_rfl) (by kernel_rfl) (by kernel_rfl)
theorem f_kind : ∀ (args : Array Value) (w : World), (callFunc 107 args).run Tryz.prog w = ((enKind args).run Tryz.prog w).andThen fun v w' => .ok (.value v) w' := @run_callFunc_extern Tryz.prog 107 _ enKind Tryz.func107 (by kernel_rfl) (by kernel_rfl) (by kernel_rfl) (by kernel_rfl)
theorem f_elemT : ∀ (args : Array Value) (w : World), (callFunc 119 args).run Tryz.prog w = ((enElemT args).run Tryz.prog w).andThen fun v w' => .ok (.value v) w' := @run_callFunc_extern Tryz.prog 119 _ enElemT Tryz.func119 (by kernel_rfl) (by kernel_rfl) (by kernel_rfl) (by kernel_rfl)
theorem f_impl : ∀ (args : Array Value) (w : World), (callFunc 120 args).run Tryz.prog w = ((enImpl args).run Tryz.prog w).andThen fun v w' => .ok (.value v) w' := @run_callFunc_extern Tryz.prog 120 _ enImpl Tryz.func120 (by kernel_rfl) (by kernel_rfl) (by kernel_rfl) (by kernel_rfl)
theorem f_assign : ∀ (args : Array Value) (w : World), (callFunc 117 args).run Tryz.prog w = ((enAssign args).run Tryz.prog w).andThen fun v w' => .ok (.value v) w' := @run_callFunc_extern Tryz.prog 117 _ enAssign Tryz.func117 (by kernel_rfl) (by kernel_rfl) (by kernel_rfl) (by kernel_rfl)
theorem f_typeOf : ∀ (args : Array Value) (w : World), (callFunc 48 args).run Tryz.prog w = ((ReflectliteType.typeOf args).run Tryz.prog w).andThen fun v w' => .ok (.value v) w' := @run_callFunc_extern Tryz.prog 48 _ ReflectliteType.typeOf Tryz.func48 (by kernel_rfl) (by kernel_rfl) (by kernel_rfl) (by kernel_rfl)
theorem f_elemV : ∀ (args : Array Value) (w : World), (callFunc 49 args).run Tryz.prog w = ((enElemV args).run Tryz.prog w).andThen fun v w' => .ok (.value v) w' := @run_callFunc_extern Tryz.prog 49 _ enElemV Tryz.func49 (by kernel_rfl) (by kernel_rfl) (by kernel_rfl) (by kernel_rfl)
theorem f_set : ∀ (args : Array Value) (w : World), (callFunc 50 args).run Tryz.prog w = ((enSet args).run Tryz.prog w).andThen fun v w' => .ok (.value v) w' := @run_callFunc_extern Tryz.prog 50 _ enSet Tryz.func50 (by kernel_rfl) (by kernel_rfl) (by kernel_rfl) (by kernel_rfl)

/-- the Value of a **api.Fault; of a *api.Fault; of a *api.Fault variable -/
def vPP (a : Addr) : Value := .agg #[.pointer (some ⟨13, 76, none⟩), .pointer (some a), .int .u64 150]
theorem valueOfPP (t : Addr) (w : World) : (enVal #[.iface 76 (.pointer (some t))]).run Tryz.prog w = .ok (.agg #[.pointer (some ⟨13, 76, none⟩), .pointer (some ⟨w.heap.size, 0, none⟩), .int .u64 150]) (w.alloc (.cells #[.pointer (some t)] 76)) := by kernel_rfl
theorem typePP (a : Addr) (w : World) : (enType #[.agg #[.pointer (some ⟨13, 76, none⟩), .pointer (some a), .int .u64 150]]).run Tryz.prog w = .ok (.iface 114 (.agg #[.pointer (some ⟨13, 76, none⟩)])) w := by kernel_rfl
theorem methodKind (h : Value) (w : World) : (Go.method 304 114 (.agg #[h]) "Kind").run Tryz.prog w = .ok (107, h) w := by kernel_rfl
theorem kindPP (w : World) : (enKind #[.pointer (some ⟨13, 76, none⟩)]).run Tryz.prog w = .ok (.int .u8 22) w := by kernel_rfl
theorem kindP (w : World) : (enKind #[.pointer (some ⟨13, 75, none⟩)]).run Tryz.prog w = .ok (.int .u8 22) w := by kernel_rfl
theorem rlm (z : Sem Value) (f : TypeId → Addr → Nat → Nat → Sem Value) (v : Value) :
    ReflectliteValue.method z f #[v] = (do match ← ReflectliteValue.parts v with | none => z | some (t, a, fl) => f t a fl (fl % 32)) := rfl
theorem partsPP (a : Addr) (w : World) : (ReflectliteValue.parts (.agg #[.pointer (some ⟨13, 76, none⟩), .pointer (some a), .int .u64 150])).run Tryz.prog w = .ok (some (76, a, 150)) w := by kernel_rfl
theorem isNilPP (a p : Addr) (W : World) (ha : W.cell? a = some (.pointer (some p))) :
    (enNil #[.agg #[.pointer (some ⟨13, 76, none⟩), .pointer (some a), .int .u64 150]]).run Tryz.prog W = .ok (.bool false) W := by
  unfold enNil
  rw [rlm]
  simp only [Sem.run_bind, partsPP, Result.andThen]
  simp [ReflectliteValue.isNil, loadVar, isAgg, underlying, Tryz.underlying76, ha, Result.andThen]
theorem methodElem (h : Value) (w : World) : (Go.method 304 114 (.agg #[h]) "Elem").run Tryz.prog w = .ok (119, .agg #[h]) w := by kernel_rfl
theorem methodImplements (h : Value) (w : World) : (Go.method 304 114 (.agg #[h]) "Implements").run Tryz.prog w = .ok (120, .agg #[h]) w := by kernel_rfl
theorem methodAssignableTo (h : Value) (w : World) : (Go.method 304 114 (.agg #[h]) "AssignableTo").run Tryz.prog w = .ok (117, .agg #[h]) w := by kernel_rfl
theorem elemPP (w : World) : (enElemT #[.agg #[.pointer (some ⟨13, 76, none⟩)]]).run Tryz.prog w = .ok (.iface 114 (.agg #[.pointer (some ⟨13, 75, none⟩)])) w := by kernel_rfl
theorem implementsP (w : World) : (enImpl #[.agg #[.pointer (some ⟨13, 75, none⟩)], .iface 114 (.agg #[.pointer (some ⟨13, 27, none⟩)])]).run Tryz.prog w = .ok (.bool true) w := by kernel_rfl
theorem typeOfP (v : Value) (w : World) : (ReflectliteType.typeOf #[.iface 75 v]).run Tryz.prog w = .ok (.iface 114 (.agg #[.pointer (some ⟨13, 75, none⟩)])) w := by kernel_rfl
theorem assignableP (w : World) : (enAssign #[.agg #[.pointer (some ⟨13, 75, none⟩)], .iface 114 (.agg #[.pointer (some ⟨13, 75, none⟩)])]).run Tryz.prog w = .ok (.bool true) w := by kernel_rfl
theorem assignableE (w : World) : (enAssign #[.agg #[.pointer (some ⟨13, 172, none⟩)], .iface 114 (.agg #[.pointer (some ⟨13, 75, none⟩)])]).run Tryz.prog w = .ok (.bool false) w := by kernel_rfl
theorem valueOfP (e : Addr) (w : World) : (enVal #[.iface 75 (.pointer (some e))]).run Tryz.prog w = .ok (.agg #[.pointer (some ⟨13, 75, none⟩), .pointer (some ⟨w.heap.size, 0, none⟩), .int .u64 150]) (w.alloc (.cells #[.pointer (some e)] 75)) := by kernel_rfl
theorem elemOfPP (w : World) : (Rtype.elem? 76).run Tryz.prog w = .ok (some 75) w := by kernel_rfl
theorem mkP (p : Addr) (w : World) : (ReflectliteValue.mk 75 p ReflectliteValue.flagAddr).run Tryz.prog w = .ok (.agg #[.pointer (some ⟨13, 75, none⟩), .pointer (some p), .int .u64 406]) w := by kernel_rfl
theorem elemVPP (a p : Addr) (W : World) (ha : W.cell? a = some (.pointer (some p))) :
    (enElemV #[.agg #[.pointer (some ⟨13, 76, none⟩), .pointer (some a), .int .u64 150]]).run Tryz.prog W = .ok (.agg #[.pointer (some ⟨13, 75, none⟩), .pointer (some p), .int .u64 406]) W := by
  unfold enElemV
  rw [rlm]
  simp only [Sem.run_bind, partsPP, Result.andThen]
  simp [ReflectliteValue.elem, loadVar, isAgg, underlying, Tryz.underlying76, ha, Result.andThen, elemOfPP, mkP]
theorem rls (v x : Value) : ReflectliteValue.set #[v, x] = (do
    let (some (dst, a, fl), some (src, b, _)) := (← ReflectliteValue.parts v, ← ReflectliteValue.parts x)
      | unsupported (.noEntry "extern/(internal/reflectlite.Value).Set.zeroValue")
    if fl / ReflectliteValue.flagAddr % 2 == 0 then unsupported (.noEntry "extern/(internal/reflectlite.Value).Set.unaddressable")
    let val ← loadVar src b
    if ← Rtype.directlyAssignable dst src then storeVar dst a val
    else if ← Rtype.implements dst src then
      if (← Rtype.kind src) == 20 then
        match val with
        | .nilIface => unsupported (.noEntry "extern/reflectlite: a nil value of one interface type handed on as a value of another")
        | _ => storeVar dst a val
      else storeVar dst a (.iface src val)
    else panicString ("reflectlite.Set: value of type " ++ (← Rtype.spelt src) ++ " is not assignable to type " ++ (← Rtype.spelt dst))
    pure (.tuple #[])) := rfl
theorem partsPa (a : Addr) (w : World) : (ReflectliteValue.parts (.agg #[.pointer (some ⟨13, 75, none⟩), .pointer (some a), .int .u64 406])).run Tryz.prog w = .ok (some (75, a, 406)) w := by kernel_rfl
theorem partsP (a : Addr) (w : World) : (ReflectliteValue.parts (.agg #[.pointer (some ⟨13, 75, none⟩), .pointer (some a), .int .u64 150])).run Tryz.prog w = .ok (some (75, a, 150)) w := by kernel_rfl
theorem directP (w : World) : (Rtype.directlyAssignable 75 75).run Tryz.prog w = .ok true w := by kernel_rfl
theorem sizeP (w : World) : (sizeOf 75).run Tryz.prog w = .ok 1 w := by kernel_rfl
theorem setP (ta b e : Addr) (old : Value) (W : World) (hb : W.cell? b = some (.pointer (some e))) (ht : W.cell? ta = some old) (hf : W.frozen? ta = false) :
    (enSet #[.agg #[.pointer (some ⟨13, 75, none⟩), .pointer (some ta), .int .u64 406], .agg #[.pointer (some ⟨13, 75, none⟩), .pointer (some b), .int .u64 150]]).run Tryz.prog W = .ok (.tuple #[]) (W.setCell ta (.pointer (some e))) := by
  unfold enSet
  rw [rls]
  simp only [Sem.run_bind, partsPa, partsP, Result.andThen]
  simp [ReflectliteValue.flagAddr, loadVar, isAgg, underlying, Tryz.underlying75, hb, Result.andThen, directP, storeVar, Value.cells, storeCells, Addr.add]
  rw [run_store Tryz.prog W ta _ _ (by rfl)]
  simp [ht, hf]
theorem noAsE (v : Value) (xT : TypeId) (w : World) : (Instr.typeAssert (.iface 172 v) xT 119 true).run Tryz.prog w = .ok (.tuple #[.nilIface, .bool false]) w := run_typeAssert_lacksB Tryz.underlying119 (by kernel_rfl) (by kernel_rfl) v xT w

/-- the variable errors.errorType holds what start-up lays there -/
def ErrType (w : World) : Prop := w.cell? ⟨0, 0, none⟩ = some (.iface 114 (.agg #[.pointer (some ⟨13, 27, none⟩)]))

theorem ErrType.up {w w' : World} (h : ErrType w) (hb : Below w.heap.size w w') : ErrType w' := by
  unfold ErrType at *
  rw [hb.cell (World.block_lt_of_cell? _ _ h)]; exact h

def bV (t : Addr) (g : Nat) : Obj := .cells #[.pointer (some ⟨13, 76, none⟩), .pointer (some ⟨g, 0, none⟩), .int .u64 150] 65

set_option maxHeartbeats 4000000 in
theorem as_hit (e t : Addr) (old : Value) (w : World) (hg : ErrType w) (ht0 : w.cell? t = some old) (hf0 : w.frozen? t = false) :
    Calls Tryz.prog 9 #[.iface 75 (.pointer (some e)), .iface 76 (.pointer (some t))] w fun ev w' => ev = .returned (.bool true) ∧
      w' = ((((w.alloc (.cells #[.pointer (some t)] 76)).alloc (.cells #[.pointer (some ⟨13, 76, none⟩), .pointer (some ⟨w.heap.size, 0, none⟩), .int .u64 150] 65)).alloc (.cells #[.pointer (some ⟨13, 76, none⟩), .pointer (some ⟨w.heap.size, 0, none⟩), .int .u64 150] 65)).alloc (.cells #[.pointer (some e)] 75)).setCell t (.pointer (some e)) := by
  have h6 := f_val
  have h7 := f_type
  have h8 := f_nil
  have h27 := f_kind
  have h37 := f_elemT
  have h38 := f_impl
  have h10 := f_typeOf
  have h35 := f_assign
  have h11 := f_elemV
  have h12 := f_set
  have tO := typeOfP
  have mA := methodAssignableTo
  have a25 := assignableP
  have v25 := valueOfP
  have f6 := valueOfPP
  have f7 := typePP
  have mK := methodKind
  have mE := methodElem
  have mI := methodImplements
  have k27 := kindPP
  have k25 := kindP
  have e27 := elemPP
  have i25 := implementsP
  unfold ErrType at hg
  have hlt : 0 < w.heap.size := World.block_lt_of_cell? _ _ hg
  have htl : t.block < w.heap.size := World.block_lt_of_cell? _ _ ht0
  have n8 := isNilPP ⟨w.heap.size, 0, none⟩ t ((w.alloc (.cells #[.pointer (some t)] 76)).alloc (.cells #[.pointer (some ⟨13, 76, none⟩), .pointer (some ⟨w.heap.size, 0, none⟩), .int .u64 150] 65)) (by simp)
  have hg2 : ((w.alloc (.cells #[.pointer (some t)] 76)).alloc (.cells #[.pointer (some ⟨13, 76, none⟩), .pointer (some ⟨w.heap.size, 0, none⟩), .int .u64 150] 65)).cell? ⟨0, 0, none⟩ = some (.iface 114 (.agg #[.pointer (some ⟨13, 27, none⟩)])) := by
    rw [World.cell?_alloc_lt _ _ ⟨0, 0, none⟩ (by simp <;> omega), World.cell?_alloc_lt _ _ ⟨0, 0, none⟩ hlt]; exact hg
  have el := elemVPP ⟨w.heap.size, 0, none⟩ t (((w.alloc (.cells #[.pointer (some t)] 76)).alloc (.cells #[.pointer (some ⟨13, 76, none⟩), .pointer (some ⟨w.heap.size, 0, none⟩), .int .u64 150] 65)).alloc (.cells #[.pointer (some ⟨13, 76, none⟩), .pointer (some ⟨w.heap.size, 0, none⟩), .int .u64 150] 65)) (by rw [World.cell?_alloc_lt _ _ ⟨w.heap.size, 0, none⟩ (by simp <;> omega)]; simp)
  have st := setP t ⟨w.heap.size + 1 + 1 + 1, 0, none⟩ e old ((((w.alloc (.cells #[.pointer (some t)] 76)).alloc (.cells #[.pointer (some ⟨13, 76, none⟩), .pointer (some ⟨w.heap.size, 0, none⟩), .int .u64 150] 65)).alloc (.cells #[.pointer (some ⟨13, 76, none⟩), .pointer (some ⟨w.heap.size, 0, none⟩), .int .u64 150] 65)).alloc (.cells #[.pointer (some e)] 75))
    (by rw [World.cell?_alloc_at _ _ _ _ (by simp)]; rfl)
    (by rw [World.cell?_alloc_lt _ _ t (by simp <;> omega), World.cell?_alloc_lt _ _ t (by simp <;> omega), World.cell?_alloc_lt _ _ t (by simp <;> omega), World.cell?_alloc_lt _ _ t htl]; exact ht0)
    (by rw [World.frozen?_alloc_old _ _ t (by simp <;> omega), World.frozen?_alloc_old _ _ t (by simp <;> omega), World.frozen?_alloc_old _ _ t (by simp <;> omega), World.frozen?_alloc_old _ _ t (Nat.ne_of_lt htl)]; exact hf0)
  go_enter Tryz.func9, Tryz.ntmps9
  go_wp2
  refine wp_loop_rounds 1 ?_
  rw [rounds_succ]
  go_wp2
  go_ret
  exact ⟨rfl, rfl⟩

set_option maxHeartbeats 4000000 in
theorem as_miss (a t : Addr) (old : Value) (w : World) (hg : ErrType w) (ht0 : w.cell? t = some old) :
    Calls Tryz.prog 9 #[.iface 172 (.pointer (some a)), .iface 76 (.pointer (some t))] w fun ev w' => ev = .returned (.bool false) ∧
      w' = (((w.alloc (.cells #[.pointer (some t)] 76)).alloc (.cells #[.pointer (some ⟨13, 76, none⟩), .pointer (some ⟨w.heap.size, 0, none⟩), .int .u64 150] 65)).alloc (.cells #[.pointer (some ⟨13, 76, none⟩), .pointer (some ⟨w.heap.size, 0, none⟩), .int .u64 150] 65)) := by
  have h6 := f_val
  have h7 := f_type
  have h8 := f_nil
  have h27 := f_kind
  have h37 := f_elemT
  have h38 := f_impl
  have h10 := f_typeOf
  have h35 := f_assign
  have tO := isTypeOf
  have mA := methodAssignableTo
  have a25 := assignableE
  have f6 := valueOfPP
  have f7 := typePP
  have mK := methodKind
  have mE := methodElem
  have mI := methodImplements
  have k27 := kindPP
  have k25 := kindP
  have e27 := elemPP
  have i25 := implementsP
  have nA := noAsE
  have uE := noUnwrapE
  have vE := noUnwrapsE
  unfold ErrType at hg
  have hlt : 0 < w.heap.size := World.block_lt_of_cell? _ _ hg
  have n8 := isNilPP ⟨w.heap.size, 0, none⟩ t ((w.alloc (.cells #[.pointer (some t)] 76)).alloc (.cells #[.pointer (some ⟨13, 76, none⟩), .pointer (some ⟨w.heap.size, 0, none⟩), .int .u64 150] 65)) (by simp)
  have hg2 : ((w.alloc (.cells #[.pointer (some t)] 76)).alloc (.cells #[.pointer (some ⟨13, 76, none⟩), .pointer (some ⟨w.heap.size, 0, none⟩), .int .u64 150] 65)).cell? ⟨0, 0, none⟩ = some (.iface 114 (.agg #[.pointer (some ⟨13, 27, none⟩)])) := by
    rw [World.cell?_alloc_lt _ _ ⟨0, 0, none⟩ (by simp <;> omega), World.cell?_alloc_lt _ _ ⟨0, 0, none⟩ hlt]; exact hg
  go_enter Tryz.func9, Tryz.ntmps9
  go_wp2
  refine wp_loop_rounds 1 ?_
  rw [rounds_succ]
  go_wp2
  go_ret
  exact ⟨rfl, rfl⟩
end Go.Proofs.YtiglilecmieelaaGreatDoor
namespace Go.Proofs.YtiglilecmieelaaGreatDoor
open Go.RowKit
set_option linter.unusedVariables false
theorem Sent.up {w w' : World} {R : Nat → Addr} (h : Sent w R) (hb : Below w.heap.size w w') : Sent w' R := by
  refine ⟨h.glob.up hb, h.apart, fun k hk => ?_, fun k hk => ?_⟩
  · obtain ⟨c, t, e⟩ := h.row k hk
    exact ⟨c, t, by rw [hb.block _ (Array.getElem?_eq_some_iff.1 e).1]; exact e⟩
  · obtain ⟨s, e⟩ := h.text k hk
    exact ⟨s, by rw [hb.cell (World.block_lt_of_cell? _ _ e)]; exact e⟩

/-- the facts on the package-level variables -/
structure Env (w : World) (R : Nat → Addr) : Prop where
  sent : Sent w R
  et : ErrType w
theorem Env.up {w w' : World} {R : Nat → Addr} (h : Env w R) (hb : Below w.heap.size w w') : Env w' R := ⟨h.sent.up hb, h.et.up hb⟩
theorem Env.al {w : World} {R : Nat → Addr} (h : Env w R) (o : Obj) : Env (w.alloc o) R := h.up (balloc (bnil _) _)

end Go.Proofs.YtiglilecmieelaaGreatDoor
namespace Go.Proofs.YtiglilecmieelaaGreatDoor
open Go.RowKit Go.ChangeShapes
set_option linter.unusedVariables false

theorem env_et : Tryz.prog.globalNamed "errors.errorType" = some 0 := by kernel_rfl
theorem env_rt : (Tryz.prog.cutTypes.find? (·.1 == "internal/reflectlite.rtype")).map (·.2) = some 114 := by kernel_rfl
theorem env_row : ((List.range Tryz.prog.types.size).filter fun t => Tryz.prog.rowNamed t [101, 114, 114, 111, 114]) = [27] := by kernel_rfl
/-- the list of a row that lists errors.errorType and the twelve errors -/
def laidL : List (String × DataW Unit) :=
  ( "errors.errorType", .iface "internal/reflectlite.rtype" (.agg [.ptr (.lit (.string [101, 114, 114, 111, 114]))])) :: sentL.map fun x => (x.1, .iface "*errors.errorString" (.ptr (.agg [.lit (.string x.2.1)])))

theorem env_of_laid {W : World} (h : laidMetH Tryz.prog laidL W) : ∃ R : Nat → Addr, Env W R := by
  have h' : laidMet Tryz.prog (sentL.map fun x => (x.1, .iface "*errors.errorString" (.ptr (.agg [.lit (.string x.2.1)])))) W ∧ handlesMet Tryz.prog [( "errors.errorType", .iface "internal/reflectlite.rtype" (.agg [.ptr (.lit (.string [101, 114, 114, 111, 114]))]))] W := h
  obtain ⟨R, hS⟩ := sent_of_laid h'.1
  refine ⟨R, hS, ?_⟩
  obtain ⟨name, u, ty, e1, e2, e3, e4, e5⟩ := h'.2 _ (List.mem_singleton.2 rfl)
  have en : name = [101, 114, 114, 111, 114] := (Option.some.inj e1).symm
  subst en
  obtain rfl := Option.some.inj (env_rt.symm.trans e2)
  have hm : ty ∈ (List.range Tryz.prog.types.size).filter fun t => Tryz.prog.rowNamed t [101, 114, 114, 111, 114] := List.mem_filter.2 ⟨List.mem_range.2 e3, e4⟩
  rw [env_row] at hm
  obtain rfl := List.mem_singleton.1 hm
  have hh : typeHandle Tryz.prog 27 = .pointer (some ⟨13, 27, none⟩) := by kernel_rfl
  rw [hh] at e5
  unfold ErrType
  simpa using World.var?_cell env_et e5 0

theorem own : ownKnob Tryz.prog.godebug = none := by kernel_rfl
theorem laidOut : laidOutB Tryz.prog = true := by kernel_rfl

/-- a slice argument's capacity, in bytes: the form's own reach -/
theorem cap_sized {P : Program} {H : Type} {enc : TypeId × Value → H} {w : World} {fuel len cap : Nat} {a : Option Addr} {t e : TypeId} {d : DataW H} {p : List MemPlace} {ts : List TypeId} {ds : List (DataW H)} {j : Nat}
    (hu : P.underlying t = some (.slice e)) (h : DataW.trod enc P w 0 (fun _ => true) true fuel t [.slice a len cap] = some (d, p))
    (hz : (DataW.weightsEach P ts ds).all (· ≤ reachBytes) = true) (ht : ts[j]? = some t) (hd : ds[j]? = some d) : cap * P.bytesOf e ≤ 140737488351232 ∧ (a = none → cap = 0) := by
  rcases DataW.trod_slice hu h with ⟨h1, _⟩ | ⟨ad, len', cap', elems, rest, n, _, h1, h2, _, hl, _, he, _, hs, _⟩
  · cases h1
    exact ⟨by simp, fun _ => rfl⟩
  · cases h1
    cases h2
    have := sized_slice hz ht hd hu
    simp only [List.length_map, he, (hs rfl).1] at this
    rw [show len + (cap - len) = cap from by omega] at this
    refine ⟨Nat.le_trans this (by decide), fun h => by cases h⟩
end Go.Proofs.YtiglilecmieelaaGreatDoor
