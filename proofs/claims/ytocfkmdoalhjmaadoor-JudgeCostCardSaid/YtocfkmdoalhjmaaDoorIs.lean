/- errors.Is by its contract, for the errors that this program makes: Faults, one within another, and one of the package-level errors in the end. -/
import Derived.Test.YtocfkmdoalhjmaaDoorLaid
import Derived.WalkKit
import Derived.LaidEql
import Derived.Stop.Asserts
import Derived.RowKitTokens
import Derived.KernelRfl
namespace Go.Proofs.YtocfkmdoalhjmaaDoor
open Go.RowKit Go.Extern.Stop Go.Stop Go.Extern
set_option linter.unusedVariables false
set_option maxRecDepth 100000

/-- v is an error: Faults (package, place), from the outermost on, and the error at a in the end -/
def Chain (w : World) : Value → List (ByteArray × Int) → Addr → Prop
  | v, [], a => v = .iface 199 (.pointer (some a)) ∧ ∃ c t, w.heap[a.block]? = some (.cells c t (0, 0))
  | v, y :: r, a => ∃ g x, v = .iface 117 (.pointer (some ⟨g, 0, none⟩)) ∧ w.heap[g]? = some (faultObj y.1 y.2 x) ∧ Chain w x r a

theorem Chain.iface {w : World} {v : Value} {l : List (ByteArray × Int)} {a : Addr} (h : Chain w v l a) : ∃ t p, v = .iface t (.pointer (some p)) := by
  cases l with
  | nil => exact ⟨_, _, h.1⟩
  | cons y r => obtain ⟨g, x, hv, _⟩ := h; exact ⟨_, _, hv⟩

theorem faultObj_inj {a b : ByteArray} {i j : Int} {x y : Value} (h : faultObj a i x = faultObj b j y) : a = b ∧ i = j ∧ x = y := by
  simp only [faultObj, Obj.cells.injEq, and_true] at h
  have h2 := congrArg Array.toList h
  simp only [List.cons.injEq, Value.string.injEq, Value.int.injEq, true_and, and_true] at h2
  exact h2

theorem Chain.inj {w : World} : ∀ {l l' : List (ByteArray × Int)} {v : Value} {a a' : Addr}, Chain w v l a → Chain w v l' a' → l = l' ∧ a = a' := by
  intro l
  induction l with
  | nil =>
    intro l' v a a' h h'
    cases l' with
    | nil => have := h.1.symm.trans h'.1; cases this; exact ⟨rfl, rfl⟩
    | cons y r => obtain ⟨g, x, hv, _⟩ := h'; have := h.1.symm.trans hv; cases this
  | cons y r ih =>
    intro l' v a a' h h'
    obtain ⟨g, x, hv, hg, hc⟩ := h
    cases l' with
    | nil => have := hv.symm.trans h'.1; cases this
    | cons y' r' =>
      obtain ⟨g', x', hv', hg', hc'⟩ := h'
      have e := hv.symm.trans hv'
      cases e
      obtain ⟨e1, e2, e3⟩ := faultObj_inj (Option.some.inj (hg.symm.trans hg'))
      subst e3
      obtain ⟨e4, e5⟩ := ih hc hc'
      exact ⟨by rw [e4, Prod.ext e1 e2], e5⟩

theorem Chain.up {w w' : World} (hb : Below w.heap.size w w') : ∀ {l : List (ByteArray × Int)} {v : Value} {a : Addr}, Chain w v l a → Chain w' v l a := by
  intro l
  induction l with
  | nil =>
    intro v a h
    obtain ⟨h1, c, t, h2⟩ := h
    exact ⟨h1, c, t, by rw [hb.block _ (Array.getElem?_eq_some_iff.1 h2).1]; exact h2⟩
  | cons y r ih =>
    intro v a h
    obtain ⟨g, x, hv, hg, hc⟩ := h
    exact ⟨g, x, hv, by rw [hb.block _ (Array.getElem?_eq_some_iff.1 hg).1]; exact hg, ih hc⟩

open Classical in
/-- how many Faults there are -/
noncomputable def dep (w : World) (v : Value) : Nat := if h : ∃ l a, Chain w v l a then (Classical.choose h).length else 0
theorem dep_eq {w : World} {v : Value} {l : List (ByteArray × Int)} {a : Addr} (h : Chain w v l a) : dep w v = l.length := by
  unfold dep
  have hx : ∃ l a, Chain w v l a := ⟨l, a, h⟩
  rw [dif_pos hx]
  obtain ⟨a', h'⟩ := Classical.choose_spec hx
  rw [(h'.inj h).1]

theorem cell_fault {w : World} {g : Nat} {op : ByteArray} {at_ : Int} {x : Value} (h : w.heap[g]? = some (faultObj op at_ x)) :
    w.cell? ⟨g, 0, none⟩ = some (.string op) ∧ w.cell? ⟨g, 1, none⟩ = some (.int .i64 at_) ∧ w.cell? ⟨g, 2, none⟩ = some x := by
  have h' : w.heap[g]? = some (.cells #[.string op, .int .i64 at_, x] 121) := h
  refine ⟨?_, ?_, ?_⟩ <;> simp [World.cell?, h']

/-! ### CLOSED FACTS on the model's entries -/
theorem isTypeOf (v : Value) (w : World) : (Extern.ReflectliteType.typeOf #[.iface 199 v]).run Tryd.prog w = .ok (.iface 179 (.agg #[.pointer (some ⟨14, 199, none⟩)])) w := by kernel_rfl
def entCmp : Array Value → Sem Value := Extern.ReflectliteType.method fun t => do Extern.Rtype.noPackHeld "Comparable" t; pure (.bool (← typeInfo t).comparable)
theorem isComparable (w : World) : (entCmp #[.agg #[.pointer (some ⟨14, 199, none⟩)]]).run Tryd.prog w = .ok (.bool true) w := by kernel_rfl
theorem isMethodComparable (v : Value) (w : World) : (Go.method 330 179 v "Comparable").run Tryd.prog w = .ok (149, v) w := by kernel_rfl
theorem isComp : (Tryd.prog.info? 199).map (·.comparable) = some true := by kernel_rfl
theorem isSize : (Tryd.prog.info? 218).map (·.size) = some 1 := by kernel_rfl
theorem noIsE (v : Value) (xT : TypeId) (w : World) : (Instr.typeAssert (.iface 199 v) xT 181 true).run Tryd.prog w = .ok (.tuple #[.nilIface, .bool false]) w := run_typeAssert_lacksB Tryd.underlying181 (by kernel_rfl) (by kernel_rfl) v xT w
theorem noUnwrapE (v : Value) (xT : TypeId) (w : World) : (Instr.typeAssert (.iface 199 v) xT 184 true).run Tryd.prog w = .ok (.tuple #[.nilIface, .bool false]) w := run_typeAssert_lacksB Tryd.underlying184 (by kernel_rfl) (by kernel_rfl) v xT w
theorem noUnwrapsE (v : Value) (xT : TypeId) (w : World) : (Instr.typeAssert (.iface 199 v) xT 186 true).run Tryd.prog w = .ok (.tuple #[.nilIface, .bool false]) w := run_typeAssert_lacksB Tryd.underlying186 (by kernel_rfl) (by kernel_rfl) v xT w
theorem noIsF (v : Value) (xT : TypeId) (w : World) : (Instr.typeAssert (.iface 117 v) xT 181 true).run Tryd.prog w = .ok (.tuple #[.nilIface, .bool false]) w := run_typeAssert_lacksB Tryd.underlying181 (by kernel_rfl) (by kernel_rfl) v xT w
theorem hasUnwrapF (v : Value) (xT : TypeId) (w : World) : (Instr.typeAssert (.iface 117 v) xT 184 true).run Tryd.prog w = .ok (.tuple #[.iface 117 v, .bool true]) w := run_typeAssert_hasB Tryd.underlying184 (by kernel_rfl) v xT w
theorem methodUnwrap (v : Value) (w : World) : (Go.method 330 117 v "Unwrap").run Tryd.prog w = .ok (142, v) w := by kernel_rfl

set_option maxHeartbeats 4000000 in
theorem is_loop (v : Value) (l : List (ByteArray × Int)) (a b : Addr) (w : World) (cb : Array Value) (tb : TypeId) (hv : Chain w v l a) (hb : w.heap[b.block]? = some (.cells cb tb (0, 0))) :
    Calls Tryd.prog 103 #[v, .iface 199 (.pointer (some b)), .bool true] w fun e w' => e = .returned (.bool (decide (a = b))) ∧ w = w' := by
  obtain ⟨i, hi, hcmp⟩ := Option.map_eq_some_iff.1 isComp
  obtain ⟨j, hj, hjs⟩ := Option.map_eq_some_iff.1 isSize
  have nE := noIsE
  have uE := noUnwrapE
  have vE := noUnwrapsE
  have nF := noIsF
  have uF := hasUnwrapF
  have mU := methodUnwrap
  go_enter Tryd.func103, Tryd.ntmps103
  go_wp2_with fail
  go_loop [0] (fun v => ∃ l, Chain w v l a) (fun v => dep w v)
  case atStart => exact ⟨l, hv⟩
  case round =>
    clear hv
    obtain ⟨l, hv⟩ := hrel
    cases l with
    | nil =>
      obtain ⟨rfl, ca, ta, ha⟩ := hv
      by_cases hab : a = b
      · subst hab
        have heq := run_eql_iface_ptr_same (P := Tryd.prog) w a Tryd.underlying27 Tryd.underlying199 hi hcmp hj
        go_wp2
        go_ret
        exact ⟨by simp, rfl⟩
      · have heq := run_eql_iface_ptr_other (P := Tryd.prog) w Tryd.underlying27 Tryd.underlying199 hi hcmp hj (by rw [hjs]; decide) hab ha hb
        go_wp2
        go_ret
        exact ⟨by simp, rfl⟩
    | cons y r =>
      have hd := dep_eq hv
      obtain ⟨g, x, rfl, hg, hc⟩ := hv
      have hd2 := dep_eq hc
      obtain ⟨t, p, rfl⟩ := hc.iface
      obtain ⟨c0, c1, c2⟩ := cell_fault hg
      have hty := run_eql_iface_types (P := Tryd.prog) 117 199 (.pointer (some ⟨g, 0, none⟩)) (.pointer (some b)) Tryd.underlying27 (by decide) w
      have HD := Lib.hid hd
      have HD2 := Lib.hid hd2
      have HC := Lib.hid hc
      clear hd hd2 hc hg
      go_wp2
      go_round
      case rel => exact ⟨r, HC.out⟩
      case measure => show dep w (.iface t (.pointer (some p))) < dep w (.iface 117 (.pointer (some ⟨g, 0, none⟩))); rw [HD.out, HD2.out]; simp

set_option maxHeartbeats 4000000 in
theorem is_any (v : Value) (l : List (ByteArray × Int)) (a b : Addr) (w : World) (cb : Array Value) (tb : TypeId) (hv : Chain w v l a) (hb : w.heap[b.block]? = some (.cells cb tb (0, 0))) :
    Calls Tryd.prog 69 #[v, .iface 199 (.pointer (some b))] w fun e w' => e = .returned (.bool (decide (a = b))) ∧ w = w' := by
  have h8 := @run_callFunc_extern Tryd.prog 102 _ Extern.ReflectliteType.typeOf Tryd.func102 (by kernel_rfl) (by kernel_rfl) (by kernel_rfl) (by kernel_rfl)
  have h32 := @run_callFunc_extern Tryd.prog 149 _ entCmp Tryd.func149 (by kernel_rfl) (by kernel_rfl) (by kernel_rfl) (by kernel_rfl)
  have tT := isTypeOf
  have cT := isComparable
  have mR := isMethodComparable
  obtain ⟨t, p, rfl⟩ := hv.iface
  go_enter Tryd.func69, Tryd.ntmps69
  go_wp2_with (first
    | (go_at_call 103; refine (is_loop _ l a b w cb tb hv hb).mono ?_; rintro e w' ⟨rfl, rfl⟩))
  go_ret
  exact ⟨rfl, rfl⟩
end Go.Proofs.YtocfkmdoalhjmaaDoor
