/- errors.As by its contract, at a variable of the type *api.Fault, for the errors that this program makes. -/
import Derived.Test.YtocfkmdoalhjmaaDoorIs
namespace Go.Proofs.YtocfkmdoalhjmaaDoor
open Go.RowKit Go.Extern.Stop Go.Stop Go.Extern
set_option linter.unusedVariables false
set_option maxRecDepth 100000

theorem as_nil (t : Value) (w : World) :
    Calls Tryd.prog 71 #[.nilIface, t] w fun e w' => e = .returned (.bool false) ∧ w = w' := by
  go_enter Tryd.func71, Tryd.ntmps71
  go_wp2
  go_ret
  exact ⟨rfl, rfl⟩

/-! ### the model's entries under names of their own -/
def enVal : Array Value → Sem Value := fun args => ReflectliteValue.unpack (args.getD 0 (.tuple #[]))
def enType : Array Value → Sem Value := ReflectliteValue.methodAny (ReflectliteValue.valueError "reflectlite.Value.Type" 0) (fun t _ _ _ => ReflectliteType.toType t)
def enNil : Array Value → Sem Value := ReflectliteValue.method (ReflectliteValue.valueError "reflectlite.Value.IsNil" 0) ReflectliteValue.isNil
def enKind : Array Value → Sem Value := ReflectliteType.abiMethod fun t => do pure (.int .u8 (← Rtype.kind t))
def enElemT : Array Value → Sem Value := ReflectliteType.method ReflectliteType.elem
def enImpl : Array Value → Sem Value := ReflectliteType.relation "Implements" ReflectliteType.implements_
def enAssign : Array Value → Sem Value := ReflectliteType.relation "AssignableTo" ReflectliteType.assignableTo
def enElemV : Array Value → Sem Value := ReflectliteValue.method (ReflectliteValue.valueError "reflectlite.Value.Elem" 0) ReflectliteValue.elem
def enSet : Array Value → Sem Value := ReflectliteValue.set

theorem f_val : ∀ (args : Array Value) (w : World), (callFunc 104 args).run Tryd.prog w = ((enVal args).run Tryd.prog w).andThen fun v w' => .ok (.value v) w' := @run_callFunc_extern Tryd.prog 104 _ enVal Tryd.func104 (by kernel_rfl) (by kernel_rfl) (by kernel_rfl) (by kernel_rfl)
theorem f_type : ∀ (args : Array Value) (w : World), (callFunc 105 args).run Tryd.prog w = ((enType args).run Tryd.prog w).andThen fun v w' => .ok (.value v) w' := @run_callFunc_extern Tryd.prog 105 _ enType Tryd.func105 (by kernel_rfl) (by kernel_rfl) (by kernel_rfl) (by kernel_rfl)
theorem f_nil : ∀ (args : Array Value) (w : World), (callFunc 106 args).run Tryd.prog w = ((enNil args).run Tryd.prog w).andThen fun v w' => .ok (.value v) w' := @run_callFunc_extern Tryd.prog 106 _ enNil Tryd.func106 (by kernel_rfl) (by kernel_rfl) (by kernel_rfl) (by kernel_rfl)
theorem f_kind : ∀ (args : Array Value) (w : World), (callFunc 138 args).run Tryd.prog w = ((enKind args).run Tryd.prog w).andThen fun v w' => .ok (.value v) w' := @run_callFunc_extern Tryd.prog 138 _ enKind Tryd.func138 (by kernel_rfl) (by kernel_rfl) (by kernel_rfl) (by kernel_rfl)
theorem f_elemT : ∀ (args : Array Value) (w : World), (callFunc 150 args).run Tryd.prog w = ((enElemT args).run Tryd.prog w).andThen fun v w' => .ok (.value v) w' := @run_callFunc_extern Tryd.prog 150 _ enElemT Tryd.func150 (by kernel_rfl) (by kernel_rfl) (by kernel_rfl) (by kernel_rfl)
theorem f_impl : ∀ (args : Array Value) (w : World), (callFunc 151 args).run Tryd.prog w = ((enImpl args).run Tryd.prog w).andThen fun v w' => .ok (.value v) w' := @run_callFunc_extern Tryd.prog 151 _ enImpl Tryd.func151 (by kernel_rfl) (by kernel_rfl) (by kernel_rfl) (by kernel_rfl)
theorem f_assign : ∀ (args : Array Value) (w : World), (callFunc 148 args).run Tryd.prog w = ((enAssign args).run Tryd.prog w).andThen fun v w' => .ok (.value v) w' := @run_callFunc_extern Tryd.prog 148 _ enAssign Tryd.func148 (by kernel_rfl) (by kernel_rfl) (by kernel_rfl) (by kernel_rfl)
theorem f_typeOf : ∀ (args : Array Value) (w : World), (callFunc 102 args).run Tryd.prog w = ((ReflectliteType.typeOf args).run Tryd.prog w).andThen fun v w' => .ok (.value v) w' := @run_callFunc_extern Tryd.prog 102 _ ReflectliteType.typeOf Tryd.func102 (by kernel_rfl) (by kernel_rfl) (by kernel_rfl) (by kernel_rfl)
theorem f_elemV : ∀ (args : Array Value) (w : World), (callFunc 118 args).run Tryd.prog w = ((enElemV args).run Tryd.prog w).andThen fun v w' => .ok (.value v) w' := @run_callFunc_extern Tryd.prog 118 _ enElemV Tryd.func118 (by kernel_rfl) (by kernel_rfl) (by kernel_rfl) (by kernel_rfl)
theorem f_set : ∀ (args : Array Value) (w : World), (callFunc 119 args).run Tryd.prog w = ((enSet args).run Tryd.prog w).andThen fun v w' => .ok (.value v) w' := @run_callFunc_extern Tryd.prog 119 _ enSet Tryd.func119 (by kernel_rfl) (by kernel_rfl) (by kernel_rfl) (by kernel_rfl)

/-- the Value of a **api.Fault; of a *api.Fault; of a *api.Fault variable -/
def vPP (a : Addr) : Value := .agg #[.pointer (some ⟨14, 119, none⟩), .pointer (some a), .int .u64 150]
theorem valueOfPP (t : Addr) (w : World) : (enVal #[.iface 119 (.pointer (some t))]).run Tryd.prog w = .ok (.agg #[.pointer (some ⟨14, 119, none⟩), .pointer (some ⟨w.heap.size, 0, none⟩), .int .u64 150]) (w.alloc (.cells #[.pointer (some t)] 119)) := by kernel_rfl
theorem typePP (a : Addr) (w : World) : (enType #[.agg #[.pointer (some ⟨14, 119, none⟩), .pointer (some a), .int .u64 150]]).run Tryd.prog w = .ok (.iface 179 (.agg #[.pointer (some ⟨14, 119, none⟩)])) w := by kernel_rfl
theorem methodKind (h : Value) (w : World) : (Go.method 330 179 (.agg #[h]) "Kind").run Tryd.prog w = .ok (138, h) w := by kernel_rfl
theorem kindPP (w : World) : (enKind #[.pointer (some ⟨14, 119, none⟩)]).run Tryd.prog w = .ok (.int .u8 22) w := by kernel_rfl
theorem kindP (w : World) : (enKind #[.pointer (some ⟨14, 117, none⟩)]).run Tryd.prog w = .ok (.int .u8 22) w := by kernel_rfl
theorem rlm (z : Sem Value) (f : TypeId → Addr → Nat → Nat → Sem Value) (v : Value) :
    ReflectliteValue.method z f #[v] = (do match ← ReflectliteValue.parts v with | none => z | some (t, a, fl) => f t a fl (fl % 32)) := rfl
theorem partsPP (a : Addr) (w : World) : (ReflectliteValue.parts (.agg #[.pointer (some ⟨14, 119, none⟩), .pointer (some a), .int .u64 150])).run Tryd.prog w = .ok (some (119, a, 150)) w := by kernel_rfl
theorem isNilPP (a p : Addr) (W : World) (ha : W.cell? a = some (.pointer (some p))) :
    (enNil #[.agg #[.pointer (some ⟨14, 119, none⟩), .pointer (some a), .int .u64 150]]).run Tryd.prog W = .ok (.bool false) W := by
  unfold enNil
  rw [rlm]
  simp only [Sem.run_bind, partsPP, Result.andThen]
  simp [ReflectliteValue.isNil, loadVar, isAgg, underlying, Tryd.underlying119, ha, Result.andThen]
theorem methodElem (h : Value) (w : World) : (Go.method 330 179 (.agg #[h]) "Elem").run Tryd.prog w = .ok (150, .agg #[h]) w := by kernel_rfl
theorem methodImplements (h : Value) (w : World) : (Go.method 330 179 (.agg #[h]) "Implements").run Tryd.prog w = .ok (151, .agg #[h]) w := by kernel_rfl
theorem methodAssignableTo (h : Value) (w : World) : (Go.method 330 179 (.agg #[h]) "AssignableTo").run Tryd.prog w = .ok (148, .agg #[h]) w := by kernel_rfl
theorem elemPP (w : World) : (enElemT #[.agg #[.pointer (some ⟨14, 119, none⟩)]]).run Tryd.prog w = .ok (.iface 179 (.agg #[.pointer (some ⟨14, 117, none⟩)])) w := by kernel_rfl
theorem implementsP (w : World) : (enImpl #[.agg #[.pointer (some ⟨14, 117, none⟩)], .iface 179 (.agg #[.pointer (some ⟨14, 27, none⟩)])]).run Tryd.prog w = .ok (.bool true) w := by kernel_rfl
theorem typeOfP (v : Value) (w : World) : (ReflectliteType.typeOf #[.iface 117 v]).run Tryd.prog w = .ok (.iface 179 (.agg #[.pointer (some ⟨14, 117, none⟩)])) w := by kernel_rfl
theorem assignableP (w : World) : (enAssign #[.agg #[.pointer (some ⟨14, 117, none⟩)], .iface 179 (.agg #[.pointer (some ⟨14, 117, none⟩)])]).run Tryd.prog w = .ok (.bool true) w := by kernel_rfl
theorem assignableE (w : World) : (enAssign #[.agg #[.pointer (some ⟨14, 199, none⟩)], .iface 179 (.agg #[.pointer (some ⟨14, 117, none⟩)])]).run Tryd.prog w = .ok (.bool false) w := by kernel_rfl
theorem valueOfP (e : Addr) (w : World) : (enVal #[.iface 117 (.pointer (some e))]).run Tryd.prog w = .ok (.agg #[.pointer (some ⟨14, 117, none⟩), .pointer (some ⟨w.heap.size, 0, none⟩), .int .u64 150]) (w.alloc (.cells #[.pointer (some e)] 117)) := by kernel_rfl
theorem elemOfPP (w : World) : (Rtype.elem? 119).run Tryd.prog w = .ok (some 117) w := by kernel_rfl
theorem mkP (p : Addr) (w : World) : (ReflectliteValue.mk 117 p ReflectliteValue.flagAddr).run Tryd.prog w = .ok (.agg #[.pointer (some ⟨14, 117, none⟩), .pointer (some p), .int .u64 406]) w := by kernel_rfl
theorem elemVPP (a p : Addr) (W : World) (ha : W.cell? a = some (.pointer (some p))) :
    (enElemV #[.agg #[.pointer (some ⟨14, 119, none⟩), .pointer (some a), .int .u64 150]]).run Tryd.prog W = .ok (.agg #[.pointer (some ⟨14, 117, none⟩), .pointer (some p), .int .u64 406]) W := by
  unfold enElemV
  rw [rlm]
  simp only [Sem.run_bind, partsPP, Result.andThen]
  simp [ReflectliteValue.elem, loadVar, isAgg, underlying, Tryd.underlying119, ha, Result.andThen, elemOfPP, mkP]
theorem rls (v x : Value) : ReflectliteValue.set #[v, x] = (do
    let (some (dst, a, fl), some (src, b, _)) := (← ReflectliteValue.parts v, ← ReflectliteValue.parts x)
      | unsupported (.noEntry "extern/(internal/reflectlite.Value).Set.zeroValue")
    if fl / ReflectliteValue.flagAddr % 2 == 0 then unsupported (.noEntry "extern/(internal/reflectlite.Value).Set.unaddressable")
    let val ← loadVar src b
    if ← Rtype.directlyAssignable dst src then storeVar dst a val
    else if ← Rtype.implements dst src then
      if (← Rtype.kind src) == 20 then
        match val with
        | .nilIface => unsupported (.noEntry "extern/reflectlite: a nil value of one interface type handed on as a value of another")
        | _ => storeVar dst a val
      else storeVar dst a (.iface src val)
    else panicString ("reflectlite.Set: value of type " ++ (← Rtype.spelt src) ++ " is not assignable to type " ++ (← Rtype.spelt dst))
    pure (.tuple #[])) := rfl
theorem partsPa (a : Addr) (w : World) : (ReflectliteValue.parts (.agg #[.pointer (some ⟨14, 117, none⟩), .pointer (some a), .int .u64 406])).run Tryd.prog w = .ok (some (117, a, 406)) w := by kernel_rfl
theorem partsP (a : Addr) (w : World) : (ReflectliteValue.parts (.agg #[.pointer (some ⟨14, 117, none⟩), .pointer (some a), .int .u64 150])).run Tryd.prog w = .ok (some (117, a, 150)) w := by kernel_rfl
theorem directP (w : World) : (Rtype.directlyAssignable 117 117).run Tryd.prog w = .ok true w := by kernel_rfl
theorem sizeP (w : World) : (sizeOf 117).run Tryd.prog w = .ok 1 w := by kernel_rfl
theorem setP (ta b e : Addr) (old : Value) (W : World) (hb : W.cell? b = some (.pointer (some e))) (ht : W.cell? ta = some old) (hf : W.frozen? ta = false) :
    (enSet #[.agg #[.pointer (some ⟨14, 117, none⟩), .pointer (some ta), .int .u64 406], .agg #[.pointer (some ⟨14, 117, none⟩), .pointer (some b), .int .u64 150]]).run Tryd.prog W = .ok (.tuple #[]) (W.setCell ta (.pointer (some e))) := by
  unfold enSet
  rw [rls]
  simp only [Sem.run_bind, partsPa, partsP, Result.andThen]
  simp [ReflectliteValue.flagAddr, loadVar, isAgg, underlying, Tryd.underlying117, hb, Result.andThen, directP, storeVar, Value.cells, storeCells, Addr.add]
  rw [run_store Tryd.prog W ta _ _ (by rfl)]
  simp [ht, hf]
theorem noAsE (v : Value) (xT : TypeId) (w : World) : (Instr.typeAssert (.iface 199 v) xT 191 true).run Tryd.prog w = .ok (.tuple #[.nilIface, .bool false]) w := run_typeAssert_lacksB Tryd.underlying191 (by kernel_rfl) (by kernel_rfl) v xT w

/-- the variable errors.errorType holds what start-up lays there -/
def ErrType (w : World) : Prop := w.cell? ⟨12, 0, none⟩ = some (.iface 179 (.agg #[.pointer (some ⟨14, 27, none⟩)]))

theorem ErrType.up {w w' : World} (h : ErrType w) (hb : Below w.heap.size w w') : ErrType w' := by
  unfold ErrType at *
  rw [hb.cell (World.block_lt_of_cell? _ _ h)]; exact h

def bV (t : Addr) (g : Nat) : Obj := .cells #[.pointer (some ⟨14, 119, none⟩), .pointer (some ⟨g, 0, none⟩), .int .u64 150] 162

set_option maxHeartbeats 4000000 in
theorem as_hit (e t : Addr) (old : Value) (w : World) (hg : ErrType w) (ht0 : w.cell? t = some old) (hf0 : w.frozen? t = false) :
    Calls Tryd.prog 71 #[.iface 117 (.pointer (some e)), .iface 119 (.pointer (some t))] w fun ev w' => ev = .returned (.bool true) ∧
      w' = ((((w.alloc (.cells #[.pointer (some t)] 119)).alloc (.cells #[.pointer (some ⟨14, 119, none⟩), .pointer (some ⟨w.heap.size, 0, none⟩), .int .u64 150] 162)).alloc (.cells #[.pointer (some ⟨14, 119, none⟩), .pointer (some ⟨w.heap.size, 0, none⟩), .int .u64 150] 162)).alloc (.cells #[.pointer (some e)] 117)).setCell t (.pointer (some e)) := by
  have h6 := f_val
  have h7 := f_type
  have h8 := f_nil
  have h27 := f_kind
  have h37 := f_elemT
  have h38 := f_impl
  have h10 := f_typeOf
  have h35 := f_assign
  have h11 := f_elemV
  have h12 := f_set
  have tO := typeOfP
  have mA := methodAssignableTo
  have a25 := assignableP
  have v25 := valueOfP
  have f6 := valueOfPP
  have f7 := typePP
  have mK := methodKind
  have mE := methodElem
  have mI := methodImplements
  have k27 := kindPP
  have k25 := kindP
  have e27 := elemPP
  have i25 := implementsP
  unfold ErrType at hg
  have hlt : 12 < w.heap.size := World.block_lt_of_cell? _ _ hg
  have htl : t.block < w.heap.size := World.block_lt_of_cell? _ _ ht0
  have n8 := isNilPP ⟨w.heap.size, 0, none⟩ t ((w.alloc (.cells #[.pointer (some t)] 119)).alloc (.cells #[.pointer (some ⟨14, 119, none⟩), .pointer (some ⟨w.heap.size, 0, none⟩), .int .u64 150] 162)) (by simp)
  have hg2 : ((w.alloc (.cells #[.pointer (some t)] 119)).alloc (.cells #[.pointer (some ⟨14, 119, none⟩), .pointer (some ⟨w.heap.size, 0, none⟩), .int .u64 150] 162)).cell? ⟨12, 0, none⟩ = some (.iface 179 (.agg #[.pointer (some ⟨14, 27, none⟩)])) := by
    rw [World.cell?_alloc_lt _ _ ⟨12, 0, none⟩ (by simp; omega), World.cell?_alloc_lt _ _ ⟨12, 0, none⟩ hlt]; exact hg
  have el := elemVPP ⟨w.heap.size, 0, none⟩ t (((w.alloc (.cells #[.pointer (some t)] 119)).alloc (.cells #[.pointer (some ⟨14, 119, none⟩), .pointer (some ⟨w.heap.size, 0, none⟩), .int .u64 150] 162)).alloc (.cells #[.pointer (some ⟨14, 119, none⟩), .pointer (some ⟨w.heap.size, 0, none⟩), .int .u64 150] 162)) (by rw [World.cell?_alloc_lt _ _ ⟨w.heap.size, 0, none⟩ (by simp; omega)]; simp)
  have st := setP t ⟨w.heap.size + 1 + 1 + 1, 0, none⟩ e old ((((w.alloc (.cells #[.pointer (some t)] 119)).alloc (.cells #[.pointer (some ⟨14, 119, none⟩), .pointer (some ⟨w.heap.size, 0, none⟩), .int .u64 150] 162)).alloc (.cells #[.pointer (some ⟨14, 119, none⟩), .pointer (some ⟨w.heap.size, 0, none⟩), .int .u64 150] 162)).alloc (.cells #[.pointer (some e)] 117))
    (by rw [World.cell?_alloc_at _ _ _ _ (by simp)]; rfl)
    (by rw [World.cell?_alloc_lt _ _ t (by simp; omega), World.cell?_alloc_lt _ _ t (by simp; omega), World.cell?_alloc_lt _ _ t (by simp; omega), World.cell?_alloc_lt _ _ t htl]; exact ht0)
    (by rw [World.frozen?_alloc_old _ _ t (by simp; omega), World.frozen?_alloc_old _ _ t (by simp; omega), World.frozen?_alloc_old _ _ t (by simp; omega), World.frozen?_alloc_old _ _ t (Nat.ne_of_lt htl)]; exact hf0)
  go_enter Tryd.func71, Tryd.ntmps71
  go_wp2
  refine wp_loop_rounds 1 ?_
  rw [rounds_succ]
  go_wp2
  go_ret
  exact ⟨rfl, rfl⟩

set_option maxHeartbeats 4000000 in
theorem as_miss (a t : Addr) (old : Value) (w : World) (hg : ErrType w) (ht0 : w.cell? t = some old) :
    Calls Tryd.prog 71 #[.iface 199 (.pointer (some a)), .iface 119 (.pointer (some t))] w fun ev w' => ev = .returned (.bool false) ∧
      w' = (((w.alloc (.cells #[.pointer (some t)] 119)).alloc (.cells #[.pointer (some ⟨14, 119, none⟩), .pointer (some ⟨w.heap.size, 0, none⟩), .int .u64 150] 162)).alloc (.cells #[.pointer (some ⟨14, 119, none⟩), .pointer (some ⟨w.heap.size, 0, none⟩), .int .u64 150] 162)) := by
  have h6 := f_val
  have h7 := f_type
  have h8 := f_nil
  have h27 := f_kind
  have h37 := f_elemT
  have h38 := f_impl
  have h10 := f_typeOf
  have h35 := f_assign
  have tO := isTypeOf
  have mA := methodAssignableTo
  have a25 := assignableE
  have f6 := valueOfPP
  have f7 := typePP
  have mK := methodKind
  have mE := methodElem
  have mI := methodImplements
  have k27 := kindPP
  have k25 := kindP
  have e27 := elemPP
  have i25 := implementsP
  have nA := noAsE
  have uE := noUnwrapE
  have vE := noUnwrapsE
  unfold ErrType at hg
  have hlt : 12 < w.heap.size := World.block_lt_of_cell? _ _ hg
  have n8 := isNilPP ⟨w.heap.size, 0, none⟩ t ((w.alloc (.cells #[.pointer (some t)] 119)).alloc (.cells #[.pointer (some ⟨14, 119, none⟩), .pointer (some ⟨w.heap.size, 0, none⟩), .int .u64 150] 162)) (by simp)
  have hg2 : ((w.alloc (.cells #[.pointer (some t)] 119)).alloc (.cells #[.pointer (some ⟨14, 119, none⟩), .pointer (some ⟨w.heap.size, 0, none⟩), .int .u64 150] 162)).cell? ⟨12, 0, none⟩ = some (.iface 179 (.agg #[.pointer (some ⟨14, 27, none⟩)])) := by
    rw [World.cell?_alloc_lt _ _ ⟨12, 0, none⟩ (by simp; omega), World.cell?_alloc_lt _ _ ⟨12, 0, none⟩ hlt]; exact hg
  go_enter Tryd.func71, Tryd.ntmps71
  go_wp2
  refine wp_loop_rounds 1 ?_
  rw [rounds_succ]
  go_wp2
  go_ret
  exact ⟨rfl, rfl⟩
end Go.Proofs.YtocfkmdoalhjmaaDoor
