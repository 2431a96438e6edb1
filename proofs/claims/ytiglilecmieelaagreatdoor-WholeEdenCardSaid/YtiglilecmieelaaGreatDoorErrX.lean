/- The contract of errors.As at **subset.found. errors.As at **subset.found of an error that is a chain of Faults: none. -/
import Derived.Test.YtiglilecmieelaaGreatDoorErrF
namespace Go.Proofs.YtiglilecmieelaaGreatDoor
open Go.RowKit Go.Extern.Stop Go.Stop Go.Extern
set_option linter.unusedVariables false
set_option maxRecDepth 100000

def vPPS (a : Addr) : Value := .agg #[.pointer (some ⟨13, 42, none⟩), .pointer (some a), .int .u64 150]
theorem valueOfPPS (t : Addr) (w : World) : (enVal #[.iface 42 (.pointer (some t))]).run Tryz.prog w = .ok (.agg #[.pointer (some ⟨13, 42, none⟩), .pointer (some ⟨w.heap.size, 0, none⟩), .int .u64 150]) (w.alloc (.cells #[.pointer (some t)] 42)) := by kernel_rfl
theorem typePPS (a : Addr) (w : World) : (enType #[.agg #[.pointer (some ⟨13, 42, none⟩), .pointer (some a), .int .u64 150]]).run Tryz.prog w = .ok (.iface 114 (.agg #[.pointer (some ⟨13, 42, none⟩)])) w := by kernel_rfl
theorem kindPPS (w : World) : (enKind #[.pointer (some ⟨13, 42, none⟩)]).run Tryz.prog w = .ok (.int .u8 22) w := by kernel_rfl
theorem kindPS (w : World) : (enKind #[.pointer (some ⟨13, 40, none⟩)]).run Tryz.prog w = .ok (.int .u8 22) w := by kernel_rfl
theorem partsPPS (a : Addr) (w : World) : (ReflectliteValue.parts (.agg #[.pointer (some ⟨13, 42, none⟩), .pointer (some a), .int .u64 150])).run Tryz.prog w = .ok (some (42, a, 150)) w := by kernel_rfl
theorem isNilPPS (a p : Addr) (W : World) (ha : W.cell? a = some (.pointer (some p))) :
    (enNil #[.agg #[.pointer (some ⟨13, 42, none⟩), .pointer (some a), .int .u64 150]]).run Tryz.prog W = .ok (.bool false) W := by
  unfold enNil
  rw [rlm]
  simp only [Sem.run_bind, partsPPS, Result.andThen]
  simp [ReflectliteValue.isNil, loadVar, isAgg, underlying, Tryz.underlying42, ha, Result.andThen]
theorem elemPPS (w : World) : (enElemT #[.agg #[.pointer (some ⟨13, 42, none⟩)]]).run Tryz.prog w = .ok (.iface 114 (.agg #[.pointer (some ⟨13, 40, none⟩)])) w := by kernel_rfl
theorem implementsPS (w : World) : (enImpl #[.agg #[.pointer (some ⟨13, 40, none⟩)], .iface 114 (.agg #[.pointer (some ⟨13, 27, none⟩)])]).run Tryz.prog w = .ok (.bool true) w := by kernel_rfl
theorem typeOfPS (v : Value) (w : World) : (ReflectliteType.typeOf #[.iface 40 v]).run Tryz.prog w = .ok (.iface 114 (.agg #[.pointer (some ⟨13, 40, none⟩)])) w := by kernel_rfl
theorem assignablePS (w : World) : (enAssign #[.agg #[.pointer (some ⟨13, 40, none⟩)], .iface 114 (.agg #[.pointer (some ⟨13, 40, none⟩)])]).run Tryz.prog w = .ok (.bool true) w := by kernel_rfl
theorem assignableES (w : World) : (enAssign #[.agg #[.pointer (some ⟨13, 172, none⟩)], .iface 114 (.agg #[.pointer (some ⟨13, 40, none⟩)])]).run Tryz.prog w = .ok (.bool false) w := by kernel_rfl
theorem valueOfPS (e : Addr) (w : World) : (enVal #[.iface 40 (.pointer (some e))]).run Tryz.prog w = .ok (.agg #[.pointer (some ⟨13, 40, none⟩), .pointer (some ⟨w.heap.size, 0, none⟩), .int .u64 150]) (w.alloc (.cells #[.pointer (some e)] 40)) := by kernel_rfl
theorem elemOfPPS (w : World) : (Rtype.elem? 42).run Tryz.prog w = .ok (some 40) w := by kernel_rfl
theorem mkPS (p : Addr) (w : World) : (ReflectliteValue.mk 40 p ReflectliteValue.flagAddr).run Tryz.prog w = .ok (.agg #[.pointer (some ⟨13, 40, none⟩), .pointer (some p), .int .u64 406]) w := by kernel_rfl
theorem elemVPPS (a p : Addr) (W : World) (ha : W.cell? a = some (.pointer (some p))) :
    (enElemV #[.agg #[.pointer (some ⟨13, 42, none⟩), .pointer (some a), .int .u64 150]]).run Tryz.prog W = .ok (.agg #[.pointer (some ⟨13, 40, none⟩), .pointer (some p), .int .u64 406]) W := by
  unfold enElemV
  rw [rlm]
  simp only [Sem.run_bind, partsPPS, Result.andThen]
  simp [ReflectliteValue.elem, loadVar, isAgg, underlying, Tryz.underlying42, ha, Result.andThen, elemOfPPS, mkPS]
theorem partsPaS (a : Addr) (w : World) : (ReflectliteValue.parts (.agg #[.pointer (some ⟨13, 40, none⟩), .pointer (some a), .int .u64 406])).run Tryz.prog w = .ok (some (40, a, 406)) w := by kernel_rfl
theorem partsPS (a : Addr) (w : World) : (ReflectliteValue.parts (.agg #[.pointer (some ⟨13, 40, none⟩), .pointer (some a), .int .u64 150])).run Tryz.prog w = .ok (some (40, a, 150)) w := by kernel_rfl
theorem directPS (w : World) : (Rtype.directlyAssignable 40 40).run Tryz.prog w = .ok true w := by kernel_rfl
theorem sizePS (w : World) : (sizeOf 40).run Tryz.prog w = .ok 1 w := by kernel_rfl
theorem setPS (ta b e : Addr) (old : Value) (W : World) (hb : W.cell? b = some (.pointer (some e))) (ht : W.cell? ta = some old) (hf : W.frozen? ta = false) :
    (enSet #[.agg #[.pointer (some ⟨13, 40, none⟩), .pointer (some ta), .int .u64 406], .agg #[.pointer (some ⟨13, 40, none⟩), .pointer (some b), .int .u64 150]]).run Tryz.prog W = .ok (.tuple #[]) (W.setCell ta (.pointer (some e))) := by
  unfold enSet
  rw [rls]
  simp only [Sem.run_bind, partsPaS, partsPS, Result.andThen]
  simp [ReflectliteValue.flagAddr, loadVar, isAgg, underlying, Tryz.underlying40, hb, Result.andThen, directPS, storeVar, Value.cells, storeCells, Addr.add]
  rw [run_store Tryz.prog W ta _ _ (by rfl)]
  simp [ht, hf]
set_option maxHeartbeats 4000000 in
theorem as_hitS (e t : Addr) (old : Value) (w : World) (hg : ErrType w) (ht0 : w.cell? t = some old) (hf0 : w.frozen? t = false) :
    Calls Tryz.prog 9 #[.iface 40 (.pointer (some e)), .iface 42 (.pointer (some t))] w fun ev w' => ev = .returned (.bool true) ∧
      w' = ((((w.alloc (.cells #[.pointer (some t)] 42)).alloc (.cells #[.pointer (some ⟨13, 42, none⟩), .pointer (some ⟨w.heap.size, 0, none⟩), .int .u64 150] 65)).alloc (.cells #[.pointer (some ⟨13, 42, none⟩), .pointer (some ⟨w.heap.size, 0, none⟩), .int .u64 150] 65)).alloc (.cells #[.pointer (some e)] 40)).setCell t (.pointer (some e)) := by
  have h6 := f_val
  have h7 := f_type
  have h8 := f_nil
  have h27 := f_kind
  have h37 := f_elemT
  have h38 := f_impl
  have h10 := f_typeOf
  have h35 := f_assign
  have h11 := f_elemV
  have h12 := f_set
  have tO := typeOfPS
  have mA := methodAssignableTo
  have a25 := assignablePS
  have v25 := valueOfPS
  have f6 := valueOfPPS
  have f7 := typePPS
  have mK := methodKind
  have mE := methodElem
  have mI := methodImplements
  have k27 := kindPPS
  have k25 := kindPS
  have e27 := elemPPS
  have i25 := implementsPS
  unfold ErrType at hg
  have hlt : 0 < w.heap.size := World.block_lt_of_cell? _ _ hg
  have htl : t.block < w.heap.size := World.block_lt_of_cell? _ _ ht0
  have n8 := isNilPPS ⟨w.heap.size, 0, none⟩ t ((w.alloc (.cells #[.pointer (some t)] 42)).alloc (.cells #[.pointer (some ⟨13, 42, none⟩), .pointer (some ⟨w.heap.size, 0, none⟩), .int .u64 150] 65)) (by simp)
  have hg2 : ((w.alloc (.cells #[.pointer (some t)] 42)).alloc (.cells #[.pointer (some ⟨13, 42, none⟩), .pointer (some ⟨w.heap.size, 0, none⟩), .int .u64 150] 65)).cell? ⟨0, 0, none⟩ = some (.iface 114 (.agg #[.pointer (some ⟨13, 27, none⟩)])) := by
    rw [World.cell?_alloc_lt _ _ ⟨0, 0, none⟩ (by simp <;> omega), World.cell?_alloc_lt _ _ ⟨0, 0, none⟩ hlt]; exact hg
  have el := elemVPPS ⟨w.heap.size, 0, none⟩ t (((w.alloc (.cells #[.pointer (some t)] 42)).alloc (.cells #[.pointer (some ⟨13, 42, none⟩), .pointer (some ⟨w.heap.size, 0, none⟩), .int .u64 150] 65)).alloc (.cells #[.pointer (some ⟨13, 42, none⟩), .pointer (some ⟨w.heap.size, 0, none⟩), .int .u64 150] 65)) (by rw [World.cell?_alloc_lt _ _ ⟨w.heap.size, 0, none⟩ (by simp <;> omega)]; simp)
  have st := setPS t ⟨w.heap.size + 1 + 1 + 1, 0, none⟩ e old ((((w.alloc (.cells #[.pointer (some t)] 42)).alloc (.cells #[.pointer (some ⟨13, 42, none⟩), .pointer (some ⟨w.heap.size, 0, none⟩), .int .u64 150] 65)).alloc (.cells #[.pointer (some ⟨13, 42, none⟩), .pointer (some ⟨w.heap.size, 0, none⟩), .int .u64 150] 65)).alloc (.cells #[.pointer (some e)] 40))
    (by rw [World.cell?_alloc_at _ _ _ _ (by simp)]; rfl)
    (by rw [World.cell?_alloc_lt _ _ t (by simp <;> omega), World.cell?_alloc_lt _ _ t (by simp <;> omega), World.cell?_alloc_lt _ _ t (by simp <;> omega), World.cell?_alloc_lt _ _ t htl]; exact ht0)
    (by rw [World.frozen?_alloc_old _ _ t (by simp <;> omega), World.frozen?_alloc_old _ _ t (by simp <;> omega), World.frozen?_alloc_old _ _ t (by simp <;> omega), World.frozen?_alloc_old _ _ t (Nat.ne_of_lt htl)]; exact hf0)
  go_enter Tryz.func9, Tryz.ntmps9
  go_wp2
  refine wp_loop_rounds 1 ?_
  rw [rounds_succ]
  go_wp2
  go_ret
  exact ⟨rfl, rfl⟩

set_option maxHeartbeats 4000000 in
theorem as_missS (a t : Addr) (old : Value) (w : World) (hg : ErrType w) (ht0 : w.cell? t = some old) :
    Calls Tryz.prog 9 #[.iface 172 (.pointer (some a)), .iface 42 (.pointer (some t))] w fun ev w' => ev = .returned (.bool false) ∧
      w' = (((w.alloc (.cells #[.pointer (some t)] 42)).alloc (.cells #[.pointer (some ⟨13, 42, none⟩), .pointer (some ⟨w.heap.size, 0, none⟩), .int .u64 150] 65)).alloc (.cells #[.pointer (some ⟨13, 42, none⟩), .pointer (some ⟨w.heap.size, 0, none⟩), .int .u64 150] 65)) := by
  have h6 := f_val
  have h7 := f_type
  have h8 := f_nil
  have h27 := f_kind
  have h37 := f_elemT
  have h38 := f_impl
  have h10 := f_typeOf
  have h35 := f_assign
  have tO := isTypeOf
  have mA := methodAssignableTo
  have a25 := assignableES
  have f6 := valueOfPPS
  have f7 := typePPS
  have mK := methodKind
  have mE := methodElem
  have mI := methodImplements
  have k27 := kindPPS
  have k25 := kindPS
  have e27 := elemPPS
  have i25 := implementsPS
  have nA := noAsE
  have uE := noUnwrapE
  have vE := noUnwrapsE
  unfold ErrType at hg
  have hlt : 0 < w.heap.size := World.block_lt_of_cell? _ _ hg
  have n8 := isNilPPS ⟨w.heap.size, 0, none⟩ t ((w.alloc (.cells #[.pointer (some t)] 42)).alloc (.cells #[.pointer (some ⟨13, 42, none⟩), .pointer (some ⟨w.heap.size, 0, none⟩), .int .u64 150] 65)) (by simp)
  have hg2 : ((w.alloc (.cells #[.pointer (some t)] 42)).alloc (.cells #[.pointer (some ⟨13, 42, none⟩), .pointer (some ⟨w.heap.size, 0, none⟩), .int .u64 150] 65)).cell? ⟨0, 0, none⟩ = some (.iface 114 (.agg #[.pointer (some ⟨13, 27, none⟩)])) := by
    rw [World.cell?_alloc_lt _ _ ⟨0, 0, none⟩ (by simp <;> omega), World.cell?_alloc_lt _ _ ⟨0, 0, none⟩ hlt]; exact hg
  go_enter Tryz.func9, Tryz.ntmps9
  go_wp2
  refine wp_loop_rounds 1 ?_
  rw [rounds_succ]
  go_wp2
  go_ret
  exact ⟨rfl, rfl⟩
end Go.Proofs.YtiglilecmieelaaGreatDoor
namespace Go.Proofs.YtiglilecmieelaaGreatDoor
open Go.RowKit Go.Extern.Stop Go.Stop Go.Extern
set_option linter.unusedVariables false
set_option maxRecDepth 100000

theorem assignableFS (w : World) : (enAssign #[.agg #[.pointer (some ⟨13, 75, none⟩)], .iface 114 (.agg #[.pointer (some ⟨13, 40, none⟩)])]).run Tryz.prog w = .ok (.bool false) w := by kernel_rfl
theorem noAsF (v : Value) (xT : TypeId) (w : World) : (Instr.typeAssert (.iface 75 v) xT 119 true).run Tryz.prog w = .ok (.tuple #[.nilIface, .bool false]) w := run_typeAssert_lacksB Tryz.underlying119 (by kernel_rfl) (by kernel_rfl) v xT w
set_option maxHeartbeats 4000000 in
theorem as_chain1 (g0 : Nat) (op0 : ByteArray) (at0 : Int) (a t : Addr) (old : Value) (w : World) (hg : ErrType w) (ht0 : w.cell? t = some old) (h0 : w.heap[g0]? = some (faultObj op0 at0 (.iface 172 (.pointer (some a))))) :
    Calls Tryz.prog 9 #[.iface 75 (.pointer (some ⟨g0, 0, none⟩)), .iface 42 (.pointer (some t))] w fun ev w' => ev = .returned (.bool false) ∧ Below w.heap.size w w' := by
  have q6 := f_val
  have q7 := f_type
  have q8 := f_nil
  have q27 := f_kind
  have q37 := f_elemT
  have q38 := f_impl
  have q10 := f_typeOf
  have q35 := f_assign
  have tO := isTypeOf
  have tF := typeOfP
  have mA := methodAssignableTo
  have a25 := assignableES
  have a26 := assignableFS
  have f6 := valueOfPPS
  have f7 := typePPS
  have mK := methodKind
  have mE := methodElem
  have mI := methodImplements
  have k27 := kindPPS
  have k25 := kindPS
  have e27 := elemPPS
  have i25 := implementsPS
  have nA := noAsE
  have nF := noAsF
  have uE := noUnwrapE
  have vE := noUnwrapsE
  have uF := hasUnwrapF
  have mU := methodUnwrap
  unfold ErrType at hg
  have hlt : 0 < w.heap.size := World.block_lt_of_cell? _ _ hg
  have n8 := isNilPPS ⟨w.heap.size, 0, none⟩ t ((w.alloc (.cells #[.pointer (some t)] 42)).alloc (.cells #[.pointer (some ⟨13, 42, none⟩), .pointer (some ⟨w.heap.size, 0, none⟩), .int .u64 150] 65)) (by simp)
  have hg2 : ((w.alloc (.cells #[.pointer (some t)] 42)).alloc (.cells #[.pointer (some ⟨13, 42, none⟩), .pointer (some ⟨w.heap.size, 0, none⟩), .int .u64 150] 65)).cell? ⟨0, 0, none⟩ = some (.iface 114 (.agg #[.pointer (some ⟨13, 27, none⟩)])) := by
    rw [World.cell?_alloc_lt _ _ ⟨0, 0, none⟩ (by simp <;> omega), World.cell?_alloc_lt _ _ ⟨0, 0, none⟩ hlt]; exact hg
  have hb3 : Below w.heap.size w (((w.alloc (.cells #[.pointer (some t)] 42)).alloc (.cells #[.pointer (some ⟨13, 42, none⟩), .pointer (some ⟨w.heap.size, 0, none⟩), .int .u64 150] 65)).alloc (.cells #[.pointer (some ⟨13, 42, none⟩), .pointer (some ⟨w.heap.size, 0, none⟩), .int .u64 150] 65)) := balloc (balloc (balloc (bnil w) _) _) _
  have HB3 := Lib.hid hb3
  have e0 := (hb3.block _ (Array.getElem?_eq_some_iff.1 h0).1).trans h0
  obtain ⟨_, _, c0⟩ := cell_fault e0
  clear hb3 e0 h0
  go_enter Tryz.func9, Tryz.ntmps9
  go_wp2
  refine wp_loop_rounds 2 ?_
  rw [rounds_succ]
  go_wp2
  rw [rounds_succ]
  go_wp2
  go_ret
  exact ⟨rfl, HB3.out⟩
set_option maxHeartbeats 4000000 in
theorem as_chain2 (g0 g1 : Nat) (op0 op1 : ByteArray) (at0 at1 : Int) (a t : Addr) (old : Value) (w : World) (hg : ErrType w) (ht0 : w.cell? t = some old) (h0 : w.heap[g0]? = some (faultObj op0 at0 (.iface 75 (.pointer (some ⟨g1, 0, none⟩))))) (h1 : w.heap[g1]? = some (faultObj op1 at1 (.iface 172 (.pointer (some a))))) :
    Calls Tryz.prog 9 #[.iface 75 (.pointer (some ⟨g0, 0, none⟩)), .iface 42 (.pointer (some t))] w fun ev w' => ev = .returned (.bool false) ∧ Below w.heap.size w w' := by
  have q6 := f_val
  have q7 := f_type
  have q8 := f_nil
  have q27 := f_kind
  have q37 := f_elemT
  have q38 := f_impl
  have q10 := f_typeOf
  have q35 := f_assign
  have tO := isTypeOf
  have tF := typeOfP
  have mA := methodAssignableTo
  have a25 := assignableES
  have a26 := assignableFS
  have f6 := valueOfPPS
  have f7 := typePPS
  have mK := methodKind
  have mE := methodElem
  have mI := methodImplements
  have k27 := kindPPS
  have k25 := kindPS
  have e27 := elemPPS
  have i25 := implementsPS
  have nA := noAsE
  have nF := noAsF
  have uE := noUnwrapE
  have vE := noUnwrapsE
  have uF := hasUnwrapF
  have mU := methodUnwrap
  unfold ErrType at hg
  have hlt : 0 < w.heap.size := World.block_lt_of_cell? _ _ hg
  have n8 := isNilPPS ⟨w.heap.size, 0, none⟩ t ((w.alloc (.cells #[.pointer (some t)] 42)).alloc (.cells #[.pointer (some ⟨13, 42, none⟩), .pointer (some ⟨w.heap.size, 0, none⟩), .int .u64 150] 65)) (by simp)
  have hg2 : ((w.alloc (.cells #[.pointer (some t)] 42)).alloc (.cells #[.pointer (some ⟨13, 42, none⟩), .pointer (some ⟨w.heap.size, 0, none⟩), .int .u64 150] 65)).cell? ⟨0, 0, none⟩ = some (.iface 114 (.agg #[.pointer (some ⟨13, 27, none⟩)])) := by
    rw [World.cell?_alloc_lt _ _ ⟨0, 0, none⟩ (by simp <;> omega), World.cell?_alloc_lt _ _ ⟨0, 0, none⟩ hlt]; exact hg
  have hb3 : Below w.heap.size w (((w.alloc (.cells #[.pointer (some t)] 42)).alloc (.cells #[.pointer (some ⟨13, 42, none⟩), .pointer (some ⟨w.heap.size, 0, none⟩), .int .u64 150] 65)).alloc (.cells #[.pointer (some ⟨13, 42, none⟩), .pointer (some ⟨w.heap.size, 0, none⟩), .int .u64 150] 65)) := balloc (balloc (balloc (bnil w) _) _) _
  have HB3 := Lib.hid hb3
  have e0 := (hb3.block _ (Array.getElem?_eq_some_iff.1 h0).1).trans h0
  obtain ⟨_, _, c0⟩ := cell_fault e0
  have e1 := (hb3.block _ (Array.getElem?_eq_some_iff.1 h1).1).trans h1
  obtain ⟨_, _, c1⟩ := cell_fault e1
  clear hb3 e0 h0 e1 h1
  go_enter Tryz.func9, Tryz.ntmps9
  go_wp2
  refine wp_loop_rounds 3 ?_
  rw [rounds_succ]
  go_wp2
  rw [rounds_succ]
  go_wp2
  rw [rounds_succ]
  go_wp2
  go_ret
  exact ⟨rfl, HB3.out⟩
end Go.Proofs.YtiglilecmieelaaGreatDoor
