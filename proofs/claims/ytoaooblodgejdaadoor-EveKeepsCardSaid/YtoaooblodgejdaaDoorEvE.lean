/- eve.Search and eve.Count refuse. -/
import Derived.Test.YtoaooblodgejdaaDoorEvR
namespace Go.Proofs.YtoaooblodgejdaaDoor
open Go.RowKit
set_option linter.unusedVariables false
set_option maxRecDepth 100000

set_option maxHeartbeats 8000000 in
theorem evcount_er (w h : Int) (a aT : Option Addr) (n c nT cT : Nat) (l t : List Int) (W : World) (R : Nat → Addr) (hS : Sent W R) (hR : RK .i64 W a n l) (hm : n ≤ maxLen) (hx : I64 l) (hT : RK .i64 W aT nT t) (hmT : nT ≤ maxLen) (d : List (ByteArray × Int) × Int) (hd : evD t w h l = some d) :
    Calls Tryd.prog 17 #[.slice aT nT cT, patV w h a n c] W fun e w' => ∃ t p, e = .returned (.tuple #[.slice none 0 0, .iface t p]) ∧ EC R w' (.iface t p) (some d) ∧ Below W.heap.size W w' := by
  have T0 := Tk.nil W
  have T1 := T0.add (fun wv => Below W.heap.size W wv) (bnil W)
  clear T0
  have T2 := T1.add (fun wv => Sent wv R) (hS)
  clear T1
  have T3 := T2.add (fun wv => RK .i64 wv a n l) (hR)
  clear T2
  have T4 := T3.add (fun wv => RK .i64 wv aT nT t) (hT)
  clear T3
  have HI6 := Lib.hid hx
  have HED := Lib.hid hd
  clear hS hR hx hT hd
  obtain ⟨Wb, hWb⟩ : ∃ Wb, W.alloc (.cells #[.int .i64 w, .int .i64 h, .slice a n c] 24) = Wb := ⟨_, rfl⟩
  have hbWb : Below W.heap.size W Wb := by rw [← hWb]; exact balloc (bnil W) _
  have T5 := T4.up hbWb
  clear T4
  have T6 := T5.add (fun wv => wv.cell? ⟨W.heap.size, 0, none⟩ = some (.int .i64 w) ∧ wv.cell? ⟨W.heap.size, 1, none⟩ = some (.int .i64 h) ∧ wv.cell? ⟨W.heap.size, 2, none⟩ = some (.slice a n c)) (by rw [← hWb]; exact ⟨cnw (by simp) rfl, cnw (by simp) rfl, cnw (by simp) rfl⟩)
  clear T5
  have HWb := Lib.hid hWb
  clear hWb hbWb
  go_enter Tryd.func17, Tryd.ntmps17
  have v_p0 : (W.alloc (.cells #[.int .i64 w, .int .i64 h, .slice a n c] 24)).cell? ⟨W.heap.size, 0, none⟩ = some (.int .i64 w) := by rw [HWb.out]; exact T6.out.2.1
  have v_p1 : (W.alloc (.cells #[.int .i64 w, .int .i64 h, .slice a n c] 24)).cell? ⟨W.heap.size, 1, none⟩ = some (.int .i64 h) := by rw [HWb.out]; exact T6.out.2.2.1
  have v_p2 : (W.alloc (.cells #[.int .i64 w, .int .i64 h, .slice a n c] 24)).cell? ⟨W.heap.size, 2, none⟩ = some (.slice a n c) := by rw [HWb.out]; exact T6.out.2.2.2
  go_wp2_with fail
  rw [HWb.out]
  refine (evasked_any w h a aT n c nT cT l t Wb R T6.out.1.1.1.2 T6.out.1.1.2 hm HI6.out T6.out.1.2 hmT).mono ?_; rintro e w1 ⟨ev, rfl, he, hbw1⟩
  clear v_p0 v_p1 v_p2
  have T7 := T6.up hbw1
  clear T6
  rw [HED.out] at he
  obtain ⟨es, en⟩ := d
  obtain ⟨t9, p9, rfl⟩ := Chain.iface he
  have HE := Lib.hid he
  clear he
  go_wp2
  refine bodyPost_ret (v := .tuple #[.slice none 0 0, .iface t9 (.pointer (some p9))]) (by simp [results, Tryd.results17, go_sem]) rfl ?_
  exact ⟨t9, _, rfl, HE.out, T7.out.1.1.1.1.2⟩

set_option maxHeartbeats 8000000 in
theorem evsearch_er (w h : Int) (a aT : Option Addr) (n c nT cT : Nat) (l t : List Int) (W : World) (R : Nat → Addr) (hS : Sent W R) (hR : RK .i64 W a n l) (hm : n ≤ maxLen) (hx : I64 l) (hT : RK .i64 W aT nT t) (hmT : nT ≤ maxLen) (d : List (ByteArray × Int) × Int) (hd : evD t w h l = some d) (aL : Option Addr) (nL cL : Nat) :
    Calls Tryd.prog 15 #[.slice aT nT cT, patV w h a n c, .slice aL nL cL] W fun e w' => ∃ t p, e = .returned (.tuple #[fndV 0 0 0 none 0 0 none 0 0, .int .i64 0, .iface t p]) ∧ EC R w' (.iface t p) (some d) ∧ Below W.heap.size W w' := by
  have T0 := Tk.nil W
  have T1 := T0.add (fun wv => Below W.heap.size W wv) (bnil W)
  clear T0
  have T2 := T1.add (fun wv => Sent wv R) (hS)
  clear T1
  have T3 := T2.add (fun wv => RK .i64 wv a n l) (hR)
  clear T2
  have T4 := T3.add (fun wv => RK .i64 wv aT nT t) (hT)
  clear T3
  have HI6 := Lib.hid hx
  have HED := Lib.hid hd
  have HRB : Hid ((R (rix d.2)).block < W.heap.size) := by
    obtain ⟨cb, tb, h⟩ := hS.row (rix d.2) (rix_lt _)
    exact heap_ltT h
  clear hS hR hx hT hd
  obtain ⟨Wb, hWb⟩ : ∃ Wb, (W.alloc (.cells #[.int .i64 w, .int .i64 h, .slice a n c] 24)).alloc (.cells #[.int .i64 0, .int .i64 0, .int .i64 0, .slice none 0 0, .slice none 0 0] 28) = Wb := ⟨_, rfl⟩
  have hbWb : Below W.heap.size W Wb := by rw [← hWb]; exact balloc (balloc (bnil W) _) _
  have T5 := T4.up hbWb
  clear T4
  have T6 := T5.add (fun wv => wv.cell? ⟨W.heap.size, 0, none⟩ = some (.int .i64 w) ∧ wv.cell? ⟨W.heap.size, 1, none⟩ = some (.int .i64 h) ∧ wv.cell? ⟨W.heap.size, 2, none⟩ = some (.slice a n c)) (by rw [← hWb]; exact ⟨al000 (cnw (by simp) rfl), al000 (cnw (by simp) rfl), al000 (cnw (by simp) rfl)⟩)
  clear T5
  have HWb := Lib.hid hWb
  clear hWb hbWb
  have hz : Wb.heap[W.heap.size + 1]? = some (.cells #[.int .i64 0, .int .i64 0, .int .i64 0, .slice none 0 0, .slice none 0 0] 28) := by
    rw [← HWb.out]
    have := heap_alloc_new (W.alloc (.cells #[.int .i64 w, .int .i64 h, .slice a n c] 24)) (.cells #[.int .i64 0, .int .i64 0, .int .i64 0, .slice none 0 0, .slice none 0 0] 28)
    simpa using this
  have T7 := T6.add (fun wv => wv.heap[W.heap.size + 1]? = some (.cells #[.int .i64 0, .int .i64 0, .int .i64 0, .slice none 0 0, .slice none 0 0] 28)) (hz)
  clear T6
  clear hz
  go_enter Tryd.func15, Tryd.ntmps15
  have v_p0 : ((W.alloc (.cells #[.int .i64 w, .int .i64 h, .slice a n c] 24)).alloc (.cells #[.int .i64 0, .int .i64 0, .int .i64 0, .slice none 0 0, .slice none 0 0] 28)).cell? ⟨W.heap.size, 0, none⟩ = some (.int .i64 w) := by rw [HWb.out]; exact T7.out.1.2.1
  have v_p1 : ((W.alloc (.cells #[.int .i64 w, .int .i64 h, .slice a n c] 24)).alloc (.cells #[.int .i64 0, .int .i64 0, .int .i64 0, .slice none 0 0, .slice none 0 0] 28)).cell? ⟨W.heap.size, 1, none⟩ = some (.int .i64 h) := by rw [HWb.out]; exact T7.out.1.2.2.1
  have v_p2 : ((W.alloc (.cells #[.int .i64 w, .int .i64 h, .slice a n c] 24)).alloc (.cells #[.int .i64 0, .int .i64 0, .int .i64 0, .slice none 0 0, .slice none 0 0] 28)).cell? ⟨W.heap.size, 2, none⟩ = some (.slice a n c) := by rw [HWb.out]; exact T7.out.1.2.2.2
  go_wp2_with fail
  rw [HWb.out]
  refine (evasked_any w h a aT n c nT cT l t Wb R T7.out.1.1.1.1.2 T7.out.1.1.1.2 hm HI6.out T7.out.1.1.2 hmT).mono ?_; rintro e w1 ⟨ev, rfl, he, hbw1⟩
  clear v_p0 v_p1 v_p2
  have T8 := T7.up hbw1
  clear T7
  rw [HED.out] at he
  obtain ⟨es, en⟩ := d
  obtain ⟨t9, p9, rfl⟩ := Chain.iface he
  have HE := Lib.hid he
  clear he
  have hzz := T8.out.2
  obtain ⟨⟨z0, z1, z2, z3, z4⟩, zf⟩ := f_cells hzz
  have zf0 := zf 0
  have zf1 := zf 1
  have zf2 := zf 2
  have zf3 := zf 3
  have zf4 := zf 4
  obtain ⟨wA, eA, ⟨r0, r1, r2, r3, r4⟩, hkA, hsA, hbA⟩ := set5f hzz (.int .i64 0) (.int .i64 0) (.int .i64 0) (.slice none 0 0) (.slice none 0 0)
  have HEE : Hid (EC R wA (.iface t9 (.pointer (some p9))) (some (es, en))) := EC.othF HE.out hzz hkA (by have h := HRB.out; intro e; simp only at h; omega)
  have HEA := Lib.hid eA
  have HRA := Lib.hid (And.intro r0 (And.intro r1 (And.intro r2 (And.intro r3 r4))))
  have HBA := Lib.hid (hbA W W.heap.size (by omega) (T8.out.1.1.1.1.1.2))
  clear zf hzz r0 r1 r2 r3 r4 hkA hsA hbA eA
  go_wp2
  rw [HEA.out]
  have r0 := HRA.out.1
  have r1 := HRA.out.2.1
  have r2 := HRA.out.2.2.1
  have r3 := HRA.out.2.2.2.1
  have r4 := HRA.out.2.2.2.2
  refine bodyPost_ret (v := .tuple #[fndV 0 0 0 none 0 0 none 0 0, .int .i64 0, .iface t9 (.pointer (some p9))]) (by simp [results, Tryd.results15, go_sem, r0, r1, r2, r3, r4]) rfl ?_
  exact ⟨t9, _, rfl, HEE.out, HBA.out⟩
end Go.Proofs.YtoaooblodgejdaaDoor
