/- Package forms: behind, check, Power. -/
import Derived.Test.YtnmegpplfbkpcaaDoorFpwB
import Derived.Test.YtnmegpplfbkpcaaDoorUnder
namespace Go.Proofs.YtnmegpplfbkpcaaDoor
open Go.RowKit
set_option linter.unusedVariables false
set_option maxRecDepth 100000

set_option maxHeartbeats 8000000 in
theorem fbehind (k ra rb : Nat) (aa ab : Option Addr) (Ta ca Tb cb : Nat) (ta tb : List Int) (W : World) (hA : RK .i64 W aa Ta ta) (hB : RK .i64 W ab Tb tb) (iA : IsRule k ra ta) (iB : IsRule k rb tb) (h3 : ra + rb ≤ 3) :
    Calls Tryd.prog 25 #[ruleV k ra aa Ta ca, ruleV k rb ab Tb cb] W fun e w' => ∃ aT, e = .returned (ruleV k ((ra + rb : Nat) : Int) (some ⟨aT, 0, none⟩) (k ^ (2 * (ra + rb) + 1)) (k ^ (2 * (ra + rb) + 1))) ∧ RK .i64 w' (some ⟨aT, 0, none⟩) (k ^ (2 * (ra + rb) + 1)) (madeT k (2 * (ra + rb) + 1) (behF k rb ta tb)) ∧ W.heap.size ≤ aT ∧ Below W.heap.size W w' := by
  have k1 := iA.k1
  have k4 := iA.k4
  obtain ⟨w0, hw0⟩ : ∃ w0, ((W.alloc (.cells #[.int .i64 k, .int .i64 ra, .slice aa Ta ca] 24)).alloc (.cells #[.int .i64 k, .int .i64 rb, .slice ab Tb cb] 24)).alloc (.cells #[.int .i64 0, .int .i64 0, .slice none 0 0] 24) = w0 := ⟨_, rfl⟩
  have HSZ : Hid (w0.heap.size = W.heap.size + 3) := by show _ = _; rw [← hw0]; simp
  have hza : w0.heap[W.heap.size]? = some (.cells #[.int .i64 k, .int .i64 ra, .slice aa Ta ca] 24) := by
    rw [← hw0, heap_alloc_old _ _ (by simp; omega), heap_alloc_old _ _ (by simp)]
    exact heap_alloc_new W _
  have hzb : w0.heap[W.heap.size + 1]? = some (.cells #[.int .i64 k, .int .i64 rb, .slice ab Tb cb] 24) := by
    rw [← hw0, heap_alloc_old _ _ (by simp)]
    have h := heap_alloc_new (W.alloc (.cells #[.int .i64 k, .int .i64 ra, .slice aa Ta ca] 24)) (.cells #[.int .i64 k, .int .i64 rb, .slice ab Tb cb] 24)
    simpa using h
  have hzy : w0.heap[W.heap.size + 1 + 1]? = some (.cells #[.int .i64 0, .int .i64 0, .slice none 0 0] 24) := by
    rw [← hw0]
    have h := heap_alloc_new ((W.alloc (.cells #[.int .i64 k, .int .i64 ra, .slice aa Ta ca] 24)).alloc (.cells #[.int .i64 k, .int .i64 rb, .slice ab Tb cb] 24)) (.cells #[.int .i64 0, .int .i64 0, .slice none 0 0] 24)
    simpa using h
  have HBX : Hid (Below W.heap.size W w0) := by show Below _ _ _; rw [← hw0]; exact balloc (balloc (balloc (bnil W) _) _) _
  have HTW := Lib.hid (behind1_tells k ra rb W.heap.size (W.heap.size + 1) aa ab Ta ca Tb cb ta tb w0 (hA.up HBX.out) (hB.up HBX.out) iA iB h3 hza hzb)
  have HEN : Hid (∀ args w, (callFunc 63 args).run Tryd.prog w = .ok (.enter 63 args) w) := fun args w => rfl
  have HMD := Lib.hid (made_ok k (ra + rb) 63 _ _ w0 k1 k4 h3 HEN.out HTW.out)
  have HZY := Lib.hid hzy
  obtain ⟨⟨x0, x1, x2⟩, _⟩ := cells3P hza
  obtain ⟨⟨y0, y1, y2⟩, _⟩ := cells3P hzb
  rw [← hw0] at x0 x1 x2 y0 y1 y2
  have HWB := Lib.hid hw0
  have e1 : IntKind.i64.wrap ((ra : Int) + (rb : Int)) = ((ra + rb : Nat) : Int) := by rw [IntWalk.i64_in _ (by omega)]; omega
  have hmf : ∀ (fn : Fn) (first cap : Array Value) (w : World), (Instr.makeFunc fn first cap).run Tryd.prog w = .ok (.func fn first cap) w := fun _ _ _ _ => rfl
  clear hA hB hza hzb hzy hw0 iA iB
  obtain ⟨S, hS⟩ : ∃ S, ra + rb = S := ⟨_, rfl⟩
  rw [hS] at HMD e1 ⊢
  clear hS
  obtain ⟨m, hm⟩ : ∃ m, 2 * S + 1 = m := ⟨_, rfl⟩
  rw [hm] at HMD ⊢
  obtain ⟨N, hN⟩ : ∃ N, k ^ m = N := ⟨_, rfl⟩
  rw [hN] at HMD ⊢
  clear hm hN
  go_enter Tryd.func25, Tryd.ntmps25
  go_wp2_with fail
  rw [HWB.out]
  refine HMD.out.mono ?_; rintro e w1 ⟨aT, rfl, hT, hla, hb⟩
  have hy := (hb.block _ (heap_ltP HZY.out)).trans HZY.out
  obtain ⟨⟨p0, p1, p2⟩, f3, f4, f5⟩ := cells3P hy
  obtain ⟨w9, e9, hk, hs, hbl, hz⟩ := set3P hy (.int .i64 k) (.int .i64 (S : Nat)) (.slice (some ⟨aT, 0, none⟩) N N)
  obtain ⟨⟨r0, r1, r2⟩, _⟩ := cells3P hz
  have HRK := Lib.hid (rk_heapP hT hk hs (by have := HSZ.out; omega))
  have HBE := Lib.hid (hbl W W.heap.size (by omega) (bstep HBX.out hb))
  have HLA : Hid (W.heap.size ≤ aT) := by show _ ≤ _; have := HSZ.out; omega
  have HE9 := Lib.hid e9
  have HRR := Lib.hid (And.intro r0 (And.intro r1 r2))
  clear e9 hk hs hbl hz r0 r1 r2 hy hT hla hb x0 x1 x2 y0 y1 y2
  go_wp2
  rw [HE9.out]
  have r0 := HRR.out.1
  have r1 := HRR.out.2.1
  have r2 := HRR.out.2.2
  refine bodyPost_ret (v := ruleV k S (some ⟨aT, 0, none⟩) N N) (by simp [ruleV, results, Tryd.results25, go_sem, r0, r1, r2]) rfl ?_
  exact ⟨aT, rfl, HRK.out, HLA.out, HBE.out⟩

set_option maxHeartbeats 2000000 in
theorem fcheck_ok (k r : Nat) (at_ : Int) (a : Option Addr) (n c : Nat) (l : List Int) (W : World) (hR : RK .i64 W a n l) (h : IsRule k r l) :
    Calls Tryd.prog 21 #[.int .i64 at_, ruleV k r a n c] W fun e w' => e = .returned .nilIface ∧ Below W.heap.size W w' := by
  obtain ⟨Wb, hWb⟩ : ∃ Wb, W.alloc (.cells #[.int .i64 k, .int .i64 r, .slice a n c] 24) = Wb := ⟨_, rfl⟩
  have hz : Wb.heap[W.heap.size]? = some (.cells #[.int .i64 k, .int .i64 r, .slice a n c] 24) := by rw [← hWb]; exact heap_alloc_new W _
  have HBX : Hid (Below W.heap.size W Wb) := by rw [← hWb]; exact balloc (bnil W) _
  obtain ⟨⟨x0, x1, x2⟩, _⟩ := cells3P hz
  rw [← hWb] at x0 x1 x2
  have HR := Lib.hid (hR.up HBX.out)
  have HI := Lib.hid h
  have HWB := Lib.hid hWb
  clear hz hWb hR h
  go_enter Tryd.func21, Tryd.ntmps21
  go_wp2_with fail
  rw [HWB.out]
  refine (rcheck_ok k r a n c l Wb HR.out HI.out).mono ?_; rintro e w1 ⟨rfl, hb⟩
  have HB1 := Lib.hid (bstep HBX.out hb)
  clear hb
  clear x0 x1 x2
  go_wp2_with fail
  refine (undr_nil _ _ _).mono ?_; rintro e w' ⟨rfl, rfl⟩
  go_wp2
  go_ret
  exact ⟨rfl, HB1.out⟩
set_option maxHeartbeats 2000000 in
theorem fcheck_err (k r at_ : Int) (a : Option Addr) (n c : Nat) (l : List Int) (W : World) (R : Nat → Addr) (hG : Glob W R) (hR : RK .i64 W a n l) (hm : n ≤ maxLen) (x : Int) (h : ruleErr k r l = some x) :
    Calls Tryd.prog 21 #[.int .i64 at_, ruleV k r a n c] W fun e w' => ∃ t p, e = .returned (.iface t p) ∧ Below W.heap.size W w' := by
  obtain ⟨Wb, hWb⟩ : ∃ Wb, W.alloc (.cells #[.int .i64 k, .int .i64 r, .slice a n c] 24) = Wb := ⟨_, rfl⟩
  have hz : Wb.heap[W.heap.size]? = some (.cells #[.int .i64 k, .int .i64 r, .slice a n c] 24) := by rw [← hWb]; exact heap_alloc_new W _
  have HBX : Hid (Below W.heap.size W Wb) := by rw [← hWb]; exact balloc (bnil W) _
  obtain ⟨⟨x0, x1, x2⟩, _⟩ := cells3P hz
  rw [← hWb] at x0 x1 x2
  have HR := Lib.hid (hR.up HBX.out)
  have HG := Lib.hid (hG.up HBX.out)
  have HI := Lib.hid h
  have HWB := Lib.hid hWb
  clear hz hWb hR h hG
  go_enter Tryd.func21, Tryd.ntmps21
  go_wp2_with fail
  rw [HWB.out]
  refine (rcheck_err k r a n c l Wb R HG.out HR.out hm x HI.out).mono ?_; rintro e w1 ⟨g, rfl, he, hb⟩
  have HB1 := Lib.hid (bstep HBX.out hb)
  clear x0 x1 x2 he hb
  go_wp2_with fail
  refine (undr_some _ _ _ _ _).mono ?_; rintro e w' ⟨rfl, rfl⟩
  go_wp2
  go_ret
  exact ⟨_, _, rfl, balloc HB1.out _⟩
end Go.Proofs.YtnmegpplfbkpcaaDoor
