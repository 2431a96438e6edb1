/- edenref16.Check; errors of the document as results. -/
import Derived.Test.YteneiianpghalaaDoorR16A
import Derived.Test.YteneiianpghalaaDoorErrH
namespace Go.Proofs.YteneiianpghalaaDoor
open Go.RowKit
set_option linter.unusedVariables false
set_option maxRecDepth 100000

theorem set3q {w : World} {g : Nat} {x0 x1 x2 : Value} {t : TypeId} {fr : Nat × Nat} (h : w.heap[g]? = some (.cells #[x0, x1, x2] t fr)) (u0 u1 u2 : Value) :
    ∃ w6, (((w.setCell ⟨g, 0, none⟩ u0).setCell ⟨g, 1, none⟩ u1).setCell ⟨g, 2, none⟩ u2) = w6 ∧ (w6.cell? ⟨g, 0, none⟩ = some u0 ∧ w6.cell? ⟨g, 1, none⟩ = some u1 ∧ w6.cell? ⟨g, 2, none⟩ = some u2) ∧ (∀ k, k ≠ g → w6.heap[k]? = w.heap[k]?) ∧ w6.heap.size = w.heap.size ∧ (∀ (V : World) (B : Nat), B ≤ g → Below B V w → Below B V w6) ∧ w6.heap[g]? = some (.cells #[u0, u1, u2] t fr) := by
  refine ⟨_, rfl, ?_, fun k hk => ?_, ?_, fun V B hB hb => ?_, ?_⟩
  · simp [World.cell?, World.setCell, Array.getElem?_modify, h]
  · rw [Below.heap_setCell _ _ _ _ hk, Below.heap_setCell _ _ _ _ hk, Below.heap_setCell _ _ _ _ hk]
  · simp [World.setCell]
  · exact ((hb.setCell (p := ⟨g, 0, none⟩) hB _).setCell (p := ⟨g, 1, none⟩) hB _).setCell (p := ⟨g, 2, none⟩) hB _
  · simp [World.setCell, Array.getElem?_modify, h]
theorem cellsq {w : World} {g : Nat} {x0 x1 x2 : Value} {t : TypeId} (h : w.heap[g]? = some (.cells #[x0, x1, x2] t)) : (w.cell? ⟨g, 0, none⟩ = some x0 ∧ w.cell? ⟨g, 1, none⟩ = some x1 ∧ w.cell? ⟨g, 2, none⟩ = some x2) ∧ w.frozen? ⟨g, 0, none⟩ = false ∧ w.frozen? ⟨g, 1, none⟩ = false ∧ w.frozen? ⟨g, 2, none⟩ = false := by
  simp [World.cell?, World.frozen?, h]
theorem refBadq (n : Int) (x y : Value) (W : World) (b : Bool) (h : (n != 0) = b) : Calls Tryd.prog 76 #[.agg #[.int .i64 n, x, y]] W fun e W' => e = .returned (.bool b) ∧ Below W.heap.size W W' := by
  subst h
  go_enter Tryd.func76, Tryd.ntmps76
  go_wp2
  go_ret
  exact ⟨rfl, balloc (bnil W) _⟩
theorem rawNewq (op : ByteArray) (at_ N : Int) (W : World) (hN : (N == 0) = false) : Calls Tryd.prog 82 #[.string op, .int .i64 at_, .int .i64 N] W (RefRet W (some ([(op, at_)], N))) := by
  refine (rawNew_fresh op at_ N W hN).mono ?_
  rintro e w' ⟨b1, b2, rfl, l1, l2, hw, hb⟩
  exact ⟨N, _, 1, 1, _, 1, 1, rfl, wc_want hw, fr_some l1, fr_some l2, by simpa using hN, nofun, hb⟩
theorem refUnderq (op : ByteArray) (at_ : Int) (N : Int) (a1 a2 : Option Addr) (n1 c1 n2 c2 : Nat) (x : ErrD) (W : World) (hw : WC W (.agg #[.int .i64 N, .slice a1 n1 c1, .slice a2 n2 c2]) x) (h0 : x = none → N = 0 ∧ a1 = none ∧ n1 = 0 ∧ c1 = 0 ∧ a2 = none ∧ n2 = 0 ∧ c2 = 0) (hx : ∀ es n, x = some (es, n) → 0 < es.length ∧ es.length < 1000) :
    Calls Tryd.prog 92 #[.string op, .int .i64 at_, .agg #[.int .i64 N, .slice a1 n1 c1, .slice a2 n2 c2]] W (RefRet W (x.map fun y => ((op, at_) :: y.1, y.2))) := by
  cases x with
  | none =>
    obtain ⟨rfl, rfl, rfl, rfl, rfl, rfl, rfl⟩ := h0 rfl
    exact refUnder_none op at_ W
  | some y =>
    obtain ⟨es, n⟩ := y
    have hl := hx es n rfl
    have hN : N = n := by
      obtain ⟨⟨ao, aa, co, ca, e, _⟩, _⟩ := hw
      simp only [Value.agg.injEq, Array.mk.injEq, List.cons.injEq, Value.int.injEq] at e
      exact e.1.2
    subst hN
    exact refUnder_some op at_ N es a1 a2 n1 c1 n2 c2 W hw hl.2 hl.1

/-- what Check answers -/
def MatErr (n : Nat) (len : Nat → Nat) (f : ErrD) : Prop := (Square n len ∧ f = none) ∨ ∃ x, MatBad n len x ∧ f = some ([(opMat, x.1)], x.2)
theorem matErr_or (n : Nat) (len : Nat → Nat) : ∃ f, MatErr n len f := by
  rcases matBad_or n len with h | ⟨x, h⟩
  · exact ⟨none, .inl ⟨h, rfl⟩⟩
  · exact ⟨_, .inr ⟨x, h, rfl⟩⟩

set_option maxHeartbeats 8000000 in
theorem ref16check (a : Option Addr) (n c : Nat) (len : Nat → Nat) (F : Nat → Nat → List Nat) (W : World) (hM : MsR W a n len F) (hn : n ≤ 96) (f : ErrD) (hf : MatErr n len f) :
    Calls Tryd.prog 47 #[.slice a n c] W (RefRet W f) := by
  obtain ⟨Wb, hWb⟩ : ∃ Wb, W.alloc (.cells #[.int .i64 0, .slice none 0 0, .slice none 0 0] 53) = Wb := ⟨_, rfl⟩
  have hz : Wb.heap[W.heap.size]? = some (.cells #[.int .i64 0, .slice none 0 0, .slice none 0 0] 53) := by rw [← hWb]; exact heap_alloc_new W _
  have HBX : Hid (Below W.heap.size W Wb) := by rw [← hWb]; exact balloc (bnil W) _
  have HZ := Lib.hid hz
  have HSZ : Hid (Wb.heap.size = W.heap.size + 1) := by show _ = _; rw [← hWb]; simp
  have HM := Lib.hid (hM.up HBX.out)
  have HWB := Lib.hid hWb
  clear hM hWb hz
  rcases hf with ⟨hs, rfl⟩ | ⟨x, hx, rfl⟩
  · have HS := Lib.hid hs.2
    clear hs
    go_enter Tryd.func47, Tryd.ntmps47
    go_wp2_with fail
    rw [HWB.out]
    go_loop [3] (fun ix => ∃ i : Nat, i ≤ n ∧ ix = .int .i64 i) (fun ix => n - (intOf ix).toNat)
    case atStart => exact ⟨0, by omega, rfl⟩
    case round =>
      obtain ⟨i, hi, rfl⟩ := hrel
      by_cases hin : i < n
      · obtain ⟨b, o, rfl, _, hc⟩ := HM.out.addr (by omega)
        obtain ⟨a1, c1, x0, _, _, _, _⟩ := hc i hin
        rw [HS.out i hin] at x0
        clear hc
        have i0 : (0 : Int) ≤ (i : Int) := by omega
        have i1 : (i : Int) < (n : Int) := by omega
        go_wp2
        go_round
        case rel => exact ⟨i + 1, by omega, by go_num⟩
        case measure => simp [intOf]; omega
      · obtain rfl : i = n := by omega
        obtain ⟨⟨q0, q1, q2⟩, f0, f1, f2⟩ := cellsq HZ.out
        go_wp2
        obtain ⟨w9, e9, ⟨r0, r1, r2⟩, hk, hs, hbl, _⟩ := set3q HZ.out (.int .i64 0) (.slice none 0 0) (.slice none 0 0)
        rw [e9]
        refine bodyPost_ret (v := .agg #[.int .i64 0, .slice none 0 0, .slice none 0 0]) (by simp [results, Tryd.results47, go_sem, r0, r1, r2]) rfl ?_
        exact ⟨0, none, 0, 0, none, 0, 0, rfl, wc_none w9, fr_none, fr_none, rfl, fun _ => ⟨rfl, rfl, rfl, rfl, rfl, rfl, rfl⟩, hbl W W.heap.size (Nat.le_refl _) HBX.out⟩
  · rcases hx with ⟨h1, _⟩ | ⟨h1, q, hq, hbef, hbad, rfl⟩
    · omega
    · have HBEF := Lib.hid hbef; clear hbef
      go_enter Tryd.func47, Tryd.ntmps47
      go_wp2_with fail
      rw [HWB.out]
      go_loop [3] (fun ix => ∃ i : Nat, i ≤ q ∧ ix = .int .i64 i) (fun ix => n - (intOf ix).toNat)
      case atStart => exact ⟨0, by omega, rfl⟩
      case round =>
        obtain ⟨i, hi, rfl⟩ := hrel
        obtain ⟨b, o, rfl, _, hc⟩ := HM.out.addr (by omega)
        obtain ⟨a1, c1, x0, _, _, _, _⟩ := hc i (by omega)
        clear hc
        have i0 : (0 : Int) ≤ (i : Int) := by omega
        have i1 : (i : Int) < (n : Int) := by omega
        by_cases hiq : i < q
        · rw [HBEF.out i hiq] at x0
          go_wp2
          go_round
          case rel => exact ⟨i + 1, by omega, by go_num⟩
          case measure => simp [intOf]; omega
        · obtain rfl : i = q := by omega
          have hne : ((len i : Int) != (n : Int)) = true := by simp; omega
          clear hbad
          generalize len i = li at *
          go_wp2_with fail
          refine (rawNewq _ _ _ _ rfl).mono ?_; rintro e w8 ⟨N, a3, n3, c3, a4, n4, c4, rfl, hw, f1', f2', hN, h0, hb8⟩
          have hz8 := (hb8.block _ (by have := HSZ.out; omega)).trans HZ.out
          obtain ⟨⟨q0, q1, q2⟩, f0, f1, f2⟩ := cellsq hz8
          obtain ⟨w9, e9, ⟨r0, r1, r2⟩, hk, hs, hbl, _⟩ := set3q hz8 (.int .i64 N) (.slice a3 n3 c3) (.slice a4 n4 c4)
          have HE9 := Lib.hid e9
          have hg1 : Fr (W.heap.size + 1) a3 := f1'.base (by have := HSZ.out; omega)
          have hg2 : Fr (W.heap.size + 1) a4 := f2'.base (by have := HSZ.out; omega)
          have hret : RefRet W (some ([(opMat, (i : Int))], 1)) (.returned (.agg #[.int .i64 N, .slice a3 n3 c3, .slice a4 n4 c4])) w9 := ⟨N, a3, n3, c3, a4, n4, c4, rfl, hw.other hk hs hg1 hg2, hg1.base (by omega), hg2.base (by omega), hN, (fun h => by cases h), hbl W W.heap.size (Nat.le_refl _) (HBX.out.trans (hb8.mono HBX.out.size))⟩
          have HRET := Lib.hid hret
          have HRR := Lib.hid (And.intro r0 (And.intro r1 r2))
          clear e9 hw hret f1' f2' hN h0 hg1 hg2 r0 r1 r2
          go_wp2
          rw [HE9.out]
          have r0 := HRR.out.1
          have r1 := HRR.out.2.1
          have r2 := HRR.out.2.2
          refine bodyPost_ret (v := .agg #[.int .i64 N, .slice a3 n3 c3, .slice a4 n4 c4]) (by simp [results, Tryd.results47, go_sem, r0, r1, r2]) rfl ?_
          exact HRET.out
end Go.Proofs.YteneiianpghalaaDoor
