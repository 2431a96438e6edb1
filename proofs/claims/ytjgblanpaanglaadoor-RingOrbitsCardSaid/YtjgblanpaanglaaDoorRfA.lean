/- The contract of edenref06.Fault for all arguments; ends of functions that return an error as plain data. -/
import Derived.Test.YtjgblanpaanglaaDoorRuleR
import Derived.Test.YtjgblanpaanglaaDoorErrH
import Derived.Test.YtjgblanpaanglaaDoorRngD
import Derived.Deep.QuietTactic
import Derived.BigQuiet
namespace Go.Proofs.YtjgblanpaanglaaDoor
open Go.RowKit
set_option linter.unusedVariables false
set_option maxRecDepth 100000

theorem set3p {w : World} {g : Nat} {x0 x1 x2 : Value} {t : TypeId} {fr : Nat × Nat} (h : w.heap[g]? = some (.cells #[x0, x1, x2] t fr)) (u0 u1 u2 : Value) :
    ∃ w6, (((w.setCell ⟨g, 0, none⟩ u0).setCell ⟨g, 1, none⟩ u1).setCell ⟨g, 2, none⟩ u2) = w6 ∧ (w6.cell? ⟨g, 0, none⟩ = some u0 ∧ w6.cell? ⟨g, 1, none⟩ = some u1 ∧ w6.cell? ⟨g, 2, none⟩ = some u2) ∧ (∀ k, k ≠ g → w6.heap[k]? = w.heap[k]?) ∧ w6.heap.size = w.heap.size ∧ ∀ (V : World) (B : Nat), B ≤ g → Below B V w → Below B V w6 := by
  refine ⟨_, rfl, ?_, fun k hk => ?_, ?_, fun V B hB hb => ?_⟩
  · simp [World.cell?, World.setCell, Array.getElem?_modify, h]
  · rw [Below.heap_setCell _ _ _ _ hk, Below.heap_setCell _ _ _ _ hk, Below.heap_setCell _ _ _ _ hk]
  · simp [World.setCell]
  · exact ((hb.setCell (p := ⟨g, 0, none⟩) hB _).setCell (p := ⟨g, 1, none⟩) hB _).setCell (p := ⟨g, 2, none⟩) hB _
theorem p_cells {w : World} {g : Nat} {x0 x1 x2 : Value} {t : TypeId} (h : w.heap[g]? = some (.cells #[x0, x1, x2] t)) : (w.cell? ⟨g, 0, none⟩ = some x0 ∧ w.cell? ⟨g, 1, none⟩ = some x1 ∧ w.cell? ⟨g, 2, none⟩ = some x2) ∧ w.frozen? ⟨g, 0, none⟩ = false ∧ w.frozen? ⟨g, 1, none⟩ = false ∧ w.frozen? ⟨g, 2, none⟩ = false := by
  simp [World.cell?, World.frozen?, h]
theorem refBadE (n : Int) (x y : Value) (W : World) (b : Bool) (h : (n != 0) = b) : Calls Tryd.prog 46 #[.agg #[.int .i64 n, x, y]] W fun e W' => e = .returned (.bool b) ∧ Below W.heap.size W W' := by
  subst h
  go_enter Tryd.func46, Tryd.ntmps46
  go_wp2
  go_ret
  exact ⟨rfl, balloc (bnil W) _⟩
instance monoWC {x : Value} {f : ErrD} : Mono (fun w => WC w x f) := ⟨⟨fun hb h => h.up hb⟩⟩
instance monoBoxR {g : Nat} {o : Obj} : Mono (fun w => w.heap[g]? = some o) := ⟨⟨fun hb h => (hb.block g (heap_ltT h)).trans h⟩⟩
/-- the result's error is set -/
theorem er_setR {W w8 : World} {B : Nat} {N : Int} {a1 a2 : Option Addr} {n1 c1 n2 c2 : Nat} {x : ErrD} {x0 x1 x2 : Value} (hB : W.heap.size ≤ B) (hz : w8.heap[B]? = some (.cells #[x0, x1, x2] 43)) (hb : Below W.heap.size W w8) (f1 : Fr (B + 1) a1) (f2 : Fr (B + 1) a2)
    (hw : WC w8 (.agg #[.int .i64 N, .slice a1 n1 c1, .slice a2 n2 c2]) x) :
    ∃ w9, (((w8.setCell ⟨B, 0, none⟩ (.int .i64 N)).setCell ⟨B, 1, none⟩ (.slice a1 n1 c1)).setCell ⟨B, 2, none⟩ (.slice a2 n2 c2)) = w9 ∧
      (w9.cell? ⟨B, 0, none⟩ = some (.int .i64 N) ∧ w9.cell? ⟨B, 1, none⟩ = some (.slice a1 n1 c1) ∧ w9.cell? ⟨B, 2, none⟩ = some (.slice a2 n2 c2)) ∧
      (∀ k, k ≠ B → w9.heap[k]? = w8.heap[k]?) ∧ w9.heap.size = w8.heap.size ∧ WC w9 (.agg #[.int .i64 N, .slice a1 n1 c1, .slice a2 n2 c2]) x ∧ Below W.heap.size W w9 := by
  obtain ⟨w9, e9, hc, hk, hs, hbl⟩ := set3p hz (.int .i64 N) (.slice a1 n1 c1) (.slice a2 n2 c2)
  exact ⟨w9, e9, hc, hk, hs, hw.other hk hs f1 f2, hbl W W.heap.size hB hb⟩
theorem rawNew_ret (op : ByteArray) (at_ N : Int) (W : World) (hN : (N == 0) = false) : Calls Tryd.prog 47 #[.string op, .int .i64 at_, .int .i64 N] W (RefRet W (some ([(op, at_)], N))) := by
  refine (rawNew_fresh op at_ N W hN).mono ?_
  rintro e w' ⟨b1, b2, rfl, l1, l2, hw, hb⟩
  exact ⟨N, _, 1, 1, _, 1, 1, rfl, wc_want hw, fr_some l1, fr_some l2, by simpa using hN, nofun, hb⟩
theorem refBad_b (k : Int) (a : Option Addr) (n c : Nat) (l : List Int) (i : Int) (W : World) (hR : RK .i64 W a n l) (hm : n ≤ maxLen) (hi : idxI (badB k) l = i) :
    Calls Tryd.prog 69 #[.int .i64 k, .slice a n c] W fun e w' => e = .returned (.int .i64 i) ∧ Below W.heap.size W w' := by
  subst hi
  refine (refBad_any k a n c l W hR hm).mono ?_
  rintro e w' ⟨rfl, rfl⟩
  exact ⟨rfl, bnil _⟩
theorem refUnder_any (op : ByteArray) (at_ : Int) (N : Int) (a1 a2 : Option Addr) (n1 c1 n2 c2 : Nat) (x : ErrD) (W : World) (hw : WC W (.agg #[.int .i64 N, .slice a1 n1 c1, .slice a2 n2 c2]) x) (h0 : x = none → N = 0 ∧ a1 = none ∧ n1 = 0 ∧ c1 = 0 ∧ a2 = none ∧ n2 = 0 ∧ c2 = 0) (hx : ∀ es n, x = some (es, n) → 0 < es.length ∧ es.length < 1000) :
    Calls Tryd.prog 67 #[.string op, .int .i64 at_, .agg #[.int .i64 N, .slice a1 n1 c1, .slice a2 n2 c2]] W (RefRet W (x.map fun y => ((op, at_) :: y.1, y.2))) := by
  cases x with
  | none =>
    obtain ⟨rfl, rfl, rfl, rfl, rfl, rfl, rfl⟩ := h0 rfl
    exact refUnder_none op at_ W
  | some y =>
    obtain ⟨es, n⟩ := y
    have hl := hx es n rfl
    have hN : N = n := by
      obtain ⟨⟨ao, aa, co, ca, e, _⟩, _⟩ := hw
      simp only [Value.agg.injEq, Array.mk.injEq, List.cons.injEq, Value.int.injEq] at e
      exact e.1.2
    subst hN
    exact refUnder_some op at_ N es a1 a2 n1 c1 n2 c2 W hw hl.2 hl.1

set_option maxHeartbeats 8000000 in
theorem reffault_any (k r : Int) (a : Option Addr) (n c : Nat) (l : List Int) (aw : Option Addr) (nw cw : Nat) (wl : List Int) (W : World) (hR : RK .i64 W a n l) (hm : n ≤ maxLen) (hW : RK .i64 W aw nw wl) (hmw : nw ≤ maxLen) :
    Calls Tryd.prog 45 #[ruleV k r a n c, .slice aw nw cw] W (RefRet W (ringD k r l wl)) := by
  have HNL := Lib.hid hW.len
  have hmw' : nw ≤ 9223372036854775807 := hmw
  have T0 := Tk.nil W
  have T1 := T0.add (fun wv => Below W.heap.size W wv) (bnil W)
  clear T0
  have T2 := T1.add (fun wv => RK .i64 wv a n l) (hR)
  clear T1
  have T3 := T2.add (fun wv => RK .i64 wv aw nw wl) (hW)
  clear T2
  clear hR hW
  obtain ⟨Wb, hWb⟩ : ∃ Wb, (W.alloc (.cells #[.int .i64 k, .int .i64 r, .slice a n c] 24)).alloc (.cells #[.int .i64 0, .slice none 0 0, .slice none 0 0] 43) = Wb := ⟨_, rfl⟩
  have hbWb : Below W.heap.size W Wb := by rw [← hWb]; exact balloc (balloc (bnil W) _) _
  have T4 := T3.up hbWb
  clear T3
  have T5 := T4.add (fun wv => wv.cell? ⟨W.heap.size, 0, none⟩ = some (.int .i64 k) ∧ wv.cell? ⟨W.heap.size, 1, none⟩ = some (.int .i64 r) ∧ wv.cell? ⟨W.heap.size, 2, none⟩ = some (.slice a n c)) (by rw [← hWb]; exact ⟨al000 (cnw (by simp) rfl), al000 (cnw (by simp) rfl), al000 (cnw (by simp) rfl)⟩)
  clear T4
  have HWb := Lib.hid hWb
  clear hWb hbWb
  have hz : Wb.heap[W.heap.size + 1]? = some (.cells #[.int .i64 0, .slice none 0 0, .slice none 0 0] 43) := by
    rw [← HWb.out]
    have := heap_alloc_new (W.alloc (.cells #[.int .i64 k, .int .i64 r, .slice a n c] 24)) (.cells #[.int .i64 0, .slice none 0 0, .slice none 0 0] 43)
    simpa using this
  have hsz : W.heap.size + 1 + 1 = Wb.heap.size := by rw [← HWb.out]; simp
  have T6 := T5.add (fun wv => wv.heap[W.heap.size + 1]? = some (.cells #[.int .i64 0, .slice none 0 0, .slice none 0 0] 43)) (hz)
  clear T5
  have HSZ := Lib.hid hsz
  clear hz hsz
  go_enter Tryd.func45, Tryd.ntmps45
  have v_p0 : ((W.alloc (.cells #[.int .i64 k, .int .i64 r, .slice a n c] 24)).alloc (.cells #[.int .i64 0, .slice none 0 0, .slice none 0 0] 43)).cell? ⟨W.heap.size, 0, none⟩ = some (.int .i64 k) := by rw [HWb.out]; exact T6.out.1.2.1
  have v_p1 : ((W.alloc (.cells #[.int .i64 k, .int .i64 r, .slice a n c] 24)).alloc (.cells #[.int .i64 0, .slice none 0 0, .slice none 0 0] 43)).cell? ⟨W.heap.size, 1, none⟩ = some (.int .i64 r) := by rw [HWb.out]; exact T6.out.1.2.2.1
  have v_p2 : ((W.alloc (.cells #[.int .i64 k, .int .i64 r, .slice a n c] 24)).alloc (.cells #[.int .i64 0, .slice none 0 0, .slice none 0 0] 43)).cell? ⟨W.heap.size, 2, none⟩ = some (.slice a n c) := by rw [HWb.out]; exact T6.out.1.2.2.2
  go_wp2_with fail
  rw [HWb.out]
  refine (refRule_any k r a n c l Wb T6.out.1.1.1.2 hm).mono ?_; rintro e w1 ⟨N0, a3, n3, c3, a4, n4, c4, rfl, hw0, _, _, _, h00, hbw1⟩
  clear v_p0 v_p1 v_p2
  have T7 := T6.up hbw1
  clear T6
  have HW0 := Lib.hid hw0
  have H00 := Lib.hid h00
  clear hw0 h00
  go_wp2_with fail
  refine (refUnder_any _ 0 N0 a3 a4 n3 c3 n4 c4 (ruleD k r l) w1 HW0.out H00.out (fun es n h => by unfold ruleD at h; cases hq : ruleErr k r l with | none => (rw [hq] at h; cases h) | some z => (rw [hq] at h; cases h; exact ⟨by simp, by simp⟩))).mono ?_; rintro e w2 ⟨N, a1, n1, c1, a2, n2, c2, rfl, hw, f1, f2, hN, h0, hbw2⟩
  have T8 := T7.up hbw2
  clear T7
  have hs12 := hbw1.size
  have hs2 := hbw2.size
  have T9 := T8.add (fun wv => WC wv (.agg #[.int .i64 N, .slice a1 n1 c1, .slice a2 n2 c2]) ((ruleD k r l).map fun y => ((⟨#[114, 105, 110, 103]⟩, 0) :: y.1, y.2))) (hw)
  clear T8
  have HF : Hid (Fr (W.heap.size + 1 + 1) a1 ∧ Fr (W.heap.size + 1 + 1) a2) := ⟨f1.base (by rw [HSZ.out]; exact hs12), f2.base (by rw [HSZ.out]; exact hs12)⟩
  have H0 := Lib.hid h0
  have hN1 := hN
  clear hw f1 f2 hN h0
  obtain ⟨we, hwe⟩ : ∃ we, w2.alloc (.cells #[.int .i64 N, .slice a1 n1 c1, .slice a2 n2 c2] 43) = we := ⟨_, rfl⟩
  have hbwe : Below w2.heap.size w2 we := by rw [← hwe]; exact balloc (bnil w2) _
  have T10 := T9.up hbwe
  clear T9
  have T11 := T10.add (fun wv => wv.cell? ⟨w2.heap.size, 0, none⟩ = some (.int .i64 N) ∧ wv.cell? ⟨w2.heap.size, 1, none⟩ = some (.slice a1 n1 c1) ∧ wv.cell? ⟨w2.heap.size, 2, none⟩ = some (.slice a2 n2 c2)) (by rw [← hwe]; exact ⟨cnw (by simp) rfl, cnw (by simp) rfl, cnw (by simp) rfl⟩)
  clear T10
  have Hwe := Lib.hid hwe
  clear hwe hbwe
  cases he : ruleErr k r l with
  | some at_ =>
    have hd : ringD k r l wl = some ([(opRing, 0), (opRule, at_)], 1) := by unfold ringD; rw [he]
    have HD := Lib.hid hd
    have hr : ruleD k r l = some ([(opRule, at_)], 1) := by unfold ruleD; rw [he]; rfl
    have hnt : (N != 0) = true := by rw [hN1, hr]; rfl
    have HHR := Lib.hid hr
    clear hd hr he hN1
    have v_e0 : (w2.alloc (.cells #[.int .i64 N, .slice a1 n1 c1, .slice a2 n2 c2] 43)).cell? ⟨w2.heap.size, 0, none⟩ = some (.int .i64 N) := by rw [Hwe.out]; exact T11.out.2.1
    have v_e1 : (w2.alloc (.cells #[.int .i64 N, .slice a1 n1 c1, .slice a2 n2 c2] 43)).cell? ⟨w2.heap.size, 1, none⟩ = some (.slice a1 n1 c1) := by rw [Hwe.out]; exact T11.out.2.2.1
    have v_e2 : (w2.alloc (.cells #[.int .i64 N, .slice a1 n1 c1, .slice a2 n2 c2] 43)).cell? ⟨w2.heap.size, 2, none⟩ = some (.slice a2 n2 c2) := by rw [Hwe.out]; exact T11.out.2.2.2
    go_wp2_with fail
    rw [Hwe.out]
    refine (refBadE _ _ _ we true hnt).mono ?_; rintro e w3 ⟨rfl, hbw3⟩
    clear v_e0 v_e1 v_e2
    have T12 := T11.up hbw3
    clear T11
    have v_e0 : w3.cell? ⟨w2.heap.size, 0, none⟩ = some (.int .i64 N) := T12.out.2.1
    have v_e1 : w3.cell? ⟨w2.heap.size, 1, none⟩ = some (.slice a1 n1 c1) := T12.out.2.2.1
    have v_e2 : w3.cell? ⟨w2.heap.size, 2, none⟩ = some (.slice a2 n2 c2) := T12.out.2.2.2
    have hwc3 := T12.out.1.2
    rw [HHR.out] at hwc3
    have HWC3 := Lib.hid hwc3
    clear hwc3
    obtain ⟨⟨q0, q1, q2⟩, f0, f1', f2'⟩ := p_cells (T12.out.1.1.2)
    obtain ⟨w9, e9, ⟨r0, r1, r2⟩, _, _, hwc, hbl⟩ := er_setR (show W.heap.size ≤ W.heap.size + 1 by omega) (T12.out.1.1.2) (T12.out.1.1.1.1.1.1.2) HF.out.1 HF.out.2 (HWC3.out)
    have HE9 := Lib.hid e9
    have HR9 := Lib.hid (And.intro r0 (And.intro r1 r2))
    have HRET := Lib.hid (And.intro hwc hbl)
    clear hwc hbl e9 r0 r1 r2

    go_wp2
    rw [HE9.out]
    have r0 := HR9.out.1
    have r1 := HR9.out.2.1
    have r2 := HR9.out.2.2
    refine bodyPost_ret (v := .agg #[.int .i64 N, .slice a1 n1 c1, .slice a2 n2 c2]) (by simp [results, Tryd.results45, go_sem, r0, r1, r2]) rfl ?_
    rw [HD.out]
    exact ⟨_, _, _, _, _, _, _, rfl, HRET.out.1, HF.out.1.base (by omega), HF.out.2.base (by omega), hnt, nofun, HRET.out.2⟩
  | none =>
    have hd0 : ringD k r l wl = (ringE k wl).map fun x => ([(opRing, x.1)], x.2) := by unfold ringD; rw [he]
    have hr : ruleD k r l = none := by unfold ruleD; rw [he]; rfl
    have hnt : (N != 0) = false := by rw [hN1, hr]; rfl
    clear hr he hN1
    have HD0 := Lib.hid hd0
    clear hd0
    have v_e0 : (w2.alloc (.cells #[.int .i64 N, .slice a1 n1 c1, .slice a2 n2 c2] 43)).cell? ⟨w2.heap.size, 0, none⟩ = some (.int .i64 N) := by rw [Hwe.out]; exact T11.out.2.1
    have v_e1 : (w2.alloc (.cells #[.int .i64 N, .slice a1 n1 c1, .slice a2 n2 c2] 43)).cell? ⟨w2.heap.size, 1, none⟩ = some (.slice a1 n1 c1) := by rw [Hwe.out]; exact T11.out.2.2.1
    have v_e2 : (w2.alloc (.cells #[.int .i64 N, .slice a1 n1 c1, .slice a2 n2 c2] 43)).cell? ⟨w2.heap.size, 2, none⟩ = some (.slice a2 n2 c2) := by rw [Hwe.out]; exact T11.out.2.2.2
    go_wp2_with fail
    rw [Hwe.out]
    refine (refBadE _ _ _ we false hnt).mono ?_; rintro e w3 ⟨rfl, hbw3⟩
    clear v_e0 v_e1 v_e2
    have T12 := T11.up hbw3
    clear T11
    by_cases c0 : nw = 0
    · skip
      subst c0
      have hd : ringD k r l wl = some ([(opRing, 0)], 3) := by rw [HD0.out]; unfold ringE; rw [if_pos HNL.out.symm]; rfl
      have HD := Lib.hid hd
      clear hd
      have sb0 : W.heap.size + 1 + 1 ≤ w3.heap.size := heap_ltT (T12.out.1.1.2)
      go_wp2_with fail
      refine (rawNew_ret _ _ _ _ (by rfl)).mono ?_; rintro e w8 ⟨M, b1, m1, d1, b2, m2, d2, rfl, hwn, g1, g2, hM, _, hbw8⟩
      have T13 := T12.up hbw8
      clear T12
      have HWN := Lib.hid hwn
      have HG := Lib.hid (And.intro (g1.base sb0) (g2.base sb0))
      clear hwn g1 g2
      obtain ⟨⟨q0, q1, q2⟩, f0, f1', f2'⟩ := p_cells (T13.out.1.1.2)
      obtain ⟨w9, e9, ⟨r0, r1, r2⟩, _, _, hwc, hbl⟩ := er_setR (show W.heap.size ≤ W.heap.size + 1 by omega) (T13.out.1.1.2) (T13.out.1.1.1.1.1.1.2) HG.out.1 HG.out.2 (HWN.out)
      have HE9 := Lib.hid e9
      have HR9 := Lib.hid (And.intro r0 (And.intro r1 r2))
      have HRET := Lib.hid (And.intro hwc hbl)
      clear hwc hbl e9 r0 r1 r2

      go_wp2
      rw [HE9.out]
      have r0 := HR9.out.1
      have r1 := HR9.out.2.1
      have r2 := HR9.out.2.2
      refine bodyPost_ret (v := .agg #[.int .i64 M, .slice b1 m1 d1, .slice b2 m2 d2]) (by simp [results, Tryd.results45, go_sem, r0, r1, r2]) rfl ?_
      rw [HD.out]
      exact ⟨_, _, _, _, _, _, _, rfl, HRET.out.1, HG.out.1.base (by omega), HG.out.2.base (by omega), hM, nofun, HRET.out.2⟩
    have hnz : ((nw : Int) == 0) = false := by rw [beq_eq_false_iff_ne]; omega
    by_cases c1 : 4096 < nw
    · skip
      have c1i : (4096 : Int) < (nw : Int) := by omega
      have hd : ringD k r l wl = some ([(opRing, 0)], 4) := by rw [HD0.out]; unfold ringE; rw [if_neg (by have := HNL.out; omega), if_pos (by have := HNL.out; omega)]; rfl
      have HD := Lib.hid hd
      clear hd
      have sb0 : W.heap.size + 1 + 1 ≤ w3.heap.size := heap_ltT (T12.out.1.1.2)
      go_wp2_with fail
      refine (rawNew_ret _ _ _ _ (by rfl)).mono ?_; rintro e w8 ⟨M, b1, m1, d1, b2, m2, d2, rfl, hwn, g1, g2, hM, _, hbw8⟩
      have T13 := T12.up hbw8
      clear T12
      have HWN := Lib.hid hwn
      have HG := Lib.hid (And.intro (g1.base sb0) (g2.base sb0))
      clear hwn g1 g2
      obtain ⟨⟨q0, q1, q2⟩, f0, f1', f2'⟩ := p_cells (T13.out.1.1.2)
      obtain ⟨w9, e9, ⟨r0, r1, r2⟩, _, _, hwc, hbl⟩ := er_setR (show W.heap.size ≤ W.heap.size + 1 by omega) (T13.out.1.1.2) (T13.out.1.1.1.1.1.1.2) HG.out.1 HG.out.2 (HWN.out)
      have HE9 := Lib.hid e9
      have HR9 := Lib.hid (And.intro r0 (And.intro r1 r2))
      have HRET := Lib.hid (And.intro hwc hbl)
      clear hwc hbl e9 r0 r1 r2

      go_wp2
      rw [HE9.out]
      have r0 := HR9.out.1
      have r1 := HR9.out.2.1
      have r2 := HR9.out.2.2
      refine bodyPost_ret (v := .agg #[.int .i64 M, .slice b1 m1 d1, .slice b2 m2 d2]) (by simp [results, Tryd.results45, go_sem, r0, r1, r2]) rfl ?_
      rw [HD.out]
      exact ⟨_, _, _, _, _, _, _, rfl, HRET.out.1, HG.out.1.base (by omega), HG.out.2.base (by omega), hM, nofun, HRET.out.2⟩
    have c1i : ¬ (4096 : Int) < (nw : Int) := by omega
    obtain ⟨i, hi⟩ : ∃ i, idxI (badB k) wl = i := ⟨_, rfl⟩
    have HI := Lib.hid hi
    have v_p0 : w3.cell? ⟨W.heap.size, 0, none⟩ = some (.int .i64 k) := T12.out.1.1.1.2.1
    have v_p1 : w3.cell? ⟨W.heap.size, 1, none⟩ = some (.int .i64 r) := T12.out.1.1.1.2.2.1
    have v_p2 : w3.cell? ⟨W.heap.size, 2, none⟩ = some (.slice a n c) := T12.out.1.1.1.2.2.2
    go_wp2_with fail
    refine (refBad_b k aw nw cw wl i w3 T12.out.1.1.1.1.2 hmw hi).mono ?_; rintro e w4 ⟨rfl, hbw4⟩
    clear v_p0 v_p1 v_p2
    have T13 := T12.up hbw4
    clear T12
    by_cases c2 : 0 ≤ i
    · skip
      have hd : ringD k r l wl = some ([(opRing, i)], 2) := by rw [HD0.out]; unfold ringE; rw [if_neg (by have := HNL.out; omega), if_neg (by have := HNL.out; omega), HI.out, if_pos c2]; rfl
      have HD := Lib.hid hd
      clear hd
      have sb0 : W.heap.size + 1 + 1 ≤ w4.heap.size := heap_ltT (T13.out.1.1.2)
      go_wp2_with fail
      refine (rawNew_ret _ _ _ _ (by rfl)).mono ?_; rintro e w8 ⟨M, b1, m1, d1, b2, m2, d2, rfl, hwn, g1, g2, hM, _, hbw8⟩
      have T14 := T13.up hbw8
      clear T13
      have HWN := Lib.hid hwn
      have HG := Lib.hid (And.intro (g1.base sb0) (g2.base sb0))
      clear hwn g1 g2
      obtain ⟨⟨q0, q1, q2⟩, f0, f1', f2'⟩ := p_cells (T14.out.1.1.2)
      obtain ⟨w9, e9, ⟨r0, r1, r2⟩, _, _, hwc, hbl⟩ := er_setR (show W.heap.size ≤ W.heap.size + 1 by omega) (T14.out.1.1.2) (T14.out.1.1.1.1.1.1.2) HG.out.1 HG.out.2 (HWN.out)
      have HE9 := Lib.hid e9
      have HR9 := Lib.hid (And.intro r0 (And.intro r1 r2))
      have HRET := Lib.hid (And.intro hwc hbl)
      clear hwc hbl e9 r0 r1 r2

      go_wp2
      rw [HE9.out]
      have r0 := HR9.out.1
      have r1 := HR9.out.2.1
      have r2 := HR9.out.2.2
      refine bodyPost_ret (v := .agg #[.int .i64 M, .slice b1 m1 d1, .slice b2 m2 d2]) (by simp [results, Tryd.results45, go_sem, r0, r1, r2]) rfl ?_
      rw [HD.out]
      exact ⟨_, _, _, _, _, _, _, rfl, HRET.out.1, HG.out.1.base (by omega), HG.out.2.base (by omega), hM, nofun, HRET.out.2⟩
    have hd : ringD k r l wl = none := by rw [HD0.out]; unfold ringE; rw [if_neg (by have := HNL.out; omega), if_neg (by have := HNL.out; omega), HI.out, if_neg c2]; rfl
    have HD := Lib.hid hd
    clear hd
    obtain ⟨⟨q0, q1, q2⟩, f0, f1', f2'⟩ := p_cells (T13.out.1.1.2)
    obtain ⟨w9, e9, ⟨r0, r1, r2⟩, _, _, hwc, hbl⟩ := er_setR (show W.heap.size ≤ W.heap.size + 1 by omega) (T13.out.1.1.2) (T13.out.1.1.1.1.1.1.2) fr_none fr_none (wc_none _)
    have HE9 := Lib.hid e9
    have HR9 := Lib.hid (And.intro r0 (And.intro r1 r2))
    have HRET := Lib.hid (And.intro hwc hbl)
    clear hwc hbl e9 r0 r1 r2

    go_wp2
    rw [HE9.out]
    have r0 := HR9.out.1
    have r1 := HR9.out.2.1
    have r2 := HR9.out.2.2
    refine bodyPost_ret (v := .agg #[.int .i64 0, .slice none 0 0, .slice none 0 0]) (by simp [results, Tryd.results45, go_sem, r0, r1, r2]) rfl ?_
    rw [HD.out]
    exact ⟨_, _, _, _, _, _, _, rfl, HRET.out.1, fr_none, fr_none, rfl, fun _ => ⟨rfl, rfl, rfl, rfl, rfl, rfl, rfl⟩, HRET.out.2⟩
end Go.Proofs.YtjgblanpaanglaaDoor
