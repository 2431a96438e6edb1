/- The contracts of edenref06.Step, steps, After, Trace for all arguments. -/
import Derived.Test.YtjgblanpaanglaaDoorRfA
import Derived.Test.YtjgblanpaanglaaDoorRfI
import Derived.Test.YtjgblanpaanglaaDoorLent
import Derived.Deep.QuietTactic
import Derived.BigQuiet
namespace Go.Proofs.YtjgblanpaanglaaDoor
open Go.RowKit
set_option linter.unusedVariables false
set_option maxRecDepth 100000

/-- a list, and an error as plain data -/
def ListWC (W : World) (l : List Int) (x : ErrD) (e : Ending) (w' : World) : Prop := ∃ a n c N a1 n1 c1 a2 n2 c2, e = .returned (.tuple #[.slice a n c, .agg #[.int .i64 N, .slice a1 n1 c1, .slice a2 n2 c2]]) ∧ RK .i64 w' a n l ∧ WC w' (.agg #[.int .i64 N, .slice a1 n1 c1, .slice a2 n2 c2]) x ∧ Below W.heap.size W w'
theorem owI_oth {w w' : World} {base B n c : Nat} {a : Option Addr} {l : List Int} (h : OwI w base a n c l) (hk : ∀ k, k ≠ B → w'.heap[k]? = w.heap[k]?) (hB : B < base) : OwI w' base a n c l := by
  refine ⟨⟨h.own.1, ?_⟩⟩
  rcases h.own.2 with hn | ⟨g, cap, cur, e, hbg, hg, rest⟩
  · exact .inl hn
  · exact .inr ⟨g, cap, cur, e, hbg, by rw [hk g (by omega)]; exact hg, rest⟩

set_option maxHeartbeats 16000000 in
theorem refstep_any (k r : Int) (a : Option Addr) (n c : Nat) (l : List Int) (aw : Option Addr) (nw cw : Nat) (wl : List Int) (W : World) (hR : RK .i64 W a n l) (hm : n ≤ maxLen) (hW : SlI W aw nw cw wl) :
    Calls Tryd.prog 26 #[ruleV k r a n c, .slice aw nw cw] W (ListWC W (ringV k r l wl) (ringD k r l wl)) := by
  have T0 := Tk.nil W
  have T1 := T0.add (fun wv => Below W.heap.size W wv) (bnil W)
  clear T0
  have T2 := T1.add (fun wv => RK .i64 wv a n l) (hR)
  clear T1
  have T3 := T2.add (fun wv => SlI wv aw nw cw wl) (hW)
  clear T2
  have hmw := hW.nm
  have h8w := hW.n8
  clear hR hW
  obtain ⟨Wb, hWb⟩ : ∃ Wb, (W.alloc (.cells #[.int .i64 k, .int .i64 r, .slice a n c] 24)).alloc (.cells #[.int .i64 0, .slice none 0 0, .slice none 0 0] 43) = Wb := ⟨_, rfl⟩
  have hbWb : Below W.heap.size W Wb := by rw [← hWb]; exact balloc (balloc (bnil W) _) _
  have T4 := T3.up hbWb
  clear T3
  have T5 := T4.add (fun wv => wv.cell? ⟨W.heap.size, 0, none⟩ = some (.int .i64 k) ∧ wv.cell? ⟨W.heap.size, 1, none⟩ = some (.int .i64 r) ∧ wv.cell? ⟨W.heap.size, 2, none⟩ = some (.slice a n c)) (by rw [← hWb]; exact ⟨al000 (cnw (by simp) rfl), al000 (cnw (by simp) rfl), al000 (cnw (by simp) rfl)⟩)
  clear T4
  have HWb := Lib.hid hWb
  clear hWb hbWb
  have hz : Wb.heap[W.heap.size + 1]? = some (.cells #[.int .i64 0, .slice none 0 0, .slice none 0 0] 43) := by
    rw [← HWb.out]
    have := heap_alloc_new (W.alloc (.cells #[.int .i64 k, .int .i64 r, .slice a n c] 24)) (.cells #[.int .i64 0, .slice none 0 0, .slice none 0 0] 43)
    simpa using this
  have hsz : W.heap.size + 1 + 1 = Wb.heap.size := by rw [← HWb.out]; simp
  have T6 := T5.add (fun wv => wv.heap[W.heap.size + 1]? = some (.cells #[.int .i64 0, .slice none 0 0, .slice none 0 0] 43)) (hz)
  clear T5
  have HSZ := Lib.hid hsz
  clear hz hsz
  go_enter Tryd.func26, Tryd.ntmps26
  have v_p0 : ((W.alloc (.cells #[.int .i64 k, .int .i64 r, .slice a n c] 24)).alloc (.cells #[.int .i64 0, .slice none 0 0, .slice none 0 0] 43)).cell? ⟨W.heap.size, 0, none⟩ = some (.int .i64 k) := by rw [HWb.out]; exact T6.out.1.2.1
  have v_p1 : ((W.alloc (.cells #[.int .i64 k, .int .i64 r, .slice a n c] 24)).alloc (.cells #[.int .i64 0, .slice none 0 0, .slice none 0 0] 43)).cell? ⟨W.heap.size, 1, none⟩ = some (.int .i64 r) := by rw [HWb.out]; exact T6.out.1.2.2.1
  have v_p2 : ((W.alloc (.cells #[.int .i64 k, .int .i64 r, .slice a n c] 24)).alloc (.cells #[.int .i64 0, .slice none 0 0, .slice none 0 0] 43)).cell? ⟨W.heap.size, 2, none⟩ = some (.slice a n c) := by rw [HWb.out]; exact T6.out.1.2.2.2
  go_wp2_with fail
  rw [HWb.out]
  refine (reffault_any k r a n c l aw nw cw wl Wb T6.out.1.1.1.2 hm (T6.out.1.1.2).rk hmw).mono ?_; rintro e w1 ⟨N, a1, n1, c1, a2, n2, c2, rfl, hw, f1, f2, hN, h0, hbw1⟩
  clear v_p0 v_p1 v_p2
  have T7 := T6.up hbw1
  clear T6
  have hs1 := hbw1.size
  have T8 := T7.add (fun wv => WC wv (.agg #[.int .i64 N, .slice a1 n1 c1, .slice a2 n2 c2]) (ringD k r l wl)) (hw)
  clear T7
  have HF : Hid (Fr (W.heap.size + 1 + 1) a1 ∧ Fr (W.heap.size + 1 + 1) a2) := ⟨f1.base (by rw [HSZ.out]; exact Nat.le_refl _), f2.base (by rw [HSZ.out]; exact Nat.le_refl _)⟩
  have H0 := Lib.hid h0
  have hN1 := hN
  clear hw f1 f2 hN h0
  obtain ⟨we, hwe⟩ : ∃ we, w1.alloc (.cells #[.int .i64 N, .slice a1 n1 c1, .slice a2 n2 c2] 43) = we := ⟨_, rfl⟩
  have hbwe : Below w1.heap.size w1 we := by rw [← hwe]; exact balloc (bnil w1) _
  have T9 := T8.up hbwe
  clear T8
  have T10 := T9.add (fun wv => wv.cell? ⟨w1.heap.size, 0, none⟩ = some (.int .i64 N) ∧ wv.cell? ⟨w1.heap.size, 1, none⟩ = some (.slice a1 n1 c1) ∧ wv.cell? ⟨w1.heap.size, 2, none⟩ = some (.slice a2 n2 c2)) (by rw [← hwe]; exact ⟨cnw (by simp) rfl, cnw (by simp) rfl, cnw (by simp) rfl⟩)
  clear T9
  have Hwe := Lib.hid hwe
  clear hwe hbwe
  cases hd : ringD k r l wl with
  | some x =>
    have HV : Hid (ringV k r l wl = []) := by show _ = _; unfold ringV; rw [hd]
    have hnt : (N != 0) = true := by rw [hN1, hd]; rfl
    have HD := Lib.hid hd
    clear hd hN1
    have v_e0 : (w1.alloc (.cells #[.int .i64 N, .slice a1 n1 c1, .slice a2 n2 c2] 43)).cell? ⟨w1.heap.size, 0, none⟩ = some (.int .i64 N) := by rw [Hwe.out]; exact T10.out.2.1
    have v_e1 : (w1.alloc (.cells #[.int .i64 N, .slice a1 n1 c1, .slice a2 n2 c2] 43)).cell? ⟨w1.heap.size, 1, none⟩ = some (.slice a1 n1 c1) := by rw [Hwe.out]; exact T10.out.2.2.1
    have v_e2 : (w1.alloc (.cells #[.int .i64 N, .slice a1 n1 c1, .slice a2 n2 c2] 43)).cell? ⟨w1.heap.size, 2, none⟩ = some (.slice a2 n2 c2) := by rw [Hwe.out]; exact T10.out.2.2.2
    go_wp2_with fail
    rw [Hwe.out]
    refine (refBadE _ _ _ we true hnt).mono ?_; rintro e w3 ⟨rfl, hbw3⟩
    clear v_e0 v_e1 v_e2
    have T11 := T10.up hbw3
    clear T10
    have v_e0 : w3.cell? ⟨w1.heap.size, 0, none⟩ = some (.int .i64 N) := T11.out.2.1
    have v_e1 : w3.cell? ⟨w1.heap.size, 1, none⟩ = some (.slice a1 n1 c1) := T11.out.2.2.1
    have v_e2 : w3.cell? ⟨w1.heap.size, 2, none⟩ = some (.slice a2 n2 c2) := T11.out.2.2.2
    have hwc3 := T11.out.1.2
    rw [HD.out] at hwc3
    have HWC3 := Lib.hid hwc3
    clear hwc3
    have sz1 := hs1
    have sz0 := HSZ.out
    have ne1 : ¬ w1.heap.size = W.heap.size + 1 := by omega
    have ne2 : ¬ W.heap.size + 1 = w1.heap.size := by omega
    clear sz0 sz1
    obtain ⟨⟨q0, q1, q2⟩, f0, f1', f2'⟩ := p_cells (T11.out.1.1.2)
    obtain ⟨w9, e9, ⟨r0, r1, r2⟩, hk9, _, hwc, hbl⟩ := er_setR (show W.heap.size ≤ W.heap.size + 1 by omega) (T11.out.1.1.2) (T11.out.1.1.1.1.1.1.2) HF.out.1 HF.out.2 (HWC3.out)
    have HE9 := Lib.hid e9
    have HR9 := Lib.hid (And.intro r0 (And.intro r1 r2))
    have HRET := Lib.hid (And.intro hwc hbl)
    have HK9 := Lib.hid hk9
    clear hwc hbl e9 r0 r1 r2 hk9
    go_wp2_with fail
    go_region
    all_goals
      go_wp2
      rw [HE9.out]
      have r0 := HR9.out.1
      have r1 := HR9.out.2.1
      have r2 := HR9.out.2.2
      refine bodyPost_ret (v := .tuple #[.slice none 0 0, .agg #[.int .i64 N, .slice a1 n1 c1, .slice a2 n2 c2]]) (by simp [results, Tryd.results26, go_sem, r0, r1, r2]) rfl ?_
      rw [HV.out, HD.out]
      first | exact ⟨_, _, _, _, _, _, _, _, _, _, rfl, RK.nil, HRET.out.1, HRET.out.2⟩ | exact ⟨_, _, _, _, _, _, _, _, _, _, rfl, RK.nil, HRET.out.1.up (Below.drew (bnil _)), HRET.out.2.drew⟩
  | none =>
    obtain ⟨kn, rn, ek, er, hI, hG⟩ := ringD_none hd
    have HV : Hid (ringV k r l wl = ringL kn rn l wl) := by show _ = _; unfold ringV; rw [hd, ek, er]; rfl
    have hnt : (N != 0) = false := by rw [hN1, hd]; rfl
    clear hN1
    have v_e0 : (w1.alloc (.cells #[.int .i64 N, .slice a1 n1 c1, .slice a2 n2 c2] 43)).cell? ⟨w1.heap.size, 0, none⟩ = some (.int .i64 N) := by rw [Hwe.out]; exact T10.out.2.1
    have v_e1 : (w1.alloc (.cells #[.int .i64 N, .slice a1 n1 c1, .slice a2 n2 c2] 43)).cell? ⟨w1.heap.size, 1, none⟩ = some (.slice a1 n1 c1) := by rw [Hwe.out]; exact T10.out.2.2.1
    have v_e2 : (w1.alloc (.cells #[.int .i64 N, .slice a1 n1 c1, .slice a2 n2 c2] 43)).cell? ⟨w1.heap.size, 2, none⟩ = some (.slice a2 n2 c2) := by rw [Hwe.out]; exact T10.out.2.2.2
    go_wp2_with fail
    rw [Hwe.out]
    refine (refBadE _ _ _ we false hnt).mono ?_; rintro e w3 ⟨rfl, hbw3⟩
    clear v_e0 v_e1 v_e2
    have T11 := T10.up hbw3
    clear T10
    have HRU := Lib.hid hI
    have HRG := Lib.hid hG
    have HDN := Lib.hid hd
    clear hd hI hG
    subst ek er
    have HS3 : Hid (Wb.heap.size ≤ w3.heap.size) := Nat.le_trans (Nat.le_trans hs1 (by rw [← Hwe.out]; simp)) hbw3.size
    have v_p0 : w3.cell? ⟨W.heap.size, 0, none⟩ = some (.int .i64 kn) := T11.out.1.1.1.2.1
    have v_p1 : w3.cell? ⟨W.heap.size, 1, none⟩ = some (.int .i64 rn) := T11.out.1.1.1.2.2.1
    have v_p2 : w3.cell? ⟨W.heap.size, 2, none⟩ = some (.slice a n c) := T11.out.1.1.1.2.2.2
    go_wp2_with fail
    refine (refimage_ok kn rn a n c l aw nw cw wl w3 T11.out.1.1.1.1.1.2 (T11.out.1.1.1.1.2).rk HRU.out HRG.out).mono ?_; rintro e w4 ⟨a5, c5, rfl, ho5, hbw4⟩
    clear v_p0 v_p1 v_p2
    have T12 := T11.up hbw4
    clear T11
    have HO5 := Lib.hid ho5
    clear ho5
    have HOW := Lib.hid (HO5.out)
    obtain ⟨⟨q0, q1, q2⟩, f0, f1', f2'⟩ := p_cells (T12.out.1.1.2)
    obtain ⟨w9, e9, ⟨r0, r1, r2⟩, hk9, _, hwc, hbl⟩ := er_setR (show W.heap.size ≤ W.heap.size + 1 by omega) (T12.out.1.1.2) (T12.out.1.1.1.1.1.1.2) fr_none fr_none (wc_none _)
    have HE9 := Lib.hid e9
    have HR9 := Lib.hid (And.intro r0 (And.intro r1 r2))
    have HRET := Lib.hid (And.intro hwc hbl)
    have HK9 := Lib.hid hk9
    clear hwc hbl e9 r0 r1 r2 hk9
    go_wp2
    rw [HE9.out]
    have r0 := HR9.out.1
    have r1 := HR9.out.2.1
    have r2 := HR9.out.2.2
    refine bodyPost_ret (v := .tuple #[.slice a5 nw c5, .agg #[.int .i64 0, .slice none 0 0, .slice none 0 0]]) (by simp [results, Tryd.results26, go_sem, r0, r1, r2]) rfl ?_
    rw [HV.out, HDN.out]
    exact ⟨_, _, _, _, _, _, _, _, _, _, rfl, (owI_oth HOW.out HK9.out (by have := HSZ.out; have := HS3.out; omega)).rk, HRET.out.1, HRET.out.2⟩
set_option maxHeartbeats 16000000 in
theorem refsteps_any (k r t : Int) (a : Option Addr) (n c : Nat) (l : List Int) (aw : Option Addr) (nw cw : Nat) (wl : List Int) (W : World) (hR : RK .i64 W a n l) (hm : n ≤ maxLen) (hW : SlI W aw nw cw wl) :
    Calls Tryd.prog 52 #[ruleV k r a n c, .slice aw nw cw, .int .i64 t] W (RefRet W (aftD k r l wl t)) := by
  have HNL := Lib.hid hW.rk.len
  have T0 := Tk.nil W
  have T1 := T0.add (fun wv => Below W.heap.size W wv) (bnil W)
  clear T0
  have T2 := T1.add (fun wv => RK .i64 wv a n l) (hR)
  clear T1
  have T3 := T2.add (fun wv => SlI wv aw nw cw wl) (hW)
  clear T2
  have hmw := hW.nm
  have h8w := hW.n8
  clear hR hW
  obtain ⟨Wb, hWb⟩ : ∃ Wb, (W.alloc (.cells #[.int .i64 k, .int .i64 r, .slice a n c] 24)).alloc (.cells #[.int .i64 0, .slice none 0 0, .slice none 0 0] 43) = Wb := ⟨_, rfl⟩
  have hbWb : Below W.heap.size W Wb := by rw [← hWb]; exact balloc (balloc (bnil W) _) _
  have T4 := T3.up hbWb
  clear T3
  have T5 := T4.add (fun wv => wv.cell? ⟨W.heap.size, 0, none⟩ = some (.int .i64 k) ∧ wv.cell? ⟨W.heap.size, 1, none⟩ = some (.int .i64 r) ∧ wv.cell? ⟨W.heap.size, 2, none⟩ = some (.slice a n c)) (by rw [← hWb]; exact ⟨al000 (cnw (by simp) rfl), al000 (cnw (by simp) rfl), al000 (cnw (by simp) rfl)⟩)
  clear T4
  have HWb := Lib.hid hWb
  clear hWb hbWb
  have hz : Wb.heap[W.heap.size + 1]? = some (.cells #[.int .i64 0, .slice none 0 0, .slice none 0 0] 43) := by
    rw [← HWb.out]
    have := heap_alloc_new (W.alloc (.cells #[.int .i64 k, .int .i64 r, .slice a n c] 24)) (.cells #[.int .i64 0, .slice none 0 0, .slice none 0 0] 43)
    simpa using this
  have hsz : W.heap.size + 1 + 1 = Wb.heap.size := by rw [← HWb.out]; simp
  have T6 := T5.add (fun wv => wv.heap[W.heap.size + 1]? = some (.cells #[.int .i64 0, .slice none 0 0, .slice none 0 0] 43)) (hz)
  clear T5
  have HSZ := Lib.hid hsz
  clear hz hsz
  go_enter Tryd.func52, Tryd.ntmps52
  have v_p0 : ((W.alloc (.cells #[.int .i64 k, .int .i64 r, .slice a n c] 24)).alloc (.cells #[.int .i64 0, .slice none 0 0, .slice none 0 0] 43)).cell? ⟨W.heap.size, 0, none⟩ = some (.int .i64 k) := by rw [HWb.out]; exact T6.out.1.2.1
  have v_p1 : ((W.alloc (.cells #[.int .i64 k, .int .i64 r, .slice a n c] 24)).alloc (.cells #[.int .i64 0, .slice none 0 0, .slice none 0 0] 43)).cell? ⟨W.heap.size, 1, none⟩ = some (.int .i64 r) := by rw [HWb.out]; exact T6.out.1.2.2.1
  have v_p2 : ((W.alloc (.cells #[.int .i64 k, .int .i64 r, .slice a n c] 24)).alloc (.cells #[.int .i64 0, .slice none 0 0, .slice none 0 0] 43)).cell? ⟨W.heap.size, 2, none⟩ = some (.slice a n c) := by rw [HWb.out]; exact T6.out.1.2.2.2
  go_wp2_with fail
  rw [HWb.out]
  refine (reffault_any k r a n c l aw nw cw wl Wb T6.out.1.1.1.2 hm (T6.out.1.1.2).rk hmw).mono ?_; rintro e w1 ⟨N, a1, n1, c1, a2, n2, c2, rfl, hw, f1, f2, hN, h0, hbw1⟩
  clear v_p0 v_p1 v_p2
  have T7 := T6.up hbw1
  clear T6
  have hs1 := hbw1.size
  have T8 := T7.add (fun wv => WC wv (.agg #[.int .i64 N, .slice a1 n1 c1, .slice a2 n2 c2]) (ringD k r l wl)) (hw)
  clear T7
  have HF : Hid (Fr (W.heap.size + 1 + 1) a1 ∧ Fr (W.heap.size + 1 + 1) a2) := ⟨f1.base (by rw [HSZ.out]; exact Nat.le_refl _), f2.base (by rw [HSZ.out]; exact Nat.le_refl _)⟩
  have H0 := Lib.hid h0
  have hN1 := hN
  clear hw f1 f2 hN h0
  obtain ⟨we, hwe⟩ : ∃ we, w1.alloc (.cells #[.int .i64 N, .slice a1 n1 c1, .slice a2 n2 c2] 43) = we := ⟨_, rfl⟩
  have hbwe : Below w1.heap.size w1 we := by rw [← hwe]; exact balloc (bnil w1) _
  have T9 := T8.up hbwe
  clear T8
  have T10 := T9.add (fun wv => wv.cell? ⟨w1.heap.size, 0, none⟩ = some (.int .i64 N) ∧ wv.cell? ⟨w1.heap.size, 1, none⟩ = some (.slice a1 n1 c1) ∧ wv.cell? ⟨w1.heap.size, 2, none⟩ = some (.slice a2 n2 c2)) (by rw [← hwe]; exact ⟨cnw (by simp) rfl, cnw (by simp) rfl, cnw (by simp) rfl⟩)
  clear T9
  have Hwe := Lib.hid hwe
  clear hwe hbwe
  cases hd : ringD k r l wl with
  | some x =>
    have HA : Hid (aftD k r l wl t = some x) := by show _ = _; unfold aftD; rw [hd]
    have hnt : (N != 0) = true := by rw [hN1, hd]; rfl
    have HD := Lib.hid hd
    clear hd hN1
    have v_e0 : (w1.alloc (.cells #[.int .i64 N, .slice a1 n1 c1, .slice a2 n2 c2] 43)).cell? ⟨w1.heap.size, 0, none⟩ = some (.int .i64 N) := by rw [Hwe.out]; exact T10.out.2.1
    have v_e1 : (w1.alloc (.cells #[.int .i64 N, .slice a1 n1 c1, .slice a2 n2 c2] 43)).cell? ⟨w1.heap.size, 1, none⟩ = some (.slice a1 n1 c1) := by rw [Hwe.out]; exact T10.out.2.2.1
    have v_e2 : (w1.alloc (.cells #[.int .i64 N, .slice a1 n1 c1, .slice a2 n2 c2] 43)).cell? ⟨w1.heap.size, 2, none⟩ = some (.slice a2 n2 c2) := by rw [Hwe.out]; exact T10.out.2.2.2
    go_wp2_with fail
    rw [Hwe.out]
    refine (refBadE _ _ _ we true hnt).mono ?_; rintro e w3 ⟨rfl, hbw3⟩
    clear v_e0 v_e1 v_e2
    have T11 := T10.up hbw3
    clear T10
    have v_e0 : w3.cell? ⟨w1.heap.size, 0, none⟩ = some (.int .i64 N) := T11.out.2.1
    have v_e1 : w3.cell? ⟨w1.heap.size, 1, none⟩ = some (.slice a1 n1 c1) := T11.out.2.2.1
    have v_e2 : w3.cell? ⟨w1.heap.size, 2, none⟩ = some (.slice a2 n2 c2) := T11.out.2.2.2
    have hwc3 := T11.out.1.2
    rw [HD.out] at hwc3
    have HWC3 := Lib.hid hwc3
    clear hwc3
    have sz1 := hs1
    have sz0 := HSZ.out
    have ne1 : ¬ w1.heap.size = W.heap.size + 1 := by omega
    have ne2 : ¬ W.heap.size + 1 = w1.heap.size := by omega
    clear sz0 sz1
    obtain ⟨⟨q0, q1, q2⟩, f0, f1', f2'⟩ := p_cells (T11.out.1.1.2)
    obtain ⟨w9, e9, ⟨r0, r1, r2⟩, hk9, _, hwc, hbl⟩ := er_setR (show W.heap.size ≤ W.heap.size + 1 by omega) (T11.out.1.1.2) (T11.out.1.1.1.1.1.1.2) HF.out.1 HF.out.2 (HWC3.out)
    have HE9 := Lib.hid e9
    have HR9 := Lib.hid (And.intro r0 (And.intro r1 r2))
    have HRET := Lib.hid (And.intro hwc hbl)
    have HK9 := Lib.hid hk9
    clear hwc hbl e9 r0 r1 r2 hk9
    go_wp2
    rw [HE9.out]
    have r0 := HR9.out.1
    have r1 := HR9.out.2.1
    have r2 := HR9.out.2.2
    refine bodyPost_ret (v := .agg #[.int .i64 N, .slice a1 n1 c1, .slice a2 n2 c2]) (by simp [results, Tryd.results52, go_sem, r0, r1, r2]) rfl ?_
    rw [HA.out]
    exact ⟨_, _, _, _, _, _, _, rfl, HRET.out.1, HF.out.1.base (by omega), HF.out.2.base (by omega), hnt, nofun, HRET.out.2⟩
  | none =>
    have HA : Hid (aftD k r l wl t = (aftE t wl.length).map fun x => ([(opRing, x.1)], x.2)) := by show _ = _; unfold aftD; rw [hd]
    obtain ⟨kn, rn, ek, er, hI, hG⟩ := ringD_none hd
    have hl1 : 0 < nw := by rw [HNL.out]; exact hG.l1
    have hl2 : nw ≤ 4096 := by rw [HNL.out]; exact hG.l2
    clear hI hG ek er
    have hnt : (N != 0) = false := by rw [hN1, hd]; rfl
    clear hN1
    have v_e0 : (w1.alloc (.cells #[.int .i64 N, .slice a1 n1 c1, .slice a2 n2 c2] 43)).cell? ⟨w1.heap.size, 0, none⟩ = some (.int .i64 N) := by rw [Hwe.out]; exact T10.out.2.1
    have v_e1 : (w1.alloc (.cells #[.int .i64 N, .slice a1 n1 c1, .slice a2 n2 c2] 43)).cell? ⟨w1.heap.size, 1, none⟩ = some (.slice a1 n1 c1) := by rw [Hwe.out]; exact T10.out.2.2.1
    have v_e2 : (w1.alloc (.cells #[.int .i64 N, .slice a1 n1 c1, .slice a2 n2 c2] 43)).cell? ⟨w1.heap.size, 2, none⟩ = some (.slice a2 n2 c2) := by rw [Hwe.out]; exact T10.out.2.2.2
    go_wp2_with fail
    rw [Hwe.out]
    refine (refBadE _ _ _ we false hnt).mono ?_; rintro e w3 ⟨rfl, hbw3⟩
    clear v_e0 v_e1 v_e2
    have T11 := T10.up hbw3
    clear T10
    clear hd
    by_cases c0 : t < 0
    · skip
      have hd : aftD k r l wl t = some ([(opRing, 1)], 3) := by rw [HA.out]; unfold aftE; rw [← HNL.out]; rw [if_pos c0]; rfl
      have HD := Lib.hid hd
      clear hd
      have sb0 : W.heap.size + 1 + 1 ≤ w3.heap.size := heap_ltT (T11.out.1.1.2)
      go_wp2_with fail
      refine (rawNew_ret _ _ _ _ (by rfl)).mono ?_; rintro e w8 ⟨M, b1, m1, d1, b2, m2, d2, rfl, hwn, g1, g2, hM, _, hbw8⟩
      have T12 := T11.up hbw8
      clear T11
      have HWN := Lib.hid hwn
      have HG := Lib.hid (And.intro (g1.base sb0) (g2.base sb0))
      clear hwn g1 g2
      obtain ⟨⟨q0, q1, q2⟩, f0, f1', f2'⟩ := p_cells (T12.out.1.1.2)
      obtain ⟨w9, e9, ⟨r0, r1, r2⟩, hk9, _, hwc, hbl⟩ := er_setR (show W.heap.size ≤ W.heap.size + 1 by omega) (T12.out.1.1.2) (T12.out.1.1.1.1.1.1.2) HG.out.1 HG.out.2 (HWN.out)
      have HE9 := Lib.hid e9
      have HR9 := Lib.hid (And.intro r0 (And.intro r1 r2))
      have HRET := Lib.hid (And.intro hwc hbl)
      have HK9 := Lib.hid hk9
      clear hwc hbl e9 r0 r1 r2 hk9
      go_wp2
      rw [HE9.out]
      have r0 := HR9.out.1
      have r1 := HR9.out.2.1
      have r2 := HR9.out.2.2
      refine bodyPost_ret (v := .agg #[.int .i64 M, .slice b1 m1 d1, .slice b2 m2 d2]) (by simp [results, Tryd.results52, go_sem, r0, r1, r2]) rfl ?_
      rw [HD.out]
      exact ⟨_, _, _, _, _, _, _, rfl, HRET.out.1, HG.out.1.base (by omega), HG.out.2.base (by omega), hM, nofun, HRET.out.2⟩
    obtain ⟨tn, rfl⟩ : ∃ tn : Nat, t = tn := ⟨t.toNat, by omega⟩
    by_cases c1 : (262144 : Int) < (tn : Int)
    · skip
      have hbig : (262144 : Int) < (tn : Int) * (nw : Int) := by
        have h1 : tn ≤ tn * nw := Nat.le_mul_of_pos_right tn hl1
        rw [← Int.natCast_mul]
        omega
      have HBIG := Lib.hid hbig
      clear hbig
      have hd : aftD k r l wl (tn : Int) = some ([(opRing, 1)], 4) := by rw [HA.out]; unfold aftE; rw [← HNL.out]; rw [if_neg c0, if_pos HBIG.out]; rfl
      have HD := Lib.hid hd
      clear hd
      have sb0 : W.heap.size + 1 + 1 ≤ w3.heap.size := heap_ltT (T11.out.1.1.2)
      go_wp2_with fail
      refine (rawNew_ret _ _ _ _ (by rfl)).mono ?_; rintro e w8 ⟨M, b1, m1, d1, b2, m2, d2, rfl, hwn, g1, g2, hM, _, hbw8⟩
      have T12 := T11.up hbw8
      clear T11
      have HWN := Lib.hid hwn
      have HG := Lib.hid (And.intro (g1.base sb0) (g2.base sb0))
      clear hwn g1 g2
      obtain ⟨⟨q0, q1, q2⟩, f0, f1', f2'⟩ := p_cells (T12.out.1.1.2)
      obtain ⟨w9, e9, ⟨r0, r1, r2⟩, hk9, _, hwc, hbl⟩ := er_setR (show W.heap.size ≤ W.heap.size + 1 by omega) (T12.out.1.1.2) (T12.out.1.1.1.1.1.1.2) HG.out.1 HG.out.2 (HWN.out)
      have HE9 := Lib.hid e9
      have HR9 := Lib.hid (And.intro r0 (And.intro r1 r2))
      have HRET := Lib.hid (And.intro hwc hbl)
      have HK9 := Lib.hid hk9
      clear hwc hbl e9 r0 r1 r2 hk9
      go_wp2
      rw [HE9.out]
      have r0 := HR9.out.1
      have r1 := HR9.out.2.1
      have r2 := HR9.out.2.2
      refine bodyPost_ret (v := .agg #[.int .i64 M, .slice b1 m1 d1, .slice b2 m2 d2]) (by simp [results, Tryd.results52, go_sem, r0, r1, r2]) rfl ?_
      rw [HD.out]
      exact ⟨_, _, _, _, _, _, _, rfl, HRET.out.1, HG.out.1.base (by omega), HG.out.2.base (by omega), hM, nofun, HRET.out.2⟩
    obtain ⟨Q, hQ, hQ2⟩ : ∃ Q : Nat, (tn : Int) * (nw : Int) = (Q : Int) ∧ Q ≤ 262144 * 4096 := ⟨tn * nw, by rw [Int.natCast_mul], Nat.mul_le_mul (by omega) hl2⟩
    have yq : IntKind.i64.wrap ((tn : Int) * (nw : Int)) = (Q : Int) := by rw [hQ]; exact IntWalk.i64_in _ (by omega)
    by_cases c2 : (262144 : Int) < (Q : Int)
    · skip
      have hd : aftD k r l wl (tn : Int) = some ([(opRing, 1)], 4) := by rw [HA.out]; unfold aftE; rw [← HNL.out]; rw [if_neg c0, if_pos (by rw [hQ]; exact c2)]; rfl
      have HD := Lib.hid hd
      clear hd
      have sb0 : W.heap.size + 1 + 1 ≤ w3.heap.size := heap_ltT (T11.out.1.1.2)
      go_wp2_with fail
      refine (rawNew_ret _ _ _ _ (by rfl)).mono ?_; rintro e w8 ⟨M, b1, m1, d1, b2, m2, d2, rfl, hwn, g1, g2, hM, _, hbw8⟩
      have T12 := T11.up hbw8
      clear T11
      have HWN := Lib.hid hwn
      have HG := Lib.hid (And.intro (g1.base sb0) (g2.base sb0))
      clear hwn g1 g2
      obtain ⟨⟨q0, q1, q2⟩, f0, f1', f2'⟩ := p_cells (T12.out.1.1.2)
      obtain ⟨w9, e9, ⟨r0, r1, r2⟩, hk9, _, hwc, hbl⟩ := er_setR (show W.heap.size ≤ W.heap.size + 1 by omega) (T12.out.1.1.2) (T12.out.1.1.1.1.1.1.2) HG.out.1 HG.out.2 (HWN.out)
      have HE9 := Lib.hid e9
      have HR9 := Lib.hid (And.intro r0 (And.intro r1 r2))
      have HRET := Lib.hid (And.intro hwc hbl)
      have HK9 := Lib.hid hk9
      clear hwc hbl e9 r0 r1 r2 hk9
      go_wp2
      rw [HE9.out]
      have r0 := HR9.out.1
      have r1 := HR9.out.2.1
      have r2 := HR9.out.2.2
      refine bodyPost_ret (v := .agg #[.int .i64 M, .slice b1 m1 d1, .slice b2 m2 d2]) (by simp [results, Tryd.results52, go_sem, r0, r1, r2]) rfl ?_
      rw [HD.out]
      exact ⟨_, _, _, _, _, _, _, rfl, HRET.out.1, HG.out.1.base (by omega), HG.out.2.base (by omega), hM, nofun, HRET.out.2⟩
    have hd : aftD k r l wl (tn : Int) = none := by rw [HA.out]; unfold aftE; rw [← HNL.out, if_neg c0, if_neg (by rw [hQ]; exact c2)]; rfl
    have HD := Lib.hid hd
    clear hd
    obtain ⟨⟨q0, q1, q2⟩, f0, f1', f2'⟩ := p_cells (T11.out.1.1.2)
    obtain ⟨w9, e9, ⟨r0, r1, r2⟩, hk9, _, hwc, hbl⟩ := er_setR (show W.heap.size ≤ W.heap.size + 1 by omega) (T11.out.1.1.2) (T11.out.1.1.1.1.1.1.2) fr_none fr_none (wc_none _)
    have HE9 := Lib.hid e9
    have HR9 := Lib.hid (And.intro r0 (And.intro r1 r2))
    have HRET := Lib.hid (And.intro hwc hbl)
    have HK9 := Lib.hid hk9
    clear hwc hbl e9 r0 r1 r2 hk9
    go_wp2
    rw [HE9.out]
    have r0 := HR9.out.1
    have r1 := HR9.out.2.1
    have r2 := HR9.out.2.2
    refine bodyPost_ret (v := .agg #[.int .i64 0, .slice none 0 0, .slice none 0 0]) (by simp [results, Tryd.results52, go_sem, r0, r1, r2]) rfl ?_
    rw [HD.out]
    exact ⟨_, _, _, _, _, _, _, rfl, HRET.out.1, fr_none, fr_none, rfl, fun _ => ⟨rfl, rfl, rfl, rfl, rfl, rfl, rfl⟩, HRET.out.2⟩
set_option maxHeartbeats 16000000 in
theorem refafter_any (k r t : Int) (a : Option Addr) (n c : Nat) (l : List Int) (aw : Option Addr) (nw cw : Nat) (wl : List Int) (W : World) (hR : RK .i64 W a n l) (hm : n ≤ maxLen) (hW : SlI W aw nw cw wl) :
    Calls Tryd.prog 27 #[ruleV k r a n c, .slice aw nw cw, .int .i64 t] W (ListWC W (aftV k r l wl t) (aftD k r l wl t)) := by
  have T0 := Tk.nil W
  have T1 := T0.add (fun wv => Below W.heap.size W wv) (bnil W)
  clear T0
  have T2 := T1.add (fun wv => RK .i64 wv a n l) (hR)
  clear T1
  have T3 := T2.add (fun wv => SlI wv aw nw cw wl) (hW)
  clear T2
  have hmw := hW.nm
  have h8w := hW.n8
  clear hR hW
  obtain ⟨Wb, hWb⟩ : ∃ Wb, (W.alloc (.cells #[.int .i64 k, .int .i64 r, .slice a n c] 24)).alloc (.cells #[.int .i64 0, .slice none 0 0, .slice none 0 0] 43) = Wb := ⟨_, rfl⟩
  have hbWb : Below W.heap.size W Wb := by rw [← hWb]; exact balloc (balloc (bnil W) _) _
  have T4 := T3.up hbWb
  clear T3
  have T5 := T4.add (fun wv => wv.cell? ⟨W.heap.size, 0, none⟩ = some (.int .i64 k) ∧ wv.cell? ⟨W.heap.size, 1, none⟩ = some (.int .i64 r) ∧ wv.cell? ⟨W.heap.size, 2, none⟩ = some (.slice a n c)) (by rw [← hWb]; exact ⟨al000 (cnw (by simp) rfl), al000 (cnw (by simp) rfl), al000 (cnw (by simp) rfl)⟩)
  clear T4
  have HWb := Lib.hid hWb
  clear hWb hbWb
  have hz : Wb.heap[W.heap.size + 1]? = some (.cells #[.int .i64 0, .slice none 0 0, .slice none 0 0] 43) := by
    rw [← HWb.out]
    have := heap_alloc_new (W.alloc (.cells #[.int .i64 k, .int .i64 r, .slice a n c] 24)) (.cells #[.int .i64 0, .slice none 0 0, .slice none 0 0] 43)
    simpa using this
  have hsz : W.heap.size + 1 + 1 = Wb.heap.size := by rw [← HWb.out]; simp
  have T6 := T5.add (fun wv => wv.heap[W.heap.size + 1]? = some (.cells #[.int .i64 0, .slice none 0 0, .slice none 0 0] 43)) (hz)
  clear T5
  have HSZ := Lib.hid hsz
  clear hz hsz
  go_enter Tryd.func27, Tryd.ntmps27
  have v_p0 : ((W.alloc (.cells #[.int .i64 k, .int .i64 r, .slice a n c] 24)).alloc (.cells #[.int .i64 0, .slice none 0 0, .slice none 0 0] 43)).cell? ⟨W.heap.size, 0, none⟩ = some (.int .i64 k) := by rw [HWb.out]; exact T6.out.1.2.1
  have v_p1 : ((W.alloc (.cells #[.int .i64 k, .int .i64 r, .slice a n c] 24)).alloc (.cells #[.int .i64 0, .slice none 0 0, .slice none 0 0] 43)).cell? ⟨W.heap.size, 1, none⟩ = some (.int .i64 r) := by rw [HWb.out]; exact T6.out.1.2.2.1
  have v_p2 : ((W.alloc (.cells #[.int .i64 k, .int .i64 r, .slice a n c] 24)).alloc (.cells #[.int .i64 0, .slice none 0 0, .slice none 0 0] 43)).cell? ⟨W.heap.size, 2, none⟩ = some (.slice a n c) := by rw [HWb.out]; exact T6.out.1.2.2.2
  go_wp2_with fail
  rw [HWb.out]
  refine (refsteps_any k r t a n c l aw nw cw wl Wb T6.out.1.1.1.2 hm T6.out.1.1.2).mono ?_; rintro e w1 ⟨N, a1, n1, c1, a2, n2, c2, rfl, hw, f1, f2, hN, h0, hbw1⟩
  clear v_p0 v_p1 v_p2
  have T7 := T6.up hbw1
  clear T6
  have hs1 := hbw1.size
  have T8 := T7.add (fun wv => WC wv (.agg #[.int .i64 N, .slice a1 n1 c1, .slice a2 n2 c2]) (aftD k r l wl t)) (hw)
  clear T7
  have HF : Hid (Fr (W.heap.size + 1 + 1) a1 ∧ Fr (W.heap.size + 1 + 1) a2) := ⟨f1.base (by rw [HSZ.out]; exact Nat.le_refl _), f2.base (by rw [HSZ.out]; exact Nat.le_refl _)⟩
  have H0 := Lib.hid h0
  have hN1 := hN
  clear hw f1 f2 hN h0
  obtain ⟨we, hwe⟩ : ∃ we, w1.alloc (.cells #[.int .i64 N, .slice a1 n1 c1, .slice a2 n2 c2] 43) = we := ⟨_, rfl⟩
  have hbwe : Below w1.heap.size w1 we := by rw [← hwe]; exact balloc (bnil w1) _
  have T9 := T8.up hbwe
  clear T8
  have T10 := T9.add (fun wv => wv.cell? ⟨w1.heap.size, 0, none⟩ = some (.int .i64 N) ∧ wv.cell? ⟨w1.heap.size, 1, none⟩ = some (.slice a1 n1 c1) ∧ wv.cell? ⟨w1.heap.size, 2, none⟩ = some (.slice a2 n2 c2)) (by rw [← hwe]; exact ⟨cnw (by simp) rfl, cnw (by simp) rfl, cnw (by simp) rfl⟩)
  clear T9
  have Hwe := Lib.hid hwe
  clear hwe hbwe
  cases hd : aftD k r l wl t with
  | some x =>
    have HV : Hid (aftV k r l wl t = []) := by show _ = _; unfold aftV; rw [hd]
    have hnt : (N != 0) = true := by rw [hN1, hd]; rfl
    have HD := Lib.hid hd
    clear hd hN1
    have v_e0 : (w1.alloc (.cells #[.int .i64 N, .slice a1 n1 c1, .slice a2 n2 c2] 43)).cell? ⟨w1.heap.size, 0, none⟩ = some (.int .i64 N) := by rw [Hwe.out]; exact T10.out.2.1
    have v_e1 : (w1.alloc (.cells #[.int .i64 N, .slice a1 n1 c1, .slice a2 n2 c2] 43)).cell? ⟨w1.heap.size, 1, none⟩ = some (.slice a1 n1 c1) := by rw [Hwe.out]; exact T10.out.2.2.1
    have v_e2 : (w1.alloc (.cells #[.int .i64 N, .slice a1 n1 c1, .slice a2 n2 c2] 43)).cell? ⟨w1.heap.size, 2, none⟩ = some (.slice a2 n2 c2) := by rw [Hwe.out]; exact T10.out.2.2.2
    go_wp2_with fail
    rw [Hwe.out]
    refine (refBadE _ _ _ we true hnt).mono ?_; rintro e w3 ⟨rfl, hbw3⟩
    clear v_e0 v_e1 v_e2
    have T11 := T10.up hbw3
    clear T10
    have v_e0 : w3.cell? ⟨w1.heap.size, 0, none⟩ = some (.int .i64 N) := T11.out.2.1
    have v_e1 : w3.cell? ⟨w1.heap.size, 1, none⟩ = some (.slice a1 n1 c1) := T11.out.2.2.1
    have v_e2 : w3.cell? ⟨w1.heap.size, 2, none⟩ = some (.slice a2 n2 c2) := T11.out.2.2.2
    have hwc3 := T11.out.1.2
    rw [HD.out] at hwc3
    have HWC3 := Lib.hid hwc3
    clear hwc3
    have sz1 := hs1
    have sz0 := HSZ.out
    have ne1 : ¬ w1.heap.size = W.heap.size + 1 := by omega
    have ne2 : ¬ W.heap.size + 1 = w1.heap.size := by omega
    clear sz0 sz1
    obtain ⟨⟨q0, q1, q2⟩, f0, f1', f2'⟩ := p_cells (T11.out.1.1.2)
    obtain ⟨w9, e9, ⟨r0, r1, r2⟩, hk9, _, hwc, hbl⟩ := er_setR (show W.heap.size ≤ W.heap.size + 1 by omega) (T11.out.1.1.2) (T11.out.1.1.1.1.1.1.2) HF.out.1 HF.out.2 (HWC3.out)
    have HE9 := Lib.hid e9
    have HR9 := Lib.hid (And.intro r0 (And.intro r1 r2))
    have HRET := Lib.hid (And.intro hwc hbl)
    have HK9 := Lib.hid hk9
    clear hwc hbl e9 r0 r1 r2 hk9
    go_wp2_with fail
    go_region
    all_goals
      go_wp2
      rw [HE9.out]
      have r0 := HR9.out.1
      have r1 := HR9.out.2.1
      have r2 := HR9.out.2.2
      refine bodyPost_ret (v := .tuple #[.slice none 0 0, .agg #[.int .i64 N, .slice a1 n1 c1, .slice a2 n2 c2]]) (by simp [results, Tryd.results27, go_sem, r0, r1, r2]) rfl ?_
      rw [HV.out, HD.out]
      first | exact ⟨_, _, _, _, _, _, _, _, _, _, rfl, RK.nil, HRET.out.1, HRET.out.2⟩ | exact ⟨_, _, _, _, _, _, _, _, _, _, rfl, RK.nil, HRET.out.1.up (Below.drew (bnil _)), HRET.out.2.drew⟩
  | none =>
    obtain ⟨kn, rn, tn, ek, er, et, hI, hG, ht⟩ := aft_none hd
    have HV : Hid (aftV k r l wl t = itR kn rn l tn wl) := by show _ = _; unfold aftV; rw [hd, ek, er, et]; rfl
    have hnt : (N != 0) = false := by rw [hN1, hd]; rfl
    clear hN1
    have v_e0 : (w1.alloc (.cells #[.int .i64 N, .slice a1 n1 c1, .slice a2 n2 c2] 43)).cell? ⟨w1.heap.size, 0, none⟩ = some (.int .i64 N) := by rw [Hwe.out]; exact T10.out.2.1
    have v_e1 : (w1.alloc (.cells #[.int .i64 N, .slice a1 n1 c1, .slice a2 n2 c2] 43)).cell? ⟨w1.heap.size, 1, none⟩ = some (.slice a1 n1 c1) := by rw [Hwe.out]; exact T10.out.2.2.1
    have v_e2 : (w1.alloc (.cells #[.int .i64 N, .slice a1 n1 c1, .slice a2 n2 c2] 43)).cell? ⟨w1.heap.size, 2, none⟩ = some (.slice a2 n2 c2) := by rw [Hwe.out]; exact T10.out.2.2.2
    go_wp2_with fail
    rw [Hwe.out]
    refine (refBadE _ _ _ we false hnt).mono ?_; rintro e w3 ⟨rfl, hbw3⟩
    clear v_e0 v_e1 v_e2
    have T11 := T10.up hbw3
    clear T10
    have HRU := Lib.hid hI
    have HRG := Lib.hid hG
    have HDN := Lib.hid hd
    clear hd hI hG
    subst ek er et
    have HS3 : Hid (Wb.heap.size ≤ w3.heap.size) := Nat.le_trans (Nat.le_trans hs1 (by rw [← Hwe.out]; simp)) hbw3.size
    have ht6 : tn ≤ 262144 := Nat.le_trans (Nat.le_mul_of_pos_right tn HRG.out.l1) ht
    go_wp2_with fail
    refine (copy_any aw nw cw wl w3 (T11.out.1.1.1.1.2).rk (T11.out.1.1.1.1.2).n8 (T11.out.1.1.1.1.2).nn).mono ?_; rintro e w4 ⟨a5, c5, rfl, ho5, hbw4⟩
    have T12 := T11.up hbw4
    clear T11
    have HO5 : Hid (OwI w4 w3.heap.size a5 nw c5 wl) := ⟨ho5⟩
    have HB4 := Lib.hid hbw4
    clear ho5
    clear hnt
    go_wp2_with fail
    go_loopw [9, 10] (fun sx ix wr => ∃ (i : Nat) (a6 : Option Addr) (c6 : Nat), i ≤ tn ∧ ix = .int .i64 i ∧ sx = .slice a6 nw c6 ∧ OwI wr w3.heap.size a6 nw c6 (itR kn rn l i wl) ∧ Below w4.heap.size w4 wr) (fun _ ix _ => tn - (intOf ix).toNat)
    case atStart => exact ⟨0, a5, c5, by omega, rfl, rfl, HO5.out, bnil _⟩
    case round =>
      obtain ⟨i, a6, c6, hi, rfl, rfl, ho, hb⟩ := hrel
      have HO := Lib.hid ho
      have HB := Lib.hid hb
      clear ho
      have T13 := T12.up hb
      clear T12
      clear hb
      by_cases hlt : i < tn
      · skip
        have i1 : (i : Int) < (tn : Int) := by omega
        have v_p0 : wr.cell? ⟨W.heap.size, 0, none⟩ = some (.int .i64 kn) := T13.out.1.1.1.2.1
        have v_p1 : wr.cell? ⟨W.heap.size, 1, none⟩ = some (.int .i64 rn) := T13.out.1.1.1.2.2.1
        have v_p2 : wr.cell? ⟨W.heap.size, 2, none⟩ = some (.slice a n c) := T13.out.1.1.1.2.2.2
        go_wp2_with fail
        refine (refimage_ok kn rn a n c l a6 nw c6 (itR kn rn l i wl) wr T13.out.1.1.1.1.1.2 HO.out.rk HRU.out (itR_ring HRU.out HRG.out i)).mono ?_; rintro e w7 ⟨a7, c7, rfl, ho7, hbw7⟩
        clear v_p0 v_p1 v_p2
        have T14 := T13.up hbw7
        clear T13
        have HO7 : Hid (OwI w7 w3.heap.size a7 nw c7 (itR kn rn l (i + 1) wl)) := ho7.base (Nat.le_trans HB4.out.size HB.out.size)
        have HB7 := Lib.hid (bstep HB.out hbw7)
        clear ho7
        go_wp2
        go_roundw
        case rel => exact ⟨i + 1, a7, c7, by omega, by go_num, rfl, HO7.out, HB7.out⟩
        case measure => simp [intOf]; omega
      · skip
        obtain rfl : i = tn := by omega
        have i2 : ¬ (i : Int) < (i : Int) := by omega
        clear hlt hi
        have HOW := Lib.hid (HO.out)
        obtain ⟨⟨q0, q1, q2⟩, f0, f1', f2'⟩ := p_cells (T13.out.1.1.2)
        obtain ⟨w9, e9, ⟨r0, r1, r2⟩, hk9, _, hwc, hbl⟩ := er_setR (show W.heap.size ≤ W.heap.size + 1 by omega) (T13.out.1.1.2) (T13.out.1.1.1.1.1.1.2) fr_none fr_none (wc_none _)
        have HE9 := Lib.hid e9
        have HR9 := Lib.hid (And.intro r0 (And.intro r1 r2))
        have HRET := Lib.hid (And.intro hwc hbl)
        have HK9 := Lib.hid hk9
        clear hwc hbl e9 r0 r1 r2 hk9
        go_wp2
        rw [HE9.out]
        have r0 := HR9.out.1
        have r1 := HR9.out.2.1
        have r2 := HR9.out.2.2
        refine bodyPost_ret (v := .tuple #[.slice a6 nw c6, .agg #[.int .i64 0, .slice none 0 0, .slice none 0 0]]) (by simp [results, Tryd.results27, go_sem, r0, r1, r2]) rfl ?_
        rw [HV.out, HDN.out]
        exact ⟨_, _, _, _, _, _, _, _, _, _, rfl, (owI_oth HOW.out HK9.out (by have := HSZ.out; have := HS3.out; omega)).rk, HRET.out.1, HRET.out.2⟩
set_option maxHeartbeats 16000000 in
theorem reftrace_any (k r t : Int) (a : Option Addr) (n c : Nat) (l : List Int) (aw : Option Addr) (nw cw : Nat) (wl : List Int) (W : World) (hR : RK .i64 W a n l) (hm : n ≤ maxLen) (hW : SlI W aw nw cw wl) :
    Calls Tryd.prog 28 #[ruleV k r a n c, .slice aw nw cw, .int .i64 t] W (ListWC W (trcV k r l wl t) (aftD k r l wl t)) := by
  have T0 := Tk.nil W
  have T1 := T0.add (fun wv => Below W.heap.size W wv) (bnil W)
  clear T0
  have T2 := T1.add (fun wv => RK .i64 wv a n l) (hR)
  clear T1
  have T3 := T2.add (fun wv => SlI wv aw nw cw wl) (hW)
  clear T2
  have hmw := hW.nm
  have h8w := hW.n8
  clear hR hW
  obtain ⟨Wb, hWb⟩ : ∃ Wb, (W.alloc (.cells #[.int .i64 k, .int .i64 r, .slice a n c] 24)).alloc (.cells #[.int .i64 0, .slice none 0 0, .slice none 0 0] 43) = Wb := ⟨_, rfl⟩
  have hbWb : Below W.heap.size W Wb := by rw [← hWb]; exact balloc (balloc (bnil W) _) _
  have T4 := T3.up hbWb
  clear T3
  have T5 := T4.add (fun wv => wv.cell? ⟨W.heap.size, 0, none⟩ = some (.int .i64 k) ∧ wv.cell? ⟨W.heap.size, 1, none⟩ = some (.int .i64 r) ∧ wv.cell? ⟨W.heap.size, 2, none⟩ = some (.slice a n c)) (by rw [← hWb]; exact ⟨al000 (cnw (by simp) rfl), al000 (cnw (by simp) rfl), al000 (cnw (by simp) rfl)⟩)
  clear T4
  have HWb := Lib.hid hWb
  clear hWb hbWb
  have hz : Wb.heap[W.heap.size + 1]? = some (.cells #[.int .i64 0, .slice none 0 0, .slice none 0 0] 43) := by
    rw [← HWb.out]
    have := heap_alloc_new (W.alloc (.cells #[.int .i64 k, .int .i64 r, .slice a n c] 24)) (.cells #[.int .i64 0, .slice none 0 0, .slice none 0 0] 43)
    simpa using this
  have hsz : W.heap.size + 1 + 1 = Wb.heap.size := by rw [← HWb.out]; simp
  have T6 := T5.add (fun wv => wv.heap[W.heap.size + 1]? = some (.cells #[.int .i64 0, .slice none 0 0, .slice none 0 0] 43)) (hz)
  clear T5
  have HSZ := Lib.hid hsz
  clear hz hsz
  go_enter Tryd.func28, Tryd.ntmps28
  have v_p0 : ((W.alloc (.cells #[.int .i64 k, .int .i64 r, .slice a n c] 24)).alloc (.cells #[.int .i64 0, .slice none 0 0, .slice none 0 0] 43)).cell? ⟨W.heap.size, 0, none⟩ = some (.int .i64 k) := by rw [HWb.out]; exact T6.out.1.2.1
  have v_p1 : ((W.alloc (.cells #[.int .i64 k, .int .i64 r, .slice a n c] 24)).alloc (.cells #[.int .i64 0, .slice none 0 0, .slice none 0 0] 43)).cell? ⟨W.heap.size, 1, none⟩ = some (.int .i64 r) := by rw [HWb.out]; exact T6.out.1.2.2.1
  have v_p2 : ((W.alloc (.cells #[.int .i64 k, .int .i64 r, .slice a n c] 24)).alloc (.cells #[.int .i64 0, .slice none 0 0, .slice none 0 0] 43)).cell? ⟨W.heap.size, 2, none⟩ = some (.slice a n c) := by rw [HWb.out]; exact T6.out.1.2.2.2
  go_wp2_with fail
  rw [HWb.out]
  refine (refsteps_any k r t a n c l aw nw cw wl Wb T6.out.1.1.1.2 hm T6.out.1.1.2).mono ?_; rintro e w1 ⟨N, a1, n1, c1, a2, n2, c2, rfl, hw, f1, f2, hN, h0, hbw1⟩
  clear v_p0 v_p1 v_p2
  have T7 := T6.up hbw1
  clear T6
  have hs1 := hbw1.size
  have T8 := T7.add (fun wv => WC wv (.agg #[.int .i64 N, .slice a1 n1 c1, .slice a2 n2 c2]) (aftD k r l wl t)) (hw)
  clear T7
  have HF : Hid (Fr (W.heap.size + 1 + 1) a1 ∧ Fr (W.heap.size + 1 + 1) a2) := ⟨f1.base (by rw [HSZ.out]; exact Nat.le_refl _), f2.base (by rw [HSZ.out]; exact Nat.le_refl _)⟩
  have H0 := Lib.hid h0
  have hN1 := hN
  clear hw f1 f2 hN h0
  obtain ⟨we, hwe⟩ : ∃ we, w1.alloc (.cells #[.int .i64 N, .slice a1 n1 c1, .slice a2 n2 c2] 43) = we := ⟨_, rfl⟩
  have hbwe : Below w1.heap.size w1 we := by rw [← hwe]; exact balloc (bnil w1) _
  have T9 := T8.up hbwe
  clear T8
  have T10 := T9.add (fun wv => wv.cell? ⟨w1.heap.size, 0, none⟩ = some (.int .i64 N) ∧ wv.cell? ⟨w1.heap.size, 1, none⟩ = some (.slice a1 n1 c1) ∧ wv.cell? ⟨w1.heap.size, 2, none⟩ = some (.slice a2 n2 c2)) (by rw [← hwe]; exact ⟨cnw (by simp) rfl, cnw (by simp) rfl, cnw (by simp) rfl⟩)
  clear T9
  have Hwe := Lib.hid hwe
  clear hwe hbwe
  cases hd : aftD k r l wl t with
  | some x =>
    have HV : Hid (trcV k r l wl t = []) := by show _ = _; unfold trcV; rw [hd]
    have hnt : (N != 0) = true := by rw [hN1, hd]; rfl
    have HD := Lib.hid hd
    clear hd hN1
    have v_e0 : (w1.alloc (.cells #[.int .i64 N, .slice a1 n1 c1, .slice a2 n2 c2] 43)).cell? ⟨w1.heap.size, 0, none⟩ = some (.int .i64 N) := by rw [Hwe.out]; exact T10.out.2.1
    have v_e1 : (w1.alloc (.cells #[.int .i64 N, .slice a1 n1 c1, .slice a2 n2 c2] 43)).cell? ⟨w1.heap.size, 1, none⟩ = some (.slice a1 n1 c1) := by rw [Hwe.out]; exact T10.out.2.2.1
    have v_e2 : (w1.alloc (.cells #[.int .i64 N, .slice a1 n1 c1, .slice a2 n2 c2] 43)).cell? ⟨w1.heap.size, 2, none⟩ = some (.slice a2 n2 c2) := by rw [Hwe.out]; exact T10.out.2.2.2
    go_wp2_with fail
    rw [Hwe.out]
    refine (refBadE _ _ _ we true hnt).mono ?_; rintro e w3 ⟨rfl, hbw3⟩
    clear v_e0 v_e1 v_e2
    have T11 := T10.up hbw3
    clear T10
    have v_e0 : w3.cell? ⟨w1.heap.size, 0, none⟩ = some (.int .i64 N) := T11.out.2.1
    have v_e1 : w3.cell? ⟨w1.heap.size, 1, none⟩ = some (.slice a1 n1 c1) := T11.out.2.2.1
    have v_e2 : w3.cell? ⟨w1.heap.size, 2, none⟩ = some (.slice a2 n2 c2) := T11.out.2.2.2
    have hwc3 := T11.out.1.2
    rw [HD.out] at hwc3
    have HWC3 := Lib.hid hwc3
    clear hwc3
    have sz1 := hs1
    have sz0 := HSZ.out
    have ne1 : ¬ w1.heap.size = W.heap.size + 1 := by omega
    have ne2 : ¬ W.heap.size + 1 = w1.heap.size := by omega
    clear sz0 sz1
    obtain ⟨⟨q0, q1, q2⟩, f0, f1', f2'⟩ := p_cells (T11.out.1.1.2)
    obtain ⟨w9, e9, ⟨r0, r1, r2⟩, hk9, _, hwc, hbl⟩ := er_setR (show W.heap.size ≤ W.heap.size + 1 by omega) (T11.out.1.1.2) (T11.out.1.1.1.1.1.1.2) HF.out.1 HF.out.2 (HWC3.out)
    have HE9 := Lib.hid e9
    have HR9 := Lib.hid (And.intro r0 (And.intro r1 r2))
    have HRET := Lib.hid (And.intro hwc hbl)
    have HK9 := Lib.hid hk9
    clear hwc hbl e9 r0 r1 r2 hk9
    go_wp2_with fail
    go_region
    all_goals
      go_wp2
      rw [HE9.out]
      have r0 := HR9.out.1
      have r1 := HR9.out.2.1
      have r2 := HR9.out.2.2
      refine bodyPost_ret (v := .tuple #[.slice none 0 0, .agg #[.int .i64 N, .slice a1 n1 c1, .slice a2 n2 c2]]) (by simp [results, Tryd.results28, go_sem, r0, r1, r2]) rfl ?_
      rw [HV.out, HD.out]
      first | exact ⟨_, _, _, _, _, _, _, _, _, _, rfl, RK.nil, HRET.out.1, HRET.out.2⟩ | exact ⟨_, _, _, _, _, _, _, _, _, _, rfl, RK.nil, HRET.out.1.up (Below.drew (bnil _)), HRET.out.2.drew⟩
  | none =>
    obtain ⟨kn, rn, tn, ek, er, et, hI, hG, ht⟩ := aft_none hd
    have HV : Hid (trcV k r l wl t = trR kn rn l tn wl) := by show _ = _; unfold trcV; rw [hd, ek, er, et]; rfl
    have hnt : (N != 0) = false := by rw [hN1, hd]; rfl
    clear hN1
    have v_e0 : (w1.alloc (.cells #[.int .i64 N, .slice a1 n1 c1, .slice a2 n2 c2] 43)).cell? ⟨w1.heap.size, 0, none⟩ = some (.int .i64 N) := by rw [Hwe.out]; exact T10.out.2.1
    have v_e1 : (w1.alloc (.cells #[.int .i64 N, .slice a1 n1 c1, .slice a2 n2 c2] 43)).cell? ⟨w1.heap.size, 1, none⟩ = some (.slice a1 n1 c1) := by rw [Hwe.out]; exact T10.out.2.2.1
    have v_e2 : (w1.alloc (.cells #[.int .i64 N, .slice a1 n1 c1, .slice a2 n2 c2] 43)).cell? ⟨w1.heap.size, 2, none⟩ = some (.slice a2 n2 c2) := by rw [Hwe.out]; exact T10.out.2.2.2
    go_wp2_with fail
    rw [Hwe.out]
    refine (refBadE _ _ _ we false hnt).mono ?_; rintro e w3 ⟨rfl, hbw3⟩
    clear v_e0 v_e1 v_e2
    have T11 := T10.up hbw3
    clear T10
    have HRU := Lib.hid hI
    have HRG := Lib.hid hG
    have HDN := Lib.hid hd
    clear hd hI hG
    subst ek er et
    have HS3 : Hid (Wb.heap.size ≤ w3.heap.size) := Nat.le_trans (Nat.le_trans hs1 (by rw [← Hwe.out]; simp)) hbw3.size
    have hnp : 0 < nw := by rw [(T11.out.1.1.1.1.2).rk.len]; exact HRG.out.l1
    have ht6 : tn ≤ 262144 := Nat.le_trans (Nat.le_mul_of_pos_right tn HRG.out.l1) ht
    have HLW := Lib.hid (T11.out.1.1.1.1.2).rk.len
    have TW3 := T11
    go_wp2_with fail
    refine (copy_any aw nw cw wl w3 (T11.out.1.1.1.1.2).rk (T11.out.1.1.1.1.2).n8 (T11.out.1.1.1.1.2).nn).mono ?_; rintro e w4 ⟨a5, c5, rfl, ho5, hbw4⟩
    have T12 := T11.up hbw4
    clear T11
    have HO5 : Hid (OwI w4 w3.heap.size a5 nw c5 wl) := ⟨ho5⟩
    have HB4 := Lib.hid hbw4
    clear ho5
    clear hnt
    go_wp2_with fail
    go_loopw [9, 10, 11] (fun ox sx ix wr => ∃ (i : Nat) (a6 : Option Addr) (c6 : Nat) (ao : Option Addr) (co : Nat), i ≤ tn ∧ ix = .int .i64 i ∧ sx = .slice a6 nw c6 ∧ ox = .slice ao i co ∧ (OwI wr w3.heap.size a6 nw c6 (itR kn rn l i wl) ∧ OwI wr w3.heap.size ao i co (trR kn rn l i wl) ∧ Ap (.slice ao i co) (.slice a6 nw c6)) ∧ Below w3.heap.size w3 wr) (fun _ _ ix _ => tn - (intOf ix).toNat)
    case atStart => exact ⟨0, a5, c5, none, 0, by omega, rfl, rfl, rfl, ⟨HO5.out, OwI.nil _ _, fun g hg => by cases hg⟩, HB4.out⟩
    case round =>
      obtain ⟨i, a6, c6, ao, co, hi, rfl, rfl, rfl, ⟨ho, hoo, hap⟩, hb⟩ := hrel
      have HO := Lib.hid ho
      have HOO := Lib.hid hoo
      have HAP := Lib.hid hap
      have HB := Lib.hid hb
      clear ho hoo hap
      have TR := TW3.up HB.out
      clear hb
      have T62 := TR
      clear TR
      by_cases hlt : i < tn
      · skip
        have i1 : (i : Int) < (tn : Int) := by omega
        obtain ⟨b6, o6, e6, _, hc6⟩ := HO.out.rk.addr hnp
        subst e6
        have z6 := hc6 0 hnp
        rw [Nat.add_zero] at z6
        generalize hzz : (itR kn rn l i wl).getD 0 0 = zz at z6
        have HZ := Lib.hid hzz
        have HS3' : Hid (w3.heap.size ≤ wr.heap.size) := HB.out.size
        clear hc6 hzz
        go_wp2_with ((at_builtin; go_loud (refine apl rfl _ _ _ rfl w3.heap.size et_int _ i _ HOO.out.own rfl 1 _ _ rfl rfl rfl rfl (by unfold maxLen; omega) (by omega) HS3'.out ?_; intro a7 c7 w7 h7; have q0 := h7.own; rw [← HZ.out] at q0; have HO7 : Hid (OwI w7 w3.heap.size a7 (i + 1) c7 (trR kn rn l (i + 1) wl)) := (by rw [trR_succ]; exact ⟨by rw [List.map_append]; exact q0⟩); have HX7 : Hid (OwI w7 w3.heap.size (some ⟨b6, o6, none⟩) nw c6 (itR kn rn l i wl)) := ⟨own_of_heap HO.out.own (fun b hb => h7.row.block b (HO.out.own.lt b hb).2 (fun q => HAP.out b q.symm hb))⟩; have HB7 : Hid (Below w3.heap.size w3 w7) := HB.out.trans h7.below; have HAT := Lib.hid h7.at_; have hbT : Below w3.heap.size w3 w7 := HB7.out; have T99 := TW3.up hbT; have v_p0 := T99.out.1.1.1.2.1; have v_p1 := T99.out.1.1.1.2.2.1; have v_p2 := T99.out.1.1.1.2.2.2; clear T99 hbT q0 z6)))
        refine (refimage_ok kn rn a n c l (some ⟨b6, o6, none⟩) nw c6 (itR kn rn l i wl) w7 ((TW3.up HB7.out).out.1.1.1.1.1.2) HX7.out.rk HRU.out (itR_ring HRU.out HRG.out i)).mono ?_; rintro e w8 ⟨a8, c8, rfl, ho8, hb8⟩
        clear v_p0 v_p1 v_p2
        have HO8 : Hid (OwI w8 w3.heap.size a8 nw c8 (itR kn rn l (i + 1) wl)) := ho8.base HB7.out.size
        have HO9 := Lib.hid (HO7.out.up hb8)
        have HAP8 : Hid (Ap (.slice a7 (i + 1) c7) (.slice a8 nw c8)) := ap_later HO7.out.own ho8.own (Nat.le_refl _)
        have HB8 : Hid (Below w3.heap.size w3 w8) := HB7.out.trans (hb8.mono HB7.out.size)
        clear ho8 hb8 h7
        go_wp2
        go_roundw
        case rel => exact ⟨i + 1, a8, c8, a7, c7, by omega, by go_num, rfl, rfl, ⟨HO8.out, HO9.out, HAP8.out⟩, HB8.out⟩
        case measure => simp [intOf]; omega
      · skip
        obtain rfl : i = tn := by omega
        have i2 : ¬ (i : Int) < (i : Int) := by omega
        clear hlt hi
        have HOW := Lib.hid (HOO.out)
        obtain ⟨⟨q0, q1, q2⟩, f0, f1', f2'⟩ := p_cells (T62.out.1.1.2)
        obtain ⟨w9, e9, ⟨r0, r1, r2⟩, hk9, _, hwc, hbl⟩ := er_setR (show W.heap.size ≤ W.heap.size + 1 by omega) (T62.out.1.1.2) (T62.out.1.1.1.1.1.1.2) fr_none fr_none (wc_none _)
        have HE9 := Lib.hid e9
        have HR9 := Lib.hid (And.intro r0 (And.intro r1 r2))
        have HRET := Lib.hid (And.intro hwc hbl)
        have HK9 := Lib.hid hk9
        clear hwc hbl e9 r0 r1 r2 hk9
        go_wp2
        rw [HE9.out]
        have r0 := HR9.out.1
        have r1 := HR9.out.2.1
        have r2 := HR9.out.2.2
        refine bodyPost_ret (v := .tuple #[.slice ao i co, .agg #[.int .i64 0, .slice none 0 0, .slice none 0 0]]) (by simp [results, Tryd.results28, go_sem, r0, r1, r2]) rfl ?_
        rw [HV.out, HDN.out]
        exact ⟨_, _, _, _, _, _, _, _, _, _, rfl, (owI_oth HOW.out HK9.out (by have := HSZ.out; have := HS3.out; omega)).rk, HRET.out.1, HRET.out.2⟩
end Go.Proofs.YtjgblanpaanglaaDoor
